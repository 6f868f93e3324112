/- The chapter's example holds: 'alive' tells true and leaves what was there. Conditions: none. -/
import Derived.Test.YtdcjpgpeedboaaaMailint
namespace Go.Proofs.Ytdcjpgpeedboaaa.MAlive
open Go.Conc Go.RowKit Go.Proofs.Ytdcjpgpeedboaaa

theorem alive_any (w : World) : Calls Try.prog 15 #[] w fun e w' => e = .returned (.bool true) ∧ Below w.heap.size w w' := by
  go_enter Try.func15, Try.ntmps15
  go_wp2_with fail
  refine (Mint.new_ok 2 2 w (by omega) (by omega)).mono ?_
  rintro e w1 ⟨b, cu, cp, rfl, h1, hb1, hs⟩
  go_wp2_with fail
  refine (Mint.put_plain_room (.int .i64 1) h1 (by simp) (by omega)).mono ?_
  rintro e w2 ⟨rfl, h2, hf2⟩
  go_wp2_with fail
  refine (Mint.put_urgent_room (.int .i64 2) h2 (by simp) (by omega)).mono ?_
  rintro e w3 ⟨rfl, h3, hf3⟩
  go_wp2_with fail
  refine (Mint.take_urgent (.int .i64 2) h3 (by omega)).mono ?_
  rintro e w4 ⟨rfl, h4, hf4⟩
  go_wp2_with fail
  refine (Mint.take_plain (.int .i64 1) h4 (by omega)).mono ?_
  rintro e w5 ⟨rfl, h5, hf5⟩
  go_wp2_with fail
  refine (Mint.new_bad (-1) 2 w5 (by omega)).mono ?_
  rintro e w6 ⟨rfl, rfl⟩
  go_wp2_with fail
  go_ret
  have hf := ((hf2.trans hf3).trans hf4).trans hf5
  exact ⟨rfl, hb1.trans (hf.below hb1.size (fun k hk hS => by have := hs k hS; omega))⟩
end Go.Proofs.Ytdcjpgpeedboaaa.MAlive
