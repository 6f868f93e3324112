/- cmp.Compare[uint64] and slices.Backward over uint64 by their contracts. Conditions: the list is short. -/
import Derived.RangeFuncNested
import Derived.RangeFuncBound
import Derived.RangeFuncCalls
import Derived.RangeFuncLeaves
import Derived.Shelf.Abstract
import Derived.Shelf.RegionOpen
import Derived.WalkKit
import Derived.OwnWalkIn
import Derived.TacticsInMore
import Derived.LoopNIn
import Derived.LoopIn
import Derived.Test.YtnoelffaccekjaaDoorNat7
import Derived.Test.YtnoelffaccekjaaDoorCmpLaw
namespace Go.Proofs.YtnoelffaccekjaaDoor
open Go.RowKit Go.Shelf
attribute [local go_sem] Oper.semAt_some

theorem isnan_u {w : World} (x : Nat) : Calls Tryd.prog 49 #[L64 x] w fun e w' => e = .returned (.bool false) ∧ w' = w := by
  go_enter Tryd.func49, Tryd.ntmps49
  go_wp2
  go_ret
  exact ⟨by simp, rfl⟩

theorem compare_u {w : World} (x y : Nat) : Calls Tryd.prog 37 #[L64 x, L64 y] w fun e w' => e = .returned (.int .i64 (cmpN x y)) ∧ w' = w := by
  rcases Nat.lt_trichotomy x y with h | h | h
  · rw [cmpN_lt h]
    go_enter Tryd.func37, Tryd.ntmps37
    go_wp2_with (go_at_call 49; (with_reducible refine (isnan_u _).mono ?_); rintro e w1 ⟨rfl, rfl⟩)
    go_ret
    exact ⟨rfl, rfl⟩
  · subst h
    rw [cmpN_eq]
    go_enter Tryd.func37, Tryd.ntmps37
    go_wp2_with (go_at_call 49; (with_reducible refine (isnan_u _).mono ?_); rintro e w1 ⟨rfl, rfl⟩)
    go_ret
    exact ⟨rfl, rfl⟩
  · rw [cmpN_gt h]
    go_enter Tryd.func37, Tryd.ntmps37
    go_wp2_with (go_at_call 49; (with_reducible refine (isnan_u _).mono ?_); rintro e w1 ⟨rfl, rfl⟩)
    go_ret
    exact ⟨rfl, rfl⟩

/-- slices.Backward: the slice value is boxed; the function value holds the box. -/
theorem back_in (F : Fence) (n : Nat) (h5 : F.fn 36) (hro : F.round = none) (a : Option Addr) (len cap : Nat) (w : World) :
    CallsIn F n Tryd.prog 36 #[.slice a len cap] w fun e w' => e = .returned (.func (.func 48) #[] #[.pointer (some ⟨w.heap.size, 0, none⟩)]) ∧ w' = w.alloc (.cells #[.slice a len cap] 22) := by
  refine callsIn_of_wp Tryd.func36 rfl h5 ?_ hro
  simp only [Tryd.ntmps36, List.size_toArray, List.length_cons, List.length_nil, Nat.reduceAdd, Nat.reduceSub, Array.replicate_succ, Array.replicate_zero, List.push_toArray, List.append_toArray, List.nil_append, List.cons_append]
  gi_wp2
  go_ret
  exact ⟨rfl, rfl⟩

/-- A place of a list of so many. -/
abbrev Pl (n : Nat) := { j : Nat // j < n }
/-- What a round is handed: the place and what stands there. -/
abbrev encB (s : List Nat) (x : Pl s.length) : Array Value := #[.int .i64 (x.1 : Int), .int .u64 ((s[x.1]?.getD 0 : Nat) : Int)]

set_option maxRecDepth 100000 in
set_option maxHeartbeats 2000000 in
theorem back_stops (F : Fence) (n : Nat) (h8 : F.fn 48) (hro : F.round = none) (hn : 1 ≤ n) (Bs : Nat) (v : Value) (s : List Nat) (hs : s.length ≤ 100000) (w : World)
    (hBs : Bs < w.heap.size) (hc : w.cell? ⟨Bs, 0, none⟩ = some v) (hR : RdN w v s) :
    SeqStopsK F n Tryd.prog 48 #[.pointer (some ⟨Bs, 0, none⟩)] (encB s) (Below w.heap.size) (fun ys => ys.map Subtype.val = came s.length s.length)
      (fun pre => ∃ k, k ≤ s.length ∧ pre.map Subtype.val = came s.length k) s.length w := fun l J Jx W hW _ _ hY h0 => by
  have hcW := (hW.cell (p := ⟨Bs, 0, none⟩) hBs).trans hc
  obtain ⟨a, c, rfl, h2, h3, h4, hcell⟩ := hR.view
  have HV := Lib.hid hcell
  clear hcell hR hc
  refine callsIn_of_wp Tryd.func48 rfl h8 ?_ hro
  simp only [Tryd.ntmps48, List.size_toArray, List.length_cons, List.length_nil, Nat.reduceAdd, Nat.reduceSub, Array.replicate_succ, Array.replicate_zero, List.push_toArray, List.append_toArray, List.nil_append, List.cons_append]
  gi_wp2
  gi_loopw [3] (fun i wr => ∃ (k : Nat) (q : Int) (pre : List (Pl s.length)), k ≤ s.length ∧ i = .int .i64 q ∧ q + 1 + k = s.length ∧ pre.map Subtype.val = came s.length k ∧ J pre wr ∧ Below w.heap.size W wr)
    (fun i _ => (intOf i + 1).toNat)
  case atStart => exact ⟨0, _, [], Nat.zero_le _, rfl, by omega, rfl, h0, Below.refl _ _⟩
  case round =>
    obtain ⟨k, q, pre, hk, rfl, hq, hpre, hJs, hnx⟩ := hrel
    have hcw := (hnx.cell (p := ⟨Bs, 0, none⟩) hBs).trans hcW
    by_cases hlt : k < s.length
    · obtain ⟨j, hj⟩ : ∃ j, s.length - 1 - k = j := ⟨_, rfl⟩
      have hjs : j < s.length := by omega
      obtain rfl : q = (j : Int) := by omega
      have hlen : pre.length < s.length := by
        have := congrArg List.length hpre
        rw [List.length_map, came_len] at this; omega
      obtain ⟨fn, tmps, assign, body, hy, hRd⟩ := hY pre ⟨j, hjs⟩ wr hJs hlen
      dsimp only [encB] at hy
      obtain ⟨g, off, rfl, hg, hcell⟩ := HV.out j hjs
      have hcx := (hnx.cell (p := ⟨g, off + j, none⟩) hg).trans ((hW.cell (p := ⟨g, off + j, none⟩) hg).trans hcell)
      clear hcell
      generalize s[j]?.getD 0 = x at hcx hy
      gi_wp2
      refine hRd.mono ?_
      rintro e W3 (⟨rfl, hJ3, hk3⟩ | ⟨rfl, hJx3⟩)
      · gi_wp2
        go_roundw
        case rel => exact ⟨k + 1, (j : Int) - 1, pre ++ [⟨j, hjs⟩], by omega, by go_num, by omega, by rw [List.map_append, hpre, came_succ, hj]; rfl, hJ3, hnx.trans hk3⟩
        case measure => simp [intOf]
      · gi_wp2
        refine bodyPost_ret (results_none rfl _ _ _) rfl ?_
        exact ⟨⟨_, rfl⟩, .inr ⟨_, ⟨k + 1, by omega, by rw [List.map_append, hpre, came_succ, hj]; rfl⟩, hJx3⟩⟩
    · obtain rfl : k = s.length := by omega
      obtain rfl : q = -1 := by omega
      gi_wp2
      go_end0
      exact ⟨⟨_, rfl⟩, .inl ⟨_, hpre, hJs⟩⟩
end Go.Proofs.YtnoelffaccekjaaDoor
