/- nat.Bits by its contract. Conditions: the list is short, its limbs are limbs. -/
import Derived.Test.YtnoelffaccekjaaDoorNat3
import Derived.Test.YtnoelffaccekjaaDoorShelf
namespace Go.Proofs.YtnoelffaccekjaaDoor
open Go.RowKit

set_option maxHeartbeats 400000 in
theorem bits_any {w : World} {v : Value} {l : List Nat} (h : RdN w v l) (hd : Dig BB l) (hl : l.length ≤ 100000) :
    Calls Tryd.prog 21 #[v] w (fun e w' => e = .returned (.int .i64 ((if strip l = [] then 0 else 64 * ((strip l).length - 1) + Lib.bitLen ((strip l).getD ((strip l).length - 1) 0) : Nat) : Int)) ∧ Below w.heap.size w w') := by
  have HB := bare_any h hl
  have hs : Dig BB (strip l) := by rw [strip_eq BB_two hd]; exact dig_digs BB_two _
  have hsl := strip_length_le l
  clear h hd
  generalize strip l = s at HB hs hsl ⊢
  by_cases hs0 : s = []
  · subst hs0
    go_enter Tryd.func21, Tryd.ntmps21
    go_wp2_with (go_at_call 23; refine HB.mono ?_; rintro e w1 ⟨v1, rfl, hr, hb⟩; obtain ⟨a, c, rfl, h2, h3, h4, hc⟩ := hr.view; clear hr hc)
    go_ret
    exact ⟨by simp, hb⟩
  · have hp : 0 < s.length := List.length_pos_iff.2 hs0
    have d0 : ((s.length : Int) == 0) = false := by simp; omega
    have hx := hs.getD BB_pos (s.length - 1)
    rw [if_neg hs0]
    go_enter Tryd.func21, Tryd.ntmps21
    go_wp2_with (first
      | (go_at_call 23; refine HB.mono ?_; rintro e w1 ⟨v1, rfl, hr, hb⟩; obtain ⟨a, c, rfl, h2, h3, h4, hc⟩ := hr.view; obtain ⟨g, off, rfl, hg, hcell⟩ := hc (s.length - 1) (Nat.sub_lt hp Nat.zero_lt_one); clear hr hc)
      | (go_at_call 40; refine (Tryd.bits_Len64 _ _ ?_ ?_).mono ?_; (focus omega); (focus (unfold BB at hx; simp at hx ⊢; omega)); rintro e w2 ⟨rfl, rfl⟩))
    go_ret
    have hb6 : Lib.bitLen (s[s.length - 1]?.getD 0) ≤ 64 := Lib.bitLen_le _ 64 (by omega) (by rw [← List.getD_eq_getElem?_getD]; unfold BB at hx; omega)
    refine ⟨?_, hb⟩
    rw [List.getD_eq_getElem?_getD]
    show Ending.returned (Value.int IntKind.i64 (wrap64 (64 * ((s.length : Int) - 1) + ((Lib.bitLen (s[s.length - 1]?.getD 0) : Nat) : Int)))) = _
    generalize Lib.bitLen (s[s.length - 1]?.getD 0) = q at hb6
    have W : wrap64 (64 * ((s.length : Int) - 1) + (q : Int)) = 64 * ((s.length : Int) - 1) + (q : Int) := by unfold wrap64; omega
    rw [W, show (64 * ((s.length : Int) - 1) + (q : Int)) = ((64 * (s.length - 1) + q : Nat) : Int) by omega]
end Go.Proofs.YtnoelffaccekjaaDoor
