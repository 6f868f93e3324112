/- planimeterref05.Fits, Top, Sign, Same, To by their contracts. Conditions: the numbers are short. -/
import Derived.Test.YtecgimdgmilcbaaDoorRefDy1
import Derived.Test.YtecgimdgmilcbaaDoorRefA
namespace Go.Proofs.YtecgimdgmilcbaaDoor
set_option maxRecDepth 100000
open Go.RowKit Go.ChangeShapes Go.WideShapes

theorem RdD.slice {w : World} {v : Value} {l : List Nat} (h : RdD w v l) : ∃ a, ∃ m k : Nat, v = .slice a m k := by
  obtain ⟨a, k, h2, -⟩ := h.view
  exact ⟨a, _, k, h2⟩

theorem RFits_n {w : World} {a : Option Addr} {n k : Nat} {neg : Bool} {E : Int} : Calls Tryd.prog 55 #[.agg #[.bool neg, .slice a n k, .int .i64 E]] w (fun e w' => e = .returned (.bool (fitsE E)) ∧ Below w.heap.size w w') := by
  unfold fitsE
  by_cases c1 : -1073741824 ≤ E
  · have d1 : decide (-1073741824 ≤ E) = true := decide_eq_true c1
    go_enter Tryd.func55, Tryd.ntmps55
    go_wp2
    all_goals
      go_ret
      exact ⟨by simp [d1], below_alloc _ _⟩
  · have d1 : decide (-1073741824 ≤ E) = false := decide_eq_false c1
    go_enter Tryd.func55, Tryd.ntmps55
    go_wp2
    all_goals
      go_ret
      exact ⟨by simp, below_alloc _ _⟩

theorem RSame_n {w : World} {v u : Value} {neg neg2 : Bool} {M M2 : Nat} {E E2 : Int} {r : Bool} (h : RdN w v (digs BB M)) (k : RdN w u (digs BB M2)) (hr : decide (neg = neg2 ∧ E = E2 ∧ M = M2) = r) :
    Calls Tryd.prog 29 #[.agg #[.bool neg, v, .int .i64 E], .agg #[.bool neg2, u, .int .i64 E2]] w (fun e w' => e = .returned (.bool r) ∧ Below w.heap.size w w') := by
  obtain ⟨av, kv, rfl, -⟩ := h.view
  obtain ⟨au, ku, rfl, -⟩ := k.view
  have hS := Lib.hid (fun w v u (h : RdN w v (digs BB M)) (k : RdN w u (digs BB M2)) => same_any h k)
  by_cases c1 : neg = neg2
  · subst c1
    by_cases c2 : E = E2
    · subst c2
      have hm : decide (digs BB M = digs BB M2) = r := by
        rw [← hr]
        refine decide_eq_decide.2 ⟨fun h => ⟨rfl, rfl, digs_inj BB_two h⟩, fun h => by rw [h.2.2]⟩
      rw [hm] at hS
      clear hr hm
      go_enter Tryd.func29, Tryd.ntmps29
      go_wp2_with
      (first
        | (go_at_call 56; (with_reducible refine (hS.out _ _ _ (h.below below_2) (k.below below_2)).mono ?_); rintro e w1 ⟨rfl, hb1⟩; have B1 := below_2.trans (hb1.mono below_2.size); have a1 := ((h.below below_2)).below hb1; have b1 := ((k.below below_2)).below hb1; have P1 := ((blk_a1)).below hb1; have Q1 := ((blk_a2)).below hb1; obtain ⟨cP0_1, cP1_1, cP2_1, fP0_1, fP1_1, fP2_1, sP_1⟩ := P1.open3; obtain ⟨cQ0_1, cQ1_1, cQ2_1, fQ0_1, fQ1_1, fQ2_1, sQ_1⟩ := Q1.open3)
        | fail)
      all_goals
        go_ret
        exact ⟨rfl, by assumption⟩
    · have hrf : r = false := by rw [← hr]; exact decide_eq_false (fun h => c2 h.2.1)
      have hb2 : (E == E2) = false := beq_false_of_ne c2
      subst hrf
      clear hr hS
      go_enter Tryd.func29, Tryd.ntmps29
      go_wp2
      all_goals
        go_ret
        exact ⟨rfl, below_2⟩
  · have hrf : r = false := by rw [← hr]; exact decide_eq_false (fun h => c1 h.1)
    subst hrf
    clear hr hS
    go_enter Tryd.func29, Tryd.ntmps29
    go_wp2
    all_goals
      go_ret
      exact ⟨rfl, below_2⟩
end Go.Proofs.YtecgimdgmilcbaaDoor
