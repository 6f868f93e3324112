/- dyad.Bare, Make, Of, Top, Sign by their contracts. Conditions: the number is short; math/bits' table stands in its variable. -/
import Derived.Test.YtecgimdgmilcbaaDoorDy1
namespace Go.Proofs.YtecgimdgmilcbaaDoor
set_option maxRecDepth 100000
open Go.RowKit Go.ChangeShapes Go.WideShapes

theorem Blk.other3 {w : World} {b b' : Nat} {c : Array Value} (h : Blk w b c) (hne : b ≠ b') (x y z : Value) : Blk (((w.setCell ⟨b', 0, none⟩ x).setCell ⟨b', 1, none⟩ y).setCell ⟨b', 2, none⟩ z) b c := by
  obtain ⟨h1, T, h2⟩ := h
  exact ⟨by simpa [World.setCell] using h1, T, heap_setO (heap_setO (heap_setO h2 x hne) y hne) z hne⟩
theorem below_set3 {w w' : World} (h : Below w.heap.size w w') {b : Nat} (hb : w.heap.size ≤ b) (x y z : Value) : Below w.heap.size w (((w'.setCell ⟨b, 0, none⟩ x).setCell ⟨b, 1, none⟩ y).setCell ⟨b, 2, none⟩ z) :=
  below_set (below_set (below_set h hb x) hb y) hb z

/-- dyad.bare, its argument written out. -/
theorem bare_d {w : World} {v : Value} {neg n' : Bool} {M M' : Nat} {E E' : Int} (h : Num w v M) (hT : Tab w) (h1 : -9223372036854775808 ≤ E) (h2 : E ≤ 9223372036854775807) (e : bareD ⟨neg, M, E⟩ = ⟨n', M', E'⟩) :
    Calls Tryd.prog 75 #[.agg #[.bool neg, v, .int .i64 E]] w (fun e w' => ∃ v, e = .returned v ∧ Db w' v ⟨n', M', E'⟩ ∧ Below w.heap.size w w') := by
  rw [← e]
  exact dbare_n ⟨v, rfl, h, h1, h2⟩ hT

set_option maxHeartbeats 800000 in
theorem Bare_ok {w : World} {v : Value} {neg n' : Bool} {M M' : Nat} {E E' : Int} (h : Num w v M) (hT : Tab w) (h1 : -9223372036854775808 ≤ E) (h2 : E ≤ 9223372036854775807) (e : bareD ⟨neg, M, E⟩ = ⟨n', M', E'⟩) (hf : fitsE E' = true) :
    Calls Tryd.prog 73 #[.agg #[.bool neg, v, .int .i64 E]] w (fun e w' => ∃ v, e = .returned (.tuple #[.agg #[.bool n', v, .int .i64 E'], .int .i64 0]) ∧ RdN w' v (digs BB M') ∧ Below w.heap.size w w') := by
  obtain ⟨a, n, k, rfl⟩ := h.slice
  have e := Lib.hid e
  have d1 : decide (E' < -1073741824) = false := by unfold fitsE at hf; simp at hf; exact decide_eq_false (by omega)
  have d2 : decide (1073741824 < E') = false := by unfold fitsE at hf; simp at hf; exact decide_eq_false (by omega)
  clear hf
  go_enter Tryd.func73, Tryd.ntmps73
  go_wp2_with
  (first
    | (go_at_call 75; (with_reducible refine (bare_d (h.below below_2) (hT.below below_2) h1 h2 e.out).mono ?_); rintro e w1 ⟨vd1, rfl, d1, hb1⟩; have B1 := below_2.trans (hb1.mono below_2.size); have m1 := ((h.below below_2)).below hb1; have T1 := ((hT.below below_2)).below hb1; have P1 := ((blk_a1)).below hb1; have R1 := ((blk_a2)).below hb1; obtain ⟨cP0_1, cP1_1, cP2_1, fP0_1, fP1_1, fP2_1, sP_1⟩ := P1.open3; obtain ⟨cR0_1, cR1_1, cR2_1, fR0_1, fR1_1, fR2_1, sR_1⟩ := R1.open3; obtain ⟨ud1, rfl, d1⟩ := d1; obtain ⟨ad1, kd1, rfl, -⟩ := d1.view)
    | fail)
  obtain ⟨q0, q1, q2, -⟩ := ((R1.other3 (b' := w.heap.size) (by omega) (.bool n') (.slice ad1 (digs BB M').length kd1) (.int .i64 E')).set3 (.bool n') (.slice ad1 (digs BB M').length kd1) (.int .i64 E')).open3
  refine bodyPost_ret (v := .tuple #[.agg #[.bool n', .slice ad1 (digs BB M').length kd1, .int .i64 E'], .int .i64 0]) ?_ rfl ?_
  · simp [results, Tryd.results73, go_sem, q0, q1, q2]
  · exact ⟨_, rfl, (d1.set3 P1 dcells _ _ _).set3 (R1.other3 (by omega) _ _ _) dcells _ _ _, below_set3 (below_set3 B1 (by omega) _ _ _) (by omega) _ _ _⟩

set_option maxHeartbeats 800000 in
theorem Bare_long {w : World} {v : Value} {neg n' : Bool} {M M' : Nat} {E E' : Int} (h : Num w v M) (hT : Tab w) (h1 : -9223372036854775808 ≤ E) (h2 : E ≤ 9223372036854775807) (e : bareD ⟨neg, M, E⟩ = ⟨n', M', E'⟩) (hf : fitsE E' = false) :
    Calls Tryd.prog 73 #[.agg #[.bool neg, v, .int .i64 E]] w (fun e w' => e = .returned (.tuple #[.agg #[.bool false, .slice none 0 0, .int .i64 0], .int .i64 2]) ∧ Below w.heap.size w w') := by
  obtain ⟨a, n, k, rfl⟩ := h.slice
  have e := Lib.hid e
  have d3 : (decide (E' < -1073741824) || decide (1073741824 < E')) = true := by
    unfold fitsE at hf; simp at hf ⊢; omega
  by_cases d1 : E' < -1073741824
  all_goals
    clear d3
    have d2 : 1073741824 < E' ∨ E' < -1073741824 := by unfold fitsE at hf; simp at hf; omega
    clear hf
    go_enter Tryd.func73, Tryd.ntmps73
    go_wp2_with
    (first
      | (go_at_call 75; (with_reducible refine (bare_d (h.below below_2) (hT.below below_2) h1 h2 e.out).mono ?_); rintro e w1 ⟨vd1, rfl, d1, hb1⟩; have B1 := below_2.trans (hb1.mono below_2.size); have m1 := ((h.below below_2)).below hb1; have T1 := ((hT.below below_2)).below hb1; have P1 := ((blk_a1)).below hb1; have R1 := ((blk_a2)).below hb1; obtain ⟨cP0_1, cP1_1, cP2_1, fP0_1, fP1_1, fP2_1, sP_1⟩ := P1.open3; obtain ⟨cR0_1, cR1_1, cR2_1, fR0_1, fR1_1, fR2_1, sR_1⟩ := R1.open3; obtain ⟨ud1, rfl, d1⟩ := d1; obtain ⟨ad1, kd1, rfl, -⟩ := d1.view)
      | fail)
    obtain ⟨q0, q1, q2, -⟩ := ((R1.other3 (b' := w.heap.size) (by omega) (.bool n') (.slice ad1 (digs BB M').length kd1) (.int .i64 E')).set3 (.bool false) (.slice none 0 0) (.int .i64 0)).open3
    refine bodyPost_ret (v := .tuple #[.agg #[.bool false, .slice none 0 0, .int .i64 0], .int .i64 2]) ?_ rfl ?_
    · simp [results, Tryd.results73, go_sem, q0, q1, q2]
    · exact ⟨rfl, below_set3 (below_set3 B1 (by omega) _ _ _) (by omega) _ _ _⟩

theorem Sign_n {w : World} {v : Value} {neg : Bool} {M : Nat} {E s : Int} (h : Num w v M) (e : signD ⟨neg, M, E⟩ = s) :
    Calls Tryd.prog 57 #[.agg #[.bool neg, v, .int .i64 E]] w (fun e w' => e = .returned (.int .i64 s) ∧ Below w.heap.size w w') := by
  obtain ⟨a, n, k, rfl⟩ := h.slice
  have sM := h.bound
  obtain ⟨b, hb⟩ : ∃ b, bitN M = b := ⟨_, rfl⟩
  have eb := Lib.hid hb
  unfold signD at e
  simp only at e
  by_cases h0 : M = 0
  · obtain rfl : b = 0 := by rw [← hb, h0, bitN_zero]
    rw [if_pos h0] at e
    subst e
    clear hb
    go_enter Tryd.func57, Tryd.ntmps57
    go_wp2_with
    (first
      | (go_at_call 33; (with_reducible refine (bits_n (h.below (below_alloc _ _)) eb.out).mono ?_); rintro e w1 ⟨rfl, hb1⟩; have B1 := (below_alloc _ _).trans (hb1.mono (below_alloc _ _).size); have m1 := ((h.below (below_alloc _ _))).below hb1; have P1 := ((blk_new)).below hb1; obtain ⟨cP0_1, cP1_1, cP2_1, fP0_1, fP1_1, fP2_1, sP_1⟩ := P1.open3)
      | fail)
    all_goals
      go_ret
      exact ⟨rfl, by assumption⟩
  · rw [if_neg h0] at e
    have hbi : (b : Int) ≠ 0 := by have := bitN_pos h0; omega
    have hbq : ((b : Int) == 0) = false := beq_false_of_ne hbi
    clear hb
    cases neg
    all_goals
      simp only [Bool.false_eq_true, ite_true, ite_false] at e
      subst e
      go_enter Tryd.func57, Tryd.ntmps57
      go_wp2_with
      (first
        | (go_at_call 33; (with_reducible refine (bits_n (h.below (below_alloc _ _)) eb.out).mono ?_); rintro e w1 ⟨rfl, hb1⟩; have B1 := (below_alloc _ _).trans (hb1.mono (below_alloc _ _).size); have m1 := ((h.below (below_alloc _ _))).below hb1; have P1 := ((blk_new)).below hb1; obtain ⟨cP0_1, cP1_1, cP2_1, fP0_1, fP1_1, fP2_1, sP_1⟩ := P1.open3)
        | fail)
      all_goals
        go_ret
        exact ⟨rfl, by assumption⟩

end Go.Proofs.YtecgimdgmilcbaaDoor
