/- dyad.Mul by its contract (of what it tells, exactly). Conditions: the numbers are short; math/bits' table stands in its variable. -/
import Derived.Test.YtabdmnjdmnnejaaDoorDyC
import Derived.Test.YtabdmnjdmnnejaaDoorDyA
namespace Go.Proofs.YtabdmnjdmnnejaaDoor
set_option maxRecDepth 100000
open Go.RowKit Go.ChangeShapes Go.WideShapes
set_option linter.unusedVariables false

set_option maxHeartbeats 2000000 in
theorem Mul_d {w : World} {u u2 : Value} {n1 n2 p1 p2 pn r : Bool} {m1 m2 q1 q2 pr m : Nat} {e1 e2 x1 x2 f x : Int} (h : Num w u m1) (h' : Num w u2 m2) (hT : Tab w) (g3 : -9223372036854775808 ≤ e1 ∧ e1 ≤ 9223372036854775807) (g5 : -9223372036854775808 ≤ e2 ∧ e2 ≤ 9223372036854775807)
    (ea : bareD ⟨n1, m1, e1⟩ = ⟨p1, q1, x1⟩) (A4 : fitsE x1 = true) (eb : bareD ⟨n2, m2, e2⟩ = ⟨p2, q2, x2⟩) (B4 : fitsE x2 = true) (g1 : bitN q1 ≤ 30000) (g2 : bitN q2 ≤ 30000) (hpr : q1 * q2 = pr) (hf : x1 + x2 = f) (hpn : (p1 != p2) = pn) (ec : bareD ⟨pn, pr, f⟩ = ⟨r, m, x⟩) (C4 : fitsE x = true) :
    Calls Tryd.prog 28 #[.agg #[.bool n1, u, .int .i64 e1], .agg #[.bool n2, u2, .int .i64 e2]] w (fun e w' => ∃ v, e = .returned (.tuple #[.agg #[.bool r, v, .int .i64 x], .int .i64 0]) ∧ RdN w' v (digs BB m) ∧ Below w.heap.size w w') := by
  obtain ⟨a, n, c, rfl⟩ := h.slice
  obtain ⟨a', n', c', rfl⟩ := h'.slice
  have g7 : -1073741824 ≤ x1 ∧ x1 ≤ 1073741824 := by unfold fitsE at A4; simp at A4; exact A4
  have g8 : -1073741824 ≤ x2 ∧ x2 ≤ 1073741824 := by unfold fitsE at B4; simp at B4; exact B4
  have HBA := Lib.hid (fun w v (h : Num w v m1) (hT : Tab w) => Bare_ok h hT g3.1 g3.2 ea A4)
  have HBB := Lib.hid (fun w v (h : Num w v m2) (hT : Tab w) => Bare_ok h hT g5.1 g5.2 eb B4)
  have EP := Lib.hid hpr
  have spr : bitN pr ≤ 70000 := by rw [← hpr]; exact Nat.le_trans (bitN_mul_le _ _) (by omega)
  have hb' : (!(p1 == p2)) = pn := hpn
  have wf : IntKind.i64.wrap (x1 + x2) = f := by rw [IntKind.wrap_i64]; omega
  have HMK := Lib.hid (fun w v (h : RdN w v (digs BB pr)) (hT : Tab w) => Make_ok (neg := pn) (h.num (by omega)) hT (by omega) (by omega) ec C4)
  have hg0 := hT.lt
  clear hpn ea eb ec A4 B4 C4 hf hpr g3 g5
  go_enter Tryd.func28, Tryd.ntmps28
  go_upto_region 2 with
  (first
    | (go_at_call 17; (with_reducible refine (HBA.out _ _ (h.below below_3) (hT.below below_3)).mono ?_); rintro e w1 ⟨vi1, rfl, i1, hb1⟩; have B1 := below_3.trans (hb1.mono below_3.size); have y1 := ((h.below below_3)).below hb1; have z1 := ((h'.below below_3)).below hb1; have T1 := ((hT.below below_3)).below hb1; have P1 := ((blk3_1)).below hb1; have Q1 := ((blk3_2)).below hb1; have R1 := ((blk3_3)).below hb1; obtain ⟨cP0_1, cP1_1, cP2_1, fP0_1, fP1_1, fP2_1, sP_1⟩ := P1.open3; obtain ⟨cQ0_1, cQ1_1, cQ2_1, fQ0_1, fQ1_1, fQ2_1, sQ_1⟩ := Q1.open3; obtain ⟨cR0_1, cR1_1, cR2_1, fR0_1, fR1_1, fR2_1, sR_1⟩ := R1.open3; obtain ⟨ai1, ki1, rfl, -⟩ := i1.view; try simp only [List.length_nil] at i1)
    | fail)
  have P2 := P1.set3 (.bool p1) (.slice ai1 (digs BB q1).length ki1) (.int .i64 x1)
  have Q2 := Q1.other3 (show w.heap.size + 1 ≠ w.heap.size by omega) (.bool p1) (.slice ai1 (digs BB q1).length ki1) (.int .i64 x1)
  have R2 := R1.other3 (show w.heap.size + 1 + 1 ≠ w.heap.size by omega) (.bool p1) (.slice ai1 (digs BB q1).length ki1) (.int .i64 x1)
  have i2 := i1.set3 P1 dcells (.bool p1) (.slice ai1 (digs BB q1).length ki1) (.int .i64 x1)
  have z2 := z1.set3 P1 dcells (.bool p1) (.slice ai1 (digs BB q1).length ki1) (.int .i64 x1)
  have T2 := T1.set3 (show 0 ≠ w.heap.size by omega) (.bool p1) (.slice ai1 (digs BB q1).length ki1) (.int .i64 x1)
  have B2 := below_set3 B1 (Nat.le_refl _) (.bool p1) (.slice ai1 (digs BB q1).length ki1) (.int .i64 x1)
  clear P1 Q1 R1 i1 y1 z1 T1 B1 cP0_1 cP1_1 cP2_1 fP0_1 fP1_1 fP2_1 sP_1 cQ0_1 cQ1_1 cQ2_1 fQ0_1 fQ1_1 fQ2_1 sQ_1 cR0_1 cR1_1 cR2_1 fR0_1 fR1_1 fR2_1 sR_1 hb1
  generalize ((w1.setCell ⟨w.heap.size, 0, none⟩ (.bool p1)).setCell ⟨w.heap.size, 1, none⟩ (.slice ai1 (digs BB q1).length ki1)).setCell ⟨w.heap.size, 2, none⟩ (.int .i64 x1) = w2 at *
  obtain ⟨cP0_1, cP1_1, cP2_1, fP0_1, fP1_1, fP2_1, sP_1⟩ := P2.open3
  obtain ⟨cQ0_1, cQ1_1, cQ2_1, fQ0_1, fQ1_1, fQ2_1, sQ_1⟩ := Q2.open3
  go_upto_region 5 with
  (first
    | (go_at_call 17; (with_reducible refine (HBB.out _ _ z2 T2).mono ?_); rintro e w11 ⟨vj11, rfl, j11, hb11⟩; have B11 := B2.trans (hb11.mono B2.size); have i11 := i2.below hb11; have z11 := z2.below hb11; have T11 := T2.below hb11; have P11 := P2.below hb11; have Q11 := Q2.below hb11; have R11 := R2.below hb11; clear i2 z2 T2 P2 Q2 R2; obtain ⟨cP0_11, cP1_11, cP2_11, fP0_11, fP1_11, fP2_11, sP_11⟩ := P11.open3; obtain ⟨cQ0_11, cQ1_11, cQ2_11, fQ0_11, fQ1_11, fQ2_11, sQ_11⟩ := Q11.open3; obtain ⟨cR0_11, cR1_11, cR2_11, fR0_11, fR1_11, fR2_11, sR_11⟩ := R11.open3; obtain ⟨aj11, kj11, rfl, -⟩ := j11.view; try simp only [List.length_nil] at j11)
    | fail)
  have Q3 := Q11.set3 (.bool p2) (.slice aj11 (digs BB q2).length kj11) (.int .i64 x2)
  have P3 := P11.other3 (show w.heap.size ≠ w.heap.size + 1 by omega) (.bool p2) (.slice aj11 (digs BB q2).length kj11) (.int .i64 x2)
  have R3 := R11.other3 (show w.heap.size + 1 + 1 ≠ w.heap.size + 1 by omega) (.bool p2) (.slice aj11 (digs BB q2).length kj11) (.int .i64 x2)
  have i3 := i11.set3 Q11 dcells (.bool p2) (.slice aj11 (digs BB q2).length kj11) (.int .i64 x2)
  have j3 := j11.set3 Q11 dcells (.bool p2) (.slice aj11 (digs BB q2).length kj11) (.int .i64 x2)
  have T3 := T11.set3 (show 0 ≠ w.heap.size + 1 by omega) (.bool p2) (.slice aj11 (digs BB q2).length kj11) (.int .i64 x2)
  have B3 := below_set3b B11 (show w.heap.size ≤ w.heap.size + 1 by omega) (.bool p2) (.slice aj11 (digs BB q2).length kj11) (.int .i64 x2)
  clear P11 Q11 R11 i11 j11 z11 T11 B11 cP0_11 cP1_11 cP2_11 fP0_11 fP1_11 fP2_11 sP_11 cQ0_11 cQ1_11 cQ2_11 fQ0_11 fQ1_11 fQ2_11 sQ_11 cR0_11 cR1_11 cR2_11 fR0_11 fR1_11 fR2_11 sR_11 hb11 cP0_1 cP1_1 cP2_1 fP0_1 fP1_1 fP2_1 sP_1 cQ0_1 cQ1_1 cQ2_1 fQ0_1 fQ1_1 fQ2_1 sQ_1
  generalize ((w11.setCell ⟨w.heap.size + 1, 0, none⟩ (.bool p2)).setCell ⟨w.heap.size + 1, 1, none⟩ (.slice aj11 (digs BB q2).length kj11)).setCell ⟨w.heap.size + 1, 2, none⟩ (.int .i64 x2) = w3 at *
  obtain ⟨cP0_1, cP1_1, cP2_1, fP0_1, fP1_1, fP2_1, sP_1⟩ := P3.open3
  obtain ⟨cQ0_1, cQ1_1, cQ2_1, fQ0_1, fQ1_1, fQ2_1, sQ_1⟩ := Q3.open3
  go_wp2_with
  (first
    | (go_at_call 52; (with_reducible refine (mul_n (i3.num (by omega)) (j3.num (by omega)) EP.out (by omega)).mono ?_); rintro e w21 ⟨vs21, rfl, s21, hb21⟩; have B21 := B3.trans (hb21.mono B3.size); have i21 := i3.below hb21; have j21 := j3.below hb21; have T21 := T3.below hb21; have P21 := P3.below hb21; have Q21 := Q3.below hb21; have R21 := R3.below hb21; clear i3 j3 T3 P3 Q3 R3; obtain ⟨cP0_21, cP1_21, cP2_21, fP0_21, fP1_21, fP2_21, sP_21⟩ := P21.open3; obtain ⟨cQ0_21, cQ1_21, cQ2_21, fQ0_21, fQ1_21, fQ2_21, sQ_21⟩ := Q21.open3; obtain ⟨cR0_21, cR1_21, cR2_21, fR0_21, fR1_21, fR2_21, sR_21⟩ := R21.open3)
    | (go_at_call 27; (with_reducible refine (HMK.out _ _ s21 T21).mono ?_); rintro e w22 ⟨vt22, rfl, t22, hb22⟩; have B22 := B21.trans (hb22.mono B21.size); have i22 := i21.below hb22; have j22 := j21.below hb22; have T22 := T21.below hb22; have P22 := P21.below hb22; have Q22 := Q21.below hb22; have R22 := R21.below hb22; have s22 := s21.below hb22; clear i21 j21 T21 P21 Q21 R21 s21; clear cP0_21 cP1_21 cP2_21 fP0_21 fP1_21 fP2_21 sP_21; obtain ⟨cP0_22, cP1_22, cP2_22, fP0_22, fP1_22, fP2_22, sP_22⟩ := P22.open3; clear cQ0_21 cQ1_21 cQ2_21 fQ0_21 fQ1_21 fQ2_21 sQ_21; obtain ⟨cQ0_22, cQ1_22, cQ2_22, fQ0_22, fQ1_22, fQ2_22, sQ_22⟩ := Q22.open3; clear cR0_21 cR1_21 cR2_21 fR0_21 fR1_21 fR2_21 sR_21; obtain ⟨cR0_22, cR1_22, cR2_22, fR0_22, fR1_22, fR2_22, sR_22⟩ := R22.open3; obtain ⟨at22, kt22, rfl, -⟩ := t22.view; try simp only [List.length_nil] at t22)
    | fail)
  obtain ⟨z0, z1, z2, -⟩ := (R22.set3 (.bool r) (.slice at22 (digs BB m).length kt22) (.int .i64 x)).open3
  refine bodyPost_ret (v := .tuple #[.agg #[.bool r, .slice at22 (digs BB m).length kt22, .int .i64 x], .int .i64 0]) ?_ rfl ?_
  · simp [results, Tryd.results28, go_sem, z0, z1, z2]
  · exact ⟨_, rfl, t22.set3 R22 dcells _ _ _, below_set3b B22 (by omega) _ _ _⟩
end Go.Proofs.YtabdmnjdmnnejaaDoor
