/- series' pairs: times, by, plus, rest, by their contracts. Conditions: the numbers are short; math/bits' table stands in its variable. -/
import Derived.Test.YtecgimdgmilcbaaDoorSer1
namespace Go.Proofs.YtecgimdgmilcbaaDoor
set_option maxRecDepth 100000
open Go.RowKit Go.ChangeShapes Go.WideShapes

section
variable {w : World} {a0 b0 a1 b1 : Option Addr} {n0 k0 m0 j0 n1 k1 m1 j1 : Nat} {p q : Pr}

theorem ptimes_n {n : Nat} (hx : Num w (.slice a0 n0 k0) p.lo) (hy : Num w (.slice b0 m0 j0) p.hi) (hz : Num w (.slice a1 n1 k1) q.lo) (hv : Num w (.slice b1 m1 j1) q.hi) (hT : Tab w) (s1 : bitN p.lo ≤ 20000) (s2 : bitN p.hi ≤ 20000) (s3 : bitN q.lo ≤ 20000) (s4 : bitN q.hi ≤ 20000) (hn : n ≤ 9223372036854775807) :
    Calls Tryd.prog 35 #[.agg #[.slice a0 n0 k0, .slice b0 m0 j0], .agg #[.slice a1 n1 k1, .slice b1 m1 j1], .int .i64 n] w (OneP w (p.times q (2 ^ n))) := by
  obtain ⟨X, hX⟩ : ∃ X, p.lo * q.lo = X := ⟨_, rfl⟩
  obtain ⟨Y, hY⟩ : ∃ Y, p.hi * q.hi = Y := ⟨_, rfl⟩
  have sX : bitN X ≤ 2560000 := by rw [← hX]; exact Nat.le_trans (bitN_mul_le _ _) (by omega)
  have sY : bitN Y ≤ 2560000 := by rw [← hY]; exact Nat.le_trans (bitN_mul_le _ _) (by omega)
  unfold Pr.times
  rw [hX, hY]
  have eX := Lib.hid hX; have eY := Lib.hid hY
  clear hX hY
  go_enter Tryd.func35, Tryd.ntmps35
  go_wp2_with
  (first
    | (go_at_call 59; (with_reducible refine (mul_n (hx.below below_3) (hz.below below_3) eX.out (by omega)).mono ?_); rintro e w1 ⟨vc1, rfl, c1, hb1⟩; have B1 := below_3.trans (hb1.mono below_3.size); have x1 := ((hx.below below_3)).below hb1; have y1 := ((hy.below below_3)).below hb1; have z1 := ((hz.below below_3)).below hb1; have v1 := ((hv.below below_3)).below hb1; have T1 := ((hT.below below_3)).below hb1; have P1 := ((blk3_1)).below hb1; have Q1 := ((blk3_2)).below hb1; have R1 := ((blk3_3)).below hb1; obtain ⟨cP0_1, cP1_1, fP0_1, fP1_1, sP_1⟩ := P1.open2; obtain ⟨cQ0_1, cQ1_1, fQ0_1, fQ1_1, sQ_1⟩ := Q1.open2; obtain ⟨cR0_1, cR1_1, fR0_1, fR1_1, sR_1⟩ := R1.open2)
    | (go_at_call 59; (with_reducible refine (mul_n y1 v1 eY.out (by omega)).mono ?_); rintro e w2 ⟨vd2, rfl, d2, hb2⟩; have B2 := B1.trans (hb2.mono B1.size); have x2 := x1.below hb2; have y2 := y1.below hb2; have z2 := z1.below hb2; have v2 := v1.below hb2; have T2 := T1.below hb2; have P2 := P1.below hb2; have Q2 := Q1.below hb2; have R2 := R1.below hb2; have c2 := c1.below hb2; clear x1 y1 z1 v1 T1 P1 Q1 R1 c1; clear cP0_1 cP1_1 fP0_1 fP1_1 sP_1; obtain ⟨cP0_2, cP1_2, fP0_2, fP1_2, sP_2⟩ := P2.open2; clear cQ0_1 cQ1_1 fQ0_1 fQ1_1 sQ_1; obtain ⟨cQ0_2, cQ1_2, fQ0_2, fQ1_2, sQ_2⟩ := Q2.open2; clear cR0_1 cR1_1 fR0_1 fR1_1 sR_1; obtain ⟨cR0_2, cR1_2, fR0_2, fR1_2, sR_2⟩ := R2.open2)
    | (go_at_call 62; (with_reducible refine (shr_n (c2.num sX) T2 rfl hn).mono ?_); rintro e w3 ⟨vf3, rfl, f3, hb3⟩; have B3 := B2.trans (hb3.mono B2.size); have x3 := x2.below hb3; have y3 := y2.below hb3; have z3 := z2.below hb3; have v3 := v2.below hb3; have T3 := T2.below hb3; have P3 := P2.below hb3; have Q3 := Q2.below hb3; have R3 := R2.below hb3; have c3 := c2.below hb3; have d3 := d2.below hb3; clear x2 y2 z2 v2 T2 P2 Q2 R2 c2 d2; clear cP0_2 cP1_2 fP0_2 fP1_2 sP_2; obtain ⟨cP0_3, cP1_3, fP0_3, fP1_3, sP_3⟩ := P3.open2; clear cQ0_2 cQ1_2 fQ0_2 fQ1_2 sQ_2; obtain ⟨cQ0_3, cQ1_3, fQ0_3, fQ1_3, sQ_3⟩ := Q3.open2; clear cR0_2 cR1_2 fR0_2 fR1_2 sR_2; obtain ⟨cR0_3, cR1_3, fR0_3, fR1_3, sR_3⟩ := R3.open2; obtain ⟨af3, kf3, rfl, -⟩ := f3.view; try simp only [List.length_nil] at f3)
    | (go_at_call 63; (with_reducible refine (upShift_n (d3.num sY) T3 rfl hn).mono ?_); rintro e w4 ⟨vg4, rfl, g4, hb4⟩; have B4 := B3.trans (hb4.mono B3.size); have x4 := x3.below hb4; have y4 := y3.below hb4; have z4 := z3.below hb4; have v4 := v3.below hb4; have T4 := T3.below hb4; have P4 := P3.below hb4; have Q4 := Q3.below hb4; have R4 := R3.below hb4; have c4 := c3.below hb4; have d4 := d3.below hb4; have f4 := f3.below hb4; clear x3 y3 z3 v3 T3 P3 Q3 R3 c3 d3 f3; clear cP0_3 cP1_3 fP0_3 fP1_3 sP_3; obtain ⟨cP0_4, cP1_4, fP0_4, fP1_4, sP_4⟩ := P4.open2; clear cQ0_3 cQ1_3 fQ0_3 fQ1_3 sQ_3; obtain ⟨cQ0_4, cQ1_4, fQ0_4, fQ1_4, sQ_4⟩ := Q4.open2; clear cR0_3 cR1_3 fR0_3 fR1_3 sR_3; obtain ⟨cR0_4, cR1_4, fR0_4, fR1_4, sR_4⟩ := R4.open2; obtain ⟨ag4, kg4, rfl, -⟩ := g4.view; try simp only [List.length_nil] at g4)
    | fail)
  obtain ⟨z0, z1, -⟩ := (R4.set2 (.slice af3 (digs BB (X / 2 ^ n)).length kf3) (.slice ag4 (digs BB (cdiv Y (2 ^ n))).length kg4)).open2
  refine bodyPost_ret (v := .agg #[.slice af3 (digs BB (X / 2 ^ n)).length kf3, .slice ag4 (digs BB (cdiv Y (2 ^ n))).length kg4]) (by simp [results, Tryd.results35, go_sem, z0, z1]) rfl ⟨_, _, _, _, _, _, rfl, f4.set2 R4 pcells _ _, g4.set2 R4 pcells _ _, ?_⟩
  exact below_set (below_set B4 (by omega) _) (by omega) _

theorem pby_n {n : Nat} (hx : Num w (.slice a0 n0 k0) p.lo) (hy : Num w (.slice b0 m0 j0) p.hi) (hn : n < BB) (h0 : n ≠ 0) (s2 : bitN p.hi ≤ 20000) :
    Calls Tryd.prog 37 #[.agg #[.slice a0 n0 k0, .slice b0 m0 j0], L64 n] w (OneP w (p.by n)) := by
  obtain ⟨Q, hQ⟩ : ∃ Q, p.lo / n = Q := ⟨_, rfl⟩
  obtain ⟨H, hH⟩ : ∃ H, p.hi / n = H := ⟨_, rfl⟩
  obtain ⟨R, hR⟩ : ∃ R, p.hi % n = R := ⟨_, rfl⟩
  obtain ⟨R0, hR0⟩ : ∃ R0, p.lo % n = R0 := ⟨_, rfl⟩
  have sH : bitN H ≤ 2560000 := by rw [← hH]; exact Nat.le_trans (bitN_mono (Nat.div_le_self _ _)) (by omega)
  unfold Pr.by cdiv
  rw [hQ, hH, hR]
  have eQ := Lib.hid hQ; have eH := Lib.hid hH; have eR := Lib.hid hR; have eR0 := Lib.hid hR0
  clear hQ hH hR hR0
  by_cases hr : R = 0
  · subst hr
    rw [if_pos rfl]
    go_enter Tryd.func37, Tryd.ntmps37
    go_wp2_with
    (first
      | (go_at_call 64; (with_reducible refine (small_n (hx.below below_2) hn h0 eQ.out eR0.out).mono ?_); rintro e w1 ⟨vc1, rfl, c1, hb1⟩; have B1 := below_2.trans (hb1.mono below_2.size); have x1 := ((hx.below below_2)).below hb1; have y1 := ((hy.below below_2)).below hb1; have P1 := ((blk_a1)).below hb1; have R1 := ((blk_a2)).below hb1; obtain ⟨cP0_1, cP1_1, fP0_1, fP1_1, sP_1⟩ := P1.open2; obtain ⟨cR0_1, cR1_1, fR0_1, fR1_1, sR_1⟩ := R1.open2; obtain ⟨ac1, kc1, rfl, -⟩ := c1.view; try simp only [List.length_nil] at c1)
      | (go_at_call 64; (with_reducible refine (small_n y1 hn h0 eH.out eR.out).mono ?_); rintro e w2 ⟨vd2, rfl, d2, hb2⟩; have B2 := B1.trans (hb2.mono B1.size); have x2 := x1.below hb2; have y2 := y1.below hb2; have P2 := P1.below hb2; have R2 := R1.below hb2; have c2 := c1.below hb2; clear x1 y1 P1 R1 c1; clear cP0_1 cP1_1 fP0_1 fP1_1 sP_1; obtain ⟨cP0_2, cP1_2, fP0_2, fP1_2, sP_2⟩ := P2.open2; clear cR0_1 cR1_1 fR0_1 fR1_1 sR_1; obtain ⟨cR0_2, cR1_2, fR0_2, fR1_2, sR_2⟩ := R2.open2; obtain ⟨ad2, kd2, rfl, -⟩ := d2.view; try simp only [List.length_nil] at d2)
      | fail)
    obtain ⟨z0, z1, -⟩ := (R2.set2 (.slice ac1 (digs BB Q).length kc1) (.slice ad2 (digs BB H).length kd2)).open2
    refine bodyPost_ret (v := .agg #[.slice ac1 (digs BB Q).length kc1, .slice ad2 (digs BB H).length kd2]) (by simp [results, Tryd.results37, go_sem, z0, z1]) rfl ⟨_, _, _, _, _, _, rfl, c2.set2 R2 pcells _ _, d2.set2 R2 pcells _ _, ?_⟩
    exact below_set (below_set B2 (by omega) _) (by omega) _
  · rw [if_neg hr]
    have hr0 : 0 < R := Nat.pos_of_ne_zero hr
    go_enter Tryd.func37, Tryd.ntmps37
    go_wp2_with
    (first
      | (go_at_call 64; (with_reducible refine (small_n (hx.below below_2) hn h0 eQ.out eR0.out).mono ?_); rintro e w1 ⟨vc1, rfl, c1, hb1⟩; have B1 := below_2.trans (hb1.mono below_2.size); have x1 := ((hx.below below_2)).below hb1; have y1 := ((hy.below below_2)).below hb1; have P1 := ((blk_a1)).below hb1; have R1 := ((blk_a2)).below hb1; obtain ⟨cP0_1, cP1_1, fP0_1, fP1_1, sP_1⟩ := P1.open2; obtain ⟨cR0_1, cR1_1, fR0_1, fR1_1, sR_1⟩ := R1.open2; obtain ⟨ac1, kc1, rfl, -⟩ := c1.view; try simp only [List.length_nil] at c1)
      | (go_at_call 64; (with_reducible refine (small_n y1 hn h0 eH.out eR.out).mono ?_); rintro e w2 ⟨vd2, rfl, d2, hb2⟩; have B2 := B1.trans (hb2.mono B1.size); have x2 := x1.below hb2; have y2 := y1.below hb2; have P2 := P1.below hb2; have R2 := R1.below hb2; have c2 := c1.below hb2; clear x1 y1 P1 R1 c1; clear cP0_1 cP1_1 fP0_1 fP1_1 sP_1; obtain ⟨cP0_2, cP1_2, fP0_2, fP1_2, sP_2⟩ := P2.open2; clear cR0_1 cR1_1 fR0_1 fR1_1 sR_1; obtain ⟨cR0_2, cR1_2, fR0_2, fR1_2, sR_2⟩ := R2.open2; obtain ⟨ad2, kd2, rfl, -⟩ := d2.view; try simp only [List.length_nil] at d2)
      | (go_at_call 46; (with_reducible refine (of_1).mono ?_); rintro e w3 ⟨vo3, rfl, o3, hb3⟩; have B3 := B2.trans (hb3.mono B2.size); have x3 := x2.below hb3; have y3 := y2.below hb3; have P3 := P2.below hb3; have R3 := R2.below hb3; have c3 := c2.below hb3; have d3 := d2.below hb3; clear x2 y2 P2 R2 c2 d2; clear cP0_2 cP1_2 fP0_2 fP1_2 sP_2; obtain ⟨cP0_3, cP1_3, fP0_3, fP1_3, sP_3⟩ := P3.open2; clear cR0_2 cR1_2 fR0_2 fR1_2 sR_2; obtain ⟨cR0_3, cR1_3, fR0_3, fR1_3, sR_3⟩ := R3.open2)
      | (go_at_call 19; (with_reducible refine (add_n (d3.num sH) (o3.num (by rw [bitN_one]; decide)) rfl).mono ?_); rintro e w4 ⟨vg4, rfl, g4, hb4⟩; have B4 := B3.trans (hb4.mono B3.size); have x4 := x3.below hb4; have y4 := y3.below hb4; have P4 := P3.below hb4; have R4 := R3.below hb4; have c4 := c3.below hb4; have d4 := d3.below hb4; have o4 := o3.below hb4; clear x3 y3 P3 R3 c3 d3 o3; clear cP0_3 cP1_3 fP0_3 fP1_3 sP_3; obtain ⟨cP0_4, cP1_4, fP0_4, fP1_4, sP_4⟩ := P4.open2; clear cR0_3 cR1_3 fR0_3 fR1_3 sR_3; obtain ⟨cR0_4, cR1_4, fR0_4, fR1_4, sR_4⟩ := R4.open2; obtain ⟨ag4, kg4, rfl, -⟩ := g4.view; try simp only [List.length_nil] at g4)
      | fail)
    obtain ⟨z0, z1, -⟩ := (R4.set2 (.slice ac1 (digs BB Q).length kc1) (.slice ag4 (digs BB (H + 1)).length kg4)).open2
    refine bodyPost_ret (v := .agg #[.slice ac1 (digs BB Q).length kc1, .slice ag4 (digs BB (H + 1)).length kg4]) (by simp [results, Tryd.results37, go_sem, z0, z1]) rfl ⟨_, _, _, _, _, _, rfl, c4.set2 R4 pcells _ _, g4.set2 R4 pcells _ _, ?_⟩
    exact below_set (below_set B4 (by omega) _) (by omega) _
end
end Go.Proofs.YtecgimdgmilcbaaDoor
