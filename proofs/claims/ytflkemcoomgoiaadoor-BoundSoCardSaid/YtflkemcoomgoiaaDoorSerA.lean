/- series' pairs: upShift, fraction, times, by, plus, rest, by their contracts. Conditions: the numbers are short; math/bits' table stands in its variable. -/
import Derived.Test.YtflkemcoomgoiaaDoorDyA
import Derived.Test.YtflkemcoomgoiaaDoorSerG
import Derived.Deep.RegionHeld3
import Derived.Deep.CutBlock
namespace Go.Proofs.YtflkemcoomgoiaaDoor
set_option maxRecDepth 100000
open Go.RowKit Go.ChangeShapes Go.WideShapes

/-- A pair is told. -/
def OneP (w : World) (p : Pr) (e : Ending) (w' : World) : Prop := ∃ a n k b m j, e = .returned (.agg #[.slice a n k, .slice b m j]) ∧ RdN w' (.slice a n k) (digs BB p.lo) ∧ RdN w' (.slice b m j) (digs BB p.hi) ∧ Below w.heap.size w w'

theorem bitN_shl (A n : Nat) : bitN (A * 2 ^ n) ≤ bitN A + n := bitN_le.2 (by rw [Nat.pow_add]; exact Nat.mul_lt_mul_of_pos_right (bitN_lt A) (Nat.two_pow_pos n))
theorem upShift_n {w : World} {v : Value} {A n C : Nat} (h : Num w v A) (hT : Tab w) (e : cdiv A (2 ^ n) = C) (hn : n ≤ 9223372036854775807) : Calls Tryd.prog 92 #[v, .int .i64 n] w (One w (digs BB C)) := by
  have sA := h.bound
  have sq : bitN (A / 2 ^ n) ≤ 2560000 := Nat.le_trans (bitN_mono (Nat.div_le_self _ _)) sA
  obtain ⟨Q, hQ⟩ : ∃ Q, A / 2 ^ n = Q := ⟨_, rfl⟩
  have eQ := Lib.hid hQ
  rw [hQ] at sq
  unfold cdiv at e
  rw [hQ] at e
  clear hQ
  have HS := Lib.hid (shr_n h hT eQ.out hn)
  by_cases h0 : A % 2 ^ n = 0
  · rw [if_pos h0] at e
    subst e
    rw [show decide (A % 2 ^ n ≠ 0) = false from decide_eq_false (fun h => h h0)] at HS
    clear h0 h hT
    go_enter Tryd.func92, Tryd.ntmps92
    go_wp2_with
    (first
      | (go_at_call 74; (with_reducible refine (HS.out).mono ?_); rintro e w1 ⟨vq1, rfl, q1, hb1⟩; have B1 := hb1)
      | fail)
    go_ret
    exact ⟨_, rfl, q1, B1⟩
  · rw [if_neg h0] at e
    rw [show decide (A % 2 ^ n ≠ 0) = true from decide_eq_true h0] at HS
    have eC := Lib.hid e
    clear h0 h hT e
    go_enter Tryd.func92, Tryd.ntmps92
    go_wp2_with
    (first
      | (go_at_call 74; (with_reducible refine (HS.out).mono ?_); rintro e w1 ⟨vq1, rfl, q1, hb1⟩; have B1 := hb1)
      | (go_at_call 66; (with_reducible refine (of_1).mono ?_); rintro e w2 ⟨vo2, rfl, o2, hb2⟩; have B2 := B1.trans (hb2.mono B1.size); have q2 := q1.below hb2; clear q1)
      | (go_at_call 81; (with_reducible refine (add_n (q2.num sq) (o2.num (by rw [bitN_one]; decide)) eC.out).mono ?_); rintro e w3 ⟨vr3, rfl, r3, hb3⟩; have B3 := B2.trans (hb3.mono B2.size); have q3 := q2.below hb3; have o3 := o2.below hb3; clear q2 o2)
      | fail)
    go_ret
    exact ⟨_, rfl, r3, B3⟩

theorem frac_n {w : World} {v u : Value} {A B n : Nat} (h : Num w v A) (k : Num w u B) (hT : Tab w) (h0 : B ≠ 0) (hn : n + bitN A ≤ 65536) : Calls Tryd.prog 96 #[v, u, .int .i64 n] w (OneP w (fracP A B (2 ^ n))) := by
  obtain ⟨C, hC⟩ : ∃ C, A * 2 ^ n = C := ⟨_, rfl⟩
  have sC : bitN C ≤ 2560000 := by rw [← hC]; exact Nat.le_trans (bitN_shl _ _) (by omega)
  unfold fracP
  rw [hC]
  have eC := Lib.hid hC; clear hC
  obtain ⟨Q, hQ⟩ : ∃ Q, C / B = Q := ⟨_, rfl⟩
  obtain ⟨R, hR⟩ : ∃ R, C % B = R := ⟨_, rfl⟩
  have sQ : bitN Q ≤ 2560000 := by rw [← hQ]; exact Nat.le_trans (bitN_mono (Nat.div_le_self _ _)) sC
  have eQ := Lib.hid hQ; have eR := Lib.hid hR
  unfold cdiv
  rw [hQ, hR]
  clear hQ hR
  by_cases hr : R = 0
  · subst hr
    rw [if_pos rfl]
    go_enter Tryd.func96, Tryd.ntmps96
    go_wp2_with
    (first
      | (go_at_call 65; (with_reducible refine (shl_n (h.below (below_alloc _ _)) eC.out hn).mono ?_); rintro e w1 ⟨vs1, rfl, s1, hb1⟩; have B1 := (below_alloc _ _).trans (hb1.mono (below_alloc _ _).size); have h1 := ((h.below (below_alloc _ _))).below hb1; have k1 := ((k.below (below_alloc _ _))).below hb1; have T1 := ((hT.below (below_alloc _ _))).below hb1; have R1 := ((blk_new)).below hb1; obtain ⟨cR0_1, cR1_1, fR0_1, fR1_1, sR_1⟩ := R1.open2)
      | (go_at_call 63; (with_reducible refine (div_n (s1.num sC) k1 T1 h0 eQ.out eR.out).mono ?_); rintro e w2 ⟨vq2, vr2, rfl, q2, r2, hb2⟩; have B2 := B1.trans (hb2.mono B1.size); have h2 := h1.below hb2; have k2 := k1.below hb2; have T2 := T1.below hb2; have R2 := R1.below hb2; have s2 := s1.below hb2; clear h1 k1 T1 R1 s1; clear cR0_1 cR1_1 fR0_1 fR1_1 sR_1; obtain ⟨cR0_2, cR1_2, fR0_2, fR1_2, sR_2⟩ := R2.open2; obtain ⟨ar2, kr2, rfl⟩ := r2.rnone; obtain ⟨aq2, kq2, rfl, -⟩ := q2.view; try simp only [List.length_nil] at q2)
      | fail)
    obtain ⟨z0, z1, -⟩ := (R2.set2 (.slice aq2 (digs BB Q).length kq2) (.slice aq2 (digs BB Q).length kq2)).open2
    refine bodyPost_ret (v := .agg #[.slice aq2 (digs BB Q).length kq2, .slice aq2 (digs BB Q).length kq2]) (by simp [results, Tryd.results96, go_sem, z0, z1]) rfl ⟨_, _, _, _, _, _, rfl, q2.set2 R2 pcells _ _, q2.set2 R2 pcells _ _, ?_⟩
    exact below_set (below_set B2 (by omega) _) (by omega) _
  · rw [if_neg hr]
    have hrl : 0 < (digs BB R).length := List.length_pos_iff.2 (fun e => hr ((digs_nil_iff BB_two _).1 e))
    go_enter Tryd.func96, Tryd.ntmps96
    go_wp2_with
    (first
      | (go_at_call 65; (with_reducible refine (shl_n (h.below (below_alloc _ _)) eC.out hn).mono ?_); rintro e w1 ⟨vs1, rfl, s1, hb1⟩; have B1 := (below_alloc _ _).trans (hb1.mono (below_alloc _ _).size); have h1 := ((h.below (below_alloc _ _))).below hb1; have k1 := ((k.below (below_alloc _ _))).below hb1; have T1 := ((hT.below (below_alloc _ _))).below hb1; have R1 := ((blk_new)).below hb1; obtain ⟨cR0_1, cR1_1, fR0_1, fR1_1, sR_1⟩ := R1.open2)
      | (go_at_call 63; (with_reducible refine (div_n (s1.num sC) k1 T1 h0 eQ.out eR.out).mono ?_); rintro e w2 ⟨vq2, vr2, rfl, q2, r2, hb2⟩; have B2 := B1.trans (hb2.mono B1.size); have h2 := h1.below hb2; have k2 := k1.below hb2; have T2 := T1.below hb2; have R2 := R1.below hb2; have s2 := s1.below hb2; clear h1 k1 T1 R1 s1; clear cR0_1 cR1_1 fR0_1 fR1_1 sR_1; obtain ⟨cR0_2, cR1_2, fR0_2, fR1_2, sR_2⟩ := R2.open2; obtain ⟨aq2, kq2, rfl, -⟩ := q2.view; (try simp only [List.length_nil] at q2); obtain ⟨ar2, kr2, rfl, -⟩ := r2.view; try simp only [List.length_nil] at r2)
      | (go_at_call 66; (with_reducible refine (of_1).mono ?_); rintro e w3 ⟨vo3, rfl, o3, hb3⟩; have B3 := B2.trans (hb3.mono B2.size); have h3 := h2.below hb3; have k3 := k2.below hb3; have T3 := T2.below hb3; have R3 := R2.below hb3; have s3 := s2.below hb3; have q3 := q2.below hb3; have r3 := r2.below hb3; clear h2 k2 T2 R2 s2 q2 r2; clear cR0_2 cR1_2 fR0_2 fR1_2 sR_2; obtain ⟨cR0_3, cR1_3, fR0_3, fR1_3, sR_3⟩ := R3.open2)
      | (go_at_call 81; (with_reducible refine (add_n (q3.num sQ) (o3.num (by rw [bitN_one]; decide)) rfl).mono ?_); rintro e w4 ⟨vp4, rfl, p4, hb4⟩; have B4 := B3.trans (hb4.mono B3.size); have h4 := h3.below hb4; have k4 := k3.below hb4; have T4 := T3.below hb4; have R4 := R3.below hb4; have s4 := s3.below hb4; have q4 := q3.below hb4; have r4 := r3.below hb4; have o4 := o3.below hb4; clear h3 k3 T3 R3 s3 q3 r3 o3; clear cR0_3 cR1_3 fR0_3 fR1_3 sR_3; obtain ⟨cR0_4, cR1_4, fR0_4, fR1_4, sR_4⟩ := R4.open2; obtain ⟨ap4, kp4, rfl, -⟩ := p4.view; try simp only [List.length_nil] at p4)
      | fail)
    obtain ⟨z0, z1, -⟩ := (R4.set2 (.slice aq2 (digs BB Q).length kq2) (.slice ap4 (digs BB (Q + 1)).length kp4)).open2
    refine bodyPost_ret (v := .agg #[.slice aq2 (digs BB Q).length kq2, .slice ap4 (digs BB (Q + 1)).length kp4]) (by simp [results, Tryd.results96, go_sem, z0, z1]) rfl ⟨_, _, _, _, _, _, rfl, q4.set2 R4 pcells _ _, p4.set2 R4 pcells _ _, ?_⟩
    exact below_set (below_set B4 (by omega) _) (by omega) _
end Go.Proofs.YtflkemcoomgoiaaDoor

/- series' pairs: times, by, plus, rest, by their contracts. Conditions: the numbers are short; math/bits' table stands in its variable. -/
namespace Go.Proofs.YtflkemcoomgoiaaDoor
set_option maxRecDepth 100000
open Go.RowKit Go.ChangeShapes Go.WideShapes

section
variable {w : World} {a0 b0 a1 b1 : Option Addr} {n0 k0 m0 j0 n1 k1 m1 j1 : Nat} {p q : Pr}

theorem ptimes_n {n : Nat} (hx : Num w (.slice a0 n0 k0) p.lo) (hy : Num w (.slice b0 m0 j0) p.hi) (hz : Num w (.slice a1 n1 k1) q.lo) (hv : Num w (.slice b1 m1 j1) q.hi) (hT : Tab w) (s1 : bitN p.lo ≤ 20000) (s2 : bitN p.hi ≤ 20000) (s3 : bitN q.lo ≤ 20000) (s4 : bitN q.hi ≤ 20000) (hn : n ≤ 9223372036854775807) :
    Calls Tryd.prog 69 #[.agg #[.slice a0 n0 k0, .slice b0 m0 j0], .agg #[.slice a1 n1 k1, .slice b1 m1 j1], .int .i64 n] w (OneP w (p.times q (2 ^ n))) := by
  obtain ⟨X, hX⟩ : ∃ X, p.lo * q.lo = X := ⟨_, rfl⟩
  obtain ⟨Y, hY⟩ : ∃ Y, p.hi * q.hi = Y := ⟨_, rfl⟩
  have sX : bitN X ≤ 2560000 := by rw [← hX]; exact Nat.le_trans (bitN_mul_le _ _) (by omega)
  have sY : bitN Y ≤ 2560000 := by rw [← hY]; exact Nat.le_trans (bitN_mul_le _ _) (by omega)
  unfold Pr.times
  rw [hX, hY]
  have eX := Lib.hid hX; have eY := Lib.hid hY
  clear hX hY
  go_enter Tryd.func69, Tryd.ntmps69
  go_wp2_with
  (first
    | (go_at_call 61; (with_reducible refine (mul_n (hx.below below_3) (hz.below below_3) eX.out (by omega)).mono ?_); rintro e w1 ⟨vc1, rfl, c1, hb1⟩; have B1 := below_3.trans (hb1.mono below_3.size); have x1 := ((hx.below below_3)).below hb1; have y1 := ((hy.below below_3)).below hb1; have z1 := ((hz.below below_3)).below hb1; have v1 := ((hv.below below_3)).below hb1; have T1 := ((hT.below below_3)).below hb1; have P1 := ((blk3_1)).below hb1; have Q1 := ((blk3_2)).below hb1; have R1 := ((blk3_3)).below hb1; obtain ⟨cP0_1, cP1_1, fP0_1, fP1_1, sP_1⟩ := P1.open2; obtain ⟨cQ0_1, cQ1_1, fQ0_1, fQ1_1, sQ_1⟩ := Q1.open2; obtain ⟨cR0_1, cR1_1, fR0_1, fR1_1, sR_1⟩ := R1.open2)
    | (go_at_call 61; (with_reducible refine (mul_n y1 v1 eY.out (by omega)).mono ?_); rintro e w2 ⟨vd2, rfl, d2, hb2⟩; have B2 := B1.trans (hb2.mono B1.size); have x2 := x1.below hb2; have y2 := y1.below hb2; have z2 := z1.below hb2; have v2 := v1.below hb2; have T2 := T1.below hb2; have P2 := P1.below hb2; have Q2 := Q1.below hb2; have R2 := R1.below hb2; have c2 := c1.below hb2; clear x1 y1 z1 v1 T1 P1 Q1 R1 c1; clear cP0_1 cP1_1 fP0_1 fP1_1 sP_1; obtain ⟨cP0_2, cP1_2, fP0_2, fP1_2, sP_2⟩ := P2.open2; clear cQ0_1 cQ1_1 fQ0_1 fQ1_1 sQ_1; obtain ⟨cQ0_2, cQ1_2, fQ0_2, fQ1_2, sQ_2⟩ := Q2.open2; clear cR0_1 cR1_1 fR0_1 fR1_1 sR_1; obtain ⟨cR0_2, cR1_2, fR0_2, fR1_2, sR_2⟩ := R2.open2)
    | (go_at_call 74; (with_reducible refine (shr_n (c2.num sX) T2 rfl hn).mono ?_); rintro e w3 ⟨vf3, rfl, f3, hb3⟩; have B3 := B2.trans (hb3.mono B2.size); have x3 := x2.below hb3; have y3 := y2.below hb3; have z3 := z2.below hb3; have v3 := v2.below hb3; have T3 := T2.below hb3; have P3 := P2.below hb3; have Q3 := Q2.below hb3; have R3 := R2.below hb3; have c3 := c2.below hb3; have d3 := d2.below hb3; clear x2 y2 z2 v2 T2 P2 Q2 R2 c2 d2; clear cP0_2 cP1_2 fP0_2 fP1_2 sP_2; obtain ⟨cP0_3, cP1_3, fP0_3, fP1_3, sP_3⟩ := P3.open2; clear cQ0_2 cQ1_2 fQ0_2 fQ1_2 sQ_2; obtain ⟨cQ0_3, cQ1_3, fQ0_3, fQ1_3, sQ_3⟩ := Q3.open2; clear cR0_2 cR1_2 fR0_2 fR1_2 sR_2; obtain ⟨cR0_3, cR1_3, fR0_3, fR1_3, sR_3⟩ := R3.open2; obtain ⟨af3, kf3, rfl, -⟩ := f3.view; try simp only [List.length_nil] at f3)
    | (go_at_call 92; (with_reducible refine (upShift_n (d3.num sY) T3 rfl hn).mono ?_); rintro e w4 ⟨vg4, rfl, g4, hb4⟩; have B4 := B3.trans (hb4.mono B3.size); have x4 := x3.below hb4; have y4 := y3.below hb4; have z4 := z3.below hb4; have v4 := v3.below hb4; have T4 := T3.below hb4; have P4 := P3.below hb4; have Q4 := Q3.below hb4; have R4 := R3.below hb4; have c4 := c3.below hb4; have d4 := d3.below hb4; have f4 := f3.below hb4; clear x3 y3 z3 v3 T3 P3 Q3 R3 c3 d3 f3; clear cP0_3 cP1_3 fP0_3 fP1_3 sP_3; obtain ⟨cP0_4, cP1_4, fP0_4, fP1_4, sP_4⟩ := P4.open2; clear cQ0_3 cQ1_3 fQ0_3 fQ1_3 sQ_3; obtain ⟨cQ0_4, cQ1_4, fQ0_4, fQ1_4, sQ_4⟩ := Q4.open2; clear cR0_3 cR1_3 fR0_3 fR1_3 sR_3; obtain ⟨cR0_4, cR1_4, fR0_4, fR1_4, sR_4⟩ := R4.open2; obtain ⟨ag4, kg4, rfl, -⟩ := g4.view; try simp only [List.length_nil] at g4)
    | fail)
  obtain ⟨z0, z1, -⟩ := (R4.set2 (.slice af3 (digs BB (X / 2 ^ n)).length kf3) (.slice ag4 (digs BB (cdiv Y (2 ^ n))).length kg4)).open2
  refine bodyPost_ret (v := .agg #[.slice af3 (digs BB (X / 2 ^ n)).length kf3, .slice ag4 (digs BB (cdiv Y (2 ^ n))).length kg4]) (by simp [results, Tryd.results69, go_sem, z0, z1]) rfl ⟨_, _, _, _, _, _, rfl, f4.set2 R4 pcells _ _, g4.set2 R4 pcells _ _, ?_⟩
  exact below_set (below_set B4 (by omega) _) (by omega) _

theorem pby_n {n : Nat} (hx : Num w (.slice a0 n0 k0) p.lo) (hy : Num w (.slice b0 m0 j0) p.hi) (hn : n < BB) (h0 : n ≠ 0) (s2 : bitN p.hi ≤ 20000) :
    Calls Tryd.prog 70 #[.agg #[.slice a0 n0 k0, .slice b0 m0 j0], L64 n] w (OneP w (p.by n)) := by
  obtain ⟨Q, hQ⟩ : ∃ Q, p.lo / n = Q := ⟨_, rfl⟩
  obtain ⟨H, hH⟩ : ∃ H, p.hi / n = H := ⟨_, rfl⟩
  obtain ⟨R, hR⟩ : ∃ R, p.hi % n = R := ⟨_, rfl⟩
  obtain ⟨R0, hR0⟩ : ∃ R0, p.lo % n = R0 := ⟨_, rfl⟩
  have sH : bitN H ≤ 2560000 := by rw [← hH]; exact Nat.le_trans (bitN_mono (Nat.div_le_self _ _)) (by omega)
  unfold Pr.by cdiv
  rw [hQ, hH, hR]
  have eQ := Lib.hid hQ; have eH := Lib.hid hH; have eR := Lib.hid hR; have eR0 := Lib.hid hR0
  clear hQ hH hR hR0
  by_cases hr : R = 0
  · subst hr
    rw [if_pos rfl]
    go_enter Tryd.func70, Tryd.ntmps70
    go_wp2_with
    (first
      | (go_at_call 87; (with_reducible refine (small_n (hx.below below_2) hn h0 eQ.out eR0.out).mono ?_); rintro e w1 ⟨vc1, rfl, c1, hb1⟩; have B1 := below_2.trans (hb1.mono below_2.size); have x1 := ((hx.below below_2)).below hb1; have y1 := ((hy.below below_2)).below hb1; have P1 := ((blk_a1)).below hb1; have R1 := ((blk_a2)).below hb1; obtain ⟨cP0_1, cP1_1, fP0_1, fP1_1, sP_1⟩ := P1.open2; obtain ⟨cR0_1, cR1_1, fR0_1, fR1_1, sR_1⟩ := R1.open2; obtain ⟨ac1, kc1, rfl, -⟩ := c1.view; try simp only [List.length_nil] at c1)
      | (go_at_call 87; (with_reducible refine (small_n y1 hn h0 eH.out eR.out).mono ?_); rintro e w2 ⟨vd2, rfl, d2, hb2⟩; have B2 := B1.trans (hb2.mono B1.size); have x2 := x1.below hb2; have y2 := y1.below hb2; have P2 := P1.below hb2; have R2 := R1.below hb2; have c2 := c1.below hb2; clear x1 y1 P1 R1 c1; clear cP0_1 cP1_1 fP0_1 fP1_1 sP_1; obtain ⟨cP0_2, cP1_2, fP0_2, fP1_2, sP_2⟩ := P2.open2; clear cR0_1 cR1_1 fR0_1 fR1_1 sR_1; obtain ⟨cR0_2, cR1_2, fR0_2, fR1_2, sR_2⟩ := R2.open2; obtain ⟨ad2, kd2, rfl, -⟩ := d2.view; try simp only [List.length_nil] at d2)
      | fail)
    obtain ⟨z0, z1, -⟩ := (R2.set2 (.slice ac1 (digs BB Q).length kc1) (.slice ad2 (digs BB H).length kd2)).open2
    refine bodyPost_ret (v := .agg #[.slice ac1 (digs BB Q).length kc1, .slice ad2 (digs BB H).length kd2]) (by simp [results, Tryd.results70, go_sem, z0, z1]) rfl ⟨_, _, _, _, _, _, rfl, c2.set2 R2 pcells _ _, d2.set2 R2 pcells _ _, ?_⟩
    exact below_set (below_set B2 (by omega) _) (by omega) _
  · rw [if_neg hr]
    have hr0 : 0 < R := Nat.pos_of_ne_zero hr
    go_enter Tryd.func70, Tryd.ntmps70
    go_wp2_with
    (first
      | (go_at_call 87; (with_reducible refine (small_n (hx.below below_2) hn h0 eQ.out eR0.out).mono ?_); rintro e w1 ⟨vc1, rfl, c1, hb1⟩; have B1 := below_2.trans (hb1.mono below_2.size); have x1 := ((hx.below below_2)).below hb1; have y1 := ((hy.below below_2)).below hb1; have P1 := ((blk_a1)).below hb1; have R1 := ((blk_a2)).below hb1; obtain ⟨cP0_1, cP1_1, fP0_1, fP1_1, sP_1⟩ := P1.open2; obtain ⟨cR0_1, cR1_1, fR0_1, fR1_1, sR_1⟩ := R1.open2; obtain ⟨ac1, kc1, rfl, -⟩ := c1.view; try simp only [List.length_nil] at c1)
      | (go_at_call 87; (with_reducible refine (small_n y1 hn h0 eH.out eR.out).mono ?_); rintro e w2 ⟨vd2, rfl, d2, hb2⟩; have B2 := B1.trans (hb2.mono B1.size); have x2 := x1.below hb2; have y2 := y1.below hb2; have P2 := P1.below hb2; have R2 := R1.below hb2; have c2 := c1.below hb2; clear x1 y1 P1 R1 c1; clear cP0_1 cP1_1 fP0_1 fP1_1 sP_1; obtain ⟨cP0_2, cP1_2, fP0_2, fP1_2, sP_2⟩ := P2.open2; clear cR0_1 cR1_1 fR0_1 fR1_1 sR_1; obtain ⟨cR0_2, cR1_2, fR0_2, fR1_2, sR_2⟩ := R2.open2; obtain ⟨ad2, kd2, rfl, -⟩ := d2.view; try simp only [List.length_nil] at d2)
      | (go_at_call 66; (with_reducible refine (of_1).mono ?_); rintro e w3 ⟨vo3, rfl, o3, hb3⟩; have B3 := B2.trans (hb3.mono B2.size); have x3 := x2.below hb3; have y3 := y2.below hb3; have P3 := P2.below hb3; have R3 := R2.below hb3; have c3 := c2.below hb3; have d3 := d2.below hb3; clear x2 y2 P2 R2 c2 d2; clear cP0_2 cP1_2 fP0_2 fP1_2 sP_2; obtain ⟨cP0_3, cP1_3, fP0_3, fP1_3, sP_3⟩ := P3.open2; clear cR0_2 cR1_2 fR0_2 fR1_2 sR_2; obtain ⟨cR0_3, cR1_3, fR0_3, fR1_3, sR_3⟩ := R3.open2)
      | (go_at_call 81; (with_reducible refine (add_n (d3.num sH) (o3.num (by rw [bitN_one]; decide)) rfl).mono ?_); rintro e w4 ⟨vg4, rfl, g4, hb4⟩; have B4 := B3.trans (hb4.mono B3.size); have x4 := x3.below hb4; have y4 := y3.below hb4; have P4 := P3.below hb4; have R4 := R3.below hb4; have c4 := c3.below hb4; have d4 := d3.below hb4; have o4 := o3.below hb4; clear x3 y3 P3 R3 c3 d3 o3; clear cP0_3 cP1_3 fP0_3 fP1_3 sP_3; obtain ⟨cP0_4, cP1_4, fP0_4, fP1_4, sP_4⟩ := P4.open2; clear cR0_3 cR1_3 fR0_3 fR1_3 sR_3; obtain ⟨cR0_4, cR1_4, fR0_4, fR1_4, sR_4⟩ := R4.open2; obtain ⟨ag4, kg4, rfl, -⟩ := g4.view; try simp only [List.length_nil] at g4)
      | fail)
    obtain ⟨z0, z1, -⟩ := (R4.set2 (.slice ac1 (digs BB Q).length kc1) (.slice ag4 (digs BB (H + 1)).length kg4)).open2
    refine bodyPost_ret (v := .agg #[.slice ac1 (digs BB Q).length kc1, .slice ag4 (digs BB (H + 1)).length kg4]) (by simp [results, Tryd.results70, go_sem, z0, z1]) rfl ⟨_, _, _, _, _, _, rfl, c4.set2 R4 pcells _ _, g4.set2 R4 pcells _ _, ?_⟩
    exact below_set (below_set B4 (by omega) _) (by omega) _
end
end Go.Proofs.YtflkemcoomgoiaaDoor

/- series' pairs: plus, rest, by their contracts. Conditions: the numbers are short. -/
namespace Go.Proofs.YtflkemcoomgoiaaDoor
set_option maxRecDepth 100000
open Go.RowKit Go.ChangeShapes Go.WideShapes

theorem cells22 {w : World} {b c : Nat} {x y z v : Value} (h : Blk w b #[x, y]) (k : Blk w c #[z, v]) : w.cell? ⟨b, 0, none⟩ = some x ∧ w.cell? ⟨b, 1, none⟩ = some y ∧ w.cell? ⟨c, 0, none⟩ = some z ∧ w.cell? ⟨c, 1, none⟩ = some v :=
  ⟨h.open2.1, h.open2.2.1, k.open2.1, k.open2.2.1⟩

section
variable {w : World} {a0 b0 a1 b1 : Option Addr} {n0 k0 m0 j0 n1 k1 m1 j1 : Nat} {p q : Pr}

set_option maxHeartbeats 1000000 in
theorem pplus_n (hx : Num w (.slice a0 n0 k0) p.lo) (hy : Num w (.slice b0 m0 j0) p.hi) (hz : Num w (.slice a1 n1 k1) q.lo) (hv : Num w (.slice b1 m1 j1) q.hi) :
    Calls Tryd.prog 71 #[.agg #[.slice a0 n0 k0, .slice b0 m0 j0], .agg #[.slice a1 n1 k1, .slice b1 m1 j1]] w (OneP w (p.plus q)) := by
  unfold Pr.plus
  obtain ⟨X, hX⟩ : ∃ X, p.lo + q.lo = X := ⟨_, rfl⟩
  obtain ⟨Y, hY⟩ : ∃ Y, p.hi + q.hi = Y := ⟨_, rfl⟩
  rw [hX, hY]
  have eX := Lib.hid hX; have eY := Lib.hid hY
  clear hX hY
  go_enter Tryd.func71, Tryd.ntmps71
  go_upto_region 1 with fail
  have x1 := hx.below (below_3 (o1 := .cells #[.slice a0 n0 k0, .slice b0 m0 j0] 113 (0, 0)) (o2 := .cells #[.slice a1 n1 k1, .slice b1 m1 j1] 113 (0, 0)) (o3 := .cells #[.slice none 0 0, .slice none 0 0] 113 (0, 0)))
  have y1 := hy.below (below_3 (o1 := .cells #[.slice a0 n0 k0, .slice b0 m0 j0] 113 (0, 0)) (o2 := .cells #[.slice a1 n1 k1, .slice b1 m1 j1] 113 (0, 0)) (o3 := .cells #[.slice none 0 0, .slice none 0 0] 113 (0, 0)))
  have z1 := hz.below (below_3 (o1 := .cells #[.slice a0 n0 k0, .slice b0 m0 j0] 113 (0, 0)) (o2 := .cells #[.slice a1 n1 k1, .slice b1 m1 j1] 113 (0, 0)) (o3 := .cells #[.slice none 0 0, .slice none 0 0] 113 (0, 0)))
  have v1 := hv.below (below_3 (o1 := .cells #[.slice a0 n0 k0, .slice b0 m0 j0] 113 (0, 0)) (o2 := .cells #[.slice a1 n1 k1, .slice b1 m1 j1] 113 (0, 0)) (o3 := .cells #[.slice none 0 0, .slice none 0 0] 113 (0, 0)))
  have P1 : Blk (((w.alloc (.cells #[.slice a0 n0 k0, .slice b0 m0 j0] 113 (0, 0))).alloc (.cells #[.slice a1 n1 k1, .slice b1 m1 j1] 113 (0, 0))).alloc (.cells #[.slice none 0 0, .slice none 0 0] 113 (0, 0))) w.heap.size #[.slice a0 n0 k0, .slice b0 m0 j0] := blk3_1
  have Q1 : Blk (((w.alloc (.cells #[.slice a0 n0 k0, .slice b0 m0 j0] 113 (0, 0))).alloc (.cells #[.slice a1 n1 k1, .slice b1 m1 j1] 113 (0, 0))).alloc (.cells #[.slice none 0 0, .slice none 0 0] 113 (0, 0))) (w.heap.size + 1) #[.slice a1 n1 k1, .slice b1 m1 j1] := blk3_2
  have R1 : Blk (((w.alloc (.cells #[.slice a0 n0 k0, .slice b0 m0 j0] 113 (0, 0))).alloc (.cells #[.slice a1 n1 k1, .slice b1 m1 j1] 113 (0, 0))).alloc (.cells #[.slice none 0 0, .slice none 0 0] 113 (0, 0))) (w.heap.size + 1 + 1) #[.slice none 0 0, .slice none 0 0] := blk3_3
  have B1 : Below w.heap.size w (((w.alloc (.cells #[.slice a0 n0 k0, .slice b0 m0 j0] 113 (0, 0))).alloc (.cells #[.slice a1 n1 k1, .slice b1 m1 j1] 113 (0, 0))).alloc (.cells #[.slice none 0 0, .slice none 0 0] 113 (0, 0))) := below_3
  clear hx hy hz hv
  have hs : w.heap.size ≤ w.heap.size + 1 + 1 := by omega
  generalize (((w.alloc (.cells #[.slice a0 n0 k0, .slice b0 m0 j0] 113 (0, 0))).alloc (.cells #[.slice a1 n1 k1, .slice b1 m1 j1] 113 (0, 0))).alloc (.cells #[.slice none 0 0, .slice none 0 0] 113 (0, 0))) = wb at *
  have D : Below wb.heap.size wb wb.drew := below_drewN (Below.refl _ _) 1
  have x2 := x1.below D; have y2 := y1.below D; have z2 := z1.below D; have v2 := v1.below D
  have P2 := P1.below D; have Q2 := Q1.below D; have R2 := R1.below D; have B2 := B1.trans (D.mono B1.size)
  have k2 := Lib.hid (cells22 P2 Q2)
  clear x1 y1 z1 v1 P1 Q1 R1 B1 D
  go_region_held3 (fun w' => w'.cell? ⟨w.heap.size, 0, none⟩ = some (.slice a0 n0 k0) ∧ w'.cell? ⟨w.heap.size, 1, none⟩ = some (.slice b0 m0 j0) ∧ w'.cell? ⟨w.heap.size + 1, 0, none⟩ = some (.slice a1 n1 k1) ∧ w'.cell? ⟨w.heap.size + 1, 1, none⟩ = some (.slice b1 m1 j1))
    (first | exact k2.out | exact k3.out | exact k4.out | exact cells22 (P4.other2 (by omega) _ _) (Q4.other2 (by omega) _ _))
    (first
      | (go_at_call 81; (with_reducible refine (add_n x2 z2 eX.out).mono ?_); rintro e w3 ⟨vl, rfl, rl, h3⟩; obtain ⟨al, kl, rfl, -⟩ := rl.view; have y3 := y2.below h3; have v3 := v2.below h3; have P3 := P2.below h3; have Q3 := Q2.below h3; have R3 := R2.below h3; have B3 := B2.trans (h3.mono B2.size); have k3 := Lib.hid (cells22 P3 Q3))
      | (go_at_call 81; (with_reducible refine (add_n y2 v2 eY.out).mono ?_); rintro e w3 ⟨vh, rfl, rh, h3⟩; obtain ⟨ah, kh, rfl, -⟩ := rh.view; have x3 := x2.below h3; have z3 := z2.below h3; have P3 := P2.below h3; have Q3 := Q2.below h3; have R3 := R2.below h3; have B3 := B2.trans (h3.mono B2.size); have k3 := Lib.hid (cells22 P3 Q3))
      | (go_at_call 81; (with_reducible refine (add_n y3 v3 eY.out).mono ?_); rintro e w4 ⟨vh, rfl, rh, h4⟩; obtain ⟨ah, kh, rfl, -⟩ := rh.view; have rl4 := rl.below h4; have rh4 := rh; have R4 := R3.below h4; have B4 := B3.trans (h4.mono B3.size); have P4 := P3.below h4; have Q4 := Q3.below h4; have k4 := Lib.hid (cells22 P4 Q4); obtain ⟨g0, g1, f0, f1, -⟩ := R4.open2)
      | (go_at_call 81; (with_reducible refine (add_n x3 z3 eX.out).mono ?_); rintro e w4 ⟨vl, rfl, rl, h4⟩; obtain ⟨al, kl, rfl, -⟩ := rl.view; have rh4 := rh.below h4; have rl4 := rl; have R4 := R3.below h4; have B4 := B3.trans (h4.mono B3.size); have P4 := P3.below h4; have Q4 := Q3.below h4; have k4 := Lib.hid (cells22 P4 Q4); obtain ⟨g0, g1, f0, f1, -⟩ := R4.open2)
      | fail)
  all_goals
    go_wp2_with fail
    obtain ⟨q0, q1, -⟩ := (R4.set2 (.slice al (digs BB X).length kl) (.slice ah (digs BB Y).length kh)).open2
    refine bodyPost_ret (v := .agg #[.slice al (digs BB X).length kl, .slice ah (digs BB Y).length kh]) (by simp [results, Tryd.results71, go_sem, q0, q1]) rfl ⟨_, _, _, _, _, _, rfl, rl4.set2 R4 pcells _ _, rh4.set2 R4 pcells _ _, ?_⟩
    exact below_set (below_set B4 hs _) hs _
set_option maxHeartbeats 1000000 in
theorem prest_n (hx : RdN w (.slice a0 n0 k0) (digs BB p.lo)) (hy : Num w (.slice b0 m0 j0) p.hi) (hv : Num w (.slice b1 m1 j1) q.hi) (sv : bitN q.hi ≤ 20000) :
    Calls Tryd.prog 72 #[.agg #[.slice a0 n0 k0, .slice b0 m0 j0], .agg #[.slice a1 n1 k1, .slice b1 m1 j1]] w (OneP w (p.rest q)) := by
  unfold Pr.rest
  obtain ⟨X, hX⟩ : ∃ X, q.hi + q.hi = X := ⟨_, rfl⟩
  obtain ⟨Y, hY⟩ : ∃ Y, p.hi + X = Y := ⟨_, rfl⟩
  rw [hX, hY]
  have sX : bitN X ≤ 2560000 := by rw [← hX]; exact Nat.le_trans (bitN_add_le _ _) (by omega)
  have eX := Lib.hid hX; have eY := Lib.hid hY
  clear hX hY
  go_enter Tryd.func72, Tryd.ntmps72
  go_upto_region 1 with fail
  have x1 := hx.below (below_3 (o1 := .cells #[.slice a0 n0 k0, .slice b0 m0 j0] 113 (0, 0)) (o2 := .cells #[.slice a1 n1 k1, .slice b1 m1 j1] 113 (0, 0)) (o3 := .cells #[.slice none 0 0, .slice none 0 0] 113 (0, 0)))
  have y1 := hy.below (below_3 (o1 := .cells #[.slice a0 n0 k0, .slice b0 m0 j0] 113 (0, 0)) (o2 := .cells #[.slice a1 n1 k1, .slice b1 m1 j1] 113 (0, 0)) (o3 := .cells #[.slice none 0 0, .slice none 0 0] 113 (0, 0)))
  have v1 := hv.below (below_3 (o1 := .cells #[.slice a0 n0 k0, .slice b0 m0 j0] 113 (0, 0)) (o2 := .cells #[.slice a1 n1 k1, .slice b1 m1 j1] 113 (0, 0)) (o3 := .cells #[.slice none 0 0, .slice none 0 0] 113 (0, 0)))
  have P1 : Blk (((w.alloc (.cells #[.slice a0 n0 k0, .slice b0 m0 j0] 113 (0, 0))).alloc (.cells #[.slice a1 n1 k1, .slice b1 m1 j1] 113 (0, 0))).alloc (.cells #[.slice none 0 0, .slice none 0 0] 113 (0, 0))) w.heap.size #[.slice a0 n0 k0, .slice b0 m0 j0] := blk3_1
  have Q1 : Blk (((w.alloc (.cells #[.slice a0 n0 k0, .slice b0 m0 j0] 113 (0, 0))).alloc (.cells #[.slice a1 n1 k1, .slice b1 m1 j1] 113 (0, 0))).alloc (.cells #[.slice none 0 0, .slice none 0 0] 113 (0, 0))) (w.heap.size + 1) #[.slice a1 n1 k1, .slice b1 m1 j1] := blk3_2
  have R1 : Blk (((w.alloc (.cells #[.slice a0 n0 k0, .slice b0 m0 j0] 113 (0, 0))).alloc (.cells #[.slice a1 n1 k1, .slice b1 m1 j1] 113 (0, 0))).alloc (.cells #[.slice none 0 0, .slice none 0 0] 113 (0, 0))) (w.heap.size + 1 + 1) #[.slice none 0 0, .slice none 0 0] := blk3_3
  have B1 : Below w.heap.size w (((w.alloc (.cells #[.slice a0 n0 k0, .slice b0 m0 j0] 113 (0, 0))).alloc (.cells #[.slice a1 n1 k1, .slice b1 m1 j1] 113 (0, 0))).alloc (.cells #[.slice none 0 0, .slice none 0 0] 113 (0, 0))) := below_3
  clear hx hy hv
  have hs : w.heap.size ≤ w.heap.size + 1 + 1 := by omega
  generalize (((w.alloc (.cells #[.slice a0 n0 k0, .slice b0 m0 j0] 113 (0, 0))).alloc (.cells #[.slice a1 n1 k1, .slice b1 m1 j1] 113 (0, 0))).alloc (.cells #[.slice none 0 0, .slice none 0 0] 113 (0, 0))) = wb at *
  have D : Below wb.heap.size wb wb.drew := below_drewN (Below.refl _ _) 1
  have x2 := x1.below D; have y2 := y1.below D; have v2 := v1.below D
  have P2 := P1.below D; have Q2 := Q1.below D; have R2 := R1.below D; have B2 := B1.trans (D.mono B1.size)
  have k2 := Lib.hid (cells22 P2 Q2)
  clear x1 y1 v1 P1 Q1 R1 B1 D
  go_region_held3 (fun w' => w'.cell? ⟨w.heap.size, 0, none⟩ = some (.slice a0 n0 k0) ∧ w'.cell? ⟨w.heap.size, 1, none⟩ = some (.slice b0 m0 j0) ∧ w'.cell? ⟨w.heap.size + 1, 0, none⟩ = some (.slice a1 n1 k1) ∧ w'.cell? ⟨w.heap.size + 1, 1, none⟩ = some (.slice b1 m1 j1))
    (first | exact k2.out | exact k3.out | exact k4.out | exact cells22 (P4.other2 (by omega) _ _) (Q4.other2 (by omega) _ _))
    (first
      | (go_at_call 81; (with_reducible refine (add_n v2 v2 eX.out).mono ?_); rintro e w3 ⟨vs, rfl, rs, h3⟩; obtain ⟨aq, kq, rfl, -⟩ := rs.view; have x3 := x2.below h3; have y3 := y2.below h3; have P3 := P2.below h3; have Q3 := Q2.below h3; have R3 := R2.below h3; have B3 := B2.trans (h3.mono B2.size); have k3 := Lib.hid (cells22 P3 Q3))
      | (go_at_call 81; (with_reducible refine (add_n y3 (rs.num sX) eY.out).mono ?_); rintro e w4 ⟨vh, rfl, rh4, h4⟩; obtain ⟨ah, kh, rfl, -⟩ := rh4.view; have rl4 := x3.below h4; have R4 := R3.below h4; have B4 := B3.trans (h4.mono B3.size); have P4 := P3.below h4; have Q4 := Q3.below h4; have k4 := Lib.hid (cells22 P4 Q4); obtain ⟨g0, g1, f0, f1, -⟩ := R4.open2)
      | fail)
  all_goals
    go_wp2_with fail
    obtain ⟨q0, q1, -⟩ := (R4.set2 (.slice a0 n0 k0) (.slice ah (digs BB Y).length kh)).open2
    refine bodyPost_ret (v := .agg #[.slice a0 n0 k0, .slice ah (digs BB Y).length kh]) (by simp [results, Tryd.results72, go_sem, q0, q1]) rfl ⟨_, _, _, _, _, _, rfl, rl4.set2 R4 pcells _ _, rh4.set2 R4 pcells _ _, ?_⟩
    exact below_set (below_set B4 hs _) hs _
end
end Go.Proofs.YtflkemcoomgoiaaDoor
