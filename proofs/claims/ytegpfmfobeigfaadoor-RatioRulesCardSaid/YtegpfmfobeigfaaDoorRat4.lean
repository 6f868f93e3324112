/- ratio.Cmp by its contract. Conditions: the numbers are short; math/bits' table stands in its variable. -/
import Derived.Test.YtegpfmfobeigfaaDoorRat3
namespace Go.Proofs.YtegpfmfobeigfaaDoor
set_option maxRecDepth 100000
open Go.RowKit Go.ChangeShapes Go.WideShapes

theorem odd_pow {a : Nat} (h : a % 2 = 1) : ∀ k, a ^ k % 2 = 1
  | 0 => by rw [Nat.pow_zero]
  | k + 1 => by rw [Nat.pow_succ, Nat.mul_mod, odd_pow h k, h]


set_option maxRecDepth 100000 in
set_option maxHeartbeats 1000000 in
theorem rCmp_ok {w : World} {v u : Value} {M M' M2 M2' P Q : Nat} {E E' E2 E2' m Ep Eq c : Int} {k k1 : Nat} (h : Num w v M) (h' : Num w u M2) (hT : Tab w) (h1 : -9223372036854775808 ≤ E) (h2 : E ≤ 9223372036854775807) (h3 : -9223372036854775808 ≤ E2) (h4 : E2 ≤ 9223372036854775807)
    (e : bareD ⟨false, M, E⟩ = ⟨false, M', E'⟩) (e2 : bareD ⟨false, M2, E2⟩ = ⟨false, M2', E2'⟩) (hf : fitsE E' = true) (hf2 : fitsE E2' = true) (n1 : M ≠ 0) (n2 : M2 ≠ 0) (o1 : M' % 2 = 1) (o2 : M2' % 2 = 1) (hm : m.natAbs = k1) (hm1 : k1 ≤ 9223372036854775807) (hk : 1 ≤ k) (hk2 : k ≤ 9223372036854775807)
    (hb1 : bitN M' * k1 ≤ 60000) (hb2 : E'.natAbs * k1 ≤ 60000) (hb3 : bitN M2' * k ≤ 60000) (hb4 : E2'.natAbs * k ≤ 60000) (hP : M' ^ k1 = P) (hQ : M2' ^ k = Q) (hEp : E' * k1 = Ep) (hEq : E2' * k = Eq)
    (hc1 : 0 ≤ m → cmpM ⟨false, P, Ep⟩ ⟨false, Q, Eq⟩ = c) (hc2 : m < 0 → cmpM ⟨false, 1, 0⟩ ⟨false, P * Q, Ep + Eq⟩ = c) :
    Calls Tryd.prog 17 #[.agg #[.bool false, v, .int .i64 E], .int .i64 m, .agg #[.bool false, u, .int .i64 E2], .int .i64 k] w (fun e w' => e = .returned (.tuple #[.int .i64 c, .int .i64 0]) ∧ Below w.heap.size w w') := by
  obtain ⟨av, nv, kv, rfl⟩ := h.slice
  obtain ⟨au, nu, ku, rfl⟩ := h'.slice
  have oP : P % 2 = 1 := by rw [← hP]; exact odd_pow o1 _
  have oQ : Q % 2 = 1 := by rw [← hQ]; exact odd_pow o2 _
  have aEp : Ep.natAbs ≤ 60000 := by rw [← hEp, Int.natAbs_mul, Int.natAbs_natCast]; exact hb2
  have aEq : Eq.natAbs ≤ 60000 := by rw [← hEq, Int.natAbs_mul, Int.natAbs_natCast]; exact hb4
  have bP := bareD_odd (neg := false) (E := Ep) oP (by omega) (by omega)
  have bQ := bareD_odd (neg := false) (E := Eq) oQ (by omega) (by omega)
  have fP : fitsE Ep = true := by unfold fitsE; simp; omega
  have fQ : fitsE Eq = true := by unfold fitsE; simp; omega
  have sP : bitN P ≤ 65000 := by
    rw [← hP]; have := bitN_pow_le M' k1; omega
  have sQ : bitN Q ≤ 65000 := by
    rw [← hQ]; have := bitN_pow_le M2' k; omega
  have es := Lib.hid (show signD ⟨false, M, E⟩ = 1 by unfold signD; rw [if_neg (show (⟨false, M, E⟩ : Dn).m ≠ 0 from n1)]; rfl)
  have es2 := Lib.hid (show signD ⟨false, M2, E2⟩ = 1 by unfold signD; rw [if_neg (show (⟨false, M2, E2⟩ : Dn).m ≠ 0 from n2)]; rfl)
  have HF1 := Lib.hid (fun w v (h : Num w v M) (hT : Tab w) => Fits_n (m := m) (r := true) h hT h1 h2 e (by omega) (by omega) (by rw [hf, hm, decide_eq_true hb1, decide_eq_true hb2]; rfl))
  have HF2 := Lib.hid (fun w v (h : Num w v M2) (hT : Tab w) => Fits_n (m := (k : Int)) (r := true) h hT h3 h4 e2 (by omega) (by omega) (by rw [hf2, Int.natAbs_natCast, decide_eq_true hb3, decide_eq_true hb4]; rfl))
  have HP1 := Lib.hid (fun w v (h : Num w v M) (hT : Tab w) => power_ok (m := m) h hT h1 h2 e hm hm1 hf hb1 hb2 hP (by rw [Bool.false_and, hEp]; exact bP) fP)
  have HP2 := Lib.hid (fun w v (h : Num w v M2) (hT : Tab w) => power_ok (m := (k : Int)) h hT h3 h4 e2 (Int.natAbs_natCast k) hk2 hf2 hb3 hb4 hQ (by rw [Bool.false_and, hEq]; exact bQ) fQ)
  have ee := Lib.hid e; have ee2 := Lib.hid e2
  have sPn : bitN P ≤ 2560000 := by omega
  have sQn : bitN Q ≤ 2560000 := by omega
  have hkd : decide ((k : Int) < 1) = false := decide_eq_false (by omega)
  have hsP : signD ⟨false, P, Ep⟩ = 1 := by unfold signD; rw [if_neg (show (⟨false, P, Ep⟩ : Dn).m ≠ 0 by simp only; omega)]; rfl
  have hsQ : signD ⟨false, Q, Eq⟩ = 1 := by unfold signD; rw [if_neg (show (⟨false, Q, Eq⟩ : Dn).m ≠ 0 by simp only; omega)]; rfl
  clear hP hQ hEp hEq hb1 hb2 hb3 hb4 e e2 hm
  by_cases hm0 : 0 ≤ m
  · have hmd : decide (0 ≤ m) = true := decide_eq_true hm0
    have hcD : cmpD ⟨false, P, Ep⟩ ⟨false, Q, Eq⟩ = c := by
      unfold cmpD
      rw [hsP, hsQ, if_neg (by decide), hc1 hm0, Int.one_mul]
    have HC := Lib.hid (fun w v u (h : RdN w v (digs BB P)) (k : RdN w u (digs BB Q)) (hT : Tab w) => Cmp_n (neg := false) (neg2 := false) (h.num sPn) (k.num sQn) hT (show -9223372036854775808 ≤ Ep by omega) (by omega) (show -9223372036854775808 ≤ Eq by omega) (by omega) bP bQ (by omega) (by omega) hcD)
    clear hc1 hc2 hcD hsP hsQ bP bQ
    go_enter Tryd.func17, Tryd.ntmps17
    go_wp2_with
    (first
      | (go_at_call 29; (with_reducible refine (Bare_ok (h.below below_2) (hT.below below_2) h1 h2 ee.out hf).mono ?_); rintro e w1 ⟨vd1, rfl, d1, hb1⟩; have B1 := below_2.trans (hb1.mono below_2.size); have m1 := ((h.below below_2)).below hb1; have g1 := ((h'.below below_2)).below hb1; have T1 := ((hT.below below_2)).below hb1; have P1 := ((blk_a1)).below hb1; have Q1 := ((blk_a2)).below hb1; obtain ⟨cP0_1, cP1_1, cP2_1, fP0_1, fP1_1, fP2_1, sP_1⟩ := P1.open3; obtain ⟨cQ0_1, cQ1_1, cQ2_1, fQ0_1, fQ1_1, fQ2_1, sQ_1⟩ := Q1.open3; obtain ⟨ad1, kd1, rfl, -⟩ := d1.view; try simp only [List.length_nil] at d1)
      | (go_at_call 29; (with_reducible refine (Bare_ok (g1.below (below_alloc _ _)) (T1.below (below_alloc _ _)) h3 h4 ee2.out hf2).mono ?_); rintro e w2 ⟨vf2, rfl, f2, hb2⟩; have hb2' := (below_a hb2); have B2 := B1.trans (hb2'.mono B1.size); have m2 := m1.below hb2'; have g2 := g1.below hb2'; have T2 := T1.below hb2'; have P2 := P1.below hb2'; have Q2 := Q1.below hb2'; have d2 := d1.below hb2'; clear m1 g1 T1 P1 Q1 d1; clear cP0_1 cP1_1 cP2_1 fP0_1 fP1_1 fP2_1 sP_1; obtain ⟨cP0_2, cP1_2, cP2_2, fP0_2, fP1_2, fP2_2, sP_2⟩ := P2.open3; clear cQ0_1 cQ1_1 cQ2_1 fQ0_1 fQ1_1 fQ2_1 sQ_1; obtain ⟨cQ0_2, cQ1_2, cQ2_2, fQ0_2, fQ1_2, fQ2_2, sQ_2⟩ := Q2.open3; obtain ⟨af2, kf2, rfl, -⟩ := f2.view; try simp only [List.length_nil] at f2)
      | (go_at_call 24; (with_reducible refine (Sign_n (m2.below (below_alloc _ _)) es.out).mono ?_); rintro e w3 ⟨rfl, hb3⟩; have hb3' := (below_a hb3); have B3 := B2.trans (hb3'.mono B2.size); have m3 := m2.below hb3'; have g3 := g2.below hb3'; have T3 := T2.below hb3'; have P3 := P2.below hb3'; have Q3 := Q2.below hb3'; have d3 := d2.below hb3'; have f3 := f2.below hb3'; clear m2 g2 T2 P2 Q2 d2 f2; clear cP0_2 cP1_2 cP2_2 fP0_2 fP1_2 fP2_2 sP_2; obtain ⟨cP0_3, cP1_3, cP2_3, fP0_3, fP1_3, fP2_3, sP_3⟩ := P3.open3; clear cQ0_2 cQ1_2 cQ2_2 fQ0_2 fQ1_2 fQ2_2 sQ_2; obtain ⟨cQ0_3, cQ1_3, cQ2_3, fQ0_3, fQ1_3, fQ2_3, sQ_3⟩ := Q3.open3)
      | (go_at_call 24; (with_reducible refine (Sign_n g3 es2.out).mono ?_); rintro e w4 ⟨rfl, hb4⟩; have B4 := B3.trans (hb4.mono B3.size); have m4 := m3.below hb4; have g4 := g3.below hb4; have T4 := T3.below hb4; have P4 := P3.below hb4; have Q4 := Q3.below hb4; have d4 := d3.below hb4; have f4 := f3.below hb4; clear m3 g3 T3 P3 Q3 d3 f3; clear cP0_3 cP1_3 cP2_3 fP0_3 fP1_3 fP2_3 sP_3; obtain ⟨cP0_4, cP1_4, cP2_4, fP0_4, fP1_4, fP2_4, sP_4⟩ := P4.open3; clear cQ0_3 cQ1_3 cQ2_3 fQ0_3 fQ1_3 fQ2_3 sQ_3; obtain ⟨cQ0_4, cQ1_4, cQ2_4, fQ0_4, fQ1_4, fQ2_4, sQ_4⟩ := Q4.open3)
      | (go_at_call 10; (with_reducible refine (HF1.out _ _ m4 T4).mono ?_); rintro e w5 ⟨rfl, hb5⟩; have B5 := B4.trans (hb5.mono B4.size); have m5 := m4.below hb5; have g5 := g4.below hb5; have T5 := T4.below hb5; have P5 := P4.below hb5; have Q5 := Q4.below hb5; have d5 := d4.below hb5; have f5 := f4.below hb5; clear m4 g4 T4 P4 Q4 d4 f4; clear cP0_4 cP1_4 cP2_4 fP0_4 fP1_4 fP2_4 sP_4; obtain ⟨cP0_5, cP1_5, cP2_5, fP0_5, fP1_5, fP2_5, sP_5⟩ := P5.open3; clear cQ0_4 cQ1_4 cQ2_4 fQ0_4 fQ1_4 fQ2_4 sQ_4; obtain ⟨cQ0_5, cQ1_5, cQ2_5, fQ0_5, fQ1_5, fQ2_5, sQ_5⟩ := Q5.open3)
      | (go_at_call 10; (with_reducible refine (HF2.out _ _ g5 T5).mono ?_); rintro e w6 ⟨rfl, hb6⟩; have B6 := B5.trans (hb6.mono B5.size); have m6 := m5.below hb6; have g6 := g5.below hb6; have T6 := T5.below hb6; have P6 := P5.below hb6; have Q6 := Q5.below hb6; have d6 := d5.below hb6; have f6 := f5.below hb6; clear m5 g5 T5 P5 Q5 d5 f5; clear cP0_5 cP1_5 cP2_5 fP0_5 fP1_5 fP2_5 sP_5; obtain ⟨cP0_6, cP1_6, cP2_6, fP0_6, fP1_6, fP2_6, sP_6⟩ := P6.open3; clear cQ0_5 cQ1_5 cQ2_5 fQ0_5 fQ1_5 fQ2_5 sQ_5; obtain ⟨cQ0_6, cQ1_6, cQ2_6, fQ0_6, fQ1_6, fQ2_6, sQ_6⟩ := Q6.open3)
      | (go_at_call 39; (with_reducible refine (HP1.out _ _ m6 T6).mono ?_); rintro e w7 ⟨vp7, rfl, p7, hb7⟩; have B7 := B6.trans (hb7.mono B6.size); have m7 := m6.below hb7; have g7 := g6.below hb7; have T7 := T6.below hb7; have P7 := P6.below hb7; have Q7 := Q6.below hb7; have d7 := d6.below hb7; have f7 := f6.below hb7; clear m6 g6 T6 P6 Q6 d6 f6; clear cP0_6 cP1_6 cP2_6 fP0_6 fP1_6 fP2_6 sP_6; obtain ⟨cP0_7, cP1_7, cP2_7, fP0_7, fP1_7, fP2_7, sP_7⟩ := P7.open3; clear cQ0_6 cQ1_6 cQ2_6 fQ0_6 fQ1_6 fQ2_6 sQ_6; obtain ⟨cQ0_7, cQ1_7, cQ2_7, fQ0_7, fQ1_7, fQ2_7, sQ_7⟩ := Q7.open3; obtain ⟨ap7, kp7, rfl, -⟩ := p7.view; try simp only [List.length_nil] at p7)
      | (go_at_call 39; (with_reducible refine (HP2.out _ _ (g7.below (below_alloc _ _)) (T7.below (below_alloc _ _))).mono ?_); rintro e w8 ⟨vq8, rfl, q8, hb8⟩; have hb8' := (below_a hb8); have B8 := B7.trans (hb8'.mono B7.size); have m8 := m7.below hb8'; have g8 := g7.below hb8'; have T8 := T7.below hb8'; have P8 := P7.below hb8'; have Q8 := Q7.below hb8'; have d8 := d7.below hb8'; have f8 := f7.below hb8'; have p8 := p7.below hb8'; clear m7 g7 T7 P7 Q7 d7 f7 p7; have U8 := blk_new.below hb8; clear cP0_7 cP1_7 cP2_7 fP0_7 fP1_7 fP2_7 sP_7; obtain ⟨cP0_8, cP1_8, cP2_8, fP0_8, fP1_8, fP2_8, sP_8⟩ := P8.open3; clear cQ0_7 cQ1_7 cQ2_7 fQ0_7 fQ1_7 fQ2_7 sQ_7; obtain ⟨cQ0_8, cQ1_8, cQ2_8, fQ0_8, fQ1_8, fQ2_8, sQ_8⟩ := Q8.open3; obtain ⟨cU0_8, cU1_8, cU2_8, fU0_8, fU1_8, fU2_8, sU_8⟩ := U8.open3; obtain ⟨aq8, kq8, rfl, -⟩ := q8.view; try simp only [List.length_nil] at q8)
      | (go_at_call 22; (with_reducible refine (HC.out _ _ _ (p8.below (below_alloc _ _)) (q8.below (below_alloc _ _)) (T8.below (below_alloc _ _))).mono ?_); rintro e w9 ⟨rfl, hb9⟩; have hb9' := (below_a hb9); have B9 := B8.trans (hb9'.mono B8.size); have m9 := m8.below hb9'; have g9 := g8.below hb9'; have T9 := T8.below hb9'; have P9 := P8.below hb9'; have Q9 := Q8.below hb9'; have d9 := d8.below hb9'; have f9 := f8.below hb9'; have p9 := p8.below hb9'; have U9 := U8.below hb9'; have q9 := q8.below hb9'; clear m8 g8 T8 P8 Q8 d8 f8 p8 U8 q8; have V9 := blk_new.below hb9; clear cP0_8 cP1_8 cP2_8 fP0_8 fP1_8 fP2_8 sP_8; obtain ⟨cP0_9, cP1_9, cP2_9, fP0_9, fP1_9, fP2_9, sP_9⟩ := P9.open3; clear cQ0_8 cQ1_8 cQ2_8 fQ0_8 fQ1_8 fQ2_8 sQ_8; obtain ⟨cQ0_9, cQ1_9, cQ2_9, fQ0_9, fQ1_9, fQ2_9, sQ_9⟩ := Q9.open3; clear cU0_8 cU1_8 cU2_8 fU0_8 fU1_8 fU2_8 sU_8; obtain ⟨cU0_9, cU1_9, cU2_9, fU0_9, fU1_9, fU2_9, sU_9⟩ := U9.open3; obtain ⟨cV0_9, cV1_9, cV2_9, fV0_9, fV1_9, fV2_9, sV_9⟩ := V9.open3)
      | fail)
    all_goals
      go_ret2
      exact ⟨rfl, by assumption⟩
  · have hmd : decide (0 ≤ m) = false := decide_eq_false hm0
    have HA := Lib.hid (fun w v u (h : RdN w v (digs BB P)) (k : RdN w u (digs BB Q)) (hT : Tab w) => against_n h k hT sP sQ oP oQ aEp aEq (hc2 (by omega)))
    clear hc1 hc2 hsP hsQ bP bQ
    go_enter Tryd.func17, Tryd.ntmps17
    go_wp2_with
    (first
      | (go_at_call 29; (with_reducible refine (Bare_ok (h.below below_2) (hT.below below_2) h1 h2 ee.out hf).mono ?_); rintro e w1 ⟨vd1, rfl, d1, hb1⟩; have B1 := below_2.trans (hb1.mono below_2.size); have m1 := ((h.below below_2)).below hb1; have g1 := ((h'.below below_2)).below hb1; have T1 := ((hT.below below_2)).below hb1; have P1 := ((blk_a1)).below hb1; have Q1 := ((blk_a2)).below hb1; obtain ⟨cP0_1, cP1_1, cP2_1, fP0_1, fP1_1, fP2_1, sP_1⟩ := P1.open3; obtain ⟨cQ0_1, cQ1_1, cQ2_1, fQ0_1, fQ1_1, fQ2_1, sQ_1⟩ := Q1.open3; obtain ⟨ad1, kd1, rfl, -⟩ := d1.view; try simp only [List.length_nil] at d1)
      | (go_at_call 29; (with_reducible refine (Bare_ok (g1.below (below_alloc _ _)) (T1.below (below_alloc _ _)) h3 h4 ee2.out hf2).mono ?_); rintro e w2 ⟨vf2, rfl, f2, hb2⟩; have hb2' := (below_a hb2); have B2 := B1.trans (hb2'.mono B1.size); have m2 := m1.below hb2'; have g2 := g1.below hb2'; have T2 := T1.below hb2'; have P2 := P1.below hb2'; have Q2 := Q1.below hb2'; have d2 := d1.below hb2'; clear m1 g1 T1 P1 Q1 d1; clear cP0_1 cP1_1 cP2_1 fP0_1 fP1_1 fP2_1 sP_1; obtain ⟨cP0_2, cP1_2, cP2_2, fP0_2, fP1_2, fP2_2, sP_2⟩ := P2.open3; clear cQ0_1 cQ1_1 cQ2_1 fQ0_1 fQ1_1 fQ2_1 sQ_1; obtain ⟨cQ0_2, cQ1_2, cQ2_2, fQ0_2, fQ1_2, fQ2_2, sQ_2⟩ := Q2.open3; obtain ⟨af2, kf2, rfl, -⟩ := f2.view; try simp only [List.length_nil] at f2)
      | (go_at_call 24; (with_reducible refine (Sign_n (m2.below (below_alloc _ _)) es.out).mono ?_); rintro e w3 ⟨rfl, hb3⟩; have hb3' := (below_a hb3); have B3 := B2.trans (hb3'.mono B2.size); have m3 := m2.below hb3'; have g3 := g2.below hb3'; have T3 := T2.below hb3'; have P3 := P2.below hb3'; have Q3 := Q2.below hb3'; have d3 := d2.below hb3'; have f3 := f2.below hb3'; clear m2 g2 T2 P2 Q2 d2 f2; clear cP0_2 cP1_2 cP2_2 fP0_2 fP1_2 fP2_2 sP_2; obtain ⟨cP0_3, cP1_3, cP2_3, fP0_3, fP1_3, fP2_3, sP_3⟩ := P3.open3; clear cQ0_2 cQ1_2 cQ2_2 fQ0_2 fQ1_2 fQ2_2 sQ_2; obtain ⟨cQ0_3, cQ1_3, cQ2_3, fQ0_3, fQ1_3, fQ2_3, sQ_3⟩ := Q3.open3)
      | (go_at_call 24; (with_reducible refine (Sign_n g3 es2.out).mono ?_); rintro e w4 ⟨rfl, hb4⟩; have B4 := B3.trans (hb4.mono B3.size); have m4 := m3.below hb4; have g4 := g3.below hb4; have T4 := T3.below hb4; have P4 := P3.below hb4; have Q4 := Q3.below hb4; have d4 := d3.below hb4; have f4 := f3.below hb4; clear m3 g3 T3 P3 Q3 d3 f3; clear cP0_3 cP1_3 cP2_3 fP0_3 fP1_3 fP2_3 sP_3; obtain ⟨cP0_4, cP1_4, cP2_4, fP0_4, fP1_4, fP2_4, sP_4⟩ := P4.open3; clear cQ0_3 cQ1_3 cQ2_3 fQ0_3 fQ1_3 fQ2_3 sQ_3; obtain ⟨cQ0_4, cQ1_4, cQ2_4, fQ0_4, fQ1_4, fQ2_4, sQ_4⟩ := Q4.open3)
      | (go_at_call 10; (with_reducible refine (HF1.out _ _ m4 T4).mono ?_); rintro e w5 ⟨rfl, hb5⟩; have B5 := B4.trans (hb5.mono B4.size); have m5 := m4.below hb5; have g5 := g4.below hb5; have T5 := T4.below hb5; have P5 := P4.below hb5; have Q5 := Q4.below hb5; have d5 := d4.below hb5; have f5 := f4.below hb5; clear m4 g4 T4 P4 Q4 d4 f4; clear cP0_4 cP1_4 cP2_4 fP0_4 fP1_4 fP2_4 sP_4; obtain ⟨cP0_5, cP1_5, cP2_5, fP0_5, fP1_5, fP2_5, sP_5⟩ := P5.open3; clear cQ0_4 cQ1_4 cQ2_4 fQ0_4 fQ1_4 fQ2_4 sQ_4; obtain ⟨cQ0_5, cQ1_5, cQ2_5, fQ0_5, fQ1_5, fQ2_5, sQ_5⟩ := Q5.open3)
      | (go_at_call 10; (with_reducible refine (HF2.out _ _ g5 T5).mono ?_); rintro e w6 ⟨rfl, hb6⟩; have B6 := B5.trans (hb6.mono B5.size); have m6 := m5.below hb6; have g6 := g5.below hb6; have T6 := T5.below hb6; have P6 := P5.below hb6; have Q6 := Q5.below hb6; have d6 := d5.below hb6; have f6 := f5.below hb6; clear m5 g5 T5 P5 Q5 d5 f5; clear cP0_5 cP1_5 cP2_5 fP0_5 fP1_5 fP2_5 sP_5; obtain ⟨cP0_6, cP1_6, cP2_6, fP0_6, fP1_6, fP2_6, sP_6⟩ := P6.open3; clear cQ0_5 cQ1_5 cQ2_5 fQ0_5 fQ1_5 fQ2_5 sQ_5; obtain ⟨cQ0_6, cQ1_6, cQ2_6, fQ0_6, fQ1_6, fQ2_6, sQ_6⟩ := Q6.open3)
      | (go_at_call 39; (with_reducible refine (HP1.out _ _ m6 T6).mono ?_); rintro e w7 ⟨vp7, rfl, p7, hb7⟩; have B7 := B6.trans (hb7.mono B6.size); have m7 := m6.below hb7; have g7 := g6.below hb7; have T7 := T6.below hb7; have P7 := P6.below hb7; have Q7 := Q6.below hb7; have d7 := d6.below hb7; have f7 := f6.below hb7; clear m6 g6 T6 P6 Q6 d6 f6; clear cP0_6 cP1_6 cP2_6 fP0_6 fP1_6 fP2_6 sP_6; obtain ⟨cP0_7, cP1_7, cP2_7, fP0_7, fP1_7, fP2_7, sP_7⟩ := P7.open3; clear cQ0_6 cQ1_6 cQ2_6 fQ0_6 fQ1_6 fQ2_6 sQ_6; obtain ⟨cQ0_7, cQ1_7, cQ2_7, fQ0_7, fQ1_7, fQ2_7, sQ_7⟩ := Q7.open3; obtain ⟨ap7, kp7, rfl, -⟩ := p7.view; try simp only [List.length_nil] at p7)
      | (go_at_call 39; (with_reducible refine (HP2.out _ _ (g7.below (below_alloc _ _)) (T7.below (below_alloc _ _))).mono ?_); rintro e w8 ⟨vq8, rfl, q8, hb8⟩; have hb8' := (below_a hb8); have B8 := B7.trans (hb8'.mono B7.size); have m8 := m7.below hb8'; have g8 := g7.below hb8'; have T8 := T7.below hb8'; have P8 := P7.below hb8'; have Q8 := Q7.below hb8'; have d8 := d7.below hb8'; have f8 := f7.below hb8'; have p8 := p7.below hb8'; clear m7 g7 T7 P7 Q7 d7 f7 p7; have U8 := blk_new.below hb8; clear cP0_7 cP1_7 cP2_7 fP0_7 fP1_7 fP2_7 sP_7; obtain ⟨cP0_8, cP1_8, cP2_8, fP0_8, fP1_8, fP2_8, sP_8⟩ := P8.open3; clear cQ0_7 cQ1_7 cQ2_7 fQ0_7 fQ1_7 fQ2_7 sQ_7; obtain ⟨cQ0_8, cQ1_8, cQ2_8, fQ0_8, fQ1_8, fQ2_8, sQ_8⟩ := Q8.open3; obtain ⟨cU0_8, cU1_8, cU2_8, fU0_8, fU1_8, fU2_8, sU_8⟩ := U8.open3; obtain ⟨aq8, kq8, rfl, -⟩ := q8.view; try simp only [List.length_nil] at q8)
      | (go_at_call 40; (with_reducible refine (HA.out _ _ _ (p8.below (below_alloc _ _)) (q8.below (below_alloc _ _)) (T8.below (below_alloc _ _))).mono ?_); rintro e w9 ⟨rfl, hb9⟩; have hb9' := (below_a hb9); have B9 := B8.trans (hb9'.mono B8.size); have m9 := m8.below hb9'; have g9 := g8.below hb9'; have T9 := T8.below hb9'; have P9 := P8.below hb9'; have Q9 := Q8.below hb9'; have d9 := d8.below hb9'; have f9 := f8.below hb9'; have p9 := p8.below hb9'; have U9 := U8.below hb9'; have q9 := q8.below hb9'; clear m8 g8 T8 P8 Q8 d8 f8 p8 U8 q8; have V9 := blk_new.below hb9; clear cP0_8 cP1_8 cP2_8 fP0_8 fP1_8 fP2_8 sP_8; obtain ⟨cP0_9, cP1_9, cP2_9, fP0_9, fP1_9, fP2_9, sP_9⟩ := P9.open3; clear cQ0_8 cQ1_8 cQ2_8 fQ0_8 fQ1_8 fQ2_8 sQ_8; obtain ⟨cQ0_9, cQ1_9, cQ2_9, fQ0_9, fQ1_9, fQ2_9, sQ_9⟩ := Q9.open3; clear cU0_8 cU1_8 cU2_8 fU0_8 fU1_8 fU2_8 sU_8; obtain ⟨cU0_9, cU1_9, cU2_9, fU0_9, fU1_9, fU2_9, sU_9⟩ := U9.open3; obtain ⟨cV0_9, cV1_9, cV2_9, fV0_9, fV1_9, fV2_9, sV_9⟩ := V9.open3)
      | fail)
    all_goals
      go_ret2
      exact ⟨rfl, by assumption⟩


set_option maxRecDepth 100000 in
set_option maxHeartbeats 1000000 in
theorem rCmp_arg {w : World} {v u : Value} {neg n' neg2 n2' : Bool} {M M' M2 M2' : Nat} {E E' E2 E2' m k s s2 : Int} (h : Num w v M) (h' : Num w u M2) (hT : Tab w) (h1 : -9223372036854775808 ≤ E) (h2 : E ≤ 9223372036854775807) (h3 : -9223372036854775808 ≤ E2) (h4 : E2 ≤ 9223372036854775807)
    (e : bareD ⟨neg, M, E⟩ = ⟨n', M', E'⟩) (e2 : bareD ⟨neg2, M2, E2⟩ = ⟨n2', M2', E2'⟩) (hs : signD ⟨neg, M, E⟩ = s) (hs2 : signD ⟨neg2, M2, E2⟩ = s2) (hx : fitsE E' = false ∨ fitsE E2' = false ∨ s ≤ 0 ∨ s2 ≤ 0 ∨ k < 1) :
    Calls Tryd.prog 17 #[.agg #[.bool neg, v, .int .i64 E], .int .i64 m, .agg #[.bool neg2, u, .int .i64 E2], .int .i64 k] w (fun e w' => e = .returned (.tuple #[.int .i64 0, .int .i64 1]) ∧ Below w.heap.size w w') := by
  obtain ⟨av, nv, kv, rfl⟩ := h.slice
  obtain ⟨au, nu, ku, rfl⟩ := h'.slice
  have ee := Lib.hid e; have ee2 := Lib.hid e2; have es := Lib.hid hs; have es2 := Lib.hid hs2
  clear e e2 hs hs2
  by_cases c1 : fitsE E' = false
  · have hf := c1
    clear hx
    by_cases c2 : fitsE E2' = false
    · have hf2 := c2
      go_enter Tryd.func17, Tryd.ntmps17
      go_wp2_with
        (first
          | (go_at_call 29; (with_reducible refine (Bare_long (h.below below_2) (hT.below below_2) h1 h2 ee.out hf).mono ?_); rintro e w1 ⟨rfl, hb1⟩; have B1 := below_2.trans (hb1.mono below_2.size); have m1 := ((h.below below_2)).below hb1; have g1 := ((h'.below below_2)).below hb1; have T1 := ((hT.below below_2)).below hb1; have P1 := ((blk_a1)).below hb1; have Q1 := ((blk_a2)).below hb1; obtain ⟨cP0_1, cP1_1, cP2_1, fP0_1, fP1_1, fP2_1, sP_1⟩ := P1.open3; obtain ⟨cQ0_1, cQ1_1, cQ2_1, fQ0_1, fQ1_1, fQ2_1, sQ_1⟩ := Q1.open3)
          | (go_at_call 29; (with_reducible refine (Bare_long (g1.below (below_alloc _ _)) (T1.below (below_alloc _ _)) h3 h4 ee2.out hf2).mono ?_); rintro e w2 ⟨rfl, hb2⟩; have hb2' := (below_a hb2); have B2 := B1.trans (hb2'.mono B1.size); have m2 := m1.below hb2'; have g2 := g1.below hb2'; have T2 := T1.below hb2'; have P2 := P1.below hb2'; have Q2 := Q1.below hb2'; clear m1 g1 T1 P1 Q1; clear cP0_1 cP1_1 cP2_1 fP0_1 fP1_1 fP2_1 sP_1; obtain ⟨cP0_2, cP1_2, cP2_2, fP0_2, fP1_2, fP2_2, sP_2⟩ := P2.open3; clear cQ0_1 cQ1_1 cQ2_1 fQ0_1 fQ1_1 fQ2_1 sQ_1; obtain ⟨cQ0_2, cQ1_2, cQ2_2, fQ0_2, fQ1_2, fQ2_2, sQ_2⟩ := Q2.open3)
          | fail)
      all_goals
        go_ret2
        exact ⟨rfl, by first | assumption | exact below_right (by assumption) _⟩
    · have hf2 : fitsE E2' = true := by simpa using c2
      go_enter Tryd.func17, Tryd.ntmps17
      go_wp2_with
        (first
          | (go_at_call 29; (with_reducible refine (Bare_long (h.below below_2) (hT.below below_2) h1 h2 ee.out hf).mono ?_); rintro e w1 ⟨rfl, hb1⟩; have B1 := below_2.trans (hb1.mono below_2.size); have m1 := ((h.below below_2)).below hb1; have g1 := ((h'.below below_2)).below hb1; have T1 := ((hT.below below_2)).below hb1; have P1 := ((blk_a1)).below hb1; have Q1 := ((blk_a2)).below hb1; obtain ⟨cP0_1, cP1_1, cP2_1, fP0_1, fP1_1, fP2_1, sP_1⟩ := P1.open3; obtain ⟨cQ0_1, cQ1_1, cQ2_1, fQ0_1, fQ1_1, fQ2_1, sQ_1⟩ := Q1.open3)
          | (go_at_call 29; (with_reducible refine (Bare_ok (g1.below (below_alloc _ _)) (T1.below (below_alloc _ _)) h3 h4 ee2.out hf2).mono ?_); rintro e w2 ⟨vf2, rfl, f2, hb2⟩; have hb2' := (below_a hb2); have B2 := B1.trans (hb2'.mono B1.size); have m2 := m1.below hb2'; have g2 := g1.below hb2'; have T2 := T1.below hb2'; have P2 := P1.below hb2'; have Q2 := Q1.below hb2'; clear m1 g1 T1 P1 Q1; clear cP0_1 cP1_1 cP2_1 fP0_1 fP1_1 fP2_1 sP_1; obtain ⟨cP0_2, cP1_2, cP2_2, fP0_2, fP1_2, fP2_2, sP_2⟩ := P2.open3; clear cQ0_1 cQ1_1 cQ2_1 fQ0_1 fQ1_1 fQ2_1 sQ_1; obtain ⟨cQ0_2, cQ1_2, cQ2_2, fQ0_2, fQ1_2, fQ2_2, sQ_2⟩ := Q2.open3; obtain ⟨af2, kf2, rfl, -⟩ := f2.view; try simp only [List.length_nil] at f2)
          | fail)
      all_goals
        go_ret2
        exact ⟨rfl, by first | assumption | exact below_right (by assumption) _⟩
  · have hf : fitsE E' = true := by simpa using c1
    by_cases c2 : fitsE E2' = false
    · have hf2 := c2
      clear hx
      go_enter Tryd.func17, Tryd.ntmps17
      go_wp2_with
        (first
          | (go_at_call 29; (with_reducible refine (Bare_ok (h.below below_2) (hT.below below_2) h1 h2 ee.out hf).mono ?_); rintro e w1 ⟨vd1, rfl, d1, hb1⟩; have B1 := below_2.trans (hb1.mono below_2.size); have m1 := ((h.below below_2)).below hb1; have g1 := ((h'.below below_2)).below hb1; have T1 := ((hT.below below_2)).below hb1; have P1 := ((blk_a1)).below hb1; have Q1 := ((blk_a2)).below hb1; obtain ⟨cP0_1, cP1_1, cP2_1, fP0_1, fP1_1, fP2_1, sP_1⟩ := P1.open3; obtain ⟨cQ0_1, cQ1_1, cQ2_1, fQ0_1, fQ1_1, fQ2_1, sQ_1⟩ := Q1.open3; obtain ⟨ad1, kd1, rfl, -⟩ := d1.view; try simp only [List.length_nil] at d1)
          | (go_at_call 29; (with_reducible refine (Bare_long (g1.below (below_alloc _ _)) (T1.below (below_alloc _ _)) h3 h4 ee2.out hf2).mono ?_); rintro e w2 ⟨rfl, hb2⟩; have hb2' := (below_a hb2); have B2 := B1.trans (hb2'.mono B1.size); have m2 := m1.below hb2'; have g2 := g1.below hb2'; have T2 := T1.below hb2'; have P2 := P1.below hb2'; have Q2 := Q1.below hb2'; have d2 := d1.below hb2'; clear m1 g1 T1 P1 Q1 d1; clear cP0_1 cP1_1 cP2_1 fP0_1 fP1_1 fP2_1 sP_1; obtain ⟨cP0_2, cP1_2, cP2_2, fP0_2, fP1_2, fP2_2, sP_2⟩ := P2.open3; clear cQ0_1 cQ1_1 cQ2_1 fQ0_1 fQ1_1 fQ2_1 sQ_1; obtain ⟨cQ0_2, cQ1_2, cQ2_2, fQ0_2, fQ1_2, fQ2_2, sQ_2⟩ := Q2.open3)
          | fail)
      all_goals
        go_ret2
        exact ⟨rfl, by first | assumption | exact below_right (by assumption) _⟩
    · have hf2 : fitsE E2' = true := by simpa using c2
      by_cases c3 : s ≤ 0
      · have hd3 : decide (s ≤ 0) = true := decide_eq_true c3
        clear hx
        go_enter Tryd.func17, Tryd.ntmps17
        go_wp2_with
          (first
            | (go_at_call 29; (with_reducible refine (Bare_ok (h.below below_2) (hT.below below_2) h1 h2 ee.out hf).mono ?_); rintro e w1 ⟨vd1, rfl, d1, hb1⟩; have B1 := below_2.trans (hb1.mono below_2.size); have m1 := ((h.below below_2)).below hb1; have g1 := ((h'.below below_2)).below hb1; have T1 := ((hT.below below_2)).below hb1; have P1 := ((blk_a1)).below hb1; have Q1 := ((blk_a2)).below hb1; obtain ⟨cP0_1, cP1_1, cP2_1, fP0_1, fP1_1, fP2_1, sP_1⟩ := P1.open3; obtain ⟨cQ0_1, cQ1_1, cQ2_1, fQ0_1, fQ1_1, fQ2_1, sQ_1⟩ := Q1.open3; obtain ⟨ad1, kd1, rfl, -⟩ := d1.view; try simp only [List.length_nil] at d1)
            | (go_at_call 29; (with_reducible refine (Bare_ok (g1.below (below_alloc _ _)) (T1.below (below_alloc _ _)) h3 h4 ee2.out hf2).mono ?_); rintro e w2 ⟨vf2, rfl, f2, hb2⟩; have hb2' := (below_a hb2); have B2 := B1.trans (hb2'.mono B1.size); have m2 := m1.below hb2'; have g2 := g1.below hb2'; have T2 := T1.below hb2'; have P2 := P1.below hb2'; have Q2 := Q1.below hb2'; have d2 := d1.below hb2'; clear m1 g1 T1 P1 Q1 d1; clear cP0_1 cP1_1 cP2_1 fP0_1 fP1_1 fP2_1 sP_1; obtain ⟨cP0_2, cP1_2, cP2_2, fP0_2, fP1_2, fP2_2, sP_2⟩ := P2.open3; clear cQ0_1 cQ1_1 cQ2_1 fQ0_1 fQ1_1 fQ2_1 sQ_1; obtain ⟨cQ0_2, cQ1_2, cQ2_2, fQ0_2, fQ1_2, fQ2_2, sQ_2⟩ := Q2.open3; obtain ⟨af2, kf2, rfl, -⟩ := f2.view; try simp only [List.length_nil] at f2)
            | (go_at_call 24; (with_reducible refine (Sign_n (m2.below (below_alloc _ _)) es.out).mono ?_); rintro e w3 ⟨rfl, hb3⟩; have hb3' := (below_a hb3); have B3 := B2.trans (hb3'.mono B2.size); have m3 := m2.below hb3'; have g3 := g2.below hb3'; have T3 := T2.below hb3'; have P3 := P2.below hb3'; have Q3 := Q2.below hb3'; have d3 := d2.below hb3'; have f3 := f2.below hb3'; clear m2 g2 T2 P2 Q2 d2 f2; clear cP0_2 cP1_2 cP2_2 fP0_2 fP1_2 fP2_2 sP_2; obtain ⟨cP0_3, cP1_3, cP2_3, fP0_3, fP1_3, fP2_3, sP_3⟩ := P3.open3; clear cQ0_2 cQ1_2 cQ2_2 fQ0_2 fQ1_2 fQ2_2 sQ_2; obtain ⟨cQ0_3, cQ1_3, cQ2_3, fQ0_3, fQ1_3, fQ2_3, sQ_3⟩ := Q3.open3)
            | fail)
        all_goals
          go_ret2
          exact ⟨rfl, by first | assumption | exact below_right (by assumption) _⟩
      · have hd3 : decide (s ≤ 0) = false := decide_eq_false c3
        by_cases c4 : s2 ≤ 0
        · have hd4 : decide (s2 ≤ 0) = true := decide_eq_true c4
          clear hx
          go_enter Tryd.func17, Tryd.ntmps17
          go_wp2_with
            (first
              | (go_at_call 29; (with_reducible refine (Bare_ok (h.below below_2) (hT.below below_2) h1 h2 ee.out hf).mono ?_); rintro e w1 ⟨vd1, rfl, d1, hb1⟩; have B1 := below_2.trans (hb1.mono below_2.size); have m1 := ((h.below below_2)).below hb1; have g1 := ((h'.below below_2)).below hb1; have T1 := ((hT.below below_2)).below hb1; have P1 := ((blk_a1)).below hb1; have Q1 := ((blk_a2)).below hb1; obtain ⟨cP0_1, cP1_1, cP2_1, fP0_1, fP1_1, fP2_1, sP_1⟩ := P1.open3; obtain ⟨cQ0_1, cQ1_1, cQ2_1, fQ0_1, fQ1_1, fQ2_1, sQ_1⟩ := Q1.open3; obtain ⟨ad1, kd1, rfl, -⟩ := d1.view; try simp only [List.length_nil] at d1)
              | (go_at_call 29; (with_reducible refine (Bare_ok (g1.below (below_alloc _ _)) (T1.below (below_alloc _ _)) h3 h4 ee2.out hf2).mono ?_); rintro e w2 ⟨vf2, rfl, f2, hb2⟩; have hb2' := (below_a hb2); have B2 := B1.trans (hb2'.mono B1.size); have m2 := m1.below hb2'; have g2 := g1.below hb2'; have T2 := T1.below hb2'; have P2 := P1.below hb2'; have Q2 := Q1.below hb2'; have d2 := d1.below hb2'; clear m1 g1 T1 P1 Q1 d1; clear cP0_1 cP1_1 cP2_1 fP0_1 fP1_1 fP2_1 sP_1; obtain ⟨cP0_2, cP1_2, cP2_2, fP0_2, fP1_2, fP2_2, sP_2⟩ := P2.open3; clear cQ0_1 cQ1_1 cQ2_1 fQ0_1 fQ1_1 fQ2_1 sQ_1; obtain ⟨cQ0_2, cQ1_2, cQ2_2, fQ0_2, fQ1_2, fQ2_2, sQ_2⟩ := Q2.open3; obtain ⟨af2, kf2, rfl, -⟩ := f2.view; try simp only [List.length_nil] at f2)
              | (go_at_call 24; (with_reducible refine (Sign_n (m2.below (below_alloc _ _)) es.out).mono ?_); rintro e w3 ⟨rfl, hb3⟩; have hb3' := (below_a hb3); have B3 := B2.trans (hb3'.mono B2.size); have m3 := m2.below hb3'; have g3 := g2.below hb3'; have T3 := T2.below hb3'; have P3 := P2.below hb3'; have Q3 := Q2.below hb3'; have d3 := d2.below hb3'; have f3 := f2.below hb3'; clear m2 g2 T2 P2 Q2 d2 f2; clear cP0_2 cP1_2 cP2_2 fP0_2 fP1_2 fP2_2 sP_2; obtain ⟨cP0_3, cP1_3, cP2_3, fP0_3, fP1_3, fP2_3, sP_3⟩ := P3.open3; clear cQ0_2 cQ1_2 cQ2_2 fQ0_2 fQ1_2 fQ2_2 sQ_2; obtain ⟨cQ0_3, cQ1_3, cQ2_3, fQ0_3, fQ1_3, fQ2_3, sQ_3⟩ := Q3.open3)
              | (go_at_call 24; (with_reducible refine (Sign_n g3 es2.out).mono ?_); rintro e w4 ⟨rfl, hb4⟩; have B4 := B3.trans (hb4.mono B3.size); have m4 := m3.below hb4; have g4 := g3.below hb4; have T4 := T3.below hb4; have P4 := P3.below hb4; have Q4 := Q3.below hb4; have d4 := d3.below hb4; have f4 := f3.below hb4; clear m3 g3 T3 P3 Q3 d3 f3; clear cP0_3 cP1_3 cP2_3 fP0_3 fP1_3 fP2_3 sP_3; obtain ⟨cP0_4, cP1_4, cP2_4, fP0_4, fP1_4, fP2_4, sP_4⟩ := P4.open3; clear cQ0_3 cQ1_3 cQ2_3 fQ0_3 fQ1_3 fQ2_3 sQ_3; obtain ⟨cQ0_4, cQ1_4, cQ2_4, fQ0_4, fQ1_4, fQ2_4, sQ_4⟩ := Q4.open3)
              | fail)
          all_goals
            go_ret2
            exact ⟨rfl, by first | assumption | exact below_right (by assumption) _⟩
        · have hd4 : decide (s2 ≤ 0) = false := decide_eq_false c4
          have c5 : k < 1 := by
            rcases hx with h | h | h | h | h
            · exact absurd h c1
            · exact absurd h c2
            · exact absurd h c3
            · exact absurd h c4
            · exact h
          have hd5 : decide (k < 1) = true := decide_eq_true c5
          clear hx
          go_enter Tryd.func17, Tryd.ntmps17
          go_wp2_with
            (first
              | (go_at_call 29; (with_reducible refine (Bare_ok (h.below below_2) (hT.below below_2) h1 h2 ee.out hf).mono ?_); rintro e w1 ⟨vd1, rfl, d1, hb1⟩; have B1 := below_2.trans (hb1.mono below_2.size); have m1 := ((h.below below_2)).below hb1; have g1 := ((h'.below below_2)).below hb1; have T1 := ((hT.below below_2)).below hb1; have P1 := ((blk_a1)).below hb1; have Q1 := ((blk_a2)).below hb1; obtain ⟨cP0_1, cP1_1, cP2_1, fP0_1, fP1_1, fP2_1, sP_1⟩ := P1.open3; obtain ⟨cQ0_1, cQ1_1, cQ2_1, fQ0_1, fQ1_1, fQ2_1, sQ_1⟩ := Q1.open3; obtain ⟨ad1, kd1, rfl, -⟩ := d1.view; try simp only [List.length_nil] at d1)
              | (go_at_call 29; (with_reducible refine (Bare_ok (g1.below (below_alloc _ _)) (T1.below (below_alloc _ _)) h3 h4 ee2.out hf2).mono ?_); rintro e w2 ⟨vf2, rfl, f2, hb2⟩; have hb2' := (below_a hb2); have B2 := B1.trans (hb2'.mono B1.size); have m2 := m1.below hb2'; have g2 := g1.below hb2'; have T2 := T1.below hb2'; have P2 := P1.below hb2'; have Q2 := Q1.below hb2'; have d2 := d1.below hb2'; clear m1 g1 T1 P1 Q1 d1; clear cP0_1 cP1_1 cP2_1 fP0_1 fP1_1 fP2_1 sP_1; obtain ⟨cP0_2, cP1_2, cP2_2, fP0_2, fP1_2, fP2_2, sP_2⟩ := P2.open3; clear cQ0_1 cQ1_1 cQ2_1 fQ0_1 fQ1_1 fQ2_1 sQ_1; obtain ⟨cQ0_2, cQ1_2, cQ2_2, fQ0_2, fQ1_2, fQ2_2, sQ_2⟩ := Q2.open3; obtain ⟨af2, kf2, rfl, -⟩ := f2.view; try simp only [List.length_nil] at f2)
              | (go_at_call 24; (with_reducible refine (Sign_n (m2.below (below_alloc _ _)) es.out).mono ?_); rintro e w3 ⟨rfl, hb3⟩; have hb3' := (below_a hb3); have B3 := B2.trans (hb3'.mono B2.size); have m3 := m2.below hb3'; have g3 := g2.below hb3'; have T3 := T2.below hb3'; have P3 := P2.below hb3'; have Q3 := Q2.below hb3'; have d3 := d2.below hb3'; have f3 := f2.below hb3'; clear m2 g2 T2 P2 Q2 d2 f2; clear cP0_2 cP1_2 cP2_2 fP0_2 fP1_2 fP2_2 sP_2; obtain ⟨cP0_3, cP1_3, cP2_3, fP0_3, fP1_3, fP2_3, sP_3⟩ := P3.open3; clear cQ0_2 cQ1_2 cQ2_2 fQ0_2 fQ1_2 fQ2_2 sQ_2; obtain ⟨cQ0_3, cQ1_3, cQ2_3, fQ0_3, fQ1_3, fQ2_3, sQ_3⟩ := Q3.open3)
              | (go_at_call 24; (with_reducible refine (Sign_n g3 es2.out).mono ?_); rintro e w4 ⟨rfl, hb4⟩; have B4 := B3.trans (hb4.mono B3.size); have m4 := m3.below hb4; have g4 := g3.below hb4; have T4 := T3.below hb4; have P4 := P3.below hb4; have Q4 := Q3.below hb4; have d4 := d3.below hb4; have f4 := f3.below hb4; clear m3 g3 T3 P3 Q3 d3 f3; clear cP0_3 cP1_3 cP2_3 fP0_3 fP1_3 fP2_3 sP_3; obtain ⟨cP0_4, cP1_4, cP2_4, fP0_4, fP1_4, fP2_4, sP_4⟩ := P4.open3; clear cQ0_3 cQ1_3 cQ2_3 fQ0_3 fQ1_3 fQ2_3 sQ_3; obtain ⟨cQ0_4, cQ1_4, cQ2_4, fQ0_4, fQ1_4, fQ2_4, sQ_4⟩ := Q4.open3)
              | fail)
          all_goals
            go_ret2
            exact ⟨rfl, by first | assumption | exact below_right (by assumption) _⟩
end Go.Proofs.YtegpfmfobeigfaaDoor
