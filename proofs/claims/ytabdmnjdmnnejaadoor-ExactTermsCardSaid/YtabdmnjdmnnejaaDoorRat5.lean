/- ratio.Cmp where a power is too long. Conditions: the numbers are short; math/bits' table stands in its variable. -/
import Derived.Test.YtabdmnjdmnnejaaDoorRatA
namespace Go.Proofs.YtabdmnjdmnnejaaDoor
set_option maxRecDepth 100000
open Go.RowKit Go.ChangeShapes Go.WideShapes


set_option maxRecDepth 100000 in
set_option maxHeartbeats 1000000 in
theorem rCmp_long {w : World} {v u : Value} {neg n' neg2 n2' : Bool} {M M' M2 M2' : Nat} {E E' E2 E2' m k s s2 : Int} {r1 r2 : Bool} (h : Num w v M) (h' : Num w u M2) (hT : Tab w) (h1 : -9223372036854775808 ≤ E) (h2 : E ≤ 9223372036854775807) (h3 : -9223372036854775808 ≤ E2) (h4 : E2 ≤ 9223372036854775807)
    (e : bareD ⟨neg, M, E⟩ = ⟨n', M', E'⟩) (e2 : bareD ⟨neg2, M2, E2⟩ = ⟨n2', M2', E2'⟩) (hf : fitsE E' = true) (hf2 : fitsE E2' = true) (hs : signD ⟨neg, M, E⟩ = s) (hs2 : signD ⟨neg2, M2, E2⟩ = s2) (c3 : 0 < s) (c4 : 0 < s2) (hk : 1 ≤ k) (hk2 : k ≤ 9223372036854775807) (hm1 : -9223372036854775808 ≤ m) (hm2 : m ≤ 9223372036854775807)
    (hr1 : (decide (bitN M' * m.natAbs ≤ 60000) && decide (E'.natAbs * m.natAbs ≤ 60000)) = r1) (hr2 : (decide (bitN M2' * k.natAbs ≤ 60000) && decide (E2'.natAbs * k.natAbs ≤ 60000)) = r2) (hx : (r1 && r2) = false) :
    Calls Tryd.prog 53 #[.agg #[.bool neg, v, .int .i64 E], .int .i64 m, .agg #[.bool neg2, u, .int .i64 E2], .int .i64 k] w (fun e w' => e = .returned (.tuple #[.int .i64 0, .int .i64 2]) ∧ Below w.heap.size w w') := by
  obtain ⟨av, nv, kv, rfl⟩ := h.slice
  obtain ⟨au, nu, ku, rfl⟩ := h'.slice
  have HF1 := Lib.hid (fun w v (h : Num w v M) (hT : Tab w) => Fits_n (m := m) (r := r1) h hT h1 h2 e hm1 hm2 (by rw [hf, Bool.true_and]; exact hr1))
  have HF2 := Lib.hid (fun w v (h : Num w v M2) (hT : Tab w) => Fits_n (m := k) (r := r2) h hT h3 h4 e2 (by omega) hk2 (by rw [hf2, Bool.true_and]; exact hr2))
  have ee := Lib.hid e; have ee2 := Lib.hid e2; have es := Lib.hid hs; have es2 := Lib.hid hs2
  have hd3 : decide (s ≤ 0) = false := decide_eq_false (by omega)
  have hd4 : decide (s2 ≤ 0) = false := decide_eq_false (by omega)
  have hd5 : decide (k < 1) = false := decide_eq_false (by omega)
  clear e e2 hs hs2 hr1 hr2
  cases r1
  · clear hx
    go_enter Tryd.func53, Tryd.ntmps53
    go_wp2_with
    (first
      | (go_at_call 17; (with_reducible refine (Bare_ok (h.below below_2) (hT.below below_2) h1 h2 ee.out hf).mono ?_); rintro e w1 ⟨vd1, rfl, d1, hb1⟩; have B1 := below_2.trans (hb1.mono below_2.size); have m1 := ((h.below below_2)).below hb1; have g1 := ((h'.below below_2)).below hb1; have T1 := ((hT.below below_2)).below hb1; have P1 := ((blk_a1)).below hb1; have Q1 := ((blk_a2)).below hb1; obtain ⟨cP0_1, cP1_1, cP2_1, fP0_1, fP1_1, fP2_1, sP_1⟩ := P1.open3; obtain ⟨cQ0_1, cQ1_1, cQ2_1, fQ0_1, fQ1_1, fQ2_1, sQ_1⟩ := Q1.open3; obtain ⟨ad1, kd1, rfl, -⟩ := d1.view; try simp only [List.length_nil] at d1)
      | (go_at_call 17; (with_reducible refine (Bare_ok (g1.below (below_alloc _ _)) (T1.below (below_alloc _ _)) h3 h4 ee2.out hf2).mono ?_); rintro e w2 ⟨vf2, rfl, f2, hb2⟩; have hb2' := (below_a hb2); have B2 := B1.trans (hb2'.mono B1.size); have m2 := m1.below hb2'; have g2 := g1.below hb2'; have T2 := T1.below hb2'; have P2 := P1.below hb2'; have Q2 := Q1.below hb2'; have d2 := d1.below hb2'; clear m1 g1 T1 P1 Q1 d1; clear cP0_1 cP1_1 cP2_1 fP0_1 fP1_1 fP2_1 sP_1; obtain ⟨cP0_2, cP1_2, cP2_2, fP0_2, fP1_2, fP2_2, sP_2⟩ := P2.open3; clear cQ0_1 cQ1_1 cQ2_1 fQ0_1 fQ1_1 fQ2_1 sQ_1; obtain ⟨cQ0_2, cQ1_2, cQ2_2, fQ0_2, fQ1_2, fQ2_2, sQ_2⟩ := Q2.open3; obtain ⟨af2, kf2, rfl, -⟩ := f2.view; try simp only [List.length_nil] at f2)
      | (go_at_call 18; (with_reducible refine (Sign_n (m2.below (below_alloc _ _)) es.out).mono ?_); rintro e w3 ⟨rfl, hb3⟩; have hb3' := (below_a hb3); have B3 := B2.trans (hb3'.mono B2.size); have m3 := m2.below hb3'; have g3 := g2.below hb3'; have T3 := T2.below hb3'; have P3 := P2.below hb3'; have Q3 := Q2.below hb3'; have d3 := d2.below hb3'; have f3 := f2.below hb3'; clear m2 g2 T2 P2 Q2 d2 f2; clear cP0_2 cP1_2 cP2_2 fP0_2 fP1_2 fP2_2 sP_2; obtain ⟨cP0_3, cP1_3, cP2_3, fP0_3, fP1_3, fP2_3, sP_3⟩ := P3.open3; clear cQ0_2 cQ1_2 cQ2_2 fQ0_2 fQ1_2 fQ2_2 sQ_2; obtain ⟨cQ0_3, cQ1_3, cQ2_3, fQ0_3, fQ1_3, fQ2_3, sQ_3⟩ := Q3.open3)
      | (go_at_call 18; (with_reducible refine (Sign_n g3 es2.out).mono ?_); rintro e w4 ⟨rfl, hb4⟩; have B4 := B3.trans (hb4.mono B3.size); have m4 := m3.below hb4; have g4 := g3.below hb4; have T4 := T3.below hb4; have P4 := P3.below hb4; have Q4 := Q3.below hb4; have d4 := d3.below hb4; have f4 := f3.below hb4; clear m3 g3 T3 P3 Q3 d3 f3; clear cP0_3 cP1_3 cP2_3 fP0_3 fP1_3 fP2_3 sP_3; obtain ⟨cP0_4, cP1_4, cP2_4, fP0_4, fP1_4, fP2_4, sP_4⟩ := P4.open3; clear cQ0_3 cQ1_3 cQ2_3 fQ0_3 fQ1_3 fQ2_3 sQ_3; obtain ⟨cQ0_4, cQ1_4, cQ2_4, fQ0_4, fQ1_4, fQ2_4, sQ_4⟩ := Q4.open3)
      | (go_at_call 76; (with_reducible refine (HF1.out _ _ m4 T4).mono ?_); rintro e w5 ⟨rfl, hb5⟩; have B5 := B4.trans (hb5.mono B4.size); have m5 := m4.below hb5; have g5 := g4.below hb5; have T5 := T4.below hb5; have P5 := P4.below hb5; have Q5 := Q4.below hb5; have d5 := d4.below hb5; have f5 := f4.below hb5; clear m4 g4 T4 P4 Q4 d4 f4; clear cP0_4 cP1_4 cP2_4 fP0_4 fP1_4 fP2_4 sP_4; obtain ⟨cP0_5, cP1_5, cP2_5, fP0_5, fP1_5, fP2_5, sP_5⟩ := P5.open3; clear cQ0_4 cQ1_4 cQ2_4 fQ0_4 fQ1_4 fQ2_4 sQ_4; obtain ⟨cQ0_5, cQ1_5, cQ2_5, fQ0_5, fQ1_5, fQ2_5, sQ_5⟩ := Q5.open3)
      | fail)
    all_goals
      go_ret2
      exact ⟨rfl, by first | assumption | exact below_right (by assumption) _⟩
  · rw [Bool.true_and] at hx
    subst hx
    go_enter Tryd.func53, Tryd.ntmps53
    go_wp2_with
    (first
      | (go_at_call 17; (with_reducible refine (Bare_ok (h.below below_2) (hT.below below_2) h1 h2 ee.out hf).mono ?_); rintro e w1 ⟨vd1, rfl, d1, hb1⟩; have B1 := below_2.trans (hb1.mono below_2.size); have m1 := ((h.below below_2)).below hb1; have g1 := ((h'.below below_2)).below hb1; have T1 := ((hT.below below_2)).below hb1; have P1 := ((blk_a1)).below hb1; have Q1 := ((blk_a2)).below hb1; obtain ⟨cP0_1, cP1_1, cP2_1, fP0_1, fP1_1, fP2_1, sP_1⟩ := P1.open3; obtain ⟨cQ0_1, cQ1_1, cQ2_1, fQ0_1, fQ1_1, fQ2_1, sQ_1⟩ := Q1.open3; obtain ⟨ad1, kd1, rfl, -⟩ := d1.view; try simp only [List.length_nil] at d1)
      | (go_at_call 17; (with_reducible refine (Bare_ok (g1.below (below_alloc _ _)) (T1.below (below_alloc _ _)) h3 h4 ee2.out hf2).mono ?_); rintro e w2 ⟨vf2, rfl, f2, hb2⟩; have hb2' := (below_a hb2); have B2 := B1.trans (hb2'.mono B1.size); have m2 := m1.below hb2'; have g2 := g1.below hb2'; have T2 := T1.below hb2'; have P2 := P1.below hb2'; have Q2 := Q1.below hb2'; have d2 := d1.below hb2'; clear m1 g1 T1 P1 Q1 d1; clear cP0_1 cP1_1 cP2_1 fP0_1 fP1_1 fP2_1 sP_1; obtain ⟨cP0_2, cP1_2, cP2_2, fP0_2, fP1_2, fP2_2, sP_2⟩ := P2.open3; clear cQ0_1 cQ1_1 cQ2_1 fQ0_1 fQ1_1 fQ2_1 sQ_1; obtain ⟨cQ0_2, cQ1_2, cQ2_2, fQ0_2, fQ1_2, fQ2_2, sQ_2⟩ := Q2.open3; obtain ⟨af2, kf2, rfl, -⟩ := f2.view; try simp only [List.length_nil] at f2)
      | (go_at_call 18; (with_reducible refine (Sign_n (m2.below (below_alloc _ _)) es.out).mono ?_); rintro e w3 ⟨rfl, hb3⟩; have hb3' := (below_a hb3); have B3 := B2.trans (hb3'.mono B2.size); have m3 := m2.below hb3'; have g3 := g2.below hb3'; have T3 := T2.below hb3'; have P3 := P2.below hb3'; have Q3 := Q2.below hb3'; have d3 := d2.below hb3'; have f3 := f2.below hb3'; clear m2 g2 T2 P2 Q2 d2 f2; clear cP0_2 cP1_2 cP2_2 fP0_2 fP1_2 fP2_2 sP_2; obtain ⟨cP0_3, cP1_3, cP2_3, fP0_3, fP1_3, fP2_3, sP_3⟩ := P3.open3; clear cQ0_2 cQ1_2 cQ2_2 fQ0_2 fQ1_2 fQ2_2 sQ_2; obtain ⟨cQ0_3, cQ1_3, cQ2_3, fQ0_3, fQ1_3, fQ2_3, sQ_3⟩ := Q3.open3)
      | (go_at_call 18; (with_reducible refine (Sign_n g3 es2.out).mono ?_); rintro e w4 ⟨rfl, hb4⟩; have B4 := B3.trans (hb4.mono B3.size); have m4 := m3.below hb4; have g4 := g3.below hb4; have T4 := T3.below hb4; have P4 := P3.below hb4; have Q4 := Q3.below hb4; have d4 := d3.below hb4; have f4 := f3.below hb4; clear m3 g3 T3 P3 Q3 d3 f3; clear cP0_3 cP1_3 cP2_3 fP0_3 fP1_3 fP2_3 sP_3; obtain ⟨cP0_4, cP1_4, cP2_4, fP0_4, fP1_4, fP2_4, sP_4⟩ := P4.open3; clear cQ0_3 cQ1_3 cQ2_3 fQ0_3 fQ1_3 fQ2_3 sQ_3; obtain ⟨cQ0_4, cQ1_4, cQ2_4, fQ0_4, fQ1_4, fQ2_4, sQ_4⟩ := Q4.open3)
      | (go_at_call 76; (with_reducible refine (HF1.out _ _ m4 T4).mono ?_); rintro e w5 ⟨rfl, hb5⟩; have B5 := B4.trans (hb5.mono B4.size); have m5 := m4.below hb5; have g5 := g4.below hb5; have T5 := T4.below hb5; have P5 := P4.below hb5; have Q5 := Q4.below hb5; have d5 := d4.below hb5; have f5 := f4.below hb5; clear m4 g4 T4 P4 Q4 d4 f4; clear cP0_4 cP1_4 cP2_4 fP0_4 fP1_4 fP2_4 sP_4; obtain ⟨cP0_5, cP1_5, cP2_5, fP0_5, fP1_5, fP2_5, sP_5⟩ := P5.open3; clear cQ0_4 cQ1_4 cQ2_4 fQ0_4 fQ1_4 fQ2_4 sQ_4; obtain ⟨cQ0_5, cQ1_5, cQ2_5, fQ0_5, fQ1_5, fQ2_5, sQ_5⟩ := Q5.open3)
      | (go_at_call 76; (with_reducible refine (HF2.out _ _ g5 T5).mono ?_); rintro e w6 ⟨rfl, hb6⟩; have B6 := B5.trans (hb6.mono B5.size); have m6 := m5.below hb6; have g6 := g5.below hb6; have T6 := T5.below hb6; have P6 := P5.below hb6; have Q6 := Q5.below hb6; have d6 := d5.below hb6; have f6 := f5.below hb6; clear m5 g5 T5 P5 Q5 d5 f5; clear cP0_5 cP1_5 cP2_5 fP0_5 fP1_5 fP2_5 sP_5; obtain ⟨cP0_6, cP1_6, cP2_6, fP0_6, fP1_6, fP2_6, sP_6⟩ := P6.open3; clear cQ0_5 cQ1_5 cQ2_5 fQ0_5 fQ1_5 fQ2_5 sQ_5; obtain ⟨cQ0_6, cQ1_6, cQ2_6, fQ0_6, fQ1_6, fQ2_6, sQ_6⟩ := Q6.open3)
      | fail)
    all_goals
      go_ret2
      exact ⟨rfl, by first | assumption | exact below_right (by assumption) _⟩
end Go.Proofs.YtabdmnjdmnnejaaDoor
