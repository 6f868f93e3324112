/- exact.Power by its contract, of what may be asked. Conditions: the number is short; math/bits' table stands in its variable. -/
import Derived.Test.YtabdmnjdmnnejaaDoorEx6
namespace Go.Proofs.YtabdmnjdmnnejaaDoor
set_option maxRecDepth 100000
open Go.RowKit Go.ChangeShapes Go.WideShapes
set_option linter.unusedVariables false

set_option maxRecDepth 100000 in
set_option maxHeartbeats 8000000 in
theorem Power_ok {w : World} {v : Value} {neg : Bool} {A M k g : Nat} {e0 E m0 k0 m : Int} (h : Num w v A) (hT : Tab w) (h1 : -9223372036854775808 ≤ e0) (h2 : e0 ≤ 9223372036854775807) (q : bareD ⟨neg, A, e0⟩ = ⟨false, M, E⟩) (hf : fitsE E = true) (hM0 : M ≠ 0) (sM : bitN M ≤ 8192)
    (m1 : -9223372036854775808 ≤ m0) (m2 : m0 ≤ 9223372036854775807) (hk : 1 ≤ k0) (k2 : k0 ≤ 9223372036854775807) (hg : Nat.gcd m0.natAbs k0.toNat = g) (em : m0 = m * (g : Int)) (ek : k0 = (k : Int) * (g : Int)) :
    Calls Tryd.prog 9 #[.agg #[.bool neg, v, .int .i64 e0], .agg #[.int .i64 m0, .int .i64 k0]] w (fun e w' => ∃ ok P F a n kk, e = .returned (.tuple #[.agg #[.bool false, .slice a n kk, .int .i64 F], .bool ok, .int .i64 0]) ∧ PowR M E m k ok P F ∧ RdN w' (.slice a n kk) (digs BB P) ∧ Below w.heap.size w w') := by
  obtain ⟨a, n, kk, rfl⟩ := h.slice
  have hg0 : g ≠ 0 := fun e => by rw [e, Int.natCast_zero, Int.mul_zero] at ek; omega
  have rm : m.natAbs ≤ m0.natAbs := by rw [em, Int.natAbs_mul]; exact Nat.le_mul_of_pos_right _ (by omega)
  have rk : (k : Int).natAbs ≤ k0.natAbs := by rw [ek, Int.natAbs_mul]; exact Nat.le_mul_of_pos_right _ (by omega)
  have hmp : 0 < m → 0 < m0 := fun h => by rw [em]; exact Int.mul_pos h (by omega)
  have hkp : k ≠ 0 := fun e => by rw [e] at ek; simp at ek; omega
  have hk1 : 1 ≤ k := by omega
  have hk9 : k ≤ 9223372036854775807 := by omega
  have hm8 : -9223372036854775808 ≤ m ∧ m ≤ 9223372036854775807 := by omega
  have HL := Lib.hid (fun w => Low_ok (w := w) m1 m2 hk k2 hg em ek)
  clear rm rk hmp hkp hg em ek
  have HB := Lib.hid (fun w v (h : Num w v A) (hT : Tab w) => Bare_ok h hT h1 h2 q hf)
  have HS := Lib.hid (fun w v (h : Num w v M) => Sign_n (neg := false) (E := E) (s := 1) h (by unfold signD; rw [if_neg hM0]; rfl))
  have hodd : M % 2 = 1 := bareD_oddM q hM0
  have rE : -1073741824 ≤ E ∧ E ≤ 1073741824 := by unfold fitsE at hf; simp at hf; exact hf
  have P := blk3_1 (w := w) (T := 32) (c := #[.bool neg, .slice a n kk, .int .i64 e0]) (o := .cells #[.int .i64 m0, .int .i64 k0] 36 (0, 0)) (o' := .cells #[.bool false, .slice none 0 0, .int .i64 0] 32 (0, 0))
  have Q := blk3_2 (w := w) (T := 36) (o := .cells #[.bool neg, .slice a n kk, .int .i64 e0] 32 (0, 0)) (c := #[.int .i64 m0, .int .i64 k0]) (o' := .cells #[.bool false, .slice none 0 0, .int .i64 0] 32 (0, 0))
  have R := blk3_3 (w := w) (T := 32) (o := .cells #[.bool neg, .slice a n kk, .int .i64 e0] 32 (0, 0)) (o' := .cells #[.int .i64 m0, .int .i64 k0] 36 (0, 0)) (c := #[.bool false, .slice none 0 0, .int .i64 0])
  have B : Below w.heap.size w (((w.alloc (.cells #[.bool neg, .slice a n kk, .int .i64 e0] 32 (0, 0))).alloc (.cells #[.int .i64 m0, .int .i64 k0] 36 (0, 0))).alloc (.cells #[.bool false, .slice none 0 0, .int .i64 0] 32 (0, 0))) := below_3
  have z0 := h.below B; have T0 := hT.below B
  have hlt := hT.lt
  clear h hT
  have q' := Lib.hid q
  have hodd' := Lib.hid hodd
  have hM0' := Lib.hid hM0
  clear q hf hodd hM0
  by_cases hm0 : m = 0
  · subst hm0
    have HO := Lib.hid (fun w (hT : Tab w) => show Calls Tryd.prog 20 #[.int .i64 1] w _ from Of_n (n := 1) (by decide) hT (show bareD ⟨false, 1, 0⟩ = ⟨false, 1, 0⟩ from bareD_odd (by decide) (by decide) (by decide)))
    go_enter Tryd.func9, Tryd.ntmps9
    go_upto_region 1 with fail
    generalize hwx : ((w.alloc (.cells #[.bool neg, .slice a n kk, .int .i64 e0] 32 (0, 0))).alloc (.cells #[.int .i64 m0, .int .i64 k0] 36 (0, 0))).alloc (.cells #[.bool false, .slice none 0 0, .int .i64 0] 32 (0, 0)) = w0 at *
    clear hwx
    obtain ⟨cP0_0, cP1_0, cP2_0, fP0_0, fP1_0, fP2_0, sP_0⟩ := P.open3
    obtain ⟨cQ0_0, cQ1_0, fQ0_0, fQ1_0, sQ_0⟩ := Q.open2
    obtain ⟨cR0_0, cR1_0, cR2_0, fR0_0, fR1_0, fR2_0, sR_0⟩ := R.open3
    go_upto_region 2 with
    (first
      | (go_at_call 17; (with_reducible refine (HB.out _ _ z0 T0).mono ?_); rintro e w1 ⟨vx1, rfl, x1, hb1⟩; have B1 := B.trans (hb1.mono B.size); have z1 := z0.below hb1; have T1 := T0.below hb1; have P1 := P.below hb1; have Q1 := Q.below hb1; have R1 := R.below hb1; clear z0 T0 P Q R; obtain ⟨cP0_1, cP1_1, cP2_1, fP0_1, fP1_1, fP2_1, sP_1⟩ := P1.open3; obtain ⟨cQ0_1, cQ1_1, fQ0_1, fQ1_1, sQ_1⟩ := Q1.open2; obtain ⟨cR0_1, cR1_1, cR2_1, fR0_1, fR1_1, fR2_1, sR_1⟩ := R1.open3; obtain ⟨ax1, kx1, rfl, -⟩ := x1.view; try simp only [List.length_nil] at x1)
      | fail)
    have P2 := P1.set3 (.bool false) (.slice ax1 (digs BB M).length kx1) (.int .i64 E)
    have Q2 := Q1.other3 (show w.heap.size + 1 ≠ w.heap.size by omega) (.bool false) (.slice ax1 (digs BB M).length kx1) (.int .i64 E)
    have R2 := R1.other3 (show w.heap.size + 1 + 1 ≠ w.heap.size by omega) (.bool false) (.slice ax1 (digs BB M).length kx1) (.int .i64 E)
    have x2 := x1.set3 P1 dcells (.bool false) (.slice ax1 (digs BB M).length kx1) (.int .i64 E)
    have T2 := T1.set3 (Nat.ne_of_lt hlt) (.bool false) (.slice ax1 (digs BB M).length kx1) (.int .i64 E)
    have B2 := below_set3 B1 (Nat.le_refl _) (.bool false) (.slice ax1 (digs BB M).length kx1) (.int .i64 E)
    clear cP0_1 fP0_1 cR0_1 fR0_1 cP1_1 fP1_1 cR1_1 fR1_1 cP2_1 fP2_1 cR2_1 fR2_1 cQ0_1 fQ0_1 cQ1_1 fQ1_1 sP_1 sQ_1 sR_1 P1 Q1 R1 x1 T1 B1 z1 hb1
    generalize ((w1.setCell ⟨w.heap.size, 0, none⟩ (.bool false)).setCell ⟨w.heap.size, 1, none⟩ (.slice ax1 (digs BB M).length kx1)).setCell ⟨w.heap.size, 2, none⟩ (.int .i64 E) = w2 at *
    obtain ⟨cP0_2, cP1_2, cP2_2, fP0_2, fP1_2, fP2_2, sP_2⟩ := P2.open3
    obtain ⟨cQ0_2, cQ1_2, fQ0_2, fQ1_2, sQ_2⟩ := Q2.open2
    obtain ⟨cR0_2, cR1_2, cR2_2, fR0_2, fR1_2, fR2_2, sR_2⟩ := R2.open3
    go_upto_region 3 with
    (first
      | (go_at_call 26; (with_reducible refine (HL.out _).mono ?_); rintro e w3 ⟨rfl, hb3⟩; have B3 := B2.trans (hb3.mono B2.size); have x3 := x2.below hb3; have T3 := T2.below hb3; have P3 := P2.below hb3; have Q3 := Q2.below hb3; have R3 := R2.below hb3; clear x2 T2 P2 Q2 R2; obtain ⟨cP0_3, cP1_3, cP2_3, fP0_3, fP1_3, fP2_3, sP_3⟩ := P3.open3; obtain ⟨cQ0_3, cQ1_3, fQ0_3, fQ1_3, sQ_3⟩ := Q3.open2; obtain ⟨cR0_3, cR1_3, cR2_3, fR0_3, fR1_3, fR2_3, sR_3⟩ := R3.open3)
      | fail)
    have P4 := P3.other2 (show w.heap.size ≠ w.heap.size + 1 by omega) (.int .i64 0) (.int .i64 (k : Int))
    have Q4 := Q3.set2 (.int .i64 0) (.int .i64 (k : Int))
    have R4 := R3.other2 (show w.heap.size + 1 + 1 ≠ w.heap.size + 1 by omega) (.int .i64 0) (.int .i64 (k : Int))
    have x4 := x3.set2 Q3 (icells (by decide) (by decide)) (.int .i64 0) (.int .i64 (k : Int))
    have T4 := (T3.putP (show 0 ≠ w.heap.size + 1 by omega) 0 (.int .i64 0)).putP (show 0 ≠ w.heap.size + 1 by omega) 1 (.int .i64 (k : Int))
    have B4 : Below w.heap.size w ((w3.setCell ⟨w.heap.size + 1, 0, none⟩ (.int .i64 0)).setCell ⟨w.heap.size + 1, 1, none⟩ (.int .i64 (k : Int))) := below_set (below_set B3 (by omega) _) (by omega) _
    clear cP0_3 fP0_3 cR0_3 fR0_3 cP1_3 fP1_3 cR1_3 fR1_3 cP2_3 fP2_3 cR2_3 fR2_3 cQ0_3 fQ0_3 cQ1_3 fQ1_3 sP_3 sQ_3 sR_3 P3 Q3 R3 x3 T3 B3 hb3
    generalize (w3.setCell ⟨w.heap.size + 1, 0, none⟩ (.int .i64 0)).setCell ⟨w.heap.size + 1, 1, none⟩ (.int .i64 (k : Int)) = w4 at *
    obtain ⟨cP0_4, cP1_4, cP2_4, fP0_4, fP1_4, fP2_4, sP_4⟩ := P4.open3
    obtain ⟨cQ0_4, cQ1_4, fQ0_4, fQ1_4, sQ_4⟩ := Q4.open2
    obtain ⟨cR0_4, cR1_4, cR2_4, fR0_4, fR1_4, fR2_4, sR_4⟩ := R4.open3
    go_wp2_with
      (first
        | (go_at_call 18; (with_reducible refine (HS.out _ _ (x4.num (by omega))).mono ?_); rintro e w5 ⟨rfl, hb5⟩; have B5 := B4.trans (hb5.mono B4.size); have x5 := x4.below hb5; have T5 := T4.below hb5; have P5 := P4.below hb5; have Q5 := Q4.below hb5; have R5 := R4.below hb5; clear x4 T4 P4 Q4 R4; obtain ⟨cP0_5, cP1_5, cP2_5, fP0_5, fP1_5, fP2_5, sP_5⟩ := P5.open3; obtain ⟨cQ0_5, cQ1_5, fQ0_5, fQ1_5, sQ_5⟩ := Q5.open2; obtain ⟨cR0_5, cR1_5, cR2_5, fR0_5, fR1_5, fR2_5, sR_5⟩ := R5.open3)
        | (go_at_call 20; (with_reducible refine (HO.out _ T5).mono ?_); rintro e w6 ⟨vd6, rfl, d6, hb6⟩; have B6 := B5.trans (hb6.mono B5.size); have x6 := x5.below hb6; have T6 := T5.below hb6; have P6 := P5.below hb6; have Q6 := Q5.below hb6; have R6 := R5.below hb6; clear x5 T5 P5 Q5 R5; clear cP0_5 cP1_5 cP2_5 fP0_5 fP1_5 fP2_5 sP_5; obtain ⟨cP0_6, cP1_6, cP2_6, fP0_6, fP1_6, fP2_6, sP_6⟩ := P6.open3; clear cQ0_5 cQ1_5 fQ0_5 fQ1_5 sQ_5; obtain ⟨cQ0_6, cQ1_6, fQ0_6, fQ1_6, sQ_6⟩ := Q6.open2; clear cR0_5 cR1_5 cR2_5 fR0_5 fR1_5 fR2_5 sR_5; obtain ⟨cR0_6, cR1_6, cR2_6, fR0_6, fR1_6, fR2_6, sR_6⟩ := R6.open3; obtain ⟨ud6, rfl, d6⟩ := d6; obtain ⟨ad6, kd6, rfl, -⟩ := d6.view)
        | fail)
    have d7 := d6.set3 R6 dcells (.bool false) (.slice ad6 (digs BB 1).length kd6) (.int .i64 0)
    obtain ⟨q0, q1, q2, -⟩ := (R6.set3 (.bool false) (.slice ad6 (digs BB 1).length kd6) (.int .i64 0)).open3
    refine bodyPost_ret (v := .tuple #[.agg #[.bool false, .slice ad6 (digs BB 1).length kd6, .int .i64 0], .bool true, .int .i64 0]) ?_ rfl ?_
    · simp [results, Tryd.results9, go_sem, q0, q1, q2]
    · exact ⟨true, 1, 0, _, _, _, rfl, .inl ⟨rfl, rfl, rfl, rfl⟩, d7, below_set3 B6 (by omega) _ _ _⟩
  have dm0 : (m == 0) = false := beq_eq_false_iff_ne.2 hm0
  have hm0' := Lib.hid hm0
  have HRT : Hid (∀ (w : World) v, RdN w v (digs BB M) → Tab w → Calls Tryd.prog 34 #[.agg #[.bool false, v, .int .i64 E], .int .i64 (k : Int)] w (fun e w' => ∃ ok r f a n kk, e = .returned (.tuple #[.agg #[.bool false, .slice a n kk, .int .i64 f], .bool ok]) ∧ RootR M E k ok r f ∧ (ok = true → RdN w' (.slice a n kk) (digs BB r)) ∧ Below w.heap.size w w')) := Lib.hid (fun w v h hT => rooted_n h hT hodd'.out sM rE.1 rE.2 hk1 hk9)
  go_enter Tryd.func9, Tryd.ntmps9
  go_upto_region 1 with fail
  generalize hwx : ((w.alloc (.cells #[.bool neg, .slice a n kk, .int .i64 e0] 32 (0, 0))).alloc (.cells #[.int .i64 m0, .int .i64 k0] 36 (0, 0))).alloc (.cells #[.bool false, .slice none 0 0, .int .i64 0] 32 (0, 0)) = w0 at *
  clear hwx
  obtain ⟨cP0_0, cP1_0, cP2_0, fP0_0, fP1_0, fP2_0, sP_0⟩ := P.open3
  obtain ⟨cQ0_0, cQ1_0, fQ0_0, fQ1_0, sQ_0⟩ := Q.open2
  obtain ⟨cR0_0, cR1_0, cR2_0, fR0_0, fR1_0, fR2_0, sR_0⟩ := R.open3
  go_upto_region 2 with
    (first
      | (go_at_call 17; (with_reducible refine (HB.out _ _ z0 T0).mono ?_); rintro e w1 ⟨vx1, rfl, x1, hb1⟩; have B1 := B.trans (hb1.mono B.size); have z1 := z0.below hb1; have T1 := T0.below hb1; have P1 := P.below hb1; have Q1 := Q.below hb1; have R1 := R.below hb1; clear z0 T0 P Q R; obtain ⟨cP0_1, cP1_1, cP2_1, fP0_1, fP1_1, fP2_1, sP_1⟩ := P1.open3; obtain ⟨cQ0_1, cQ1_1, fQ0_1, fQ1_1, sQ_1⟩ := Q1.open2; obtain ⟨cR0_1, cR1_1, cR2_1, fR0_1, fR1_1, fR2_1, sR_1⟩ := R1.open3; obtain ⟨ax1, kx1, rfl, -⟩ := x1.view; try simp only [List.length_nil] at x1)
      | fail)
  have P2 := P1.set3 (.bool false) (.slice ax1 (digs BB M).length kx1) (.int .i64 E)
  have Q2 := Q1.other3 (show w.heap.size + 1 ≠ w.heap.size by omega) (.bool false) (.slice ax1 (digs BB M).length kx1) (.int .i64 E)
  have R2 := R1.other3 (show w.heap.size + 1 + 1 ≠ w.heap.size by omega) (.bool false) (.slice ax1 (digs BB M).length kx1) (.int .i64 E)
  have x2 := x1.set3 P1 dcells (.bool false) (.slice ax1 (digs BB M).length kx1) (.int .i64 E)
  have T2 := T1.set3 (Nat.ne_of_lt hlt) (.bool false) (.slice ax1 (digs BB M).length kx1) (.int .i64 E)
  have B2 := below_set3 B1 (Nat.le_refl _) (.bool false) (.slice ax1 (digs BB M).length kx1) (.int .i64 E)
  clear cP0_1 fP0_1 cR0_1 fR0_1 cP1_1 fP1_1 cR1_1 fR1_1 cP2_1 fP2_1 cR2_1 fR2_1 cQ0_1 fQ0_1 cQ1_1 fQ1_1 sP_1 sQ_1 sR_1 P1 Q1 R1 x1 T1 B1 z1 hb1
  generalize ((w1.setCell ⟨w.heap.size, 0, none⟩ (.bool false)).setCell ⟨w.heap.size, 1, none⟩ (.slice ax1 (digs BB M).length kx1)).setCell ⟨w.heap.size, 2, none⟩ (.int .i64 E) = w2 at *
  obtain ⟨cP0_2, cP1_2, cP2_2, fP0_2, fP1_2, fP2_2, sP_2⟩ := P2.open3
  obtain ⟨cQ0_2, cQ1_2, fQ0_2, fQ1_2, sQ_2⟩ := Q2.open2
  obtain ⟨cR0_2, cR1_2, cR2_2, fR0_2, fR1_2, fR2_2, sR_2⟩ := R2.open3
  go_upto_region 3 with
    (first
      | (go_at_call 26; (with_reducible refine (HL.out _).mono ?_); rintro e w3 ⟨rfl, hb3⟩; have B3 := B2.trans (hb3.mono B2.size); have x3 := x2.below hb3; have T3 := T2.below hb3; have P3 := P2.below hb3; have Q3 := Q2.below hb3; have R3 := R2.below hb3; clear x2 T2 P2 Q2 R2; obtain ⟨cP0_3, cP1_3, cP2_3, fP0_3, fP1_3, fP2_3, sP_3⟩ := P3.open3; obtain ⟨cQ0_3, cQ1_3, fQ0_3, fQ1_3, sQ_3⟩ := Q3.open2; obtain ⟨cR0_3, cR1_3, cR2_3, fR0_3, fR1_3, fR2_3, sR_3⟩ := R3.open3)
      | fail)
  have P4 := P3.other2 (show w.heap.size ≠ w.heap.size + 1 by omega) (.int .i64 m) (.int .i64 (k : Int))
  have Q4 := Q3.set2 (.int .i64 m) (.int .i64 (k : Int))
  have R4 := R3.other2 (show w.heap.size + 1 + 1 ≠ w.heap.size + 1 by omega) (.int .i64 m) (.int .i64 (k : Int))
  have x4 := x3.set2 Q3 (icells (by decide) (by decide)) (.int .i64 m) (.int .i64 (k : Int))
  have T4 := (T3.putP (show 0 ≠ w.heap.size + 1 by omega) 0 (.int .i64 m)).putP (show 0 ≠ w.heap.size + 1 by omega) 1 (.int .i64 (k : Int))
  have B4 : Below w.heap.size w ((w3.setCell ⟨w.heap.size + 1, 0, none⟩ (.int .i64 m)).setCell ⟨w.heap.size + 1, 1, none⟩ (.int .i64 (k : Int))) := below_set (below_set B3 (by omega) _) (by omega) _
  clear cP0_3 fP0_3 cR0_3 fR0_3 cP1_3 fP1_3 cR1_3 fR1_3 cP2_3 fP2_3 cR2_3 fR2_3 cQ0_3 fQ0_3 cQ1_3 fQ1_3 sP_3 sQ_3 sR_3 P3 Q3 R3 x3 T3 B3 hb3
  generalize (w3.setCell ⟨w.heap.size + 1, 0, none⟩ (.int .i64 m)).setCell ⟨w.heap.size + 1, 1, none⟩ (.int .i64 (k : Int)) = w4 at *
  obtain ⟨cP0_4, cP1_4, cP2_4, fP0_4, fP1_4, fP2_4, sP_4⟩ := P4.open3
  obtain ⟨cQ0_4, cQ1_4, fQ0_4, fQ1_4, sQ_4⟩ := Q4.open2
  obtain ⟨cR0_4, cR1_4, cR2_4, fR0_4, fR1_4, fR2_4, sR_4⟩ := R4.open3
  go_upto_region 8 with
    (first
      | (go_at_call 18; (with_reducible refine (HS.out _ _ (x4.num (by omega))).mono ?_); rintro e w5 ⟨rfl, hb5⟩; have B5 := B4.trans (hb5.mono B4.size); have x5 := x4.below hb5; have T5 := T4.below hb5; have P5 := P4.below hb5; have Q5 := Q4.below hb5; have R5 := R4.below hb5; clear x4 T4 P4 Q4 R4; obtain ⟨cP0_5, cP1_5, cP2_5, fP0_5, fP1_5, fP2_5, sP_5⟩ := P5.open3; obtain ⟨cQ0_5, cQ1_5, fQ0_5, fQ1_5, sQ_5⟩ := Q5.open2; obtain ⟨cR0_5, cR1_5, cR2_5, fR0_5, fR1_5, fR2_5, sR_5⟩ := R5.open3)
      | (go_at_call 34; (with_reducible refine (HRT.out _ _ x5 T5).mono ?_); rintro e w6 ⟨ok1, r, f, ra, rn, rk, rfl, hr, hrd, hb6⟩; have B6 := B5.trans (hb6.mono B5.size); have x6 := x5.below hb6; have T6 := T5.below hb6; have P6 := P5.below hb6; have Q6 := Q5.below hb6; have R6 := R5.below hb6; clear x5 T5 P5 Q5 R5; clear cP0_5 cP1_5 cP2_5 fP0_5 fP1_5 fP2_5 sP_5; obtain ⟨cP0_6, cP1_6, cP2_6, fP0_6, fP1_6, fP2_6, sP_6⟩ := P6.open3; clear cQ0_5 cQ1_5 fQ0_5 fQ1_5 sQ_5; obtain ⟨cQ0_6, cQ1_6, fQ0_6, fQ1_6, sQ_6⟩ := Q6.open2; clear cR0_5 cR1_5 cR2_5 fR0_5 fR1_5 fR2_5 sR_5; obtain ⟨cR0_6, cR1_6, cR2_6, fR0_6, fR1_6, fR2_6, sR_6⟩ := R6.open3)
      | fail)
  have C7 : Blk (w6.alloc (.cells #[.bool false, .slice ra rn rk, .int .i64 f] 32 (0, 0))) w6.heap.size #[.bool false, .slice ra rn rk, .int .i64 f] := blk_new
  have P7 := P6.below (below_alloc w6 (.cells #[.bool false, .slice ra rn rk, .int .i64 f] 32 (0, 0)))
  have Q7 := Q6.below (below_alloc w6 (.cells #[.bool false, .slice ra rn rk, .int .i64 f] 32 (0, 0)))
  have R7 := R6.below (below_alloc w6 (.cells #[.bool false, .slice ra rn rk, .int .i64 f] 32 (0, 0)))
  have T7 := T6.below (below_alloc w6 (.cells #[.bool false, .slice ra rn rk, .int .i64 f] 32 (0, 0)))
  have Y7 := fun h => (hrd h).below (below_alloc w6 (.cells #[.bool false, .slice ra rn rk, .int .i64 f] 32 (0, 0)))
  have B7 := below_right B6 (.cells #[.bool false, .slice ra rn rk, .int .i64 f] 32 (0, 0))
  have neP7 : w.heap.size ≠ w6.heap.size := Nat.ne_of_lt P6.1
  have neR7 : w.heap.size + 1 + 1 ≠ w6.heap.size := Nat.ne_of_lt R6.1
  have leW7 : w.heap.size ≤ w6.heap.size := B6.size
  clear cP0_6 fP0_6 cR0_6 fR0_6 cP1_6 fP1_6 cR1_6 fR1_6 cP2_6 fP2_6 cR2_6 fR2_6 cQ0_6 fQ0_6 cQ1_6 fQ1_6 sP_6 sQ_6 sR_6 P6 Q6 R6 T6 B6 hrd x6 hb6
  obtain ⟨b7, hb7⟩ : ∃ b, w6.heap.size = b := ⟨_, rfl⟩
  rw [hb7] at C7 neP7 neR7 leW7
  simp only [hb7]
  generalize w6.alloc (.cells #[.bool false, .slice ra rn rk, .int .i64 f] 32 (0, 0)) = w7 at *
  clear hb7
  obtain ⟨cP0_7, cP1_7, cP2_7, fP0_7, fP1_7, fP2_7, sP_7⟩ := P7.open3
  obtain ⟨cQ0_7, cQ1_7, fQ0_7, fQ1_7, sQ_7⟩ := Q7.open2
  obtain ⟨cR0_7, cR1_7, cR2_7, fR0_7, fR1_7, fR2_7, sR_7⟩ := R7.open3
  obtain ⟨cC0_7, cC1_7, cC2_7, fC0_7, fC1_7, fC2_7, sC_7⟩ := C7.open3
  rcases hr with ⟨rfl, hr1, hr2⟩ | ⟨rfl, hr1⟩
  rotate_left
  · have hno := Lib.hid (show ∀ r f P F, r ^ (k : Int).toNat = M → f * (k : Int) = E → Raise r f m P F → isBrk P F = false from fun r f P F a b _ => (hr1 r f (by rwa [Int.toNat_natCast] at a) b).elim)
    clear hr1 Y7
    go_wp2_with fail
    obtain ⟨q0, q1, q2, -⟩ := (R7.set3 (.bool false) (.slice none 0 0) (.int .i64 0)).open3
    refine bodyPost_ret (v := .tuple #[.agg #[.bool false, .slice none 0 0, .int .i64 0], .bool false, .int .i64 0]) ?_ rfl ?_
    · simp [results, Tryd.results9, go_sem, q0, q1, q2]
    · exact ⟨false, 0, 0, _, _, _, rfl, .inr (.inr ⟨hm0'.out, rfl, rfl, rfl, hno.out⟩), RdN.nil0 _, below_set3 B7 (by omega) _ _ _⟩
  have y7 := Y7 rfl
  clear Y7
  have rodd : r % 2 = 1 := by
    rcases Nat.mod_two_eq_zero_or_one r with h0 | h0
    · exfalso
      have h3 : M % 2 = 0 := by rw [← hr1, Nat.pow_mod, h0, Nat.zero_pow (by omega)]
      have := hodd'.out
      omega
    · exact h0
  have hrM : r ≤ M := by rw [← hr1]; exact Nat.le_self_pow (by omega) r
  have sr : bitN r ≤ 8192 := Nat.le_trans (bitN_mono hrM) sM
  have fE : f.natAbs ≤ E.natAbs := by rw [← hr2, Int.natAbs_mul]; exact Nat.le_mul_of_pos_right _ (by omega)
  have rf : -1073741824 ≤ f ∧ f ≤ 1073741824 := by omega
  have hsame := Lib.hid (fun r' f' (a : r' ^ k = M) (b : f' * (k : Int) = E) => RootR.same hk1 hr1 hr2 a b)
  have HRA : Hid (∀ (w : World) v, RdN w v (digs BB r) → Tab w → Calls Tryd.prog 35 #[.agg #[.bool false, v, .int .i64 f], .int .i64 m] w (fun e w' => ∃ ok P F a n kk, e = .returned (.tuple #[.agg #[.bool false, .slice a n kk, .int .i64 F], .bool ok]) ∧ RaiseR r f m ok P F ∧ (ok = true → RdN w' (.slice a n kk) (digs BB P)) ∧ Below w.heap.size w w')) := Lib.hid (fun w v h hT => raised_n h hT rodd sr rf.1 rf.2 hm8.1 hm8.2 hm0'.out)
  have hr1' := Lib.hid hr1; have hr2' := Lib.hid hr2
  clear hrM fE hr1 hr2
  go_upto_region 11 with
    (first
      | (go_at_call 35; (with_reducible refine (HRA.out _ _ y7 T7).mono ?_); rintro e w8 ⟨ok2, N, G, pa, pn, pk, rfl, hp, hpd, hb8⟩; have B8 := B7.trans (hb8.mono B7.size); have y8 := y7.below hb8; have T8 := T7.below hb8; have P8 := P7.below hb8; have Q8 := Q7.below hb8; have R8 := R7.below hb8; have C8 := C7.below hb8; clear y7 T7 P7 Q7 R7 C7; obtain ⟨cP0_8, cP1_8, cP2_8, fP0_8, fP1_8, fP2_8, sP_8⟩ := P8.open3; obtain ⟨cQ0_8, cQ1_8, fQ0_8, fQ1_8, sQ_8⟩ := Q8.open2; obtain ⟨cR0_8, cR1_8, cR2_8, fR0_8, fR1_8, fR2_8, sR_8⟩ := R8.open3; obtain ⟨cC0_8, cC1_8, cC2_8, fC0_8, fC1_8, fC2_8, sC_8⟩ := C8.open3)
      | fail)
  clear cC0_8 fC0_8 cC1_8 fC1_8 cC2_8 fC2_8 sC_8 C8
  have C9 : Blk (w8.alloc (.cells #[.bool false, .slice pa pn pk, .int .i64 G] 32 (0, 0))) w8.heap.size #[.bool false, .slice pa pn pk, .int .i64 G] := blk_new
  have P9 := P8.below (below_alloc w8 (.cells #[.bool false, .slice pa pn pk, .int .i64 G] 32 (0, 0)))
  have Q9 := Q8.below (below_alloc w8 (.cells #[.bool false, .slice pa pn pk, .int .i64 G] 32 (0, 0)))
  have R9 := R8.below (below_alloc w8 (.cells #[.bool false, .slice pa pn pk, .int .i64 G] 32 (0, 0)))
  have T9 := T8.below (below_alloc w8 (.cells #[.bool false, .slice pa pn pk, .int .i64 G] 32 (0, 0)))
  have Y9 := fun h => (hpd h).below (below_alloc w8 (.cells #[.bool false, .slice pa pn pk, .int .i64 G] 32 (0, 0)))
  have B9 := below_right B8 (.cells #[.bool false, .slice pa pn pk, .int .i64 G] 32 (0, 0))
  have neP9 : w.heap.size ≠ w8.heap.size := Nat.ne_of_lt P8.1
  have neR9 : w.heap.size + 1 + 1 ≠ w8.heap.size := Nat.ne_of_lt R8.1
  have leW9 : w.heap.size ≤ w8.heap.size := B8.size
  clear cP0_8 fP0_8 cR0_8 fR0_8 cP1_8 fP1_8 cR1_8 fR1_8 cP2_8 fP2_8 cR2_8 fR2_8 cQ0_8 fQ0_8 cQ1_8 fQ1_8 sP_8 sQ_8 sR_8 P8 Q8 R8 T8 B8 hpd hb8
  obtain ⟨b9, hb9⟩ : ∃ b, w8.heap.size = b := ⟨_, rfl⟩
  rw [hb9] at C9 neP9 neR9 leW9
  simp only [hb9]
  generalize w8.alloc (.cells #[.bool false, .slice pa pn pk, .int .i64 G] 32 (0, 0)) = w9 at *
  clear hb9
  obtain ⟨cP0_9, cP1_9, cP2_9, fP0_9, fP1_9, fP2_9, sP_9⟩ := P9.open3
  obtain ⟨cQ0_9, cQ1_9, fQ0_9, fQ1_9, sQ_9⟩ := Q9.open2
  obtain ⟨cR0_9, cR1_9, cR2_9, fR0_9, fR1_9, fR2_9, sR_9⟩ := R9.open3
  obtain ⟨cC0_9, cC1_9, cC2_9, fC0_9, fC1_9, fC2_9, sC_9⟩ := C9.open3
  rcases hp with ⟨rfl, hR, nodd, rG, sN⟩ | ⟨rfl, hp1⟩
  rotate_left
  · have hno := Lib.hid (show ∀ r f P F, r ^ (k : Int).toNat = M → f * (k : Int) = E → Raise r f m P F → isBrk P F = false from fun r' f' P F a b c => by
      obtain ⟨rfl, rfl⟩ := hsame.out r' f' (by rwa [Int.toNat_natCast] at a) b
      exact hp1 P F c)
    clear hp1 Y9
    go_wp2_with fail
    obtain ⟨q0, q1, q2, -⟩ := (R9.set3 (.bool false) (.slice none 0 0) (.int .i64 0)).open3
    refine bodyPost_ret (v := .tuple #[.agg #[.bool false, .slice none 0 0, .int .i64 0], .bool false, .int .i64 0]) ?_ rfl ?_
    · simp [results, Tryd.results9, go_sem, q0, q1, q2]
    · exact ⟨false, 0, 0, _, _, _, rfl, .inr (.inr ⟨hm0'.out, rfl, rfl, rfl, hno.out⟩), RdN.nil0 _, below_set3 B9 (by omega) _ _ _⟩
  have y9 := Y9 rfl
  clear Y9
  have qN : bareD ⟨false, N, G⟩ = ⟨false, N, G⟩ := bareD_odd nodd (by omega) (by omega)
  have fG : fitsE G = true := by unfold fitsE; rw [Bool.and_eq_true]; exact ⟨decide_eq_true (by omega), decide_eq_true (by omega)⟩
  obtain ⟨rb, hrb⟩ : ∃ rb, isBrk N G = rb := ⟨_, rfl⟩
  have HBK := Lib.hid (fun w v (h : Num w v N) (hT : Tab w) => Break_n (r := rb) h hT (by omega) (by omega) qN (by omega) (by rw [fG, Bool.true_and, decide_eq_false (show N ≠ 0 by omega), Bool.false_or]; exact hrb))
  have HB2 := Lib.hid (fun w v (h : Num w v N) (hT : Tab w) => Bare_ok h hT (by omega) (by omega) qN fG)
  have hrb' := Lib.hid hrb
  have hR' := Lib.hid hR
  have nodd' := Lib.hid nodd
  clear hrb hR qN fG nodd rG
  cases rb
  · have hno := Lib.hid (show ∀ r f P F, r ^ (k : Int).toNat = M → f * (k : Int) = E → Raise r f m P F → isBrk P F = false from fun r' f' P F a b c => by
      obtain ⟨rfl, rfl⟩ := hsame.out r' f' (by rwa [Int.toNat_natCast] at a) b
      obtain ⟨rfl, rfl⟩ := hR'.out.uniq c
      exact hrb'.out)
    go_wp2_with
    (first
      | (go_at_call 12; (with_reducible refine (HBK.out _ _ (y9.num (by omega)) T9).mono ?_); rintro e w10 ⟨rfl, hb10⟩; have B10 := B9.trans (hb10.mono B9.size); have y10 := y9.below hb10; have T10 := T9.below hb10; have P10 := P9.below hb10; have Q10 := Q9.below hb10; have R10 := R9.below hb10; have C10 := C9.below hb10; clear y9 T9 P9 Q9 R9 C9; obtain ⟨cP0_10, cP1_10, cP2_10, fP0_10, fP1_10, fP2_10, sP_10⟩ := P10.open3; obtain ⟨cQ0_10, cQ1_10, fQ0_10, fQ1_10, sQ_10⟩ := Q10.open2; obtain ⟨cR0_10, cR1_10, cR2_10, fR0_10, fR1_10, fR2_10, sR_10⟩ := R10.open3; obtain ⟨cC0_10, cC1_10, cC2_10, fC0_10, fC1_10, fC2_10, sC_10⟩ := C10.open3)
      | fail)
    obtain ⟨q0, q1, q2, -⟩ := (R10.set3 (.bool false) (.slice none 0 0) (.int .i64 0)).open3
    refine bodyPost_ret (v := .tuple #[.agg #[.bool false, .slice none 0 0, .int .i64 0], .bool false, .int .i64 0]) ?_ rfl ?_
    · simp [results, Tryd.results9, go_sem, q0, q1, q2]
    · exact ⟨false, 0, 0, _, _, _, rfl, .inr (.inr ⟨hm0'.out, rfl, rfl, rfl, hno.out⟩), RdN.nil0 _, below_set3 B10 (by omega) _ _ _⟩
  go_upto_region 14 with
    (first
      | (go_at_call 12; (with_reducible refine (HBK.out _ _ (y9.num (by omega)) T9).mono ?_); rintro e w10 ⟨rfl, hb10⟩; have B10 := B9.trans (hb10.mono B9.size); have y10 := y9.below hb10; have T10 := T9.below hb10; have P10 := P9.below hb10; have Q10 := Q9.below hb10; have R10 := R9.below hb10; have C10 := C9.below hb10; clear y9 T9 P9 Q9 R9 C9; obtain ⟨cP0_10, cP1_10, cP2_10, fP0_10, fP1_10, fP2_10, sP_10⟩ := P10.open3; obtain ⟨cQ0_10, cQ1_10, fQ0_10, fQ1_10, sQ_10⟩ := Q10.open2; obtain ⟨cR0_10, cR1_10, cR2_10, fR0_10, fR1_10, fR2_10, sR_10⟩ := R10.open3; obtain ⟨cC0_10, cC1_10, cC2_10, fC0_10, fC1_10, fC2_10, sC_10⟩ := C10.open3)
      | (go_at_call 17; (with_reducible refine (HB2.out _ _ (y10.num (by omega)) T10).mono ?_); rintro e w11 ⟨vu11, rfl, u11, hb11⟩; have B11 := B10.trans (hb11.mono B10.size); have y11 := y10.below hb11; have T11 := T10.below hb11; have P11 := P10.below hb11; have Q11 := Q10.below hb11; have R11 := R10.below hb11; have C11 := C10.below hb11; clear y10 T10 P10 Q10 R10 C10; clear cP0_10 cP1_10 cP2_10 fP0_10 fP1_10 fP2_10 sP_10; obtain ⟨cP0_11, cP1_11, cP2_11, fP0_11, fP1_11, fP2_11, sP_11⟩ := P11.open3; clear cQ0_10 cQ1_10 fQ0_10 fQ1_10 sQ_10; obtain ⟨cQ0_11, cQ1_11, fQ0_11, fQ1_11, sQ_11⟩ := Q11.open2; clear cR0_10 cR1_10 cR2_10 fR0_10 fR1_10 fR2_10 sR_10; obtain ⟨cR0_11, cR1_11, cR2_11, fR0_11, fR1_11, fR2_11, sR_11⟩ := R11.open3; clear cC0_10 cC1_10 cC2_10 fC0_10 fC1_10 fC2_10 sC_10; obtain ⟨cC0_11, cC1_11, cC2_11, fC0_11, fC1_11, fC2_11, sC_11⟩ := C11.open3; obtain ⟨au11, ku11, rfl, -⟩ := u11.view; try simp only [List.length_nil] at u11)
      | fail)
  have C12 := C11.set3 (.bool false) (.slice au11 (digs BB N).length ku11) (.int .i64 G)
  have R12 := R11.other3 neR9 (.bool false) (.slice au11 (digs BB N).length ku11) (.int .i64 G)
  have u12 := u11.set3 C11 dcells (.bool false) (.slice au11 (digs BB N).length ku11) (.int .i64 G)
  have B12 := below_set3 B11 leW9 (.bool false) (.slice au11 (digs BB N).length ku11) (.int .i64 G)
  clear cP0_11 fP0_11 cR0_11 fR0_11 cP1_11 fP1_11 cR1_11 fR1_11 cP2_11 fP2_11 cR2_11 fR2_11 cQ0_11 fQ0_11 cQ1_11 fQ1_11 sP_11 sQ_11 sR_11 cC0_11 fC0_11 cC1_11 fC1_11 cC2_11 fC2_11 sC_11 P11 Q11 R11 C11 u11 T11 B11 y11 hb11
  generalize ((w11.setCell ⟨b9, 0, none⟩ (.bool false)).setCell ⟨b9, 1, none⟩ (.slice au11 (digs BB N).length ku11)).setCell ⟨b9, 2, none⟩ (.int .i64 G) = w12 at *
  obtain ⟨cC0, cC1, cC2, fC0, fC1, fC2, sC⟩ := C12.open3
  obtain ⟨cR0, cR1, cR2, fR0, fR1, fR2, sR⟩ := R12.open3
  go_wp2_with fail
  have u13 := u12.set3 R12 dcells (.bool false) (.slice au11 (digs BB N).length ku11) (.int .i64 G)
  obtain ⟨q0, q1, q2, -⟩ := (R12.set3 (.bool false) (.slice au11 (digs BB N).length ku11) (.int .i64 G)).open3
  refine bodyPost_ret (v := .tuple #[.agg #[.bool false, .slice au11 (digs BB N).length ku11, .int .i64 G], .bool true, .int .i64 0]) ?_ rfl ?_
  · simp [results, Tryd.results9, go_sem, q0, q1, q2]
  · exact ⟨true, N, G, _, _, _, rfl, .inr (.inl ⟨hm0'.out, rfl, hrb'.out, nodd'.out, r, f, by rw [Int.toNat_natCast]; exact hr1'.out, hr2'.out, hR'.out⟩), u13, below_set3 B12 (by omega) _ _ _⟩
end Go.Proofs.YtabdmnjdmnnejaaDoor
