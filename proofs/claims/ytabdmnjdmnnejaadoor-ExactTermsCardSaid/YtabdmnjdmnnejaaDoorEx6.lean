/- exact.Power by its contract. Conditions: the number is short; math/bits' table stands in its variable. -/
import Derived.Test.YtabdmnjdmnnejaaDoorEx5
namespace Go.Proofs.YtabdmnjdmnnejaaDoor
set_option maxRecDepth 100000
open Go.RowKit Go.ChangeShapes Go.WideShapes
set_option linter.unusedVariables false

theorem Raise.uniq {r : Nat} {f m : Int} {P P' : Nat} {F F' : Int} (h : Raise r f m P F) (h' : Raise r f m P' F') : P = P' ∧ F = F' := by
  refine ⟨?_, by rw [h.1, h'.1]⟩
  rcases h.2 with ⟨a, b⟩ | ⟨a, b, c⟩
  · rcases h'.2 with ⟨a', b'⟩ | ⟨a', b', c'⟩
    · rw [b, b']
    · omega
  · rcases h'.2 with ⟨a', b'⟩ | ⟨a', b', c'⟩
    · omega
    · rw [c, c']
theorem RootR.same {M r r' : Nat} {E f f' : Int} {k : Nat} (hk : 1 ≤ k) (h1 : r ^ k = M) (h2 : f * (k : Int) = E) (h1' : r' ^ k = M) (h2' : f' * (k : Int) = E) : r' = r ∧ f' = f := by
  refine ⟨pow_inj (show 0 < k by omega) (by rw [h1, h1']), ?_⟩
  exact Int.eq_of_mul_eq_mul_right (show (k : Int) ≠ 0 by omega) (by rw [h2, h2'])
theorem Low_some {w : World} {M K : Int} (h1 : -9223372036854775808 ≤ M) (h2 : M ≤ 9223372036854775807) (hK2 : K ≤ 9223372036854775807) :
    Calls Tryd.prog 26 #[.agg #[.int .i64 M, .int .i64 K]] w (fun e w' => ∃ m k c : Int, e = .returned (.tuple #[.agg #[.int .i64 m, .int .i64 k], .int .i64 c]) ∧ Below w.heap.size w w') := by
  by_cases hK : K < 1
  · refine (Low_arg hK).mono ?_
    rintro e w' ⟨rfl, hb⟩
    exact ⟨_, _, _, rfl, hb⟩
  · have hd1 : ((Nat.gcd M.natAbs K.toNat : Nat) : Int) ∣ M := Int.ofNat_dvd_left.2 (Nat.gcd_dvd_left _ _)
    have hd2 : ((Nat.gcd M.natAbs K.toNat : Nat) : Int) ∣ K := Int.ofNat_dvd_left.2 (by have := Nat.gcd_dvd_right M.natAbs K.toNat; rwa [show K.natAbs = K.toNat by omega])
    obtain ⟨m, hm⟩ := hd1
    obtain ⟨k, hk⟩ := hd2
    refine (Low_ok h1 h2 (by omega) hK2 rfl (by rw [Int.mul_comm]; exact hm) (by rw [Int.mul_comm]; exact hk)).mono ?_
    rintro e w' ⟨rfl, hb⟩
    exact ⟨_, _, _, rfl, hb⟩

set_option maxRecDepth 100000 in
set_option maxHeartbeats 4000000 in
theorem Power_arg {w : World} {v : Value} {neg n' : Bool} {A M : Nat} {e0 E m0 k0 : Int} (h : Num w v A) (hT : Tab w) (h1 : -9223372036854775808 ≤ e0) (h2 : e0 ≤ 9223372036854775807) (q : bareD ⟨neg, A, e0⟩ = ⟨n', M, E⟩) (sM : bitN M ≤ 2560000)
    (m1 : -9223372036854775808 ≤ m0) (m2 : m0 ≤ 9223372036854775807) (k2 : k0 ≤ 9223372036854775807) (hbad : fitsE E = false ∨ signD ⟨n', M, E⟩ ≤ 0 ∨ k0 < 1) :
    Calls Tryd.prog 9 #[.agg #[.bool neg, v, .int .i64 e0], .agg #[.int .i64 m0, .int .i64 k0]] w (fun e w' => e = .returned (.tuple #[.agg #[.bool false, .slice none 0 0, .int .i64 0], .bool false, .int .i64 1]) ∧ Below w.heap.size w w') := by
  obtain ⟨a, n, kk, rfl⟩ := h.slice
  have P := blk3_1 (w := w) (T := 32) (c := #[.bool neg, .slice a n kk, .int .i64 e0]) (o := .cells #[.int .i64 m0, .int .i64 k0] 36 (0, 0)) (o' := .cells #[.bool false, .slice none 0 0, .int .i64 0] 32 (0, 0))
  have Q := blk3_2 (w := w) (T := 36) (o := .cells #[.bool neg, .slice a n kk, .int .i64 e0] 32 (0, 0)) (c := #[.int .i64 m0, .int .i64 k0]) (o' := .cells #[.bool false, .slice none 0 0, .int .i64 0] 32 (0, 0))
  have R := blk3_3 (w := w) (T := 32) (o := .cells #[.bool neg, .slice a n kk, .int .i64 e0] 32 (0, 0)) (o' := .cells #[.int .i64 m0, .int .i64 k0] 36 (0, 0)) (c := #[.bool false, .slice none 0 0, .int .i64 0])
  have B : Below w.heap.size w (((w.alloc (.cells #[.bool neg, .slice a n kk, .int .i64 e0] 32 (0, 0))).alloc (.cells #[.int .i64 m0, .int .i64 k0] 36 (0, 0))).alloc (.cells #[.bool false, .slice none 0 0, .int .i64 0] 32 (0, 0))) := below_3
  have z0 := h.below B; have T0 := hT.below B
  have hlt := hT.lt
  clear h hT
  by_cases hf : fitsE E = true
  · have HB := Lib.hid (fun w v (h : Num w v A) (hT : Tab w) => Bare_ok h hT h1 h2 q hf)
    by_cases hk : k0 < 1
    · have HL := Lib.hid (fun w => Low_arg (w := w) (M := m0) hk)
      clear q hf hbad
      go_enter Tryd.func9, Tryd.ntmps9
      go_upto_region 1 with fail
      generalize hwx : ((w.alloc (.cells #[.bool neg, .slice a n kk, .int .i64 e0] 32 (0, 0))).alloc (.cells #[.int .i64 m0, .int .i64 k0] 36 (0, 0))).alloc (.cells #[.bool false, .slice none 0 0, .int .i64 0] 32 (0, 0)) = w0 at *
      clear hwx
      obtain ⟨cP0_0, cP1_0, cP2_0, fP0_0, fP1_0, fP2_0, sP_0⟩ := P.open3
      obtain ⟨cQ0_0, cQ1_0, fQ0_0, fQ1_0, sQ_0⟩ := Q.open2
      obtain ⟨cR0_0, cR1_0, cR2_0, fR0_0, fR1_0, fR2_0, sR_0⟩ := R.open3
      go_upto_region 2 with
    (first
      | (go_at_call 17; (with_reducible refine (HB.out _ _ z0 T0).mono ?_); rintro e w1 ⟨vx1, rfl, x1, hb1⟩; have B1 := B.trans (hb1.mono B.size); have z1 := z0.below hb1; have T1 := T0.below hb1; have P1 := P.below hb1; have Q1 := Q.below hb1; have R1 := R.below hb1; clear z0 T0 P Q R; obtain ⟨cP0_1, cP1_1, cP2_1, fP0_1, fP1_1, fP2_1, sP_1⟩ := P1.open3; obtain ⟨cQ0_1, cQ1_1, fQ0_1, fQ1_1, sQ_1⟩ := Q1.open2; obtain ⟨cR0_1, cR1_1, cR2_1, fR0_1, fR1_1, fR2_1, sR_1⟩ := R1.open3; obtain ⟨ax1, kx1, rfl, -⟩ := x1.view; try simp only [List.length_nil] at x1)
      | fail)
      have P2 := P1.set3 (.bool n') (.slice ax1 (digs BB M).length kx1) (.int .i64 E)
      have Q2 := Q1.other3 (show w.heap.size + 1 ≠ w.heap.size by omega) (.bool n') (.slice ax1 (digs BB M).length kx1) (.int .i64 E)
      have R2 := R1.other3 (show w.heap.size + 1 + 1 ≠ w.heap.size by omega) (.bool n') (.slice ax1 (digs BB M).length kx1) (.int .i64 E)
      have x2 := x1.set3 P1 dcells (.bool n') (.slice ax1 (digs BB M).length kx1) (.int .i64 E)
      have T2 := T1.set3 (Nat.ne_of_lt hlt) (.bool n') (.slice ax1 (digs BB M).length kx1) (.int .i64 E)
      have B2 := below_set3 B1 (Nat.le_refl _) (.bool n') (.slice ax1 (digs BB M).length kx1) (.int .i64 E)
      clear cP0_1 fP0_1 cR0_1 fR0_1 cP1_1 fP1_1 cR1_1 fR1_1 cP2_1 fP2_1 cR2_1 fR2_1 cQ0_1 fQ0_1 cQ1_1 fQ1_1 sP_1 sQ_1 sR_1 P1 Q1 R1 x1 T1 B1 z1 hb1
      generalize ((w1.setCell ⟨w.heap.size, 0, none⟩ (.bool n')).setCell ⟨w.heap.size, 1, none⟩ (.slice ax1 (digs BB M).length kx1)).setCell ⟨w.heap.size, 2, none⟩ (.int .i64 E) = w2 at *
      obtain ⟨cP0_2, cP1_2, cP2_2, fP0_2, fP1_2, fP2_2, sP_2⟩ := P2.open3
      obtain ⟨cQ0_2, cQ1_2, fQ0_2, fQ1_2, sQ_2⟩ := Q2.open2
      obtain ⟨cR0_2, cR1_2, cR2_2, fR0_2, fR1_2, fR2_2, sR_2⟩ := R2.open3
      go_upto_region 3 with
    (first
      | (go_at_call 26; (with_reducible refine (HL.out _).mono ?_); rintro e w3 ⟨rfl, hb3⟩; have B3 := B2.trans (hb3.mono B2.size); have x3 := x2.below hb3; have T3 := T2.below hb3; have P3 := P2.below hb3; have Q3 := Q2.below hb3; have R3 := R2.below hb3; clear x2 T2 P2 Q2 R2; obtain ⟨cP0_3, cP1_3, cP2_3, fP0_3, fP1_3, fP2_3, sP_3⟩ := P3.open3; obtain ⟨cQ0_3, cQ1_3, fQ0_3, fQ1_3, sQ_3⟩ := Q3.open2; obtain ⟨cR0_3, cR1_3, cR2_3, fR0_3, fR1_3, fR2_3, sR_3⟩ := R3.open3)
      | fail)
      have P4 := P3.other2 (show w.heap.size ≠ w.heap.size + 1 by omega) (.int .i64 0) (.int .i64 0)
      have Q4 := Q3.set2 (.int .i64 0) (.int .i64 0)
      have R4 := R3.other2 (show w.heap.size + 1 + 1 ≠ w.heap.size + 1 by omega) (.int .i64 0) (.int .i64 0)
      have x4 := x3.set2 Q3 (icells (by decide) (by decide)) (.int .i64 0) (.int .i64 0)
      have T4 := (T3.putP (show 0 ≠ w.heap.size + 1 by omega) 0 (.int .i64 0)).putP (show 0 ≠ w.heap.size + 1 by omega) 1 (.int .i64 0)
      have B4 : Below w.heap.size w ((w3.setCell ⟨w.heap.size + 1, 0, none⟩ (.int .i64 0)).setCell ⟨w.heap.size + 1, 1, none⟩ (.int .i64 0)) := below_set (below_set B3 (by omega) _) (by omega) _
      clear cP0_3 fP0_3 cR0_3 fR0_3 cP1_3 fP1_3 cR1_3 fR1_3 cP2_3 fP2_3 cR2_3 fR2_3 cQ0_3 fQ0_3 cQ1_3 fQ1_3 sP_3 sQ_3 sR_3 P3 Q3 R3 x3 T3 B3 hb3
      generalize (w3.setCell ⟨w.heap.size + 1, 0, none⟩ (.int .i64 0)).setCell ⟨w.heap.size + 1, 1, none⟩ (.int .i64 0) = w4 at *
      obtain ⟨cP0_4, cP1_4, cP2_4, fP0_4, fP1_4, fP2_4, sP_4⟩ := P4.open3
      obtain ⟨cQ0_4, cQ1_4, fQ0_4, fQ1_4, sQ_4⟩ := Q4.open2
      obtain ⟨cR0_4, cR1_4, cR2_4, fR0_4, fR1_4, fR2_4, sR_4⟩ := R4.open3
      go_wp2_with fail
      obtain ⟨q0, q1, q2, -⟩ := (R4.set3 (.bool false) (.slice none 0 0) (.int .i64 0)).open3
      refine bodyPost_ret (v := .tuple #[.agg #[.bool false, .slice none 0 0, .int .i64 0], .bool false, .int .i64 1]) ?_ rfl ?_
      · simp [results, Tryd.results9, go_sem, q0, q1, q2]
      · exact ⟨rfl, below_set3 B4 (by omega) _ _ _⟩
    · have HL := Lib.hid (fun w => Low_some (w := w) (M := m0) (K := k0) m1 m2 k2)
      obtain ⟨s, hs⟩ : ∃ s, signD ⟨n', M, E⟩ = s := ⟨_, rfl⟩
      have HS := Lib.hid (fun w v (h : Num w v M) => Sign_n h hs)
      have ds : decide (s ≤ 0) = true := decide_eq_true (by
        rcases hbad with h | h | h
        · rw [hf] at h; exact absurd h (by decide)
        · rw [hs] at h; exact h
        · omega)
      clear q hf hbad hs
      go_enter Tryd.func9, Tryd.ntmps9
      go_upto_region 1 with fail
      generalize hwx : ((w.alloc (.cells #[.bool neg, .slice a n kk, .int .i64 e0] 32 (0, 0))).alloc (.cells #[.int .i64 m0, .int .i64 k0] 36 (0, 0))).alloc (.cells #[.bool false, .slice none 0 0, .int .i64 0] 32 (0, 0)) = w0 at *
      clear hwx
      obtain ⟨cP0_0, cP1_0, cP2_0, fP0_0, fP1_0, fP2_0, sP_0⟩ := P.open3
      obtain ⟨cQ0_0, cQ1_0, fQ0_0, fQ1_0, sQ_0⟩ := Q.open2
      obtain ⟨cR0_0, cR1_0, cR2_0, fR0_0, fR1_0, fR2_0, sR_0⟩ := R.open3
      go_upto_region 2 with
    (first
      | (go_at_call 17; (with_reducible refine (HB.out _ _ z0 T0).mono ?_); rintro e w1 ⟨vx1, rfl, x1, hb1⟩; have B1 := B.trans (hb1.mono B.size); have z1 := z0.below hb1; have T1 := T0.below hb1; have P1 := P.below hb1; have Q1 := Q.below hb1; have R1 := R.below hb1; clear z0 T0 P Q R; obtain ⟨cP0_1, cP1_1, cP2_1, fP0_1, fP1_1, fP2_1, sP_1⟩ := P1.open3; obtain ⟨cQ0_1, cQ1_1, fQ0_1, fQ1_1, sQ_1⟩ := Q1.open2; obtain ⟨cR0_1, cR1_1, cR2_1, fR0_1, fR1_1, fR2_1, sR_1⟩ := R1.open3; obtain ⟨ax1, kx1, rfl, -⟩ := x1.view; try simp only [List.length_nil] at x1)
      | fail)
      have P2 := P1.set3 (.bool n') (.slice ax1 (digs BB M).length kx1) (.int .i64 E)
      have Q2 := Q1.other3 (show w.heap.size + 1 ≠ w.heap.size by omega) (.bool n') (.slice ax1 (digs BB M).length kx1) (.int .i64 E)
      have R2 := R1.other3 (show w.heap.size + 1 + 1 ≠ w.heap.size by omega) (.bool n') (.slice ax1 (digs BB M).length kx1) (.int .i64 E)
      have x2 := x1.set3 P1 dcells (.bool n') (.slice ax1 (digs BB M).length kx1) (.int .i64 E)
      have T2 := T1.set3 (Nat.ne_of_lt hlt) (.bool n') (.slice ax1 (digs BB M).length kx1) (.int .i64 E)
      have B2 := below_set3 B1 (Nat.le_refl _) (.bool n') (.slice ax1 (digs BB M).length kx1) (.int .i64 E)
      clear cP0_1 fP0_1 cR0_1 fR0_1 cP1_1 fP1_1 cR1_1 fR1_1 cP2_1 fP2_1 cR2_1 fR2_1 cQ0_1 fQ0_1 cQ1_1 fQ1_1 sP_1 sQ_1 sR_1 P1 Q1 R1 x1 T1 B1 z1 hb1
      generalize ((w1.setCell ⟨w.heap.size, 0, none⟩ (.bool n')).setCell ⟨w.heap.size, 1, none⟩ (.slice ax1 (digs BB M).length kx1)).setCell ⟨w.heap.size, 2, none⟩ (.int .i64 E) = w2 at *
      obtain ⟨cP0_2, cP1_2, cP2_2, fP0_2, fP1_2, fP2_2, sP_2⟩ := P2.open3
      obtain ⟨cQ0_2, cQ1_2, fQ0_2, fQ1_2, sQ_2⟩ := Q2.open2
      obtain ⟨cR0_2, cR1_2, cR2_2, fR0_2, fR1_2, fR2_2, sR_2⟩ := R2.open3
      go_upto_region 3 with
    (first
      | (go_at_call 26; (with_reducible refine (HL.out _).mono ?_); rintro e w3 ⟨lm, lk, lc, rfl, hb3⟩; have B3 := B2.trans (hb3.mono B2.size); have x3 := x2.below hb3; have T3 := T2.below hb3; have P3 := P2.below hb3; have Q3 := Q2.below hb3; have R3 := R2.below hb3; clear x2 T2 P2 Q2 R2; obtain ⟨cP0_3, cP1_3, cP2_3, fP0_3, fP1_3, fP2_3, sP_3⟩ := P3.open3; obtain ⟨cQ0_3, cQ1_3, fQ0_3, fQ1_3, sQ_3⟩ := Q3.open2; obtain ⟨cR0_3, cR1_3, cR2_3, fR0_3, fR1_3, fR2_3, sR_3⟩ := R3.open3)
      | fail)
      have P4 := P3.other2 (show w.heap.size ≠ w.heap.size + 1 by omega) (.int .i64 lm) (.int .i64 lk)
      have Q4 := Q3.set2 (.int .i64 lm) (.int .i64 lk)
      have R4 := R3.other2 (show w.heap.size + 1 + 1 ≠ w.heap.size + 1 by omega) (.int .i64 lm) (.int .i64 lk)
      have x4 := x3.set2 Q3 (icells (by decide) (by decide)) (.int .i64 lm) (.int .i64 lk)
      have T4 := (T3.putP (show 0 ≠ w.heap.size + 1 by omega) 0 (.int .i64 lm)).putP (show 0 ≠ w.heap.size + 1 by omega) 1 (.int .i64 lk)
      have B4 : Below w.heap.size w ((w3.setCell ⟨w.heap.size + 1, 0, none⟩ (.int .i64 lm)).setCell ⟨w.heap.size + 1, 1, none⟩ (.int .i64 lk)) := below_set (below_set B3 (by omega) _) (by omega) _
      clear cP0_3 fP0_3 cR0_3 fR0_3 cP1_3 fP1_3 cR1_3 fR1_3 cP2_3 fP2_3 cR2_3 fR2_3 cQ0_3 fQ0_3 cQ1_3 fQ1_3 sP_3 sQ_3 sR_3 P3 Q3 R3 x3 T3 B3 hb3
      generalize (w3.setCell ⟨w.heap.size + 1, 0, none⟩ (.int .i64 lm)).setCell ⟨w.heap.size + 1, 1, none⟩ (.int .i64 lk) = w4 at *
      obtain ⟨cP0_4, cP1_4, cP2_4, fP0_4, fP1_4, fP2_4, sP_4⟩ := P4.open3
      obtain ⟨cQ0_4, cQ1_4, fQ0_4, fQ1_4, sQ_4⟩ := Q4.open2
      obtain ⟨cR0_4, cR1_4, cR2_4, fR0_4, fR1_4, fR2_4, sR_4⟩ := R4.open3
      have dc : lc = 0 ∨ lc ≠ 0 := by omega
      rcases dc with dc | dc
      · subst dc
        go_wp2_with
        (first
          | (go_at_call 18; (with_reducible refine (HS.out _ _ (x4.num (by omega))).mono ?_); rintro e w5 ⟨rfl, hb5⟩; have B5 := B4.trans (hb5.mono B4.size); have x5 := x4.below hb5; have T5 := T4.below hb5; have P5 := P4.below hb5; have Q5 := Q4.below hb5; have R5 := R4.below hb5; clear x4 T4 P4 Q4 R4; obtain ⟨cP0_5, cP1_5, cP2_5, fP0_5, fP1_5, fP2_5, sP_5⟩ := P5.open3; obtain ⟨cQ0_5, cQ1_5, fQ0_5, fQ1_5, sQ_5⟩ := Q5.open2; obtain ⟨cR0_5, cR1_5, cR2_5, fR0_5, fR1_5, fR2_5, sR_5⟩ := R5.open3)
          | fail)
        obtain ⟨q0, q1, q2, -⟩ := (R5.set3 (.bool false) (.slice none 0 0) (.int .i64 0)).open3
        refine bodyPost_ret (v := .tuple #[.agg #[.bool false, .slice none 0 0, .int .i64 0], .bool false, .int .i64 1]) ?_ rfl ?_
        · simp [results, Tryd.results9, go_sem, q0, q1, q2]
        · exact ⟨rfl, below_set3 B5 (by omega) _ _ _⟩
      · have dcb : (lc == 0) = false := beq_eq_false_iff_ne.2 dc
        go_wp2_with fail
        obtain ⟨q0, q1, q2, -⟩ := (R4.set3 (.bool false) (.slice none 0 0) (.int .i64 0)).open3
        refine bodyPost_ret (v := .tuple #[.agg #[.bool false, .slice none 0 0, .int .i64 0], .bool false, .int .i64 1]) ?_ rfl ?_
        · simp [results, Tryd.results9, go_sem, q0, q1, q2]
        · exact ⟨rfl, below_set3 B4 (by omega) _ _ _⟩
  · have HB := Lib.hid (fun w v (h : Num w v A) (hT : Tab w) => Bare_long h hT h1 h2 q (by simpa using hf))
    have HL := Lib.hid (fun w => Low_some (w := w) (M := m0) (K := k0) m1 m2 k2)
    clear q hf hbad
    go_enter Tryd.func9, Tryd.ntmps9
    go_upto_region 1 with fail
    generalize hwx : ((w.alloc (.cells #[.bool neg, .slice a n kk, .int .i64 e0] 32 (0, 0))).alloc (.cells #[.int .i64 m0, .int .i64 k0] 36 (0, 0))).alloc (.cells #[.bool false, .slice none 0 0, .int .i64 0] 32 (0, 0)) = w0 at *
    clear hwx
    obtain ⟨cP0_0, cP1_0, cP2_0, fP0_0, fP1_0, fP2_0, sP_0⟩ := P.open3
    obtain ⟨cQ0_0, cQ1_0, fQ0_0, fQ1_0, sQ_0⟩ := Q.open2
    obtain ⟨cR0_0, cR1_0, cR2_0, fR0_0, fR1_0, fR2_0, sR_0⟩ := R.open3
    go_upto_region 2 with
    (first
      | (go_at_call 17; (with_reducible refine (HB.out _ _ z0 T0).mono ?_); rintro e w1 ⟨rfl, hb1⟩; have B1 := B.trans (hb1.mono B.size); have z1 := z0.below hb1; have T1 := T0.below hb1; have P1 := P.below hb1; have Q1 := Q.below hb1; have R1 := R.below hb1; clear z0 T0 P Q R; obtain ⟨cP0_1, cP1_1, cP2_1, fP0_1, fP1_1, fP2_1, sP_1⟩ := P1.open3; obtain ⟨cQ0_1, cQ1_1, fQ0_1, fQ1_1, sQ_1⟩ := Q1.open2; obtain ⟨cR0_1, cR1_1, cR2_1, fR0_1, fR1_1, fR2_1, sR_1⟩ := R1.open3)
      | fail)
    have P2 := P1.set3 (.bool false) (.slice none 0 0) (.int .i64 0)
    have Q2 := Q1.other3 (show w.heap.size + 1 ≠ w.heap.size by omega) (.bool false) (.slice none 0 0) (.int .i64 0)
    have R2 := R1.other3 (show w.heap.size + 1 + 1 ≠ w.heap.size by omega) (.bool false) (.slice none 0 0) (.int .i64 0)
    have T2 := T1.set3 (Nat.ne_of_lt hlt) (.bool false) (.slice none 0 0) (.int .i64 0)
    have B2 := below_set3 B1 (Nat.le_refl _) (.bool false) (.slice none 0 0) (.int .i64 0)
    clear cP0_1 fP0_1 cR0_1 fR0_1 cP1_1 fP1_1 cR1_1 fR1_1 cP2_1 fP2_1 cR2_1 fR2_1 cQ0_1 fQ0_1 cQ1_1 fQ1_1 sP_1 sQ_1 sR_1 P1 Q1 R1 T1 B1 z1 hb1
    generalize ((w1.setCell ⟨w.heap.size, 0, none⟩ (.bool false)).setCell ⟨w.heap.size, 1, none⟩ (.slice none 0 0)).setCell ⟨w.heap.size, 2, none⟩ (.int .i64 0) = w2 at *
    obtain ⟨cP0_2, cP1_2, cP2_2, fP0_2, fP1_2, fP2_2, sP_2⟩ := P2.open3
    obtain ⟨cQ0_2, cQ1_2, fQ0_2, fQ1_2, sQ_2⟩ := Q2.open2
    obtain ⟨cR0_2, cR1_2, cR2_2, fR0_2, fR1_2, fR2_2, sR_2⟩ := R2.open3
    go_upto_region 3 with
    (first
      | (go_at_call 26; (with_reducible refine (HL.out _).mono ?_); rintro e w3 ⟨lm, lk, lc, rfl, hb3⟩; have B3 := B2.trans (hb3.mono B2.size); have T3 := T2.below hb3; have P3 := P2.below hb3; have Q3 := Q2.below hb3; have R3 := R2.below hb3; clear T2 P2 Q2 R2; obtain ⟨cP0_3, cP1_3, cP2_3, fP0_3, fP1_3, fP2_3, sP_3⟩ := P3.open3; obtain ⟨cQ0_3, cQ1_3, fQ0_3, fQ1_3, sQ_3⟩ := Q3.open2; obtain ⟨cR0_3, cR1_3, cR2_3, fR0_3, fR1_3, fR2_3, sR_3⟩ := R3.open3)
      | fail)
    have P4 := P3.other2 (show w.heap.size ≠ w.heap.size + 1 by omega) (.int .i64 lm) (.int .i64 lk)
    have Q4 := Q3.set2 (.int .i64 lm) (.int .i64 lk)
    have R4 := R3.other2 (show w.heap.size + 1 + 1 ≠ w.heap.size + 1 by omega) (.int .i64 lm) (.int .i64 lk)
    have T4 := (T3.putP (show 0 ≠ w.heap.size + 1 by omega) 0 (.int .i64 lm)).putP (show 0 ≠ w.heap.size + 1 by omega) 1 (.int .i64 lk)
    have B4 : Below w.heap.size w ((w3.setCell ⟨w.heap.size + 1, 0, none⟩ (.int .i64 lm)).setCell ⟨w.heap.size + 1, 1, none⟩ (.int .i64 lk)) := below_set (below_set B3 (by omega) _) (by omega) _
    clear cP0_3 fP0_3 cR0_3 fR0_3 cP1_3 fP1_3 cR1_3 fR1_3 cP2_3 fP2_3 cR2_3 fR2_3 cQ0_3 fQ0_3 cQ1_3 fQ1_3 sP_3 sQ_3 sR_3 P3 Q3 R3 T3 B3 hb3
    generalize (w3.setCell ⟨w.heap.size + 1, 0, none⟩ (.int .i64 lm)).setCell ⟨w.heap.size + 1, 1, none⟩ (.int .i64 lk) = w4 at *
    obtain ⟨cP0_4, cP1_4, cP2_4, fP0_4, fP1_4, fP2_4, sP_4⟩ := P4.open3
    obtain ⟨cQ0_4, cQ1_4, fQ0_4, fQ1_4, sQ_4⟩ := Q4.open2
    obtain ⟨cR0_4, cR1_4, cR2_4, fR0_4, fR1_4, fR2_4, sR_4⟩ := R4.open3
    go_wp2_with fail
    obtain ⟨q0, q1, q2, -⟩ := (R4.set3 (.bool false) (.slice none 0 0) (.int .i64 0)).open3
    refine bodyPost_ret (v := .tuple #[.agg #[.bool false, .slice none 0 0, .int .i64 0], .bool false, .int .i64 1]) ?_ rfl ?_
    · simp [results, Tryd.results9, go_sem, q0, q1, q2]
    · exact ⟨rfl, below_set3 B4 (by omega) _ _ _⟩
end Go.Proofs.YtabdmnjdmnnejaaDoor
