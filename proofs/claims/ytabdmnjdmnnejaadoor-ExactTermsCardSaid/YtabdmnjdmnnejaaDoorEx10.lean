/- exact.Of by its contract. Conditions: the number is short; math/bits' table stands in its variable. -/
import Derived.Test.YtabdmnjdmnnejaaDoorEx9
namespace Go.Proofs.YtabdmnjdmnnejaaDoor
set_option maxRecDepth 100000
open Go.RowKit Go.ChangeShapes Go.WideShapes
set_option linter.unusedVariables false

theorem nsmall_e {w : World} {v : Value} {A : Nat} (h : RdN w v (digs BB A)) (hA : A < BB) : Calls Tryd.prog 49 #[v] w (fun e w' => e = .returned (.tuple #[L64 A, .bool true]) ∧ Below w.heap.size w w') := by
  have hl : (digs BB A).length ≤ 1 := by
    by_cases h0 : A = 0
    · rw [h0, digs_zero]; exact Nat.zero_le _
    · rw [digs_pos BB_two (by omega), show A / BB = 0 from Nat.div_eq_of_lt hA, digs_zero]; exact Nat.le_refl _
  have hs : strip (digs BB A) = digs BB A := by
    have := strip_eq BB_two (dig_digs BB_two A)
    rw [val_digs BB_two] at this; exact this
  have hv : (digs BB A).getD 0 0 = A := by
    by_cases h0 : A = 0
    · rw [h0, digs_zero]; rfl
    · rw [digs_pos BB_two (by omega)]; exact Nat.mod_eq_of_lt hA
  have := small_any h (by omega)
  rw [hs, if_pos hl, hv, decide_eq_true hl] at this
  exact this

theorem Blk.put0 {w : World} {b : Nat} {x y : Value} (h : Blk w b #[x, y]) (x' : Value) : Blk (w.setCell ⟨b, 0, none⟩ x') b #[x', y] := by
  obtain ⟨h1, T, h2⟩ := h
  exact ⟨by simpa [World.setCell] using h1, T, heap_setC h2 x'⟩

set_option maxHeartbeats 2000000 in
theorem EOf_ok {w : World} {v : Value} {neg n' : Bool} {A M c d C : Nat} {e0 E K PM : Int} (h : Num w v A) (hT : Tab w) (h1 : -9223372036854775808 ≤ e0) (h2 : e0 ≤ 9223372036854775807) (q : bareD ⟨neg, A, e0⟩ = ⟨n', M, E⟩) (hf : fitsE E = true)
    (hE : -62 ≤ E) (hc : max E 0 = (c : Int)) (hd : max (-E) 0 = (d : Int)) (hb : (bitN M : Int) + (c : Int) ≤ 62) (hC : M * 2 ^ c = C) (hK : ((2 ^ d : Nat) : Int) = K) (hPM : (if n' then -(C : Int) else (C : Int)) = PM) :
    Calls Tryd.prog 21 #[.agg #[.bool neg, v, .int .i64 e0]] w (fun e w' => e = .returned (.tuple #[.agg #[.int .i64 PM, .int .i64 K], .bool true]) ∧ Below w.heap.size w w') := by
  obtain ⟨a, n, kk, rfl⟩ := h.slice
  have hPM := Lib.hid hPM
  have HB := Lib.hid (fun w v (h : Num w v A) (hT : Tab w) => Bare_ok h hT h1 h2 q hf)
  obtain ⟨b, eb⟩ : ∃ b, bitN M = b := ⟨_, rfl⟩
  rw [eb] at hb
  have hCl : C < 2 ^ 62 := by
    have h3 := bitN_lt M
    rw [eb] at h3
    have h4 := Nat.mul_lt_mul_of_pos_right h3 (Nat.two_pow_pos c)
    rw [hC, ← Nat.pow_add] at h4
    exact Nat.lt_of_lt_of_le h4 (Nat.pow_le_pow_right (by omega) (by omega))
  have hdl : d ≤ 62 := by omega
  have hKl : 1 ≤ K ∧ K ≤ 4611686018427387904 := by
    have h3 : 2 ^ d ≤ 2 ^ 62 := Nat.pow_le_pow_right (by omega) hdl
    have h4 := Nat.two_pow_pos d
    rw [← hK]
    generalize 2 ^ d = x at *
    omega
  have hCl : C < 4611686018427387904 := hCl
  have hBB : BB = 18446744073709551616 := rfl
  have HBT := Lib.hid (fun w v (h : RdN w v (digs BB M)) => bits_n (h.num (by omega)) eb)
  have HSH := Lib.hid (fun w v (h : RdN w v (digs BB M)) => shl_n (n := c) (h.num (by omega)) hC (by omega))
  have HSM := Lib.hid (fun w v (h : RdN w v (digs BB C)) => nsmall_e h (by omega))
  have d1 : decide (E < -62) = false := decide_eq_false (by omega)
  have d2 : decide (62 < (b : Int) + (c : Int)) = false := decide_eq_false (by omega)
  have wb : IntKind.i64.wrap ((b : Int) + (c : Int)) = (b : Int) + (c : Int) := by rw [IntKind.wrap_i64]; omega
  have wE : IntKind.i64.wrap (-E) = -E := by rw [IntKind.wrap_i64]; omega
  have wC : IntKind.i64.wrap (C : Int) = (C : Int) := by rw [IntKind.wrap_i64]; omega
  have wC2 : IntKind.i64.wrap (-(C : Int)) = -(C : Int) := by rw [IntKind.wrap_i64]; omega
  have wK : IntKind.i64.wrap K = K := by rw [IntKind.wrap_i64]; omega
  have wsh : wrap64 ((2 : Int) ^ min d 64) = K := by
    rw [Nat.min_eq_left (by omega), show (2 : Int) ^ d = K by rw [← hK]; exact (Int.natCast_pow 2 d).symm]
    unfold wrap64; omega
  have P := blk_a1 (w := w) (T := 32) (c := #[.bool neg, .slice a n kk, .int .i64 e0]) (o := .cells #[.int .i64 0, .int .i64 0] 36 (0, 0))
  have R := blk_a2 (w := w) (T := 36) (o := .cells #[.bool neg, .slice a n kk, .int .i64 e0] 32 (0, 0)) (c := #[.int .i64 0, .int .i64 0])
  have B0 : Below w.heap.size w ((w.alloc (.cells #[.bool neg, .slice a n kk, .int .i64 e0] 32 (0, 0))).alloc (.cells #[.int .i64 0, .int .i64 0] 36 (0, 0))) := below_2
  have m0 := h.below B0; have T0 := hT.below B0
  have hTlt := hT.lt
  clear hBB h hT q hf hE hb eb hC hCl hKl hdl h1 h2 hK
  go_enter Tryd.func21, Tryd.ntmps21
  go_upto_region 1 with fail
  generalize hwx : (w.alloc (.cells #[.bool neg, .slice a n kk, .int .i64 e0] 32 (0, 0))).alloc (.cells #[.int .i64 0, .int .i64 0] 36 (0, 0)) = w0 at *
  clear hwx
  obtain ⟨cP0, cP1, cP2, fP0, fP1, fP2, sP⟩ := P.open3
  go_upto_region 2 with
  (first
    | (go_at_call 17; (with_reducible refine (HB.out _ _ m0 T0).mono ?_); rintro e w1 ⟨vx1, rfl, x1, hb1⟩; have B1 := B0.trans (hb1.mono B0.size); have m1 := m0.below hb1; have T1 := T0.below hb1; have P1 := P.below hb1; have R1 := R.below hb1; clear m0 T0 P R; obtain ⟨cP0_1, cP1_1, cP2_1, fP0_1, fP1_1, fP2_1, sP_1⟩ := P1.open3; obtain ⟨ax1, kx1, rfl, -⟩ := x1.view; try simp only [List.length_nil] at x1)
    | fail)
  have x2 := x1.set3 P1 dcells (.bool n') (.slice ax1 (digs BB M).length kx1) (.int .i64 E)
  have P4 := P1.set3 (.bool n') (.slice ax1 (digs BB M).length kx1) (.int .i64 E)
  have B2 := below_set3 B1 (Nat.le_refl _) (.bool n') (.slice ax1 (digs BB M).length kx1) (.int .i64 E)
  have T4 := T1.set3 (Nat.ne_of_lt hTlt) (.bool n') (.slice ax1 (digs BB M).length kx1) (.int .i64 E)
  have R4 := R1.other3 (show w.heap.size + 1 ≠ w.heap.size by omega) (.bool n') (.slice ax1 (digs BB M).length kx1) (.int .i64 E)
  clear x1 P1 B1 T1 R1 m1 cP0_1 cP1_1 cP2_1 fP0_1 fP1_1 fP2_1 sP_1 hb1 cP0 cP1 cP2 fP0 fP1 fP2 sP
  generalize ((w1.setCell ⟨w.heap.size, 0, none⟩ (.bool n')).setCell ⟨w.heap.size, 1, none⟩ (.slice ax1 (digs BB M).length kx1)).setCell ⟨w.heap.size, 2, none⟩ (.int .i64 E) = w2 at *
  obtain ⟨cP0_1, cP1_1, cP2_1, fP0_1, fP1_1, fP2_1, sP_1⟩ := P4.open3
  go_upto_region 4 with fail
  go_cut [5] (fun t w' => t = .int .i64 ((b : Int) + (c : Int)) ∧ Below w2.heap.size w2 w')
  case first =>
    have Dw : Below w2.heap.size w2 w2.drew := below_drewN (Below.refl _ _) 1
    have Pd := P4.below Dw; have xd := x2.below Dw
    have zd := Lib.hid (cells33x Pd)
    clear P4 x2 T4 R4 B2 cP0_1 cP1_1 cP2_1 fP0_1 fP1_1 fP2_1 sP_1
    go_region_held3 (fun w' => w'.cell? ⟨w.heap.size, 0, none⟩ = some (.bool n') ∧ w'.cell? ⟨w.heap.size, 1, none⟩ = some (.slice ax1 (digs BB M).length kx1) ∧ w'.cell? ⟨w.heap.size, 2, none⟩ = some (.int .i64 E))
      (first | exact zd.out | exact z1.out)
      (first
        | (go_at_call 37; (with_reducible refine (HBT.out _ _ xd).mono ?_); rintro e y1 ⟨rfl, hz1⟩; have P1 := Pd.below hz1; have B1 := Dw.trans (hz1.mono Dw.size); have z1 := Lib.hid (cells33x P1))
        | fail)
    all_goals
      go_wp2_with fail
      go_meet
      exact ⟨rfl, by assumption⟩
  case rest =>
    obtain ⟨rfl, hb3⟩ := hcut
    generalize hwx : wc = w3 at *
    clear hwx
    have x3 := x2.below hb3; have P3 := P4.below hb3; have R3 := R4.below hb3; have B3 := B2.trans (hb3.mono B2.size)
    clear cP0_1 cP1_1 cP2_1 fP0_1 fP1_1 fP2_1 sP_1 x2 P4 R4 T4 B2 hb3
    obtain ⟨cP0_3, cP1_3, cP2_3, fP0_3, fP1_3, fP2_3, sP_3⟩ := P3.open3
    go_upto_region 9 with
    (first
      | (go_at_call 48; (with_reducible refine (HSH.out _ _ x3).mono ?_); rintro e w11 ⟨vy11, rfl, y11, hb11⟩; have B11 := B3.trans (hb11.mono B3.size); have x11 := x3.below hb11; have P11 := P3.below hb11; have R11 := R3.below hb11; clear x3 P3 R3; obtain ⟨cP0_11, cP1_11, cP2_11, fP0_11, fP1_11, fP2_11, sP_11⟩ := P11.open3; obtain ⟨ay11, ky11, rfl, -⟩ := y11.view; try simp only [List.length_nil] at y11)
      | (go_at_call 49; (with_reducible refine (HSM.out _ _ y11).mono ?_); rintro e w12 ⟨rfl, hb12⟩; have B12 := B11.trans (hb12.mono B11.size); have x12 := x11.below hb12; have P12 := P11.below hb12; have R12 := R11.below hb12; have y12 := y11.below hb12; clear x11 P11 R11 y11; clear cP0_11 cP1_11 cP2_11 fP0_11 fP1_11 fP2_11 sP_11; obtain ⟨cP0_12, cP1_12, cP2_12, fP0_12, fP1_12, fP2_12, sP_12⟩ := P12.open3)
      | fail)
    go_upto_region 10 with fail
    have hA := below_alloc w12 (.cells #[.int .i64 (C : Int), .int .i64 K] 36 (0, 0))
    have Q4 : Blk (w12.alloc (.cells #[.int .i64 (C : Int), .int .i64 K] 36 (0, 0))) w12.heap.size #[.int .i64 (C : Int), .int .i64 K] := blk_new
    have P4 := P12.below hA; have R4 := R12.below hA
    have B4 := B12.trans (hA.mono B12.size)
    have hneq : w.heap.size + 1 ≠ w12.heap.size := Nat.ne_of_lt R12.1
    have hbq := R12.1
    have hbs := B12.size
    clear hA cP0_12 cP1_12 cP2_12 fP0_12 fP1_12 fP2_12 sP_12 P12 R12 B12 x12 y12 hb12
    generalize w12.alloc (.cells #[.int .i64 (C : Int), .int .i64 K] 36 (0, 0)) = w4 at *
    generalize w12.heap.size = bq at *
    obtain ⟨cP0_4, cP1_4, cP2_4, fP0_4, fP1_4, fP2_4, sP_4⟩ := P4.open3
    obtain ⟨cQ0_4, cQ1_4, fQ0_4, fQ1_4, sQ_4⟩ := Q4.open2
    obtain ⟨cR0_4, cR1_4, fR0_4, fR1_4, sR_4⟩ := R4.open2
    cases n'
    · go_wp2_with fail
      obtain ⟨z0, z1, -⟩ := (R4.set2 (.int .i64 (C : Int)) (.int .i64 K)).open2
      refine bodyPost_ret (v := .tuple #[.agg #[.int .i64 (C : Int), .int .i64 K], .bool true]) ?_ rfl ?_
      · simp [results, Tryd.results21, go_sem, z0, z1]
      · exact ⟨by rw [← hPM.out]; rfl, below_set (below_set B4 (by omega) _) (by omega) _⟩
    · go_upto_region 12 with fail
      have Q5 := Q4.put0 (.int .i64 (-(C : Int)))
      have R5 := R4.otherP hneq 0 (.int .i64 (-(C : Int)))
      have B5 := below_set (j := 0) B4 hbs (.int .i64 (-(C : Int)))
      clear cP0_4 cP1_4 cP2_4 fP0_4 fP1_4 fP2_4 sP_4 P4 cQ0_4 cQ1_4 fQ0_4 fQ1_4 sQ_4 cR0_4 cR1_4 fR0_4 fR1_4 sR_4 Q4 R4 B4
      generalize w4.setCell ⟨bq, 0, none⟩ (.int .i64 (-(C : Int))) = w5 at *
      obtain ⟨cQ0_5, cQ1_5, fQ0_5, fQ1_5, sQ_5⟩ := Q5.open2
      obtain ⟨cR0_5, cR1_5, fR0_5, fR1_5, sR_5⟩ := R5.open2
      go_wp2_with fail
      obtain ⟨z0, z1, -⟩ := (R5.set2 (.int .i64 (-(C : Int))) (.int .i64 K)).open2
      refine bodyPost_ret (v := .tuple #[.agg #[.int .i64 (-(C : Int)), .int .i64 K], .bool true]) ?_ rfl ?_
      · simp [results, Tryd.results21, go_sem, z0, z1]
      · exact ⟨by rw [← hPM.out]; rfl, below_set (below_set B5 (by omega) _) (by omega) _⟩

set_option maxHeartbeats 2000000 in
theorem EOf_bad {w : World} {v : Value} {neg n' : Bool} {A M : Nat} {e0 E : Int} (h : Num w v A) (hT : Tab w) (h1 : -9223372036854775808 ≤ e0) (h2 : e0 ≤ 9223372036854775807) (q : bareD ⟨neg, A, e0⟩ = ⟨n', M, E⟩) (sM : bitN M ≤ 2560000)
    (hb : fitsE E = false ∨ E < -62 ∨ 62 < (bitN M : Int) + max E 0) :
    Calls Tryd.prog 21 #[.agg #[.bool neg, v, .int .i64 e0]] w (fun e w' => e = .returned (.tuple #[.agg #[.int .i64 0, .int .i64 0], .bool false]) ∧ Below w.heap.size w w') := by
  obtain ⟨a, n, kk, rfl⟩ := h.slice
  have P := blk_a1 (w := w) (T := 32) (c := #[.bool neg, .slice a n kk, .int .i64 e0]) (o := .cells #[.int .i64 0, .int .i64 0] 36 (0, 0))
  have R := blk_a2 (w := w) (T := 36) (o := .cells #[.bool neg, .slice a n kk, .int .i64 e0] 32 (0, 0)) (c := #[.int .i64 0, .int .i64 0])
  have B0 : Below w.heap.size w ((w.alloc (.cells #[.bool neg, .slice a n kk, .int .i64 e0] 32 (0, 0))).alloc (.cells #[.int .i64 0, .int .i64 0] 36 (0, 0))) := below_2
  have m0 := h.below B0; have T0 := hT.below B0
  clear h hT
  by_cases hf : fitsE E = true
  rotate_left
  · have HB := Lib.hid (fun w v (h : Num w v A) (hT : Tab w) => Bare_long h hT h1 h2 q (by simpa using hf))
    clear q hf hb
    go_enter Tryd.func21, Tryd.ntmps21
    go_upto_region 1 with fail
    generalize hwx : (w.alloc (.cells #[.bool neg, .slice a n kk, .int .i64 e0] 32 (0, 0))).alloc (.cells #[.int .i64 0, .int .i64 0] 36 (0, 0)) = w0 at *
    clear hwx
    obtain ⟨cP0, cP1, cP2, fP0, fP1, fP2, sP⟩ := P.open3
    go_upto_region 2 with
    (first
      | (go_at_call 17; (with_reducible refine (HB.out _ _ m0 T0).mono ?_); rintro e w1 ⟨rfl, hb1⟩; have B1 := B0.trans (hb1.mono B0.size); have m1 := m0.below hb1; have T1 := T0.below hb1; have P1 := P.below hb1; have R1 := R.below hb1; clear m0 T0 P R; obtain ⟨cP0_1, cP1_1, cP2_1, fP0_1, fP1_1, fP2_1, sP_1⟩ := P1.open3)
      | fail)
    have P4 := P1.set3 (.bool false) (.slice none 0 0) (.int .i64 0)
    have B2 := below_set3 B1 (Nat.le_refl _) (.bool false) (.slice none 0 0) (.int .i64 0)
    have R4 := R1.other3 (show w.heap.size + 1 ≠ w.heap.size by omega) (.bool false) (.slice none 0 0) (.int .i64 0)
    clear P1 B1 T1 R1 m1 cP0_1 cP1_1 cP2_1 fP0_1 fP1_1 fP2_1 sP_1 hb1 cP0 cP1 cP2 fP0 fP1 fP2 sP
    generalize ((w1.setCell ⟨w.heap.size, 0, none⟩ (.bool false)).setCell ⟨w.heap.size, 1, none⟩ (.slice none 0 0)).setCell ⟨w.heap.size, 2, none⟩ (.int .i64 0) = w2 at *
    obtain ⟨cP0_1, cP1_1, cP2_1, fP0_1, fP1_1, fP2_1, sP_1⟩ := P4.open3
    obtain ⟨cR0_4, cR1_4, fR0_4, fR1_4, sR_4⟩ := R4.open2
    go_wp2_with fail
    obtain ⟨z0, z1, -⟩ := (R4.set2 (.int .i64 0) (.int .i64 0)).open2
    refine bodyPost_ret (v := .tuple #[.agg #[.int .i64 0, .int .i64 0], .bool false]) ?_ rfl ?_
    · simp [results, Tryd.results21, go_sem, z0, z1]
    · exact ⟨rfl, below_set (below_set B2 (by omega) _) (by omega) _⟩
  have HB := Lib.hid (fun w v (h : Num w v A) (hT : Tab w) => Bare_ok h hT h1 h2 q hf)
  have rE : -1073741824 ≤ E ∧ E ≤ 1073741824 := by unfold fitsE at hf; simp at hf; exact hf
  have hb : E < -62 ∨ 62 < (bitN M : Int) + max E 0 := hb.resolve_left (by rw [hf]; decide)
  by_cases hE : E < -62
  · have d1 : decide (E < -62) = true := decide_eq_true hE
    clear q hf hb hE rE
    go_enter Tryd.func21, Tryd.ntmps21
    go_upto_region 1 with fail
    generalize hwx : (w.alloc (.cells #[.bool neg, .slice a n kk, .int .i64 e0] 32 (0, 0))).alloc (.cells #[.int .i64 0, .int .i64 0] 36 (0, 0)) = w0 at *
    clear hwx
    obtain ⟨cP0, cP1, cP2, fP0, fP1, fP2, sP⟩ := P.open3
    go_upto_region 2 with
    (first
      | (go_at_call 17; (with_reducible refine (HB.out _ _ m0 T0).mono ?_); rintro e w1 ⟨vx1, rfl, x1, hb1⟩; have B1 := B0.trans (hb1.mono B0.size); have m1 := m0.below hb1; have T1 := T0.below hb1; have P1 := P.below hb1; have R1 := R.below hb1; clear m0 T0 P R; obtain ⟨cP0_1, cP1_1, cP2_1, fP0_1, fP1_1, fP2_1, sP_1⟩ := P1.open3; obtain ⟨ax1, kx1, rfl, -⟩ := x1.view; try simp only [List.length_nil] at x1)
      | fail)
    have P4 := P1.set3 (.bool n') (.slice ax1 (digs BB M).length kx1) (.int .i64 E)
    have B2 := below_set3 B1 (Nat.le_refl _) (.bool n') (.slice ax1 (digs BB M).length kx1) (.int .i64 E)
    have R4 := R1.other3 (show w.heap.size + 1 ≠ w.heap.size by omega) (.bool n') (.slice ax1 (digs BB M).length kx1) (.int .i64 E)
    clear P1 B1 T1 R1 m1 cP0_1 cP1_1 cP2_1 fP0_1 fP1_1 fP2_1 sP_1 hb1 cP0 cP1 cP2 fP0 fP1 fP2 sP
    generalize ((w1.setCell ⟨w.heap.size, 0, none⟩ (.bool n')).setCell ⟨w.heap.size, 1, none⟩ (.slice ax1 (digs BB M).length kx1)).setCell ⟨w.heap.size, 2, none⟩ (.int .i64 E) = w2 at *
    obtain ⟨cP0_1, cP1_1, cP2_1, fP0_1, fP1_1, fP2_1, sP_1⟩ := P4.open3
    obtain ⟨cR0_4, cR1_4, fR0_4, fR1_4, sR_4⟩ := R4.open2
    go_wp2_with fail
    obtain ⟨z0, z1, -⟩ := (R4.set2 (.int .i64 0) (.int .i64 0)).open2
    refine bodyPost_ret (v := .tuple #[.agg #[.int .i64 0, .int .i64 0], .bool false]) ?_ rfl ?_
    · simp [results, Tryd.results21, go_sem, z0, z1]
    · exact ⟨rfl, below_set (below_set B2 (by omega) _) (by omega) _⟩
  · have hw := hb.resolve_left hE
    have d1 : decide (E < -62) = false := decide_eq_false hE
    obtain ⟨b, eb⟩ : ∃ b, bitN M = b := ⟨_, rfl⟩
    obtain ⟨c, hc⟩ : ∃ c, max E 0 = c := ⟨_, rfl⟩
    rw [eb, hc] at hw
    have HBT := Lib.hid (fun w v (h : RdN w v (digs BB M)) => bits_n (h.num (by omega)) eb)
    have d2 : decide (62 < (b : Int) + c) = true := decide_eq_true hw
    have wb : IntKind.i64.wrap ((b : Int) + c) = (b : Int) + c := by rw [IntKind.wrap_i64]; omega
    clear q hf hb hE rE hw eb sM
    go_enter Tryd.func21, Tryd.ntmps21
    go_upto_region 1 with fail
    generalize hwx : (w.alloc (.cells #[.bool neg, .slice a n kk, .int .i64 e0] 32 (0, 0))).alloc (.cells #[.int .i64 0, .int .i64 0] 36 (0, 0)) = w0 at *
    clear hwx
    obtain ⟨cP0, cP1, cP2, fP0, fP1, fP2, sP⟩ := P.open3
    go_upto_region 2 with
    (first
      | (go_at_call 17; (with_reducible refine (HB.out _ _ m0 T0).mono ?_); rintro e w1 ⟨vx1, rfl, x1, hb1⟩; have B1 := B0.trans (hb1.mono B0.size); have m1 := m0.below hb1; have T1 := T0.below hb1; have P1 := P.below hb1; have R1 := R.below hb1; clear m0 T0 P R; obtain ⟨cP0_1, cP1_1, cP2_1, fP0_1, fP1_1, fP2_1, sP_1⟩ := P1.open3; obtain ⟨ax1, kx1, rfl, -⟩ := x1.view; try simp only [List.length_nil] at x1)
      | fail)
    have x2 := x1.set3 P1 dcells (.bool n') (.slice ax1 (digs BB M).length kx1) (.int .i64 E)
    have P4 := P1.set3 (.bool n') (.slice ax1 (digs BB M).length kx1) (.int .i64 E)
    have B2 := below_set3 B1 (Nat.le_refl _) (.bool n') (.slice ax1 (digs BB M).length kx1) (.int .i64 E)
    have R4 := R1.other3 (show w.heap.size + 1 ≠ w.heap.size by omega) (.bool n') (.slice ax1 (digs BB M).length kx1) (.int .i64 E)
    clear x1 P1 B1 T1 R1 m1 cP0_1 cP1_1 cP2_1 fP0_1 fP1_1 fP2_1 sP_1 hb1 cP0 cP1 cP2 fP0 fP1 fP2 sP
    generalize ((w1.setCell ⟨w.heap.size, 0, none⟩ (.bool n')).setCell ⟨w.heap.size, 1, none⟩ (.slice ax1 (digs BB M).length kx1)).setCell ⟨w.heap.size, 2, none⟩ (.int .i64 E) = w2 at *
    obtain ⟨cP0_1, cP1_1, cP2_1, fP0_1, fP1_1, fP2_1, sP_1⟩ := P4.open3
    go_upto_region 4 with fail
    go_cut [5] (fun t w' => t = .int .i64 ((b : Int) + c) ∧ Below w2.heap.size w2 w')
    case first =>
      have Dw : Below w2.heap.size w2 w2.drew := below_drewN (Below.refl _ _) 1
      have Pd := P4.below Dw; have xd := x2.below Dw
      have zd := Lib.hid (cells33x Pd)
      clear P4 x2 R4 B2 cP0_1 cP1_1 cP2_1 fP0_1 fP1_1 fP2_1 sP_1
      go_region_held3 (fun w' => w'.cell? ⟨w.heap.size, 0, none⟩ = some (.bool n') ∧ w'.cell? ⟨w.heap.size, 1, none⟩ = some (.slice ax1 (digs BB M).length kx1) ∧ w'.cell? ⟨w.heap.size, 2, none⟩ = some (.int .i64 E))
        (first | exact zd.out | exact z1.out)
        (first
          | (go_at_call 37; (with_reducible refine (HBT.out _ _ xd).mono ?_); rintro e y1 ⟨rfl, hz1⟩; have P1 := Pd.below hz1; have B1 := Dw.trans (hz1.mono Dw.size); have z1 := Lib.hid (cells33x P1))
          | fail)
      all_goals
        go_wp2_with fail
        go_meet
        exact ⟨rfl, by assumption⟩
    case rest =>
      obtain ⟨rfl, hb3⟩ := hcut
      generalize hwx : wc = w3 at *
      clear hwx
      have R3 := R4.below hb3; have B3 := B2.trans (hb3.mono B2.size)
      clear cP0_1 cP1_1 cP2_1 fP0_1 fP1_1 fP2_1 sP_1 x2 P4 R4 B2 hb3
      obtain ⟨cR0_4, cR1_4, fR0_4, fR1_4, sR_4⟩ := R3.open2
      go_wp2_with fail
      obtain ⟨z0, z1, -⟩ := (R3.set2 (.int .i64 0) (.int .i64 0)).open2
      refine bodyPost_ret (v := .tuple #[.agg #[.int .i64 0, .int .i64 0], .bool false]) ?_ rfl ?_
      · simp [results, Tryd.results21, go_sem, z0, z1]
      · exact ⟨rfl, below_set (below_set B3 (by omega) _) (by omega) _⟩
end Go.Proofs.YtabdmnjdmnnejaaDoor
