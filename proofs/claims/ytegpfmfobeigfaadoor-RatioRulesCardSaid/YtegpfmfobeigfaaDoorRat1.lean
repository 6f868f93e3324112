/- ratio.size, under, Fits, Pow, power by their contracts. Conditions: the number is short; math/bits' table stands in its variable. -/
import Derived.Test.YtegpfmfobeigfaaDoorDy5
namespace Go.Proofs.YtegpfmfobeigfaaDoor
set_option maxRecDepth 100000
open Go.RowKit Go.ChangeShapes Go.WideShapes

theorem below_right {w w' : World} (h : Below w.heap.size w w') (o : Obj) : Below w.heap.size w (w'.alloc o) := h.alloc h.size o

theorem rsize_n {w : World} {n : Int} (h1 : -9223372036854775808 ≤ n) (h2 : n ≤ 9223372036854775807) :
    Calls Tryd.prog 34 #[.int .i64 n] w (fun e w' => e = .returned (L64 n.natAbs) ∧ w' = w) := by
  by_cases h0 : n < 0
  · have hd : decide (n < 0) = true := decide_eq_true h0
    have hw : IntKind.u64.wrap (-(IntKind.u64.wrap n)) = (n.natAbs : Int) := by rw [IntKind.wrap_u64, IntKind.wrap_u64]; omega
    go_enter Tryd.func34, Tryd.ntmps34
    go_wp2
    go_ret
    exact ⟨by simp, rfl⟩
  · have hd : decide (n < 0) = false := decide_eq_false h0
    have hw : IntKind.u64.wrap n = (n.natAbs : Int) := by rw [IntKind.wrap_u64]; omega
    go_enter Tryd.func34, Tryd.ntmps34
    go_wp2
    go_ret
    exact ⟨by simp, rfl⟩

theorem under_n {w : World} {a b : Nat} (ha : a < BB) (hb : b < BB) {r : Bool} (hr : decide (a * b ≤ 60000) = r) :
    Calls Tryd.prog 32 #[L64 a, L64 b] w (fun e w' => e = .returned (.bool r) ∧ w' = w) := by
  have HM := Lib.hid (fun w => mul_named ha hb w)
  have e1 := Nat.mod_add_div (a * b) BB
  change mLo a b + BB * mHi a b = a * b at e1
  generalize mLo a b = lo at *
  generalize mHi a b = hi at *
  rw [← e1] at hr
  clear e1
  have hBB : BB = 18446744073709551616 := rfl
  by_cases h0 : hi = 0
  · subst h0
    rw [Nat.mul_zero, Nat.add_zero] at hr
    have hr2 : decide ((lo : Int) ≤ 60000) = r := by rw [← hr]; exact decide_eq_decide.2 (by omega)
    have hr3 := hr
    clear hr
    go_enter Tryd.func32, Tryd.ntmps32
    go_wp2_with (go_at_call 59; ((with_reducible refine (HM.out _).mono ?_)); rintro e w1 ⟨rfl, rfl⟩)
    all_goals
      go_ret
      exact ⟨rfl, rfl⟩
  · have hrf : r = false := by rw [← hr, hBB]; exact decide_eq_false (by omega)
    subst hrf
    have hib : ((hi : Int) == 0) = false := beq_false_of_ne (by omega)
    have hin : (hi : Int) ≠ 0 := by omega
    clear hr
    go_enter Tryd.func32, Tryd.ntmps32
    go_wp2_with (go_at_call 59; ((with_reducible refine (HM.out _).mono ?_)); rintro e w1 ⟨rfl, rfl⟩)
    all_goals
      go_ret
      exact ⟨rfl, rfl⟩

theorem Fits_n {w : World} {v : Value} {neg n' : Bool} {M M' : Nat} {E E' m : Int} (h : Num w v M) (hT : Tab w) (h1 : -9223372036854775808 ≤ E) (h2 : E ≤ 9223372036854775807) (e : bareD ⟨neg, M, E⟩ = ⟨n', M', E'⟩) (hm1 : -9223372036854775808 ≤ m) (hm2 : m ≤ 9223372036854775807)
    {r : Bool} (hr : (fitsE E' && decide (bitN M' * m.natAbs ≤ 60000) && decide (E'.natAbs * m.natAbs ≤ 60000)) = r) :
    Calls Tryd.prog 10 #[.agg #[.bool neg, v, .int .i64 E], .int .i64 m] w (fun e w' => e = .returned (.bool r) ∧ Below w.heap.size w w') := by
  obtain ⟨a, n, k, rfl⟩ := h.slice
  have sM := h.bound
  have sM' : bitN M' ≤ 2560000 := by
    have := bareD_m_le ⟨neg, M, E⟩
    rw [e] at this
    exact Nat.le_trans (bitN_mono this) sM
  have ee := Lib.hid e
  by_cases hf : fitsE E' = true
  · rw [hf, Bool.true_and] at hr
    obtain ⟨b, hb⟩ : ∃ b, bitN M' = b := ⟨_, rfl⟩
    have eb := Lib.hid hb
    have hbB : b < BB := by unfold BB; omega
    have hmB : m.natAbs < BB := by unfold BB; omega
    have hE : -1073741824 ≤ E' ∧ E' ≤ 1073741824 := by unfold fitsE at hf; simp at hf; omega
    have hEB : E'.natAbs < BB := by unfold BB; omega
    have hwb : IntKind.u64.wrap (b : Int) = (b : Int) := by rw [IntKind.wrap_u64]; omega
    rw [hb] at hr
    obtain ⟨r1, hr1⟩ : ∃ r, decide (b * m.natAbs ≤ 60000) = r := ⟨_, rfl⟩
    obtain ⟨r2, hr2⟩ : ∃ r, decide (E'.natAbs * m.natAbs ≤ 60000) = r := ⟨_, rfl⟩
    rw [hr1, hr2] at hr
    have er1 := Lib.hid hr1; have er2 := Lib.hid hr2
    clear hr1 hr2 hb e
    subst hr
    cases r1
    all_goals
      go_enter Tryd.func10, Tryd.ntmps10
      go_wp2_with
      (first
        | (go_at_call 29; (with_reducible refine (Bare_ok (h.below (below_alloc _ _)) (hT.below (below_alloc _ _)) h1 h2 ee.out hf).mono ?_); rintro e w1 ⟨vd1, rfl, d1, hb1⟩; have B1 := (below_alloc _ _).trans (hb1.mono (below_alloc _ _).size); have m1 := ((h.below (below_alloc _ _))).below hb1; have T1 := ((hT.below (below_alloc _ _))).below hb1; have P1 := ((blk_new)).below hb1; obtain ⟨cP0_1, cP1_1, cP2_1, fP0_1, fP1_1, fP2_1, sP_1⟩ := P1.open3; obtain ⟨ad1, kd1, rfl, -⟩ := d1.view; try simp only [List.length_nil] at d1)
        | (go_at_call 33; (with_reducible refine (bits_n ((d1.below (below_alloc _ _)).num sM') eb.out).mono ?_); rintro e w2 ⟨rfl, hb2⟩; have hb2' := (below_a hb2); have B2 := B1.trans (hb2'.mono B1.size); have m2 := m1.below hb2'; have T2 := T1.below hb2'; have P2 := P1.below hb2'; have d2 := d1.below hb2'; clear m1 T1 P1 d1; have Q2 := blk_new.below hb2; clear cP0_1 cP1_1 cP2_1 fP0_1 fP1_1 fP2_1 sP_1; obtain ⟨cP0_2, cP1_2, cP2_2, fP0_2, fP1_2, fP2_2, sP_2⟩ := P2.open3; obtain ⟨cQ0_2, cQ1_2, cQ2_2, fQ0_2, fQ1_2, fQ2_2, sQ_2⟩ := Q2.open3)
        | (go_at_call 32; (with_reducible refine (under_n hbB hmB er1.out).mono ?_); rintro e w3 ⟨rfl, rfl⟩)
        | (go_at_call 32; (with_reducible refine (under_n hEB hmB er2.out).mono ?_); rintro e w4 ⟨rfl, rfl⟩)
        | (go_at_call 34; (with_reducible refine (rsize_n hm1 hm2).mono ?_); rintro e w5 ⟨rfl, rfl⟩)
        | (go_at_call 34; (with_reducible refine (rsize_n (n := E') (by omega) (by omega)).mono ?_); rintro e w6 ⟨rfl, rfl⟩)
        | fail)
      all_goals
        go_ret
        exact ⟨rfl, by assumption⟩
  · have hf : fitsE E' = false := by simpa using hf
    rw [hf, Bool.false_and, Bool.false_and] at hr
    subst hr
    go_enter Tryd.func10, Tryd.ntmps10
    go_wp2_with
    (first
      | (go_at_call 29; (with_reducible refine (Bare_long (h.below (below_alloc _ _)) (hT.below (below_alloc _ _)) h1 h2 ee.out hf).mono ?_); rintro e w1 ⟨rfl, hb1⟩; have B1 := (below_alloc _ _).trans (hb1.mono (below_alloc _ _).size); have m1 := ((h.below (below_alloc _ _))).below hb1; have T1 := ((hT.below (below_alloc _ _))).below hb1; have P1 := ((blk_new)).below hb1; obtain ⟨cP0_1, cP1_1, cP2_1, fP0_1, fP1_1, fP2_1, sP_1⟩ := P1.open3)
      | fail)
    all_goals
      go_ret
      exact ⟨rfl, below_right B1 _⟩

/-- ratio.Pow where it tells a power: the result is bared anew. -/
theorem Pow_ok {w : World} {v : Value} {neg n' n2 : Bool} {M M' P M2 : Nat} {E E' E2 : Int} {k : Nat} (h : Num w v M) (hT : Tab w) (h1 : -9223372036854775808 ≤ E) (h2 : E ≤ 9223372036854775807) (e : bareD ⟨neg, M, E⟩ = ⟨n', M', E'⟩) (hm2 : k ≤ 9223372036854775807)
    (hf : fitsE E' = true) (hb1 : bitN M' * k ≤ 60000) (hb2 : E'.natAbs * k ≤ 60000) (hP : M' ^ k = P) (e2 : bareD ⟨n' && decide (k % 2 = 1), P, E' * k⟩ = ⟨n2, M2, E2⟩) (hf2 : fitsE E2 = true) :
    Calls Tryd.prog 9 #[.agg #[.bool neg, v, .int .i64 E], .int .i64 k] w (fun e w' => ∃ v, e = .returned (.tuple #[.agg #[.bool n2, v, .int .i64 E2], .int .i64 0]) ∧ RdN w' v (digs BB M2) ∧ Below w.heap.size w w') := by
  obtain ⟨a, n, kk, rfl⟩ := h.slice
  have sM := h.bound
  have sM' : bitN M' ≤ 2560000 := by
    have := bareD_m_le ⟨neg, M, E⟩
    rw [e] at this
    exact Nat.le_trans (bitN_mono this) sM
  have hPb : bitN P ≤ 65536 := by
    rw [← hP]
    have := bitN_pow_le M' k
    omega
  have ee := Lib.hid e; have ee2 := Lib.hid e2; have eP := Lib.hid hP
  have hFi := Lib.hid (fun w v (h : Num w v M) (hT : Tab w) => Fits_n (m := (k : Int)) (r := true) h hT h1 h2 e (by omega) (by omega) (by rw [hf, Int.natAbs_natCast, decide_eq_true hb1, decide_eq_true hb2]; rfl))
  have hkd : decide ((k : Int) < 0) = false := decide_eq_false (by omega)
  obtain ⟨t, ht⟩ : ∃ t, E' * (k : Int) = t := ⟨_, rfl⟩
  have htb : t.natAbs ≤ 60000 := by rw [← ht, Int.natAbs_mul, Int.natAbs_natCast]; exact hb2
  have hwt : wrap64 t = t := by unfold wrap64; omega
  have hod : (bits BinOp.and IntKind.i64 (k : Int) 1 == 1) = decide (k % 2 = 1) := by
    rw [odd_bit (by omega)]
    by_cases h : k % 2 = 1
    · rw [h]; rfl
    · rw [decide_eq_false h, show k % 2 = 0 by omega]; rfl
  have sPn : bitN P ≤ 2560000 := by omega
  have ht1 : -9223372036854775808 ≤ t := by omega
  have ht2 : t ≤ 9223372036854775807 := by omega
  rw [ht] at ee2
  obtain ⟨od, hod2⟩ : ∃ od, decide (k % 2 = 1) = od := ⟨_, rfl⟩
  rw [hod2] at ee2 hod
  clear e e2 hP hod2 hb1 hb2
  cases n'
  all_goals
    simp only [Bool.false_and, Bool.true_and] at ee2
    go_enter Tryd.func9, Tryd.ntmps9
    go_wp2_with
    (first
      | (go_at_call 29; (with_reducible refine (Bare_ok (h.below below_2) (hT.below below_2) h1 h2 ee.out hf).mono ?_); rintro e w1 ⟨vd1, rfl, d1, hb1⟩; have B1 := below_2.trans (hb1.mono below_2.size); have m1 := ((h.below below_2)).below hb1; have T1 := ((hT.below below_2)).below hb1; have P1 := ((blk_a1)).below hb1; have R1 := ((blk_a2)).below hb1; obtain ⟨cP0_1, cP1_1, cP2_1, fP0_1, fP1_1, fP2_1, sP_1⟩ := P1.open3; obtain ⟨cR0_1, cR1_1, cR2_1, fR0_1, fR1_1, fR2_1, sR_1⟩ := R1.open3; obtain ⟨ad1, kd1, rfl, -⟩ := d1.view; try simp only [List.length_nil] at d1)
      | (go_at_call 10; (with_reducible refine (hFi.out _ _ (m1.below (below_alloc _ _)) (T1.below (below_alloc _ _))).mono ?_); rintro e w2 ⟨rfl, hb2⟩; have hb2' := (below_a hb2); have B2 := B1.trans (hb2'.mono B1.size); have m2 := m1.below hb2'; have T2 := T1.below hb2'; have P2 := P1.below hb2'; have R2 := R1.below hb2'; have d2 := d1.below hb2'; clear m1 T1 P1 R1 d1; have Q2 := blk_new.below hb2; clear cP0_1 cP1_1 cP2_1 fP0_1 fP1_1 fP2_1 sP_1; obtain ⟨cP0_2, cP1_2, cP2_2, fP0_2, fP1_2, fP2_2, sP_2⟩ := P2.open3; clear cR0_1 cR1_1 cR2_1 fR0_1 fR1_1 fR2_1 sR_1; obtain ⟨cR0_2, cR1_2, cR2_2, fR0_2, fR1_2, fR2_2, sR_2⟩ := R2.open3; obtain ⟨cQ0_2, cQ1_2, cQ2_2, fQ0_2, fQ1_2, fQ2_2, sQ_2⟩ := Q2.open3)
      | (go_at_call 30; (with_reducible refine (pow_n (d2.num sM') eP.out hPb hm2).mono ?_); rintro e w3 ⟨vp3, rfl, p3, hb3⟩; have B3 := B2.trans (hb3.mono B2.size); have m3 := m2.below hb3; have T3 := T2.below hb3; have P3 := P2.below hb3; have R3 := R2.below hb3; have d3 := d2.below hb3; have Q3 := Q2.below hb3; clear m2 T2 P2 R2 d2 Q2; clear cP0_2 cP1_2 cP2_2 fP0_2 fP1_2 fP2_2 sP_2; obtain ⟨cP0_3, cP1_3, cP2_3, fP0_3, fP1_3, fP2_3, sP_3⟩ := P3.open3; clear cR0_2 cR1_2 cR2_2 fR0_2 fR1_2 fR2_2 sR_2; obtain ⟨cR0_3, cR1_3, cR2_3, fR0_3, fR1_3, fR2_3, sR_3⟩ := R3.open3; clear cQ0_2 cQ1_2 cQ2_2 fQ0_2 fQ1_2 fQ2_2 sQ_2; obtain ⟨cQ0_3, cQ1_3, cQ2_3, fQ0_3, fQ1_3, fQ2_3, sQ_3⟩ := Q3.open3; obtain ⟨ap3, kp3, rfl, -⟩ := p3.view; try simp only [List.length_nil] at p3)
      | (go_at_call 31; (with_reducible refine (Make_ok (p3.num sPn) T3 ht1 ht2 ee2.out hf2).mono ?_); rintro e w4 ⟨vz4, rfl, z4, hb4⟩; have B4 := B3.trans (hb4.mono B3.size); have m4 := m3.below hb4; have T4 := T3.below hb4; have P4 := P3.below hb4; have R4 := R3.below hb4; have d4 := d3.below hb4; have Q4 := Q3.below hb4; have p4 := p3.below hb4; clear m3 T3 P3 R3 d3 Q3 p3; clear cP0_3 cP1_3 cP2_3 fP0_3 fP1_3 fP2_3 sP_3; obtain ⟨cP0_4, cP1_4, cP2_4, fP0_4, fP1_4, fP2_4, sP_4⟩ := P4.open3; clear cR0_3 cR1_3 cR2_3 fR0_3 fR1_3 fR2_3 sR_3; obtain ⟨cR0_4, cR1_4, cR2_4, fR0_4, fR1_4, fR2_4, sR_4⟩ := R4.open3; clear cQ0_3 cQ1_3 cQ2_3 fQ0_3 fQ1_3 fQ2_3 sQ_3; obtain ⟨cQ0_4, cQ1_4, cQ2_4, fQ0_4, fQ1_4, fQ2_4, sQ_4⟩ := Q4.open3; obtain ⟨az4, kz4, rfl, -⟩ := z4.view; try simp only [List.length_nil] at z4)
      | fail)
    obtain ⟨q0, q1, q2, -⟩ := (R4.set3 (.bool n2) (.slice az4 (digs BB M2).length kz4) (.int .i64 E2)).open3
    refine bodyPost_ret (v := .tuple #[.agg #[.bool n2, .slice az4 (digs BB M2).length kz4, .int .i64 E2], .int .i64 0]) ?_ rfl ?_
    · simp [results, Tryd.results9, go_sem, q0, q1, q2]
    · exact ⟨_, rfl, z4.set3 R4 dcells _ _ _, below_set3 B4 (by omega) _ _ _⟩

/-- ratio.Pow where an argument can't be. -/
theorem Pow_arg {w : World} {v : Value} {neg n' : Bool} {M M' : Nat} {E E' m : Int} (h : Num w v M) (hT : Tab w) (h1 : -9223372036854775808 ≤ E) (h2 : E ≤ 9223372036854775807) (e : bareD ⟨neg, M, E⟩ = ⟨n', M', E'⟩) (hf : fitsE E' = false ∨ m < 0) :
    Calls Tryd.prog 9 #[.agg #[.bool neg, v, .int .i64 E], .int .i64 m] w (fun e w' => e = .returned (.tuple #[.agg #[.bool false, .slice none 0 0, .int .i64 0], .int .i64 1]) ∧ Below w.heap.size w w') := by
  obtain ⟨a, n, kk, rfl⟩ := h.slice
  have ee := Lib.hid e
  clear e
  by_cases hf1 : fitsE E' = true
  · have hm : m < 0 := by rcases hf with h | h; · rw [h] at hf1; cases hf1
                          · exact h
    have hmd : decide (m < 0) = true := decide_eq_true hm
    clear hf
    go_enter Tryd.func9, Tryd.ntmps9
    go_wp2_with
    (first
      | (go_at_call 29; (with_reducible refine (Bare_ok (h.below below_2) (hT.below below_2) h1 h2 ee.out hf1).mono ?_); rintro e w1 ⟨vd1, rfl, d1, hb1⟩; have B1 := below_2.trans (hb1.mono below_2.size); have m1 := ((h.below below_2)).below hb1; have T1 := ((hT.below below_2)).below hb1; have P1 := ((blk_a1)).below hb1; have R1 := ((blk_a2)).below hb1; obtain ⟨cP0_1, cP1_1, cP2_1, fP0_1, fP1_1, fP2_1, sP_1⟩ := P1.open3; obtain ⟨cR0_1, cR1_1, cR2_1, fR0_1, fR1_1, fR2_1, sR_1⟩ := R1.open3; obtain ⟨ad1, kd1, rfl, -⟩ := d1.view; try simp only [List.length_nil] at d1)
      | fail)
    have QQ := fun o => ((R1.set3 (.bool false) (.slice none 0 0) (.int .i64 0)).below (below_alloc _ o)).open3
    have q0 := fun o => (QQ o).1
    have q1 := fun o => (QQ o).2.1
    have q2 := fun o => (QQ o).2.2.1
    clear QQ
    refine bodyPost_ret (v := .tuple #[.agg #[.bool false, .slice none 0 0, .int .i64 0], .int .i64 1]) ?_ rfl ?_
    · simp [results, Tryd.results9, go_sem, q0, q1, q2]
    · exact ⟨rfl, below_right (below_set3 B1 (by omega) _ _ _) _⟩
  · have hf2 : fitsE E' = false := by simpa using hf1
    clear hf hf1
    go_enter Tryd.func9, Tryd.ntmps9
    go_wp2_with
    (first
      | (go_at_call 29; (with_reducible refine (Bare_long (h.below below_2) (hT.below below_2) h1 h2 ee.out hf2).mono ?_); rintro e w1 ⟨rfl, hb1⟩; have B1 := below_2.trans (hb1.mono below_2.size); have m1 := ((h.below below_2)).below hb1; have T1 := ((hT.below below_2)).below hb1; have P1 := ((blk_a1)).below hb1; have R1 := ((blk_a2)).below hb1; obtain ⟨cP0_1, cP1_1, cP2_1, fP0_1, fP1_1, fP2_1, sP_1⟩ := P1.open3; obtain ⟨cR0_1, cR1_1, cR2_1, fR0_1, fR1_1, fR2_1, sR_1⟩ := R1.open3)
      | fail)
    have QQ := fun o => ((R1.set3 (.bool false) (.slice none 0 0) (.int .i64 0)).below (below_alloc _ o)).open3
    have q0 := fun o => (QQ o).1
    have q1 := fun o => (QQ o).2.1
    have q2 := fun o => (QQ o).2.2.1
    clear QQ
    refine bodyPost_ret (v := .tuple #[.agg #[.bool false, .slice none 0 0, .int .i64 0], .int .i64 1]) ?_ rfl ?_
    · simp [results, Tryd.results9, go_sem, q0, q1, q2]
    · exact ⟨rfl, below_right (below_set3 B1 (by omega) _ _ _) _⟩

/-- ratio.Pow where the power is too long. -/
theorem Pow_long {w : World} {v : Value} {neg n' : Bool} {M M' : Nat} {E E' m : Int} (h : Num w v M) (hT : Tab w) (h1 : -9223372036854775808 ≤ E) (h2 : E ≤ 9223372036854775807) (e : bareD ⟨neg, M, E⟩ = ⟨n', M', E'⟩) (hf : fitsE E' = true) (hm1 : 0 ≤ m) (hm2 : m ≤ 9223372036854775807)
    (hr : (decide (bitN M' * m.natAbs ≤ 60000) && decide (E'.natAbs * m.natAbs ≤ 60000)) = false) :
    Calls Tryd.prog 9 #[.agg #[.bool neg, v, .int .i64 E], .int .i64 m] w (fun e w' => e = .returned (.tuple #[.agg #[.bool false, .slice none 0 0, .int .i64 0], .int .i64 2]) ∧ Below w.heap.size w w') := by
  obtain ⟨a, n, kk, rfl⟩ := h.slice
  have ee := Lib.hid e
  have hFi := Lib.hid (fun w v (h : Num w v M) (hT : Tab w) => Fits_n (m := m) (r := false) h hT h1 h2 e (by omega) hm2 (by rw [hf, Bool.true_and, hr]))
  have hmd : decide (m < 0) = false := decide_eq_false (by omega)
  clear e hr
  go_enter Tryd.func9, Tryd.ntmps9
  go_wp2_with
    (first
      | (go_at_call 29; (with_reducible refine (Bare_ok (h.below below_2) (hT.below below_2) h1 h2 ee.out hf).mono ?_); rintro e w1 ⟨vd1, rfl, d1, hb1⟩; have B1 := below_2.trans (hb1.mono below_2.size); have m1 := ((h.below below_2)).below hb1; have T1 := ((hT.below below_2)).below hb1; have P1 := ((blk_a1)).below hb1; have R1 := ((blk_a2)).below hb1; obtain ⟨cP0_1, cP1_1, cP2_1, fP0_1, fP1_1, fP2_1, sP_1⟩ := P1.open3; obtain ⟨cR0_1, cR1_1, cR2_1, fR0_1, fR1_1, fR2_1, sR_1⟩ := R1.open3; obtain ⟨ad1, kd1, rfl, -⟩ := d1.view; try simp only [List.length_nil] at d1)
      | (go_at_call 10; (with_reducible refine (hFi.out _ _ (m1.below (below_alloc _ _)) (T1.below (below_alloc _ _))).mono ?_); rintro e w2 ⟨rfl, hb2⟩; have hb2' := (below_a hb2); have B2 := B1.trans (hb2'.mono B1.size); have m2 := m1.below hb2'; have T2 := T1.below hb2'; have P2 := P1.below hb2'; have R2 := R1.below hb2'; have d2 := d1.below hb2'; clear m1 T1 P1 R1 d1; have Q2 := blk_new.below hb2; clear cP0_1 cP1_1 cP2_1 fP0_1 fP1_1 fP2_1 sP_1; obtain ⟨cP0_2, cP1_2, cP2_2, fP0_2, fP1_2, fP2_2, sP_2⟩ := P2.open3; clear cR0_1 cR1_1 cR2_1 fR0_1 fR1_1 fR2_1 sR_1; obtain ⟨cR0_2, cR1_2, cR2_2, fR0_2, fR1_2, fR2_2, sR_2⟩ := R2.open3; obtain ⟨cQ0_2, cQ1_2, cQ2_2, fQ0_2, fQ1_2, fQ2_2, sQ_2⟩ := Q2.open3)
      | fail)
  obtain ⟨q0, q1, q2, -⟩ := (R2.set3 (.bool false) (.slice none 0 0) (.int .i64 0)).open3
  refine bodyPost_ret (v := .tuple #[.agg #[.bool false, .slice none 0 0, .int .i64 0], .int .i64 2]) ?_ rfl ?_
  · simp [results, Tryd.results9, go_sem, q0, q1, q2]
  · exact ⟨rfl, below_set3 B2 (by omega) _ _ _⟩
end Go.Proofs.YtegpfmfobeigfaaDoor
