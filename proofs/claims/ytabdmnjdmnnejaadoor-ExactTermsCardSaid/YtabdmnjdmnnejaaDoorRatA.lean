/- ratio.size, under, Fits, Pow, power by their contracts. Conditions: the number is short; math/bits' table stands in its variable. -/
import Derived.Test.YtabdmnjdmnnejaaDoorDyC
import Derived.Deep.RegionHeld3
import Derived.Deep.CutBlock
import Derived.Test.YtabdmnjdmnnejaaDoorRefC
import Derived.StillTailTactics
namespace Go.Proofs.YtabdmnjdmnnejaaDoor
set_option maxRecDepth 100000
open Go.RowKit Go.ChangeShapes Go.WideShapes

theorem below_right {w w' : World} (h : Below w.heap.size w w') (o : Obj) : Below w.heap.size w (w'.alloc o) := h.alloc h.size o

theorem rsize_n {w : World} {n : Int} (h1 : -9223372036854775808 ≤ n) (h2 : n ≤ 9223372036854775807) :
    Calls Tryd.prog 89 #[.int .i64 n] w (fun e w' => e = .returned (L64 n.natAbs) ∧ w' = w) := by
  by_cases h0 : n < 0
  · have hd : decide (n < 0) = true := decide_eq_true h0
    have hw : IntKind.u64.wrap (-(IntKind.u64.wrap n)) = (n.natAbs : Int) := by rw [IntKind.wrap_u64, IntKind.wrap_u64]; omega
    go_enter Tryd.func89, Tryd.ntmps89
    go_wp2
    go_ret
    exact ⟨by simp, rfl⟩
  · have hd : decide (n < 0) = false := decide_eq_false h0
    have hw : IntKind.u64.wrap n = (n.natAbs : Int) := by rw [IntKind.wrap_u64]; omega
    go_enter Tryd.func89, Tryd.ntmps89
    go_wp2
    go_ret
    exact ⟨by simp, rfl⟩

theorem under_n {w : World} {a b : Nat} (ha : a < BB) (hb : b < BB) {r : Bool} (hr : decide (a * b ≤ 60000) = r) :
    Calls Tryd.prog 88 #[L64 a, L64 b] w (fun e w' => e = .returned (.bool r) ∧ w' = w) := by
  have HM := Lib.hid (fun w => mul_named ha hb w)
  have e1 := Nat.mod_add_div (a * b) BB
  change mLo a b + BB * mHi a b = a * b at e1
  generalize mLo a b = lo at *
  generalize mHi a b = hi at *
  rw [← e1] at hr
  clear e1
  have hBB : BB = 18446744073709551616 := rfl
  by_cases h0 : hi = 0
  · subst h0
    rw [Nat.mul_zero, Nat.add_zero] at hr
    have hr2 : decide ((lo : Int) ≤ 60000) = r := by rw [← hr]; exact decide_eq_decide.2 (by omega)
    have hr3 := hr
    clear hr
    go_enter Tryd.func88, Tryd.ntmps88
    go_wp2_with (go_at_call 81; ((with_reducible refine (HM.out _).mono ?_)); rintro e w1 ⟨rfl, rfl⟩)
    all_goals
      go_ret
      exact ⟨rfl, rfl⟩
  · have hrf : r = false := by rw [← hr, hBB]; exact decide_eq_false (by omega)
    subst hrf
    have hib : ((hi : Int) == 0) = false := beq_false_of_ne (by omega)
    have hin : (hi : Int) ≠ 0 := by omega
    clear hr
    go_enter Tryd.func88, Tryd.ntmps88
    go_wp2_with (go_at_call 81; ((with_reducible refine (HM.out _).mono ?_)); rintro e w1 ⟨rfl, rfl⟩)
    all_goals
      go_ret
      exact ⟨rfl, rfl⟩

theorem Fits_n {w : World} {v : Value} {neg n' : Bool} {M M' : Nat} {E E' m : Int} (h : Num w v M) (hT : Tab w) (h1 : -9223372036854775808 ≤ E) (h2 : E ≤ 9223372036854775807) (e : bareD ⟨neg, M, E⟩ = ⟨n', M', E'⟩) (hm1 : -9223372036854775808 ≤ m) (hm2 : m ≤ 9223372036854775807)
    {r : Bool} (hr : (fitsE E' && decide (bitN M' * m.natAbs ≤ 60000) && decide (E'.natAbs * m.natAbs ≤ 60000)) = r) :
    Calls Tryd.prog 76 #[.agg #[.bool neg, v, .int .i64 E], .int .i64 m] w (fun e w' => e = .returned (.bool r) ∧ Below w.heap.size w w') := by
  obtain ⟨a, n, k, rfl⟩ := h.slice
  have sM := h.bound
  have sM' : bitN M' ≤ 2560000 := by
    have := bareD_m_le ⟨neg, M, E⟩
    rw [e] at this
    exact Nat.le_trans (bitN_mono this) sM
  have ee := Lib.hid e
  by_cases hf : fitsE E' = true
  · rw [hf, Bool.true_and] at hr
    obtain ⟨b, hb⟩ : ∃ b, bitN M' = b := ⟨_, rfl⟩
    have eb := Lib.hid hb
    have hbB : b < BB := by unfold BB; omega
    have hmB : m.natAbs < BB := by unfold BB; omega
    have hE : -1073741824 ≤ E' ∧ E' ≤ 1073741824 := by unfold fitsE at hf; simp at hf; omega
    have hEB : E'.natAbs < BB := by unfold BB; omega
    have hwb : IntKind.u64.wrap (b : Int) = (b : Int) := by rw [IntKind.wrap_u64]; omega
    rw [hb] at hr
    obtain ⟨r1, hr1⟩ : ∃ r, decide (b * m.natAbs ≤ 60000) = r := ⟨_, rfl⟩
    obtain ⟨r2, hr2⟩ : ∃ r, decide (E'.natAbs * m.natAbs ≤ 60000) = r := ⟨_, rfl⟩
    rw [hr1, hr2] at hr
    have er1 := Lib.hid hr1; have er2 := Lib.hid hr2
    clear hr1 hr2 hb e
    subst hr
    cases r1
    all_goals
      go_enter Tryd.func76, Tryd.ntmps76
      go_wp2_with
      (first
        | (go_at_call 17; (with_reducible refine (Bare_ok (h.below (below_alloc _ _)) (hT.below (below_alloc _ _)) h1 h2 ee.out hf).mono ?_); rintro e w1 ⟨vd1, rfl, d1, hb1⟩; have B1 := (below_alloc _ _).trans (hb1.mono (below_alloc _ _).size); have m1 := ((h.below (below_alloc _ _))).below hb1; have T1 := ((hT.below (below_alloc _ _))).below hb1; have P1 := ((blk_new)).below hb1; obtain ⟨cP0_1, cP1_1, cP2_1, fP0_1, fP1_1, fP2_1, sP_1⟩ := P1.open3; obtain ⟨ad1, kd1, rfl, -⟩ := d1.view; try simp only [List.length_nil] at d1)
        | (go_at_call 37; (with_reducible refine (bits_n ((d1.below (below_alloc _ _)).num sM') eb.out).mono ?_); rintro e w2 ⟨rfl, hb2⟩; have hb2' := (below_a hb2); have B2 := B1.trans (hb2'.mono B1.size); have m2 := m1.below hb2'; have T2 := T1.below hb2'; have P2 := P1.below hb2'; have d2 := d1.below hb2'; clear m1 T1 P1 d1; have Q2 := blk_new.below hb2; clear cP0_1 cP1_1 cP2_1 fP0_1 fP1_1 fP2_1 sP_1; obtain ⟨cP0_2, cP1_2, cP2_2, fP0_2, fP1_2, fP2_2, sP_2⟩ := P2.open3; obtain ⟨cQ0_2, cQ1_2, cQ2_2, fQ0_2, fQ1_2, fQ2_2, sQ_2⟩ := Q2.open3)
        | (go_at_call 88; (with_reducible refine (under_n hbB hmB er1.out).mono ?_); rintro e w3 ⟨rfl, rfl⟩)
        | (go_at_call 88; (with_reducible refine (under_n hEB hmB er2.out).mono ?_); rintro e w4 ⟨rfl, rfl⟩)
        | (go_at_call 89; (with_reducible refine (rsize_n hm1 hm2).mono ?_); rintro e w5 ⟨rfl, rfl⟩)
        | (go_at_call 89; (with_reducible refine (rsize_n (n := E') (by omega) (by omega)).mono ?_); rintro e w6 ⟨rfl, rfl⟩)
        | fail)
      all_goals
        go_ret
        exact ⟨rfl, by assumption⟩
  · have hf : fitsE E' = false := by simpa using hf
    rw [hf, Bool.false_and, Bool.false_and] at hr
    subst hr
    go_enter Tryd.func76, Tryd.ntmps76
    go_wp2_with
    (first
      | (go_at_call 17; (with_reducible refine (Bare_long (h.below (below_alloc _ _)) (hT.below (below_alloc _ _)) h1 h2 ee.out hf).mono ?_); rintro e w1 ⟨rfl, hb1⟩; have B1 := (below_alloc _ _).trans (hb1.mono (below_alloc _ _).size); have m1 := ((h.below (below_alloc _ _))).below hb1; have T1 := ((hT.below (below_alloc _ _))).below hb1; have P1 := ((blk_new)).below hb1; obtain ⟨cP0_1, cP1_1, cP2_1, fP0_1, fP1_1, fP2_1, sP_1⟩ := P1.open3)
      | fail)
    all_goals
      go_ret
      exact ⟨rfl, below_right B1 _⟩

/-- ratio.Pow where it tells a power: the result is bared anew. -/
theorem Pow_ok {w : World} {v : Value} {neg n' n2 : Bool} {M M' P M2 : Nat} {E E' E2 : Int} {k : Nat} (h : Num w v M) (hT : Tab w) (h1 : -9223372036854775808 ≤ E) (h2 : E ≤ 9223372036854775807) (e : bareD ⟨neg, M, E⟩ = ⟨n', M', E'⟩) (hm2 : k ≤ 9223372036854775807)
    (hf : fitsE E' = true) (hb1 : bitN M' * k ≤ 60000) (hb2 : E'.natAbs * k ≤ 60000) (hP : M' ^ k = P) (e2 : bareD ⟨n' && decide (k % 2 = 1), P, E' * k⟩ = ⟨n2, M2, E2⟩) (hf2 : fitsE E2 = true) :
    Calls Tryd.prog 58 #[.agg #[.bool neg, v, .int .i64 E], .int .i64 k] w (fun e w' => ∃ v, e = .returned (.tuple #[.agg #[.bool n2, v, .int .i64 E2], .int .i64 0]) ∧ RdN w' v (digs BB M2) ∧ Below w.heap.size w w') := by
  obtain ⟨a, n, kk, rfl⟩ := h.slice
  have sM := h.bound
  have sM' : bitN M' ≤ 2560000 := by
    have := bareD_m_le ⟨neg, M, E⟩
    rw [e] at this
    exact Nat.le_trans (bitN_mono this) sM
  have hPb : bitN P ≤ 65536 := by
    rw [← hP]
    have := bitN_pow_le M' k
    omega
  have ee := Lib.hid e; have ee2 := Lib.hid e2; have eP := Lib.hid hP
  have hFi := Lib.hid (fun w v (h : Num w v M) (hT : Tab w) => Fits_n (m := (k : Int)) (r := true) h hT h1 h2 e (by omega) (by omega) (by rw [hf, Int.natAbs_natCast, decide_eq_true hb1, decide_eq_true hb2]; rfl))
  have hkd : decide ((k : Int) < 0) = false := decide_eq_false (by omega)
  obtain ⟨t, ht⟩ : ∃ t, E' * (k : Int) = t := ⟨_, rfl⟩
  have htb : t.natAbs ≤ 60000 := by rw [← ht, Int.natAbs_mul, Int.natAbs_natCast]; exact hb2
  have hwt : wrap64 t = t := by unfold wrap64; omega
  have hod : (bits BinOp.and IntKind.i64 (k : Int) 1 == 1) = decide (k % 2 = 1) := by
    rw [odd_bit (by omega)]
    by_cases h : k % 2 = 1
    · rw [h]; rfl
    · rw [decide_eq_false h, show k % 2 = 0 by omega]; rfl
  have sPn : bitN P ≤ 2560000 := by omega
  have ht1 : -9223372036854775808 ≤ t := by omega
  have ht2 : t ≤ 9223372036854775807 := by omega
  rw [ht] at ee2
  obtain ⟨od, hod2⟩ : ∃ od, decide (k % 2 = 1) = od := ⟨_, rfl⟩
  rw [hod2] at ee2 hod
  clear e e2 hP hod2 hb1 hb2
  cases n'
  all_goals
    simp only [Bool.false_and, Bool.true_and] at ee2
    go_enter Tryd.func58, Tryd.ntmps58
    go_wp2_with
    (first
      | (go_at_call 17; (with_reducible refine (Bare_ok (h.below below_2) (hT.below below_2) h1 h2 ee.out hf).mono ?_); rintro e w1 ⟨vd1, rfl, d1, hb1⟩; have B1 := below_2.trans (hb1.mono below_2.size); have m1 := ((h.below below_2)).below hb1; have T1 := ((hT.below below_2)).below hb1; have P1 := ((blk_a1)).below hb1; have R1 := ((blk_a2)).below hb1; obtain ⟨cP0_1, cP1_1, cP2_1, fP0_1, fP1_1, fP2_1, sP_1⟩ := P1.open3; obtain ⟨cR0_1, cR1_1, cR2_1, fR0_1, fR1_1, fR2_1, sR_1⟩ := R1.open3; obtain ⟨ad1, kd1, rfl, -⟩ := d1.view; try simp only [List.length_nil] at d1)
      | (go_at_call 76; (with_reducible refine (hFi.out _ _ (m1.below (below_alloc _ _)) (T1.below (below_alloc _ _))).mono ?_); rintro e w2 ⟨rfl, hb2⟩; have hb2' := (below_a hb2); have B2 := B1.trans (hb2'.mono B1.size); have m2 := m1.below hb2'; have T2 := T1.below hb2'; have P2 := P1.below hb2'; have R2 := R1.below hb2'; have d2 := d1.below hb2'; clear m1 T1 P1 R1 d1; have Q2 := blk_new.below hb2; clear cP0_1 cP1_1 cP2_1 fP0_1 fP1_1 fP2_1 sP_1; obtain ⟨cP0_2, cP1_2, cP2_2, fP0_2, fP1_2, fP2_2, sP_2⟩ := P2.open3; clear cR0_1 cR1_1 cR2_1 fR0_1 fR1_1 fR2_1 sR_1; obtain ⟨cR0_2, cR1_2, cR2_2, fR0_2, fR1_2, fR2_2, sR_2⟩ := R2.open3; obtain ⟨cQ0_2, cQ1_2, cQ2_2, fQ0_2, fQ1_2, fQ2_2, sQ_2⟩ := Q2.open3)
      | (go_at_call 80; (with_reducible refine (pow_n (d2.num sM') eP.out hPb hm2).mono ?_); rintro e w3 ⟨vp3, rfl, p3, hb3⟩; have B3 := B2.trans (hb3.mono B2.size); have m3 := m2.below hb3; have T3 := T2.below hb3; have P3 := P2.below hb3; have R3 := R2.below hb3; have d3 := d2.below hb3; have Q3 := Q2.below hb3; clear m2 T2 P2 R2 d2 Q2; clear cP0_2 cP1_2 cP2_2 fP0_2 fP1_2 fP2_2 sP_2; obtain ⟨cP0_3, cP1_3, cP2_3, fP0_3, fP1_3, fP2_3, sP_3⟩ := P3.open3; clear cR0_2 cR1_2 cR2_2 fR0_2 fR1_2 fR2_2 sR_2; obtain ⟨cR0_3, cR1_3, cR2_3, fR0_3, fR1_3, fR2_3, sR_3⟩ := R3.open3; clear cQ0_2 cQ1_2 cQ2_2 fQ0_2 fQ1_2 fQ2_2 sQ_2; obtain ⟨cQ0_3, cQ1_3, cQ2_3, fQ0_3, fQ1_3, fQ2_3, sQ_3⟩ := Q3.open3; obtain ⟨ap3, kp3, rfl, -⟩ := p3.view; try simp only [List.length_nil] at p3)
      | (go_at_call 27; (with_reducible refine (Make_ok (p3.num sPn) T3 ht1 ht2 ee2.out hf2).mono ?_); rintro e w4 ⟨vz4, rfl, z4, hb4⟩; have B4 := B3.trans (hb4.mono B3.size); have m4 := m3.below hb4; have T4 := T3.below hb4; have P4 := P3.below hb4; have R4 := R3.below hb4; have d4 := d3.below hb4; have Q4 := Q3.below hb4; have p4 := p3.below hb4; clear m3 T3 P3 R3 d3 Q3 p3; clear cP0_3 cP1_3 cP2_3 fP0_3 fP1_3 fP2_3 sP_3; obtain ⟨cP0_4, cP1_4, cP2_4, fP0_4, fP1_4, fP2_4, sP_4⟩ := P4.open3; clear cR0_3 cR1_3 cR2_3 fR0_3 fR1_3 fR2_3 sR_3; obtain ⟨cR0_4, cR1_4, cR2_4, fR0_4, fR1_4, fR2_4, sR_4⟩ := R4.open3; clear cQ0_3 cQ1_3 cQ2_3 fQ0_3 fQ1_3 fQ2_3 sQ_3; obtain ⟨cQ0_4, cQ1_4, cQ2_4, fQ0_4, fQ1_4, fQ2_4, sQ_4⟩ := Q4.open3; obtain ⟨az4, kz4, rfl, -⟩ := z4.view; try simp only [List.length_nil] at z4)
      | fail)
    obtain ⟨q0, q1, q2, -⟩ := (R4.set3 (.bool n2) (.slice az4 (digs BB M2).length kz4) (.int .i64 E2)).open3
    refine bodyPost_ret (v := .tuple #[.agg #[.bool n2, .slice az4 (digs BB M2).length kz4, .int .i64 E2], .int .i64 0]) ?_ rfl ?_
    · simp [results, Tryd.results58, go_sem, q0, q1, q2]
    · exact ⟨_, rfl, z4.set3 R4 dcells _ _ _, below_set3 B4 (by omega) _ _ _⟩

/-- ratio.Pow where an argument can't be. -/
theorem Pow_arg {w : World} {v : Value} {neg n' : Bool} {M M' : Nat} {E E' m : Int} (h : Num w v M) (hT : Tab w) (h1 : -9223372036854775808 ≤ E) (h2 : E ≤ 9223372036854775807) (e : bareD ⟨neg, M, E⟩ = ⟨n', M', E'⟩) (hf : fitsE E' = false ∨ m < 0) :
    Calls Tryd.prog 58 #[.agg #[.bool neg, v, .int .i64 E], .int .i64 m] w (fun e w' => e = .returned (.tuple #[.agg #[.bool false, .slice none 0 0, .int .i64 0], .int .i64 1]) ∧ Below w.heap.size w w') := by
  obtain ⟨a, n, kk, rfl⟩ := h.slice
  have ee := Lib.hid e
  clear e
  by_cases hf1 : fitsE E' = true
  · have hm : m < 0 := by rcases hf with h | h; · rw [h] at hf1; cases hf1
                          · exact h
    have hmd : decide (m < 0) = true := decide_eq_true hm
    clear hf
    go_enter Tryd.func58, Tryd.ntmps58
    go_wp2_with
    (first
      | (go_at_call 17; (with_reducible refine (Bare_ok (h.below below_2) (hT.below below_2) h1 h2 ee.out hf1).mono ?_); rintro e w1 ⟨vd1, rfl, d1, hb1⟩; have B1 := below_2.trans (hb1.mono below_2.size); have m1 := ((h.below below_2)).below hb1; have T1 := ((hT.below below_2)).below hb1; have P1 := ((blk_a1)).below hb1; have R1 := ((blk_a2)).below hb1; obtain ⟨cP0_1, cP1_1, cP2_1, fP0_1, fP1_1, fP2_1, sP_1⟩ := P1.open3; obtain ⟨cR0_1, cR1_1, cR2_1, fR0_1, fR1_1, fR2_1, sR_1⟩ := R1.open3; obtain ⟨ad1, kd1, rfl, -⟩ := d1.view; try simp only [List.length_nil] at d1)
      | fail)
    have QQ := fun o => ((R1.set3 (.bool false) (.slice none 0 0) (.int .i64 0)).below (below_alloc _ o)).open3
    have q0 := fun o => (QQ o).1
    have q1 := fun o => (QQ o).2.1
    have q2 := fun o => (QQ o).2.2.1
    clear QQ
    refine bodyPost_ret (v := .tuple #[.agg #[.bool false, .slice none 0 0, .int .i64 0], .int .i64 1]) ?_ rfl ?_
    · simp [results, Tryd.results58, go_sem, q0, q1, q2]
    · exact ⟨rfl, below_right (below_set3 B1 (by omega) _ _ _) _⟩
  · have hf2 : fitsE E' = false := by simpa using hf1
    clear hf hf1
    go_enter Tryd.func58, Tryd.ntmps58
    go_wp2_with
    (first
      | (go_at_call 17; (with_reducible refine (Bare_long (h.below below_2) (hT.below below_2) h1 h2 ee.out hf2).mono ?_); rintro e w1 ⟨rfl, hb1⟩; have B1 := below_2.trans (hb1.mono below_2.size); have m1 := ((h.below below_2)).below hb1; have T1 := ((hT.below below_2)).below hb1; have P1 := ((blk_a1)).below hb1; have R1 := ((blk_a2)).below hb1; obtain ⟨cP0_1, cP1_1, cP2_1, fP0_1, fP1_1, fP2_1, sP_1⟩ := P1.open3; obtain ⟨cR0_1, cR1_1, cR2_1, fR0_1, fR1_1, fR2_1, sR_1⟩ := R1.open3)
      | fail)
    have QQ := fun o => ((R1.set3 (.bool false) (.slice none 0 0) (.int .i64 0)).below (below_alloc _ o)).open3
    have q0 := fun o => (QQ o).1
    have q1 := fun o => (QQ o).2.1
    have q2 := fun o => (QQ o).2.2.1
    clear QQ
    refine bodyPost_ret (v := .tuple #[.agg #[.bool false, .slice none 0 0, .int .i64 0], .int .i64 1]) ?_ rfl ?_
    · simp [results, Tryd.results58, go_sem, q0, q1, q2]
    · exact ⟨rfl, below_right (below_set3 B1 (by omega) _ _ _) _⟩

/-- ratio.Pow where the power is too long. -/
theorem Pow_long {w : World} {v : Value} {neg n' : Bool} {M M' : Nat} {E E' m : Int} (h : Num w v M) (hT : Tab w) (h1 : -9223372036854775808 ≤ E) (h2 : E ≤ 9223372036854775807) (e : bareD ⟨neg, M, E⟩ = ⟨n', M', E'⟩) (hf : fitsE E' = true) (hm1 : 0 ≤ m) (hm2 : m ≤ 9223372036854775807)
    (hr : (decide (bitN M' * m.natAbs ≤ 60000) && decide (E'.natAbs * m.natAbs ≤ 60000)) = false) :
    Calls Tryd.prog 58 #[.agg #[.bool neg, v, .int .i64 E], .int .i64 m] w (fun e w' => e = .returned (.tuple #[.agg #[.bool false, .slice none 0 0, .int .i64 0], .int .i64 2]) ∧ Below w.heap.size w w') := by
  obtain ⟨a, n, kk, rfl⟩ := h.slice
  have ee := Lib.hid e
  have hFi := Lib.hid (fun w v (h : Num w v M) (hT : Tab w) => Fits_n (m := m) (r := false) h hT h1 h2 e (by omega) hm2 (by rw [hf, Bool.true_and, hr]))
  have hmd : decide (m < 0) = false := decide_eq_false (by omega)
  clear e hr
  go_enter Tryd.func58, Tryd.ntmps58
  go_wp2_with
    (first
      | (go_at_call 17; (with_reducible refine (Bare_ok (h.below below_2) (hT.below below_2) h1 h2 ee.out hf).mono ?_); rintro e w1 ⟨vd1, rfl, d1, hb1⟩; have B1 := below_2.trans (hb1.mono below_2.size); have m1 := ((h.below below_2)).below hb1; have T1 := ((hT.below below_2)).below hb1; have P1 := ((blk_a1)).below hb1; have R1 := ((blk_a2)).below hb1; obtain ⟨cP0_1, cP1_1, cP2_1, fP0_1, fP1_1, fP2_1, sP_1⟩ := P1.open3; obtain ⟨cR0_1, cR1_1, cR2_1, fR0_1, fR1_1, fR2_1, sR_1⟩ := R1.open3; obtain ⟨ad1, kd1, rfl, -⟩ := d1.view; try simp only [List.length_nil] at d1)
      | (go_at_call 76; (with_reducible refine (hFi.out _ _ (m1.below (below_alloc _ _)) (T1.below (below_alloc _ _))).mono ?_); rintro e w2 ⟨rfl, hb2⟩; have hb2' := (below_a hb2); have B2 := B1.trans (hb2'.mono B1.size); have m2 := m1.below hb2'; have T2 := T1.below hb2'; have P2 := P1.below hb2'; have R2 := R1.below hb2'; have d2 := d1.below hb2'; clear m1 T1 P1 R1 d1; have Q2 := blk_new.below hb2; clear cP0_1 cP1_1 cP2_1 fP0_1 fP1_1 fP2_1 sP_1; obtain ⟨cP0_2, cP1_2, cP2_2, fP0_2, fP1_2, fP2_2, sP_2⟩ := P2.open3; clear cR0_1 cR1_1 cR2_1 fR0_1 fR1_1 fR2_1 sR_1; obtain ⟨cR0_2, cR1_2, cR2_2, fR0_2, fR1_2, fR2_2, sR_2⟩ := R2.open3; obtain ⟨cQ0_2, cQ1_2, cQ2_2, fQ0_2, fQ1_2, fQ2_2, sQ_2⟩ := Q2.open3)
      | fail)
  obtain ⟨q0, q1, q2, -⟩ := (R2.set3 (.bool false) (.slice none 0 0) (.int .i64 0)).open3
  refine bodyPost_ret (v := .tuple #[.agg #[.bool false, .slice none 0 0, .int .i64 0], .int .i64 2]) ?_ rfl ?_
  · simp [results, Tryd.results58, go_sem, q0, q1, q2]
  · exact ⟨rfl, below_set3 B2 (by omega) _ _ _⟩
end Go.Proofs.YtabdmnjdmnnejaaDoor

/- ratio.power, multiplied by their contracts. Conditions: the numbers are short; math/bits' table stands in its variable. -/
namespace Go.Proofs.YtabdmnjdmnnejaaDoor
set_option maxRecDepth 100000
open Go.RowKit Go.ChangeShapes Go.WideShapes

theorem power_ok {w : World} {v : Value} {neg n' n2 : Bool} {M M' P M2 : Nat} {E E' E2 m : Int} {k : Nat} (h : Num w v M) (hT : Tab w) (h1 : -9223372036854775808 ≤ E) (h2 : E ≤ 9223372036854775807) (e : bareD ⟨neg, M, E⟩ = ⟨n', M', E'⟩) (hm : m.natAbs = k) (hm2 : k ≤ 9223372036854775807)
    (hf : fitsE E' = true) (hb1 : bitN M' * k ≤ 60000) (hb2 : E'.natAbs * k ≤ 60000) (hP : M' ^ k = P) (e2 : bareD ⟨n' && decide (k % 2 = 1), P, E' * k⟩ = ⟨n2, M2, E2⟩) (hf2 : fitsE E2 = true) :
    Calls Tryd.prog 77 #[.agg #[.bool neg, v, .int .i64 E], .int .i64 m] w (fun e w' => ∃ v, e = .returned (.tuple #[.agg #[.bool n2, v, .int .i64 E2], .int .i64 0]) ∧ RdN w' v (digs BB M2) ∧ Below w.heap.size w w') := by
  obtain ⟨a, n, kk, rfl⟩ := h.slice
  have HP := Lib.hid (fun w v (h : Num w v M) (hT : Tab w) => Pow_ok h hT h1 h2 e hm2 hf hb1 hb2 hP e2 hf2)
  clear e e2 hP hb1 hb2
  by_cases hn : m < 0
  · have hmd : decide (m < 0) = true := decide_eq_true hn
    have hmw : -m = (k : Int) := by omega
    have hmw2 : wrap64 (-m) = (k : Int) := by unfold wrap64; omega
    have hkw : wrap64 (k : Int) = (k : Int) := by unfold wrap64; omega
    go_enter Tryd.func77, Tryd.ntmps77
    go_wp2_with
    (first
      | (go_at_call 58; (with_reducible refine (HP.out _ _ (h.below below_2) (hT.below below_2)).mono ?_); rintro e w1 ⟨vz1, rfl, z1, hb1⟩; have B1 := below_2.trans (hb1.mono below_2.size); have m1 := ((h.below below_2)).below hb1; have T1 := ((hT.below below_2)).below hb1; have P1 := ((blk_a1)).below hb1; have R1 := ((blk_a2)).below hb1; obtain ⟨cP0_1, cP1_1, cP2_1, fP0_1, fP1_1, fP2_1, sP_1⟩ := P1.open3; obtain ⟨cR0_1, cR1_1, cR2_1, fR0_1, fR1_1, fR2_1, sR_1⟩ := R1.open3; obtain ⟨az1, kz1, rfl, -⟩ := z1.view; try simp only [List.length_nil] at z1)
      | fail)
    obtain ⟨q0, q1, q2, -⟩ := (R1.set3 (.bool n2) (.slice az1 (digs BB M2).length kz1) (.int .i64 E2)).open3
    refine bodyPost_ret (v := .tuple #[.agg #[.bool n2, .slice az1 (digs BB M2).length kz1, .int .i64 E2], .int .i64 0]) ?_ rfl ?_
    · simp [results, Tryd.results77, go_sem, q0, q1, q2]
    · exact ⟨_, rfl, z1.set3 R1 dcells _ _ _, below_set3 B1 (by omega) _ _ _⟩
  · have hmd : decide (m < 0) = false := decide_eq_false hn
    obtain rfl : m = (k : Int) := by omega
    go_enter Tryd.func77, Tryd.ntmps77
    go_wp2_with
    (first
      | (go_at_call 58; (with_reducible refine (HP.out _ _ (h.below below_2) (hT.below below_2)).mono ?_); rintro e w1 ⟨vz1, rfl, z1, hb1⟩; have B1 := below_2.trans (hb1.mono below_2.size); have m1 := ((h.below below_2)).below hb1; have T1 := ((hT.below below_2)).below hb1; have P1 := ((blk_a1)).below hb1; have R1 := ((blk_a2)).below hb1; obtain ⟨cP0_1, cP1_1, cP2_1, fP0_1, fP1_1, fP2_1, sP_1⟩ := P1.open3; obtain ⟨cR0_1, cR1_1, cR2_1, fR0_1, fR1_1, fR2_1, sR_1⟩ := R1.open3; obtain ⟨az1, kz1, rfl, -⟩ := z1.view; try simp only [List.length_nil] at z1)
      | fail)
    obtain ⟨q0, q1, q2, -⟩ := (R1.set3 (.bool n2) (.slice az1 (digs BB M2).length kz1) (.int .i64 E2)).open3
    refine bodyPost_ret (v := .tuple #[.agg #[.bool n2, .slice az1 (digs BB M2).length kz1, .int .i64 E2], .int .i64 0]) ?_ rfl ?_
    · simp [results, Tryd.results77, go_sem, q0, q1, q2]
    · exact ⟨_, rfl, z1.set3 R1 dcells _ _ _, below_set3 B1 (by omega) _ _ _⟩

theorem one64 (l : List Nat) : ∀ u ∈ l.map L64, u.oneCell' = true := by
  intro u hu
  obtain ⟨x, -, rfl⟩ := List.mem_map.1 hu
  rfl

set_option maxHeartbeats 800000 in
theorem multiplied_n {w : World} {v u : Value} {A B : Nat} (h : RdN w v (digs BB A)) (k : RdN w u (digs BB B)) (sA : bitN A ≤ 65000) (sB : bitN B ≤ 65000) :
    Calls Tryd.prog 90 #[v, u] w (One w (digs BB (A * B))) := by
  obtain ⟨i0, hi, hz0, hz1, hz2⟩ := info_parts infoU
  have hlen : (digs BB B).length ≤ 1016 := digs_short (by omega)
  have hd := dig_digs BB_two B
  have hv := val_digs BB_two B
  generalize digs BB B = l at *
  obtain ⟨a, c, rfl, hac, hc, -, -⟩ := k.view
  obtain ⟨a', n', rfl, -⟩ := h.view
  have HL := Lib.hid k; have HA := Lib.hid h
  clear k h
  go_enter Tryd.func90, Tryd.ntmps90
  go_wp2
  go_loopw [5, 12] (fun x i wr => ∃ k : Nat, i = .int .i64 k ∧ k ≤ l.length ∧ RdN wr x (digs BB (A * val BB (l.take k))) ∧ Below w.heap.size w wr) (fun _ i _ => l.length - (intOf i).toNat)
  case atStart => exact ⟨0, rfl, Nat.zero_le _, by rw [List.take_zero, val_nil, Nat.mul_zero]; exact RdN.nil0 _, Below.refl _ _⟩
  case round =>
    obtain ⟨k, rfl, hk, hX, hB⟩ := hrel
    by_cases hkn : k < l.length
    · obtain ⟨a1, c1, e1, -, -, -, hc2⟩ := (HL.out.below hB).view
      injection e1 with e1 e2 e3; subst e1 e3
      obtain ⟨g, of, rfl, hg, hcell⟩ := hc2 k hkn
      rw [← List.getD_eq_getElem?_getD] at hcell
      clear hc2 e2
      have hx := hd.getD BB_pos k
      have hnx := val_take_succ BB l k
      have hT0 := val_bits (hd.take k) (show (l.take k).length ≤ 1016 by rw [List.length_take]; omega)
      generalize l.getD k 0 = x at *
      have hx64 : bitN x ≤ 64 := bitN_le.2 (by rw [← BB_pow]; exact hx)
      obtain ⟨P, hP⟩ : ∃ P, A * x = P := ⟨_, rfl⟩
      have q1 := bitN_mul_le A x
      have q2 := bitN_mul_le A (val BB (l.take k))
      have sP : bitN P ≤ 2560000 := by rw [← hP]; omega
      have sX : bitN (A * val BB (l.take k)) ≤ 2560000 := by omega
      have hPl : (digs BB P).length ≤ 1100 := digs_short (by rw [← hP]; omega)
      have eS := Lib.hid (show A * val BB (l.take k) + BB ^ k * P = A * val BB (l.take (k + 1)) by
        rw [hnx, Nat.mul_add, ← hP]; congr 1; rw [Nat.mul_left_comm])
      have eP := Lib.hid hP
      have sAx : bitN A + bitN x ≤ 65536 := by omega
      have sA2 : bitN A ≤ 2560000 := by omega
      have hAp := Lib.hid (fun w v (h : RdN w v (List.replicate k 0 ++ digs BB P)) => (show Num w v (BB ^ k * P) from by
        have h2 := h.numl ((Dig.replicate BB_pos k).append (dig_digs BB_two P)) (by rw [List.length_append, List.length_replicate]; omega)
        rw [val_append, val_replicate, List.length_replicate, val_digs BB_two, Nat.zero_add] at h2
        exact h2))
      have hAn := HA.out.below hB
      clear hnx q1 q2 hP
      generalize hTk : A * val BB (l.take k) = S at *
      generalize hTk1 : A * val BB (l.take (k + 1)) = S1 at *
      have HTK1 := Lib.hid hTk1
      clear hTk hTk1
      go_wp2_with (first
        | (go_at_call 97; (with_reducible refine (times_n (hAn.num sA2) hx eP.out sAx).mono ?_); rintro e w2 ⟨vp, rfl, hp, hb2⟩; obtain ⟨ap, kp, rfl, hpk, -⟩ := hp.view; have hX2 := hX.below hb2; have B2 := hB.trans (hb2.mono hB.size))
        | (at_make; go_loud (refine wpList_make_full _ rfl (.tmp 24) (.tmp 24) 22 rfl w2.heap.size 53 i0 (.int .u64 0) 1 Tryd.underlying22 hi hz0 hz1 .i64 .i64 k k k rfl rfl rfl rfl ?_ ?_ ?_ ?_; (any_goals (first | rfl | (rw [hz2]; omega) | (unfold maxLen; omega) | (with_reducible exact Nat.le_refl _))); intro w0 hown0 hgrow0))
        | (at_builtin; go_loud (refine wpList_append_rd (N := fun _ => True) (xs := (madeCells (Value.int .u64 0).cells (k * 1)).toList) (ys := (digs BB P).map L64) (n := k) rfl (.tmp 25) (.tmp 26) 22 rfl w2.heap.size 53 i0 (.int .u64 0) 8 Tryd.underlying22 hi hz0 hz1 hz2 rfl rfl rfl hown0 (hp.below ((Below.refl _ _).grown hgrow0 (Nat.le_refl _) (by simp))) (one64 _) (by rw [List.length_map]; unfold maxLen; omega) (by rw [List.length_map]; omega) (by have := hgrow0.size; omega) ?_; intro v1 w1 own1 hg1; have G1 := ((Below.refl w2.heap.size w2).grown hgrow0 (Nat.le_refl _) (by simp)).grown hg1 hgrow0.size (fun k hk => by simp [Value.ownBlock, Act.eval] at hk; omega); have hX3 := hX2.below G1; rw [made_zero, ← List.map_append] at own1; have hAp3 := hAp.out _ _ (Rd.of_own own1 (fun _ _ => trivial)); have B3 := B2.trans (G1.mono B2.size)))
        | (go_at_call 98; (with_reducible refine (add_n (hX3.num sX) hAp3 eS.out).mono ?_); rintro e w3 ⟨v3, rfl, r3, hb3⟩; have B4 := B3.trans (hb3.mono B3.size))
        | fail)
      go_round
      case rel => exact ⟨k + 1, by go_num, hkn, by rw [HTK1.out]; exact r3, B4⟩
      case measure => simp [intOf]; omega
    · have hkl : k = l.length := by omega
      rw [hkl, List.take_length, hv] at hX
      go_wp2
      go_ret
      exact ⟨_, rfl, hX, hB⟩
end Go.Proofs.YtabdmnjdmnnejaaDoor

/- ratio.against by its contract. Conditions: the numbers are short; math/bits' table stands in its variable. -/
namespace Go.Proofs.YtabdmnjdmnnejaaDoor
set_option maxRecDepth 100000
open Go.RowKit Go.ChangeShapes Go.WideShapes

/-- One against a product, where the tops tell. -/
theorem against_tops {A B : Nat} {Ea Eb : Int} (hA : A ≠ 0) (hB : B ≠ 0) :
    (0 < topD ⟨false, A, Ea⟩ + topD ⟨false, B, Eb⟩ → cmpM ⟨false, 1, 0⟩ ⟨false, A * B, Ea + Eb⟩ = -1) ∧ (topD ⟨false, A, Ea⟩ + topD ⟨false, B, Eb⟩ < -1 → cmpM ⟨false, 1, 0⟩ ⟨false, A * B, Ea + Eb⟩ = 1) := by
  have h1 := bitN_mul_le A B
  have h2 := bitN_mul_ge hA hB
  have hAB : A * B ≠ 0 := Nat.mul_ne_zero hA hB
  have pA := bitN_pos hA; have pB := bitN_pos hB
  unfold topD
  simp only
  refine ⟨fun h => ?_, fun h => ?_⟩
  · rw [cmpM_tops (a := ⟨false, 1, 0⟩) (b := ⟨false, A * B, Ea + Eb⟩) (by simp) hAB (by simp only [bitN_one]; omega)]
    simp only [bitN_one]
    unfold cmpI
    rw [if_pos (by omega)]
  · rw [cmpM_tops (a := ⟨false, 1, 0⟩) (b := ⟨false, A * B, Ea + Eb⟩) (by simp) hAB (by simp only [bitN_one]; omega)]
    simp only [bitN_one]
    unfold cmpI
    rw [if_neg (by omega), if_pos (by omega)]
theorem bareD_odd {neg : Bool} {M : Nat} {E : Int} (h : M % 2 = 1) (h1 : -2147483648 ≤ E) (h2 : E ≤ 2147483648) : bareD ⟨neg, M, E⟩ = ⟨neg, M, E⟩ := by
  rw [bareD_pos (show (⟨neg, M, E⟩ : Dn).m ≠ 0 by simp only; omega)]
  simp only [low2_odd h, Nat.pow_zero, Nat.div_one]
  unfold cutE
  congr 1
  omega

set_option maxHeartbeats 1000000 in
theorem against_n {w : World} {v u : Value} {A B : Nat} {Ea Eb c : Int} (h : RdN w v (digs BB A)) (k : RdN w u (digs BB B)) (hT : Tab w) (sA : bitN A ≤ 65000) (sB : bitN B ≤ 65000) (oA : A % 2 = 1) (oB : B % 2 = 1) (ha : Ea.natAbs ≤ 60000) (hb : Eb.natAbs ≤ 60000)
    (hc : cmpM ⟨false, 1, 0⟩ ⟨false, A * B, Ea + Eb⟩ = c) :
    Calls Tryd.prog 78 #[.agg #[.bool false, v, .int .i64 Ea], .agg #[.bool false, u, .int .i64 Eb]] w (fun e w' => e = .returned (.tuple #[.int .i64 c, .int .i64 0]) ∧ Below w.heap.size w w') := by
  obtain ⟨av, kv, rfl, -⟩ := h.view
  obtain ⟨au, ku, rfl, -⟩ := k.view
  have nA : A ≠ 0 := by omega
  have nB : B ≠ 0 := by omega
  obtain ⟨t1, t2⟩ := against_tops (Ea := Ea) (Eb := Eb) nA nB
  obtain ⟨x, hx⟩ : ∃ x, topD ⟨false, A, Ea⟩ = x := ⟨_, rfl⟩
  obtain ⟨y, hy⟩ : ∃ y, topD ⟨false, B, Eb⟩ = y := ⟨_, rfl⟩
  rw [hx, hy, hc] at t1 t2
  have bA := bareD_odd (neg := false) (E := Ea) oA (by omega) (by omega)
  have bB := bareD_odd (neg := false) (E := Eb) oB (by omega) (by omega)
  have sA2 : bitN A ≤ 2560000 := by omega
  have sB2 : bitN B ≤ 2560000 := by omega
  have HTa := Lib.hid (fun w v (h : Num w v A) (hT : Tab w) => Top_n (neg := false) h hT (by omega) (by omega) bA nA)
  have HTb := Lib.hid (fun w v (h : Num w v B) (hT : Tab w) => Top_n (neg := false) h hT (by omega) (by omega) bB nB)
  rw [hx] at HTa
  rw [hy] at HTb
  have rx : x.natAbs ≤ 130000 := by rw [← hx]; unfold topD; simp only; omega
  have ry : y.natAbs ≤ 130000 := by rw [← hy]; unfold topD; simp only; omega
  obtain ⟨z, hz⟩ : ∃ z, x + y = z := ⟨_, rfl⟩
  have hzw : wrap64 z = z := by unfold wrap64; omega
  rw [hz] at t1 t2
  clear hx hy bA bB
  by_cases hz1 : 0 < z
  · have hd1 : decide (0 < z) = true := decide_eq_true hz1
    have hc1 := t1 hz1
    clear t1 t2 hc
    subst hc1
    go_enter Tryd.func78, Tryd.ntmps78
    go_wp2_with
    (first
      | (go_at_call 36; (with_reducible refine (HTa.out _ _ ((h.below below_2).num sA2) (hT.below below_2)).mono ?_); rintro e w1 ⟨rfl, hb1⟩; have B1 := below_2.trans (hb1.mono below_2.size); have a1 := ((h.below below_2)).below hb1; have b1 := ((k.below below_2)).below hb1; have T1 := ((hT.below below_2)).below hb1; have P1 := ((blk_a1)).below hb1; have Q1 := ((blk_a2)).below hb1; obtain ⟨cP0_1, cP1_1, cP2_1, fP0_1, fP1_1, fP2_1, sP_1⟩ := P1.open3; obtain ⟨cQ0_1, cQ1_1, cQ2_1, fQ0_1, fQ1_1, fQ2_1, sQ_1⟩ := Q1.open3)
      | (go_at_call 36; (with_reducible refine (HTb.out _ _ (b1.num sB2) T1).mono ?_); rintro e w2 ⟨rfl, hb2⟩; have B2 := B1.trans (hb2.mono B1.size); have a2 := a1.below hb2; have b2 := b1.below hb2; have T2 := T1.below hb2; have P2 := P1.below hb2; have Q2 := Q1.below hb2; clear a1 b1 T1 P1 Q1; clear cP0_1 cP1_1 cP2_1 fP0_1 fP1_1 fP2_1 sP_1; obtain ⟨cP0_2, cP1_2, cP2_2, fP0_2, fP1_2, fP2_2, sP_2⟩ := P2.open3; clear cQ0_1 cQ1_1 cQ2_1 fQ0_1 fQ1_1 fQ2_1 sQ_1; obtain ⟨cQ0_2, cQ1_2, cQ2_2, fQ0_2, fQ1_2, fQ2_2, sQ_2⟩ := Q2.open3)
      | fail)
    go_ret2
    exact ⟨rfl, by assumption⟩
  · have hd1 : decide (0 < z) = false := decide_eq_false hz1
    by_cases hz2 : z < -1
    · have hd2 : decide (z < -1) = true := decide_eq_true hz2
      have hc1 := t2 hz2
      clear t1 t2 hc
      subst hc1
      go_enter Tryd.func78, Tryd.ntmps78
      go_wp2_with
      (first
        | (go_at_call 36; (with_reducible refine (HTa.out _ _ ((h.below below_2).num sA2) (hT.below below_2)).mono ?_); rintro e w1 ⟨rfl, hb1⟩; have B1 := below_2.trans (hb1.mono below_2.size); have a1 := ((h.below below_2)).below hb1; have b1 := ((k.below below_2)).below hb1; have T1 := ((hT.below below_2)).below hb1; have P1 := ((blk_a1)).below hb1; have Q1 := ((blk_a2)).below hb1; obtain ⟨cP0_1, cP1_1, cP2_1, fP0_1, fP1_1, fP2_1, sP_1⟩ := P1.open3; obtain ⟨cQ0_1, cQ1_1, cQ2_1, fQ0_1, fQ1_1, fQ2_1, sQ_1⟩ := Q1.open3)
        | (go_at_call 36; (with_reducible refine (HTb.out _ _ (b1.num sB2) T1).mono ?_); rintro e w2 ⟨rfl, hb2⟩; have B2 := B1.trans (hb2.mono B1.size); have a2 := a1.below hb2; have b2 := b1.below hb2; have T2 := T1.below hb2; have P2 := P1.below hb2; have Q2 := Q1.below hb2; clear a1 b1 T1 P1 Q1; clear cP0_1 cP1_1 cP2_1 fP0_1 fP1_1 fP2_1 sP_1; obtain ⟨cP0_2, cP1_2, cP2_2, fP0_2, fP1_2, fP2_2, sP_2⟩ := P2.open3; clear cQ0_1 cQ1_1 cQ2_1 fQ0_1 fQ1_1 fQ2_1 sQ_1; obtain ⟨cQ0_2, cQ1_2, cQ2_2, fQ0_2, fQ1_2, fQ2_2, sQ_2⟩ := Q2.open3)
        | fail)
      go_ret2
      exact ⟨rfl, by assumption⟩
    · have hd2 : decide (z < -1) = false := decide_eq_false hz2
      clear t1 t2
      have b1 : bareD ⟨false, 1, 0⟩ = ⟨false, 1, 0⟩ := bareD_odd rfl (by decide) (by decide)
      have HO := Lib.hid (fun w (hT : Tab w) => show Calls Tryd.prog 20 #[.int .i64 1] w _ from Of_n (n := 1) (by decide) hT b1)
      go_enter Tryd.func78, Tryd.ntmps78
      go_upto_region 8 with
      (first
        | (go_at_call 36; (with_reducible refine (HTa.out _ _ ((h.below below_2).num sA2) (hT.below below_2)).mono ?_); rintro e w1 ⟨rfl, hb1⟩; have B1 := below_2.trans (hb1.mono below_2.size); have a1 := ((h.below below_2)).below hb1; have b1 := ((k.below below_2)).below hb1; have T1 := ((hT.below below_2)).below hb1; have P1 := ((blk_a1)).below hb1; have Q1 := ((blk_a2)).below hb1; obtain ⟨cP0_1, cP1_1, cP2_1, fP0_1, fP1_1, fP2_1, sP_1⟩ := P1.open3; obtain ⟨cQ0_1, cQ1_1, cQ2_1, fQ0_1, fQ1_1, fQ2_1, sQ_1⟩ := Q1.open3)
        | (go_at_call 36; (with_reducible refine (HTb.out _ _ (b1.num sB2) T1).mono ?_); rintro e w2 ⟨rfl, hb2⟩; have B2 := B1.trans (hb2.mono B1.size); have a2 := a1.below hb2; have b2 := b1.below hb2; have T2 := T1.below hb2; have P2 := P1.below hb2; have Q2 := Q1.below hb2; clear a1 b1 T1 P1 Q1; clear cP0_1 cP1_1 cP2_1 fP0_1 fP1_1 fP2_1 sP_1; obtain ⟨cP0_2, cP1_2, cP2_2, fP0_2, fP1_2, fP2_2, sP_2⟩ := P2.open3; clear cQ0_1 cQ1_1 cQ2_1 fQ0_1 fQ1_1 fQ2_1 sQ_1; obtain ⟨cQ0_2, cQ1_2, cQ2_2, fQ0_2, fQ1_2, fQ2_2, sQ_2⟩ := Q2.open3)
        | (go_at_call 20; (with_reducible refine (HO.out _ T2).mono ?_); rintro e w3 ⟨vo3, rfl, o3, hb3⟩; have B3 := B2.trans (hb3.mono B2.size); have a3 := a2.below hb3; have b3 := b2.below hb3; have T3 := T2.below hb3; have P3 := P2.below hb3; have Q3 := Q2.below hb3; clear a2 b2 T2 P2 Q2; clear cP0_2 cP1_2 cP2_2 fP0_2 fP1_2 fP2_2 sP_2; obtain ⟨cP0_3, cP1_3, cP2_3, fP0_3, fP1_3, fP2_3, sP_3⟩ := P3.open3; clear cQ0_2 cQ1_2 cQ2_2 fQ0_2 fQ1_2 fQ2_2 sQ_2; obtain ⟨cQ0_3, cQ1_3, cQ2_3, fQ0_3, fQ1_3, fQ2_3, sQ_3⟩ := Q3.open3; obtain ⟨uo3, rfl, o3⟩ := o3; obtain ⟨ao3, ko3, rfl, -⟩ := o3.view)
        | fail)
      have O4 : Blk (w3.alloc (.cells #[.bool false, .slice ao3 (digs BB 1).length ko3, .int .i64 0] 32)) w3.heap.size #[.bool false, .slice ao3 (digs BB 1).length ko3, .int .i64 0] := blk_new
      have P4 : Blk (w3.alloc (.cells #[.bool false, .slice ao3 (digs BB 1).length ko3, .int .i64 0] 32)) _ _ := P3.below (below_alloc _ _)
      have Q4 : Blk (w3.alloc (.cells #[.bool false, .slice ao3 (digs BB 1).length ko3, .int .i64 0] 32)) _ _ := Q3.below (below_alloc _ _)
      have a4 : RdN (w3.alloc (.cells #[.bool false, .slice ao3 (digs BB 1).length ko3, .int .i64 0] 32)) _ _ := a3.below (below_alloc _ _)
      have b4 : RdN (w3.alloc (.cells #[.bool false, .slice ao3 (digs BB 1).length ko3, .int .i64 0] 32)) _ _ := b3.below (below_alloc _ _)
      have o4 : RdN (w3.alloc (.cells #[.bool false, .slice ao3 (digs BB 1).length ko3, .int .i64 0] 32)) _ _ := o3.below (below_alloc _ _)
      have B4 : Below w.heap.size w (w3.alloc (.cells #[.bool false, .slice ao3 (digs BB 1).length ko3, .int .i64 0] 32)) := below_right B3 _
      clear cP0_3 cP1_3 cP2_3 fP0_3 fP1_3 fP2_3 sP_3 cQ0_3 cQ1_3 cQ2_3 fQ0_3 fQ1_3 fQ2_3 sQ_3 P3 Q3 a3 b3 o3 B3 T3
      generalize w3.alloc (.cells #[.bool false, .slice ao3 (digs BB 1).length ko3, .int .i64 0] 32) = w4 at *
      generalize w3.heap.size = bo at *
      generalize hb0 : w.heap.size = b0 at *
      have hwE : IntKind.i64.wrap (Ea + Eb) = Ea + Eb := by rw [IntKind.wrap_i64]; omega
      go_cut [11] (fun r wx => ∃ br am km, r = .pointer (some ⟨br, 0, none⟩) ∧ Blk wx br #[.bool false, .slice am (digs BB (A * B)).length km, .int .i64 (Ea + Eb)] ∧ RdN wx (.slice am (digs BB (A * B)).length km) (digs BB (A * B)) ∧ Blk wx bo #[.bool false, .slice ao3 (digs BB 1).length ko3, .int .i64 0] ∧ RdN wx (.slice ao3 (digs BB 1).length ko3) (digs BB 1) ∧ Below b0 w wx)
      case first =>
        have PD : Blk w4.drew _ _ := P4.below (below_drewN (Below.refl _ _) 1)
        have QD : Blk w4.drew _ _ := Q4.below (below_drewN (Below.refl _ _) 1)
        have OD : Blk w4.drew _ _ := O4.below (below_drewN (Below.refl _ _) 1)
        have aD : RdN w4.drew _ _ := a4.below (below_drewN (Below.refl _ _) 1)
        have bD : RdN w4.drew _ _ := b4.below (below_drewN (Below.refl _ _) 1)
        have oD : RdN w4.drew _ _ := o4.below (below_drewN (Below.refl _ _) 1)
        have BD : Below b0 w w4.drew := below_drewN B4 1
        have hAD : Below w4.heap.size w4 (w4.alloc (.cells #[.bool false, .slice none 0 0, .int .i64 0] 32)).drew := below_drewN (below_alloc w4 _) 1
        have PA : Blk (w4.alloc (.cells #[.bool false, .slice none 0 0, .int .i64 0] 32)).drew _ _ := P4.below hAD
        have QA : Blk (w4.alloc (.cells #[.bool false, .slice none 0 0, .int .i64 0] 32)).drew _ _ := Q4.below hAD
        have OA : Blk (w4.alloc (.cells #[.bool false, .slice none 0 0, .int .i64 0] 32)).drew _ _ := O4.below hAD
        have aA : RdN (w4.alloc (.cells #[.bool false, .slice none 0 0, .int .i64 0] 32)).drew _ _ := a4.below hAD
        have bA : RdN (w4.alloc (.cells #[.bool false, .slice none 0 0, .int .i64 0] 32)).drew _ _ := b4.below hAD
        have oA' : RdN (w4.alloc (.cells #[.bool false, .slice none 0 0, .int .i64 0] 32)).drew _ _ := o4.below hAD
        have NA : Blk (w4.alloc (.cells #[.bool false, .slice none 0 0, .int .i64 0] 32)).drew w4.heap.size #[.bool false, .slice none 0 0, .int .i64 0] := blk_new.below (below_drewN (Below.refl _ _) 1)
        have BA : Below b0 w (w4.alloc (.cells #[.bool false, .slice none 0 0, .int .i64 0] 32)).drew := B4.trans (hAD.mono (hb0 ▸ B4.size))
        have hbo := O4.1
        have hbP := P4.1
        have hbQ := Q4.1
        have hb4 : b0 ≤ w4.heap.size := hb0 ▸ B4.size
        obtain ⟨cP0_0, cP1_0, cP2_0, fP0_0, fP1_0, fP2_0, sP_0⟩ := PD.open3
        obtain ⟨cQ0_0, cQ1_0, cQ2_0, fQ0_0, fQ1_0, fQ2_0, sQ_0⟩ := QD.open3
        go_region_held3 (fun w' => w'.cell? ⟨b0, 1, none⟩ = some (.slice av (digs BB A).length kv) ∧ w'.cell? ⟨b0, 2, none⟩ = some (.int .i64 Ea) ∧ w'.cell? ⟨b0 + 1, 1, none⟩ = some (.slice au (digs BB B).length ku) ∧ w'.cell? ⟨b0 + 1, 2, none⟩ = some (.int .i64 Eb)) (first | exact ⟨cP1_0, cP2_0, cQ1_0, cQ2_0⟩ | exact ⟨PA.open3.2.1, PA.open3.2.2.1, QA.open3.2.1, QA.open3.2.2.1⟩ | exact ⟨cP1_1, cP2_1, cQ1_1, cQ2_1⟩ | exact ⟨(P1.below (below_alloc _ _)).open3.2.1, (P1.below (below_alloc _ _)).open3.2.2.1, (Q1.below (below_alloc _ _)).open3.2.1, (Q1.below (below_alloc _ _)).open3.2.2.1⟩ | exact ⟨(P1.other3 (Nat.ne_of_lt hbP) _ _ _).open3.2.1, (P1.other3 (Nat.ne_of_lt hbP) _ _ _).open3.2.2.1, (Q1.other3 (Nat.ne_of_lt hbQ) _ _ _).open3.2.1, (Q1.other3 (Nat.ne_of_lt hbQ) _ _ _).open3.2.2.1⟩ | exact ⟨((P1.below (below_alloc _ _)).other3 (Nat.ne_of_lt P1.1) _ _ _).open3.2.1, ((P1.below (below_alloc _ _)).other3 (Nat.ne_of_lt P1.1) _ _ _).open3.2.2.1, ((Q1.below (below_alloc _ _)).other3 (Nat.ne_of_lt Q1.1) _ _ _).open3.2.1, ((Q1.below (below_alloc _ _)).other3 (Nat.ne_of_lt Q1.1) _ _ _).open3.2.2.1⟩ | exact ⟨(PD.below (below_alloc _ _)).open3.2.1, (PD.below (below_alloc _ _)).open3.2.2.1, (QD.below (below_alloc _ _)).open3.2.1, (QD.below (below_alloc _ _)).open3.2.2.1⟩ | exact ⟨((PD.below (below_alloc _ _)).other3 (Nat.ne_of_lt PD.1) _ _ _).open3.2.1, ((PD.below (below_alloc _ _)).other3 (Nat.ne_of_lt PD.1) _ _ _).open3.2.2.1, ((QD.below (below_alloc _ _)).other3 (Nat.ne_of_lt QD.1) _ _ _).open3.2.1, ((QD.below (below_alloc _ _)).other3 (Nat.ne_of_lt QD.1) _ _ _).open3.2.2.1⟩)
        (first
          | (go_at_call 90; (with_reducible refine (multiplied_n aD bD sA sB).mono ?_); rintro e w1 ⟨vp1, rfl, p1, hb1⟩; have B1 := hb1; have a1 := aD.below hb1; have b1 := bD.below hb1; have o1 := oD.below hb1; have P1 := PD.below hb1; have Q1 := QD.below hb1; have O1 := OD.below hb1; clear aD bD oD PD QD OD; obtain ⟨cP0_1, cP1_1, cP2_1, fP0_1, fP1_1, fP2_1, sP_1⟩ := P1.open3; obtain ⟨cQ0_1, cQ1_1, cQ2_1, fQ0_1, fQ1_1, fQ2_1, sQ_1⟩ := Q1.open3; obtain ⟨cO0_1, cO1_1, cO2_1, fO0_1, fO1_1, fO2_1, sO_1⟩ := O1.open3; obtain ⟨ap1, kp1, rfl, -⟩ := p1.view; try simp only [List.length_nil] at p1)
          | (go_at_call 90; (with_reducible refine (multiplied_n aA bA sA sB).mono ?_); rintro e w1 ⟨vp1, rfl, p1, hb1⟩; have P1 := PA.below hb1; have Q1 := QA.below hb1; have O1 := OA.below hb1; have o1 := oA'.below hb1; have N1 := NA.below hb1; have BN1 := BA.trans (hb1.mono (hb0 ▸ BA.size)); obtain ⟨cP0_1, cP1_1, cP2_1, fP0_1, fP1_1, fP2_1, sP_1⟩ := P1.open3; obtain ⟨cQ0_1, cQ1_1, cQ2_1, fQ0_1, fQ1_1, fQ2_1, sQ_1⟩ := Q1.open3; obtain ⟨cN0_1, cN1_1, cN2_1, fN0_1, fN1_1, fN2_1, sN_1⟩ := N1.open3; obtain ⟨ap1, kp1, rfl, -⟩ := p1.view)
          | fail)
        · go_wp2_with fail
          go_meet
          exact ⟨w1.heap.size, ap1, kp1, rfl, blk_new, p1.below (below_alloc _ _), O1.below (below_alloc _ _), o1.below (below_alloc _ _), (BD.trans (hb1.mono (hb0 ▸ BD.size))).alloc (Nat.le_trans (hb0 ▸ BD.size) hb1.size) _⟩
        · go_wp2_with fail
          go_meet
          exact ⟨w4.heap.size, ap1, kp1, rfl, N1.set3 _ _ _, p1.set3 N1 dcells _ _ _, O1.other3 (Nat.ne_of_lt hbo) _ _ _, o1.set3 N1 dcells _ _ _, below_set3b BN1 hb4 _ _ _⟩
      case rest =>
        obtain ⟨br, am, km, rfl, R5, m5, O5, o5, B5⟩ := hcut
        have oAB : A * B % 2 = 1 := by rw [Nat.mul_mod, oA, oB]
        have bR := Lib.hid (bareD_odd (neg := false) (E := Ea + Eb) oAB (by omega) (by omega))
        have b1' := Lib.hid b1
        have sAB : bitN (A * B) ≤ 400000 := by have := bitN_mul_le A B; omega
        have sABn : bitN (A * B) ≤ 2560000 := by omega
        have s1 : bitN 1 ≤ 400000 := by rw [bitN_one]; omega
        have s1n : bitN 1 ≤ 2560000 := by rw [bitN_one]; omega
        have hcD : cmpD ⟨false, 1, 0⟩ ⟨false, A * B, Ea + Eb⟩ = c := by
          have e1 : signD ⟨false, 1, 0⟩ = 1 := rfl
          have e2 : signD ⟨false, A * B, Ea + Eb⟩ = 1 := by unfold signD; rw [if_neg (show (⟨false, A * B, Ea + Eb⟩ : Dn).m ≠ 0 by simp only; omega)]; rfl
          unfold cmpD
          rw [e1, e2, if_neg (by decide), hc, Int.one_mul]
        have ecD := Lib.hid hcD
        have hT5 : Tab wc := hT.below (hb0 ▸ B5)
        obtain ⟨cR0_0, cR1_0, cR2_0, fR0_0, fR1_0, fR2_0, sR_0⟩ := R5.open3
        obtain ⟨cO0_0, cO1_0, cO2_0, fO0_0, fO1_0, fO2_0, sO_0⟩ := O5.open3
        have hE1 : -9223372036854775808 ≤ Ea + Eb := by omega
        have hE2 : Ea + Eb ≤ 9223372036854775807 := by omega
        have hz1' : (-9223372036854775808 : Int) ≤ 0 := by decide
        have hz2' : (0 : Int) ≤ 9223372036854775807 := by decide
        clear hc hcD b1 P4 Q4 O4 a4 b4 o4 B4
        have BC := B5
        go_wp2_with
        (first
          | (go_at_call 19; (with_reducible refine (Cmp_n (o5.num s1n) (m5.num sABn) hT5 hz1' hz2' hE1 hE2 b1'.out bR.out s1 sAB ecD.out).mono ?_); rintro e w1 ⟨rfl, hb1⟩; have B1 := hb1; have m1 := o5.below hb1; have g1 := m5.below hb1; have T1 := hT5.below hb1; clear o5 m5 hT5)
          | fail)
        all_goals
          go_ret2
          exact ⟨rfl, hb0 ▸ BC.trans (hb1.mono (hb0 ▸ BC.size))⟩
end Go.Proofs.YtabdmnjdmnnejaaDoor

/- ratio.Cmp by its contract. Conditions: the numbers are short; math/bits' table stands in its variable. -/
namespace Go.Proofs.YtabdmnjdmnnejaaDoor
set_option maxRecDepth 100000
open Go.RowKit Go.ChangeShapes Go.WideShapes

theorem odd_pow {a : Nat} (h : a % 2 = 1) : ∀ k, a ^ k % 2 = 1
  | 0 => by rw [Nat.pow_zero]
  | k + 1 => by rw [Nat.pow_succ, Nat.mul_mod, odd_pow h k, h]


set_option maxRecDepth 100000 in
set_option maxHeartbeats 1000000 in
theorem rCmp_ok {w : World} {v u : Value} {M M' M2 M2' P Q : Nat} {E E' E2 E2' m Ep Eq c : Int} {k k1 : Nat} (h : Num w v M) (h' : Num w u M2) (hT : Tab w) (h1 : -9223372036854775808 ≤ E) (h2 : E ≤ 9223372036854775807) (h3 : -9223372036854775808 ≤ E2) (h4 : E2 ≤ 9223372036854775807)
    (e : bareD ⟨false, M, E⟩ = ⟨false, M', E'⟩) (e2 : bareD ⟨false, M2, E2⟩ = ⟨false, M2', E2'⟩) (hf : fitsE E' = true) (hf2 : fitsE E2' = true) (n1 : M ≠ 0) (n2 : M2 ≠ 0) (o1 : M' % 2 = 1) (o2 : M2' % 2 = 1) (hm : m.natAbs = k1) (hm1 : k1 ≤ 9223372036854775807) (hk : 1 ≤ k) (hk2 : k ≤ 9223372036854775807)
    (hb1 : bitN M' * k1 ≤ 60000) (hb2 : E'.natAbs * k1 ≤ 60000) (hb3 : bitN M2' * k ≤ 60000) (hb4 : E2'.natAbs * k ≤ 60000) (hP : M' ^ k1 = P) (hQ : M2' ^ k = Q) (hEp : E' * k1 = Ep) (hEq : E2' * k = Eq)
    (hc1 : 0 ≤ m → cmpM ⟨false, P, Ep⟩ ⟨false, Q, Eq⟩ = c) (hc2 : m < 0 → cmpM ⟨false, 1, 0⟩ ⟨false, P * Q, Ep + Eq⟩ = c) :
    Calls Tryd.prog 53 #[.agg #[.bool false, v, .int .i64 E], .int .i64 m, .agg #[.bool false, u, .int .i64 E2], .int .i64 k] w (fun e w' => e = .returned (.tuple #[.int .i64 c, .int .i64 0]) ∧ Below w.heap.size w w') := by
  obtain ⟨av, nv, kv, rfl⟩ := h.slice
  obtain ⟨au, nu, ku, rfl⟩ := h'.slice
  have oP : P % 2 = 1 := by rw [← hP]; exact odd_pow o1 _
  have oQ : Q % 2 = 1 := by rw [← hQ]; exact odd_pow o2 _
  have aEp : Ep.natAbs ≤ 60000 := by rw [← hEp, Int.natAbs_mul, Int.natAbs_natCast]; exact hb2
  have aEq : Eq.natAbs ≤ 60000 := by rw [← hEq, Int.natAbs_mul, Int.natAbs_natCast]; exact hb4
  have bP := bareD_odd (neg := false) (E := Ep) oP (by omega) (by omega)
  have bQ := bareD_odd (neg := false) (E := Eq) oQ (by omega) (by omega)
  have fP : fitsE Ep = true := by unfold fitsE; simp; omega
  have fQ : fitsE Eq = true := by unfold fitsE; simp; omega
  have sP : bitN P ≤ 65000 := by
    rw [← hP]; have := bitN_pow_le M' k1; omega
  have sQ : bitN Q ≤ 65000 := by
    rw [← hQ]; have := bitN_pow_le M2' k; omega
  have es := Lib.hid (show signD ⟨false, M, E⟩ = 1 by unfold signD; rw [if_neg (show (⟨false, M, E⟩ : Dn).m ≠ 0 from n1)]; rfl)
  have es2 := Lib.hid (show signD ⟨false, M2, E2⟩ = 1 by unfold signD; rw [if_neg (show (⟨false, M2, E2⟩ : Dn).m ≠ 0 from n2)]; rfl)
  have HF1 := Lib.hid (fun w v (h : Num w v M) (hT : Tab w) => Fits_n (m := m) (r := true) h hT h1 h2 e (by omega) (by omega) (by rw [hf, hm, decide_eq_true hb1, decide_eq_true hb2]; rfl))
  have HF2 := Lib.hid (fun w v (h : Num w v M2) (hT : Tab w) => Fits_n (m := (k : Int)) (r := true) h hT h3 h4 e2 (by omega) (by omega) (by rw [hf2, Int.natAbs_natCast, decide_eq_true hb3, decide_eq_true hb4]; rfl))
  have HP1 := Lib.hid (fun w v (h : Num w v M) (hT : Tab w) => power_ok (m := m) h hT h1 h2 e hm hm1 hf hb1 hb2 hP (by rw [Bool.false_and, hEp]; exact bP) fP)
  have HP2 := Lib.hid (fun w v (h : Num w v M2) (hT : Tab w) => power_ok (m := (k : Int)) h hT h3 h4 e2 (Int.natAbs_natCast k) hk2 hf2 hb3 hb4 hQ (by rw [Bool.false_and, hEq]; exact bQ) fQ)
  have ee := Lib.hid e; have ee2 := Lib.hid e2
  have sPn : bitN P ≤ 2560000 := by omega
  have sQn : bitN Q ≤ 2560000 := by omega
  have hkd : decide ((k : Int) < 1) = false := decide_eq_false (by omega)
  have hsP : signD ⟨false, P, Ep⟩ = 1 := by unfold signD; rw [if_neg (show (⟨false, P, Ep⟩ : Dn).m ≠ 0 by simp only; omega)]; rfl
  have hsQ : signD ⟨false, Q, Eq⟩ = 1 := by unfold signD; rw [if_neg (show (⟨false, Q, Eq⟩ : Dn).m ≠ 0 by simp only; omega)]; rfl
  clear hP hQ hEp hEq hb1 hb2 hb3 hb4 e e2 hm
  by_cases hm0 : 0 ≤ m
  · have hmd : decide (0 ≤ m) = true := decide_eq_true hm0
    have hcD : cmpD ⟨false, P, Ep⟩ ⟨false, Q, Eq⟩ = c := by
      unfold cmpD
      rw [hsP, hsQ, if_neg (by decide), hc1 hm0, Int.one_mul]
    have HC := Lib.hid (fun w v u (h : RdN w v (digs BB P)) (k : RdN w u (digs BB Q)) (hT : Tab w) => Cmp_n (neg := false) (neg2 := false) (h.num sPn) (k.num sQn) hT (show -9223372036854775808 ≤ Ep by omega) (by omega) (show -9223372036854775808 ≤ Eq by omega) (by omega) bP bQ (by omega) (by omega) hcD)
    clear hc1 hc2 hcD hsP hsQ bP bQ
    go_enter Tryd.func53, Tryd.ntmps53
    go_wp2_with
    (first
      | (go_at_call 17; (with_reducible refine (Bare_ok (h.below below_2) (hT.below below_2) h1 h2 ee.out hf).mono ?_); rintro e w1 ⟨vd1, rfl, d1, hb1⟩; have B1 := below_2.trans (hb1.mono below_2.size); have m1 := ((h.below below_2)).below hb1; have g1 := ((h'.below below_2)).below hb1; have T1 := ((hT.below below_2)).below hb1; have P1 := ((blk_a1)).below hb1; have Q1 := ((blk_a2)).below hb1; obtain ⟨cP0_1, cP1_1, cP2_1, fP0_1, fP1_1, fP2_1, sP_1⟩ := P1.open3; obtain ⟨cQ0_1, cQ1_1, cQ2_1, fQ0_1, fQ1_1, fQ2_1, sQ_1⟩ := Q1.open3; obtain ⟨ad1, kd1, rfl, -⟩ := d1.view; try simp only [List.length_nil] at d1)
      | (go_at_call 17; (with_reducible refine (Bare_ok (g1.below (below_alloc _ _)) (T1.below (below_alloc _ _)) h3 h4 ee2.out hf2).mono ?_); rintro e w2 ⟨vf2, rfl, f2, hb2⟩; have hb2' := (below_a hb2); have B2 := B1.trans (hb2'.mono B1.size); have m2 := m1.below hb2'; have g2 := g1.below hb2'; have T2 := T1.below hb2'; have P2 := P1.below hb2'; have Q2 := Q1.below hb2'; have d2 := d1.below hb2'; clear m1 g1 T1 P1 Q1 d1; clear cP0_1 cP1_1 cP2_1 fP0_1 fP1_1 fP2_1 sP_1; obtain ⟨cP0_2, cP1_2, cP2_2, fP0_2, fP1_2, fP2_2, sP_2⟩ := P2.open3; clear cQ0_1 cQ1_1 cQ2_1 fQ0_1 fQ1_1 fQ2_1 sQ_1; obtain ⟨cQ0_2, cQ1_2, cQ2_2, fQ0_2, fQ1_2, fQ2_2, sQ_2⟩ := Q2.open3; obtain ⟨af2, kf2, rfl, -⟩ := f2.view; try simp only [List.length_nil] at f2)
      | (go_at_call 18; (with_reducible refine (Sign_n (m2.below (below_alloc _ _)) es.out).mono ?_); rintro e w3 ⟨rfl, hb3⟩; have hb3' := (below_a hb3); have B3 := B2.trans (hb3'.mono B2.size); have m3 := m2.below hb3'; have g3 := g2.below hb3'; have T3 := T2.below hb3'; have P3 := P2.below hb3'; have Q3 := Q2.below hb3'; have d3 := d2.below hb3'; have f3 := f2.below hb3'; clear m2 g2 T2 P2 Q2 d2 f2; clear cP0_2 cP1_2 cP2_2 fP0_2 fP1_2 fP2_2 sP_2; obtain ⟨cP0_3, cP1_3, cP2_3, fP0_3, fP1_3, fP2_3, sP_3⟩ := P3.open3; clear cQ0_2 cQ1_2 cQ2_2 fQ0_2 fQ1_2 fQ2_2 sQ_2; obtain ⟨cQ0_3, cQ1_3, cQ2_3, fQ0_3, fQ1_3, fQ2_3, sQ_3⟩ := Q3.open3)
      | (go_at_call 18; (with_reducible refine (Sign_n g3 es2.out).mono ?_); rintro e w4 ⟨rfl, hb4⟩; have B4 := B3.trans (hb4.mono B3.size); have m4 := m3.below hb4; have g4 := g3.below hb4; have T4 := T3.below hb4; have P4 := P3.below hb4; have Q4 := Q3.below hb4; have d4 := d3.below hb4; have f4 := f3.below hb4; clear m3 g3 T3 P3 Q3 d3 f3; clear cP0_3 cP1_3 cP2_3 fP0_3 fP1_3 fP2_3 sP_3; obtain ⟨cP0_4, cP1_4, cP2_4, fP0_4, fP1_4, fP2_4, sP_4⟩ := P4.open3; clear cQ0_3 cQ1_3 cQ2_3 fQ0_3 fQ1_3 fQ2_3 sQ_3; obtain ⟨cQ0_4, cQ1_4, cQ2_4, fQ0_4, fQ1_4, fQ2_4, sQ_4⟩ := Q4.open3)
      | (go_at_call 76; (with_reducible refine (HF1.out _ _ m4 T4).mono ?_); rintro e w5 ⟨rfl, hb5⟩; have B5 := B4.trans (hb5.mono B4.size); have m5 := m4.below hb5; have g5 := g4.below hb5; have T5 := T4.below hb5; have P5 := P4.below hb5; have Q5 := Q4.below hb5; have d5 := d4.below hb5; have f5 := f4.below hb5; clear m4 g4 T4 P4 Q4 d4 f4; clear cP0_4 cP1_4 cP2_4 fP0_4 fP1_4 fP2_4 sP_4; obtain ⟨cP0_5, cP1_5, cP2_5, fP0_5, fP1_5, fP2_5, sP_5⟩ := P5.open3; clear cQ0_4 cQ1_4 cQ2_4 fQ0_4 fQ1_4 fQ2_4 sQ_4; obtain ⟨cQ0_5, cQ1_5, cQ2_5, fQ0_5, fQ1_5, fQ2_5, sQ_5⟩ := Q5.open3)
      | (go_at_call 76; (with_reducible refine (HF2.out _ _ g5 T5).mono ?_); rintro e w6 ⟨rfl, hb6⟩; have B6 := B5.trans (hb6.mono B5.size); have m6 := m5.below hb6; have g6 := g5.below hb6; have T6 := T5.below hb6; have P6 := P5.below hb6; have Q6 := Q5.below hb6; have d6 := d5.below hb6; have f6 := f5.below hb6; clear m5 g5 T5 P5 Q5 d5 f5; clear cP0_5 cP1_5 cP2_5 fP0_5 fP1_5 fP2_5 sP_5; obtain ⟨cP0_6, cP1_6, cP2_6, fP0_6, fP1_6, fP2_6, sP_6⟩ := P6.open3; clear cQ0_5 cQ1_5 cQ2_5 fQ0_5 fQ1_5 fQ2_5 sQ_5; obtain ⟨cQ0_6, cQ1_6, cQ2_6, fQ0_6, fQ1_6, fQ2_6, sQ_6⟩ := Q6.open3)
      | (go_at_call 77; (with_reducible refine (HP1.out _ _ m6 T6).mono ?_); rintro e w7 ⟨vp7, rfl, p7, hb7⟩; have B7 := B6.trans (hb7.mono B6.size); have m7 := m6.below hb7; have g7 := g6.below hb7; have T7 := T6.below hb7; have P7 := P6.below hb7; have Q7 := Q6.below hb7; have d7 := d6.below hb7; have f7 := f6.below hb7; clear m6 g6 T6 P6 Q6 d6 f6; clear cP0_6 cP1_6 cP2_6 fP0_6 fP1_6 fP2_6 sP_6; obtain ⟨cP0_7, cP1_7, cP2_7, fP0_7, fP1_7, fP2_7, sP_7⟩ := P7.open3; clear cQ0_6 cQ1_6 cQ2_6 fQ0_6 fQ1_6 fQ2_6 sQ_6; obtain ⟨cQ0_7, cQ1_7, cQ2_7, fQ0_7, fQ1_7, fQ2_7, sQ_7⟩ := Q7.open3; obtain ⟨ap7, kp7, rfl, -⟩ := p7.view; try simp only [List.length_nil] at p7)
      | (go_at_call 77; (with_reducible refine (HP2.out _ _ (g7.below (below_alloc _ _)) (T7.below (below_alloc _ _))).mono ?_); rintro e w8 ⟨vq8, rfl, q8, hb8⟩; have hb8' := (below_a hb8); have B8 := B7.trans (hb8'.mono B7.size); have m8 := m7.below hb8'; have g8 := g7.below hb8'; have T8 := T7.below hb8'; have P8 := P7.below hb8'; have Q8 := Q7.below hb8'; have d8 := d7.below hb8'; have f8 := f7.below hb8'; have p8 := p7.below hb8'; clear m7 g7 T7 P7 Q7 d7 f7 p7; have U8 := blk_new.below hb8; clear cP0_7 cP1_7 cP2_7 fP0_7 fP1_7 fP2_7 sP_7; obtain ⟨cP0_8, cP1_8, cP2_8, fP0_8, fP1_8, fP2_8, sP_8⟩ := P8.open3; clear cQ0_7 cQ1_7 cQ2_7 fQ0_7 fQ1_7 fQ2_7 sQ_7; obtain ⟨cQ0_8, cQ1_8, cQ2_8, fQ0_8, fQ1_8, fQ2_8, sQ_8⟩ := Q8.open3; obtain ⟨cU0_8, cU1_8, cU2_8, fU0_8, fU1_8, fU2_8, sU_8⟩ := U8.open3; obtain ⟨aq8, kq8, rfl, -⟩ := q8.view; try simp only [List.length_nil] at q8)
      | (go_at_call 19; (with_reducible refine (HC.out _ _ _ (p8.below (below_alloc _ _)) (q8.below (below_alloc _ _)) (T8.below (below_alloc _ _))).mono ?_); rintro e w9 ⟨rfl, hb9⟩; have hb9' := (below_a hb9); have B9 := B8.trans (hb9'.mono B8.size); have m9 := m8.below hb9'; have g9 := g8.below hb9'; have T9 := T8.below hb9'; have P9 := P8.below hb9'; have Q9 := Q8.below hb9'; have d9 := d8.below hb9'; have f9 := f8.below hb9'; have p9 := p8.below hb9'; have U9 := U8.below hb9'; have q9 := q8.below hb9'; clear m8 g8 T8 P8 Q8 d8 f8 p8 U8 q8; have V9 := blk_new.below hb9; clear cP0_8 cP1_8 cP2_8 fP0_8 fP1_8 fP2_8 sP_8; obtain ⟨cP0_9, cP1_9, cP2_9, fP0_9, fP1_9, fP2_9, sP_9⟩ := P9.open3; clear cQ0_8 cQ1_8 cQ2_8 fQ0_8 fQ1_8 fQ2_8 sQ_8; obtain ⟨cQ0_9, cQ1_9, cQ2_9, fQ0_9, fQ1_9, fQ2_9, sQ_9⟩ := Q9.open3; clear cU0_8 cU1_8 cU2_8 fU0_8 fU1_8 fU2_8 sU_8; obtain ⟨cU0_9, cU1_9, cU2_9, fU0_9, fU1_9, fU2_9, sU_9⟩ := U9.open3; obtain ⟨cV0_9, cV1_9, cV2_9, fV0_9, fV1_9, fV2_9, sV_9⟩ := V9.open3)
      | fail)
    all_goals
      go_ret2
      exact ⟨rfl, by assumption⟩
  · have hmd : decide (0 ≤ m) = false := decide_eq_false hm0
    have HA := Lib.hid (fun w v u (h : RdN w v (digs BB P)) (k : RdN w u (digs BB Q)) (hT : Tab w) => against_n h k hT sP sQ oP oQ aEp aEq (hc2 (by omega)))
    clear hc1 hc2 hsP hsQ bP bQ
    go_enter Tryd.func53, Tryd.ntmps53
    go_wp2_with
    (first
      | (go_at_call 17; (with_reducible refine (Bare_ok (h.below below_2) (hT.below below_2) h1 h2 ee.out hf).mono ?_); rintro e w1 ⟨vd1, rfl, d1, hb1⟩; have B1 := below_2.trans (hb1.mono below_2.size); have m1 := ((h.below below_2)).below hb1; have g1 := ((h'.below below_2)).below hb1; have T1 := ((hT.below below_2)).below hb1; have P1 := ((blk_a1)).below hb1; have Q1 := ((blk_a2)).below hb1; obtain ⟨cP0_1, cP1_1, cP2_1, fP0_1, fP1_1, fP2_1, sP_1⟩ := P1.open3; obtain ⟨cQ0_1, cQ1_1, cQ2_1, fQ0_1, fQ1_1, fQ2_1, sQ_1⟩ := Q1.open3; obtain ⟨ad1, kd1, rfl, -⟩ := d1.view; try simp only [List.length_nil] at d1)
      | (go_at_call 17; (with_reducible refine (Bare_ok (g1.below (below_alloc _ _)) (T1.below (below_alloc _ _)) h3 h4 ee2.out hf2).mono ?_); rintro e w2 ⟨vf2, rfl, f2, hb2⟩; have hb2' := (below_a hb2); have B2 := B1.trans (hb2'.mono B1.size); have m2 := m1.below hb2'; have g2 := g1.below hb2'; have T2 := T1.below hb2'; have P2 := P1.below hb2'; have Q2 := Q1.below hb2'; have d2 := d1.below hb2'; clear m1 g1 T1 P1 Q1 d1; clear cP0_1 cP1_1 cP2_1 fP0_1 fP1_1 fP2_1 sP_1; obtain ⟨cP0_2, cP1_2, cP2_2, fP0_2, fP1_2, fP2_2, sP_2⟩ := P2.open3; clear cQ0_1 cQ1_1 cQ2_1 fQ0_1 fQ1_1 fQ2_1 sQ_1; obtain ⟨cQ0_2, cQ1_2, cQ2_2, fQ0_2, fQ1_2, fQ2_2, sQ_2⟩ := Q2.open3; obtain ⟨af2, kf2, rfl, -⟩ := f2.view; try simp only [List.length_nil] at f2)
      | (go_at_call 18; (with_reducible refine (Sign_n (m2.below (below_alloc _ _)) es.out).mono ?_); rintro e w3 ⟨rfl, hb3⟩; have hb3' := (below_a hb3); have B3 := B2.trans (hb3'.mono B2.size); have m3 := m2.below hb3'; have g3 := g2.below hb3'; have T3 := T2.below hb3'; have P3 := P2.below hb3'; have Q3 := Q2.below hb3'; have d3 := d2.below hb3'; have f3 := f2.below hb3'; clear m2 g2 T2 P2 Q2 d2 f2; clear cP0_2 cP1_2 cP2_2 fP0_2 fP1_2 fP2_2 sP_2; obtain ⟨cP0_3, cP1_3, cP2_3, fP0_3, fP1_3, fP2_3, sP_3⟩ := P3.open3; clear cQ0_2 cQ1_2 cQ2_2 fQ0_2 fQ1_2 fQ2_2 sQ_2; obtain ⟨cQ0_3, cQ1_3, cQ2_3, fQ0_3, fQ1_3, fQ2_3, sQ_3⟩ := Q3.open3)
      | (go_at_call 18; (with_reducible refine (Sign_n g3 es2.out).mono ?_); rintro e w4 ⟨rfl, hb4⟩; have B4 := B3.trans (hb4.mono B3.size); have m4 := m3.below hb4; have g4 := g3.below hb4; have T4 := T3.below hb4; have P4 := P3.below hb4; have Q4 := Q3.below hb4; have d4 := d3.below hb4; have f4 := f3.below hb4; clear m3 g3 T3 P3 Q3 d3 f3; clear cP0_3 cP1_3 cP2_3 fP0_3 fP1_3 fP2_3 sP_3; obtain ⟨cP0_4, cP1_4, cP2_4, fP0_4, fP1_4, fP2_4, sP_4⟩ := P4.open3; clear cQ0_3 cQ1_3 cQ2_3 fQ0_3 fQ1_3 fQ2_3 sQ_3; obtain ⟨cQ0_4, cQ1_4, cQ2_4, fQ0_4, fQ1_4, fQ2_4, sQ_4⟩ := Q4.open3)
      | (go_at_call 76; (with_reducible refine (HF1.out _ _ m4 T4).mono ?_); rintro e w5 ⟨rfl, hb5⟩; have B5 := B4.trans (hb5.mono B4.size); have m5 := m4.below hb5; have g5 := g4.below hb5; have T5 := T4.below hb5; have P5 := P4.below hb5; have Q5 := Q4.below hb5; have d5 := d4.below hb5; have f5 := f4.below hb5; clear m4 g4 T4 P4 Q4 d4 f4; clear cP0_4 cP1_4 cP2_4 fP0_4 fP1_4 fP2_4 sP_4; obtain ⟨cP0_5, cP1_5, cP2_5, fP0_5, fP1_5, fP2_5, sP_5⟩ := P5.open3; clear cQ0_4 cQ1_4 cQ2_4 fQ0_4 fQ1_4 fQ2_4 sQ_4; obtain ⟨cQ0_5, cQ1_5, cQ2_5, fQ0_5, fQ1_5, fQ2_5, sQ_5⟩ := Q5.open3)
      | (go_at_call 76; (with_reducible refine (HF2.out _ _ g5 T5).mono ?_); rintro e w6 ⟨rfl, hb6⟩; have B6 := B5.trans (hb6.mono B5.size); have m6 := m5.below hb6; have g6 := g5.below hb6; have T6 := T5.below hb6; have P6 := P5.below hb6; have Q6 := Q5.below hb6; have d6 := d5.below hb6; have f6 := f5.below hb6; clear m5 g5 T5 P5 Q5 d5 f5; clear cP0_5 cP1_5 cP2_5 fP0_5 fP1_5 fP2_5 sP_5; obtain ⟨cP0_6, cP1_6, cP2_6, fP0_6, fP1_6, fP2_6, sP_6⟩ := P6.open3; clear cQ0_5 cQ1_5 cQ2_5 fQ0_5 fQ1_5 fQ2_5 sQ_5; obtain ⟨cQ0_6, cQ1_6, cQ2_6, fQ0_6, fQ1_6, fQ2_6, sQ_6⟩ := Q6.open3)
      | (go_at_call 77; (with_reducible refine (HP1.out _ _ m6 T6).mono ?_); rintro e w7 ⟨vp7, rfl, p7, hb7⟩; have B7 := B6.trans (hb7.mono B6.size); have m7 := m6.below hb7; have g7 := g6.below hb7; have T7 := T6.below hb7; have P7 := P6.below hb7; have Q7 := Q6.below hb7; have d7 := d6.below hb7; have f7 := f6.below hb7; clear m6 g6 T6 P6 Q6 d6 f6; clear cP0_6 cP1_6 cP2_6 fP0_6 fP1_6 fP2_6 sP_6; obtain ⟨cP0_7, cP1_7, cP2_7, fP0_7, fP1_7, fP2_7, sP_7⟩ := P7.open3; clear cQ0_6 cQ1_6 cQ2_6 fQ0_6 fQ1_6 fQ2_6 sQ_6; obtain ⟨cQ0_7, cQ1_7, cQ2_7, fQ0_7, fQ1_7, fQ2_7, sQ_7⟩ := Q7.open3; obtain ⟨ap7, kp7, rfl, -⟩ := p7.view; try simp only [List.length_nil] at p7)
      | (go_at_call 77; (with_reducible refine (HP2.out _ _ (g7.below (below_alloc _ _)) (T7.below (below_alloc _ _))).mono ?_); rintro e w8 ⟨vq8, rfl, q8, hb8⟩; have hb8' := (below_a hb8); have B8 := B7.trans (hb8'.mono B7.size); have m8 := m7.below hb8'; have g8 := g7.below hb8'; have T8 := T7.below hb8'; have P8 := P7.below hb8'; have Q8 := Q7.below hb8'; have d8 := d7.below hb8'; have f8 := f7.below hb8'; have p8 := p7.below hb8'; clear m7 g7 T7 P7 Q7 d7 f7 p7; have U8 := blk_new.below hb8; clear cP0_7 cP1_7 cP2_7 fP0_7 fP1_7 fP2_7 sP_7; obtain ⟨cP0_8, cP1_8, cP2_8, fP0_8, fP1_8, fP2_8, sP_8⟩ := P8.open3; clear cQ0_7 cQ1_7 cQ2_7 fQ0_7 fQ1_7 fQ2_7 sQ_7; obtain ⟨cQ0_8, cQ1_8, cQ2_8, fQ0_8, fQ1_8, fQ2_8, sQ_8⟩ := Q8.open3; obtain ⟨cU0_8, cU1_8, cU2_8, fU0_8, fU1_8, fU2_8, sU_8⟩ := U8.open3; obtain ⟨aq8, kq8, rfl, -⟩ := q8.view; try simp only [List.length_nil] at q8)
      | (go_at_call 78; (with_reducible refine (HA.out _ _ _ (p8.below (below_alloc _ _)) (q8.below (below_alloc _ _)) (T8.below (below_alloc _ _))).mono ?_); rintro e w9 ⟨rfl, hb9⟩; have hb9' := (below_a hb9); have B9 := B8.trans (hb9'.mono B8.size); have m9 := m8.below hb9'; have g9 := g8.below hb9'; have T9 := T8.below hb9'; have P9 := P8.below hb9'; have Q9 := Q8.below hb9'; have d9 := d8.below hb9'; have f9 := f8.below hb9'; have p9 := p8.below hb9'; have U9 := U8.below hb9'; have q9 := q8.below hb9'; clear m8 g8 T8 P8 Q8 d8 f8 p8 U8 q8; have V9 := blk_new.below hb9; clear cP0_8 cP1_8 cP2_8 fP0_8 fP1_8 fP2_8 sP_8; obtain ⟨cP0_9, cP1_9, cP2_9, fP0_9, fP1_9, fP2_9, sP_9⟩ := P9.open3; clear cQ0_8 cQ1_8 cQ2_8 fQ0_8 fQ1_8 fQ2_8 sQ_8; obtain ⟨cQ0_9, cQ1_9, cQ2_9, fQ0_9, fQ1_9, fQ2_9, sQ_9⟩ := Q9.open3; clear cU0_8 cU1_8 cU2_8 fU0_8 fU1_8 fU2_8 sU_8; obtain ⟨cU0_9, cU1_9, cU2_9, fU0_9, fU1_9, fU2_9, sU_9⟩ := U9.open3; obtain ⟨cV0_9, cV1_9, cV2_9, fV0_9, fV1_9, fV2_9, sV_9⟩ := V9.open3)
      | fail)
    all_goals
      go_ret2
      exact ⟨rfl, by assumption⟩


set_option maxRecDepth 100000 in
set_option maxHeartbeats 1000000 in
theorem rCmp_arg {w : World} {v u : Value} {neg n' neg2 n2' : Bool} {M M' M2 M2' : Nat} {E E' E2 E2' m k s s2 : Int} (h : Num w v M) (h' : Num w u M2) (hT : Tab w) (h1 : -9223372036854775808 ≤ E) (h2 : E ≤ 9223372036854775807) (h3 : -9223372036854775808 ≤ E2) (h4 : E2 ≤ 9223372036854775807)
    (e : bareD ⟨neg, M, E⟩ = ⟨n', M', E'⟩) (e2 : bareD ⟨neg2, M2, E2⟩ = ⟨n2', M2', E2'⟩) (hs : signD ⟨neg, M, E⟩ = s) (hs2 : signD ⟨neg2, M2, E2⟩ = s2) (hx : fitsE E' = false ∨ fitsE E2' = false ∨ s ≤ 0 ∨ s2 ≤ 0 ∨ k < 1) :
    Calls Tryd.prog 53 #[.agg #[.bool neg, v, .int .i64 E], .int .i64 m, .agg #[.bool neg2, u, .int .i64 E2], .int .i64 k] w (fun e w' => e = .returned (.tuple #[.int .i64 0, .int .i64 1]) ∧ Below w.heap.size w w') := by
  obtain ⟨av, nv, kv, rfl⟩ := h.slice
  obtain ⟨au, nu, ku, rfl⟩ := h'.slice
  have ee := Lib.hid e; have ee2 := Lib.hid e2; have es := Lib.hid hs; have es2 := Lib.hid hs2
  clear e e2 hs hs2
  by_cases c1 : fitsE E' = false
  · have hf := c1
    clear hx
    by_cases c2 : fitsE E2' = false
    · have hf2 := c2
      go_enter Tryd.func53, Tryd.ntmps53
      go_wp2_with
        (first
          | (go_at_call 17; (with_reducible refine (Bare_long (h.below below_2) (hT.below below_2) h1 h2 ee.out hf).mono ?_); rintro e w1 ⟨rfl, hb1⟩; have B1 := below_2.trans (hb1.mono below_2.size); have m1 := ((h.below below_2)).below hb1; have g1 := ((h'.below below_2)).below hb1; have T1 := ((hT.below below_2)).below hb1; have P1 := ((blk_a1)).below hb1; have Q1 := ((blk_a2)).below hb1; obtain ⟨cP0_1, cP1_1, cP2_1, fP0_1, fP1_1, fP2_1, sP_1⟩ := P1.open3; obtain ⟨cQ0_1, cQ1_1, cQ2_1, fQ0_1, fQ1_1, fQ2_1, sQ_1⟩ := Q1.open3)
          | (go_at_call 17; (with_reducible refine (Bare_long (g1.below (below_alloc _ _)) (T1.below (below_alloc _ _)) h3 h4 ee2.out hf2).mono ?_); rintro e w2 ⟨rfl, hb2⟩; have hb2' := (below_a hb2); have B2 := B1.trans (hb2'.mono B1.size); have m2 := m1.below hb2'; have g2 := g1.below hb2'; have T2 := T1.below hb2'; have P2 := P1.below hb2'; have Q2 := Q1.below hb2'; clear m1 g1 T1 P1 Q1; clear cP0_1 cP1_1 cP2_1 fP0_1 fP1_1 fP2_1 sP_1; obtain ⟨cP0_2, cP1_2, cP2_2, fP0_2, fP1_2, fP2_2, sP_2⟩ := P2.open3; clear cQ0_1 cQ1_1 cQ2_1 fQ0_1 fQ1_1 fQ2_1 sQ_1; obtain ⟨cQ0_2, cQ1_2, cQ2_2, fQ0_2, fQ1_2, fQ2_2, sQ_2⟩ := Q2.open3)
          | fail)
      all_goals
        go_ret2
        exact ⟨rfl, by first | assumption | exact below_right (by assumption) _⟩
    · have hf2 : fitsE E2' = true := by simpa using c2
      go_enter Tryd.func53, Tryd.ntmps53
      go_wp2_with
        (first
          | (go_at_call 17; (with_reducible refine (Bare_long (h.below below_2) (hT.below below_2) h1 h2 ee.out hf).mono ?_); rintro e w1 ⟨rfl, hb1⟩; have B1 := below_2.trans (hb1.mono below_2.size); have m1 := ((h.below below_2)).below hb1; have g1 := ((h'.below below_2)).below hb1; have T1 := ((hT.below below_2)).below hb1; have P1 := ((blk_a1)).below hb1; have Q1 := ((blk_a2)).below hb1; obtain ⟨cP0_1, cP1_1, cP2_1, fP0_1, fP1_1, fP2_1, sP_1⟩ := P1.open3; obtain ⟨cQ0_1, cQ1_1, cQ2_1, fQ0_1, fQ1_1, fQ2_1, sQ_1⟩ := Q1.open3)
          | (go_at_call 17; (with_reducible refine (Bare_ok (g1.below (below_alloc _ _)) (T1.below (below_alloc _ _)) h3 h4 ee2.out hf2).mono ?_); rintro e w2 ⟨vf2, rfl, f2, hb2⟩; have hb2' := (below_a hb2); have B2 := B1.trans (hb2'.mono B1.size); have m2 := m1.below hb2'; have g2 := g1.below hb2'; have T2 := T1.below hb2'; have P2 := P1.below hb2'; have Q2 := Q1.below hb2'; clear m1 g1 T1 P1 Q1; clear cP0_1 cP1_1 cP2_1 fP0_1 fP1_1 fP2_1 sP_1; obtain ⟨cP0_2, cP1_2, cP2_2, fP0_2, fP1_2, fP2_2, sP_2⟩ := P2.open3; clear cQ0_1 cQ1_1 cQ2_1 fQ0_1 fQ1_1 fQ2_1 sQ_1; obtain ⟨cQ0_2, cQ1_2, cQ2_2, fQ0_2, fQ1_2, fQ2_2, sQ_2⟩ := Q2.open3; obtain ⟨af2, kf2, rfl, -⟩ := f2.view; try simp only [List.length_nil] at f2)
          | fail)
      all_goals
        go_ret2
        exact ⟨rfl, by first | assumption | exact below_right (by assumption) _⟩
  · have hf : fitsE E' = true := by simpa using c1
    by_cases c2 : fitsE E2' = false
    · have hf2 := c2
      clear hx
      go_enter Tryd.func53, Tryd.ntmps53
      go_wp2_with
        (first
          | (go_at_call 17; (with_reducible refine (Bare_ok (h.below below_2) (hT.below below_2) h1 h2 ee.out hf).mono ?_); rintro e w1 ⟨vd1, rfl, d1, hb1⟩; have B1 := below_2.trans (hb1.mono below_2.size); have m1 := ((h.below below_2)).below hb1; have g1 := ((h'.below below_2)).below hb1; have T1 := ((hT.below below_2)).below hb1; have P1 := ((blk_a1)).below hb1; have Q1 := ((blk_a2)).below hb1; obtain ⟨cP0_1, cP1_1, cP2_1, fP0_1, fP1_1, fP2_1, sP_1⟩ := P1.open3; obtain ⟨cQ0_1, cQ1_1, cQ2_1, fQ0_1, fQ1_1, fQ2_1, sQ_1⟩ := Q1.open3; obtain ⟨ad1, kd1, rfl, -⟩ := d1.view; try simp only [List.length_nil] at d1)
          | (go_at_call 17; (with_reducible refine (Bare_long (g1.below (below_alloc _ _)) (T1.below (below_alloc _ _)) h3 h4 ee2.out hf2).mono ?_); rintro e w2 ⟨rfl, hb2⟩; have hb2' := (below_a hb2); have B2 := B1.trans (hb2'.mono B1.size); have m2 := m1.below hb2'; have g2 := g1.below hb2'; have T2 := T1.below hb2'; have P2 := P1.below hb2'; have Q2 := Q1.below hb2'; have d2 := d1.below hb2'; clear m1 g1 T1 P1 Q1 d1; clear cP0_1 cP1_1 cP2_1 fP0_1 fP1_1 fP2_1 sP_1; obtain ⟨cP0_2, cP1_2, cP2_2, fP0_2, fP1_2, fP2_2, sP_2⟩ := P2.open3; clear cQ0_1 cQ1_1 cQ2_1 fQ0_1 fQ1_1 fQ2_1 sQ_1; obtain ⟨cQ0_2, cQ1_2, cQ2_2, fQ0_2, fQ1_2, fQ2_2, sQ_2⟩ := Q2.open3)
          | fail)
      all_goals
        go_ret2
        exact ⟨rfl, by first | assumption | exact below_right (by assumption) _⟩
    · have hf2 : fitsE E2' = true := by simpa using c2
      by_cases c3 : s ≤ 0
      · have hd3 : decide (s ≤ 0) = true := decide_eq_true c3
        clear hx
        go_enter Tryd.func53, Tryd.ntmps53
        go_wp2_with
          (first
            | (go_at_call 17; (with_reducible refine (Bare_ok (h.below below_2) (hT.below below_2) h1 h2 ee.out hf).mono ?_); rintro e w1 ⟨vd1, rfl, d1, hb1⟩; have B1 := below_2.trans (hb1.mono below_2.size); have m1 := ((h.below below_2)).below hb1; have g1 := ((h'.below below_2)).below hb1; have T1 := ((hT.below below_2)).below hb1; have P1 := ((blk_a1)).below hb1; have Q1 := ((blk_a2)).below hb1; obtain ⟨cP0_1, cP1_1, cP2_1, fP0_1, fP1_1, fP2_1, sP_1⟩ := P1.open3; obtain ⟨cQ0_1, cQ1_1, cQ2_1, fQ0_1, fQ1_1, fQ2_1, sQ_1⟩ := Q1.open3; obtain ⟨ad1, kd1, rfl, -⟩ := d1.view; try simp only [List.length_nil] at d1)
            | (go_at_call 17; (with_reducible refine (Bare_ok (g1.below (below_alloc _ _)) (T1.below (below_alloc _ _)) h3 h4 ee2.out hf2).mono ?_); rintro e w2 ⟨vf2, rfl, f2, hb2⟩; have hb2' := (below_a hb2); have B2 := B1.trans (hb2'.mono B1.size); have m2 := m1.below hb2'; have g2 := g1.below hb2'; have T2 := T1.below hb2'; have P2 := P1.below hb2'; have Q2 := Q1.below hb2'; have d2 := d1.below hb2'; clear m1 g1 T1 P1 Q1 d1; clear cP0_1 cP1_1 cP2_1 fP0_1 fP1_1 fP2_1 sP_1; obtain ⟨cP0_2, cP1_2, cP2_2, fP0_2, fP1_2, fP2_2, sP_2⟩ := P2.open3; clear cQ0_1 cQ1_1 cQ2_1 fQ0_1 fQ1_1 fQ2_1 sQ_1; obtain ⟨cQ0_2, cQ1_2, cQ2_2, fQ0_2, fQ1_2, fQ2_2, sQ_2⟩ := Q2.open3; obtain ⟨af2, kf2, rfl, -⟩ := f2.view; try simp only [List.length_nil] at f2)
            | (go_at_call 18; (with_reducible refine (Sign_n (m2.below (below_alloc _ _)) es.out).mono ?_); rintro e w3 ⟨rfl, hb3⟩; have hb3' := (below_a hb3); have B3 := B2.trans (hb3'.mono B2.size); have m3 := m2.below hb3'; have g3 := g2.below hb3'; have T3 := T2.below hb3'; have P3 := P2.below hb3'; have Q3 := Q2.below hb3'; have d3 := d2.below hb3'; have f3 := f2.below hb3'; clear m2 g2 T2 P2 Q2 d2 f2; clear cP0_2 cP1_2 cP2_2 fP0_2 fP1_2 fP2_2 sP_2; obtain ⟨cP0_3, cP1_3, cP2_3, fP0_3, fP1_3, fP2_3, sP_3⟩ := P3.open3; clear cQ0_2 cQ1_2 cQ2_2 fQ0_2 fQ1_2 fQ2_2 sQ_2; obtain ⟨cQ0_3, cQ1_3, cQ2_3, fQ0_3, fQ1_3, fQ2_3, sQ_3⟩ := Q3.open3)
            | fail)
        all_goals
          go_ret2
          exact ⟨rfl, by first | assumption | exact below_right (by assumption) _⟩
      · have hd3 : decide (s ≤ 0) = false := decide_eq_false c3
        by_cases c4 : s2 ≤ 0
        · have hd4 : decide (s2 ≤ 0) = true := decide_eq_true c4
          clear hx
          go_enter Tryd.func53, Tryd.ntmps53
          go_wp2_with
            (first
              | (go_at_call 17; (with_reducible refine (Bare_ok (h.below below_2) (hT.below below_2) h1 h2 ee.out hf).mono ?_); rintro e w1 ⟨vd1, rfl, d1, hb1⟩; have B1 := below_2.trans (hb1.mono below_2.size); have m1 := ((h.below below_2)).below hb1; have g1 := ((h'.below below_2)).below hb1; have T1 := ((hT.below below_2)).below hb1; have P1 := ((blk_a1)).below hb1; have Q1 := ((blk_a2)).below hb1; obtain ⟨cP0_1, cP1_1, cP2_1, fP0_1, fP1_1, fP2_1, sP_1⟩ := P1.open3; obtain ⟨cQ0_1, cQ1_1, cQ2_1, fQ0_1, fQ1_1, fQ2_1, sQ_1⟩ := Q1.open3; obtain ⟨ad1, kd1, rfl, -⟩ := d1.view; try simp only [List.length_nil] at d1)
              | (go_at_call 17; (with_reducible refine (Bare_ok (g1.below (below_alloc _ _)) (T1.below (below_alloc _ _)) h3 h4 ee2.out hf2).mono ?_); rintro e w2 ⟨vf2, rfl, f2, hb2⟩; have hb2' := (below_a hb2); have B2 := B1.trans (hb2'.mono B1.size); have m2 := m1.below hb2'; have g2 := g1.below hb2'; have T2 := T1.below hb2'; have P2 := P1.below hb2'; have Q2 := Q1.below hb2'; have d2 := d1.below hb2'; clear m1 g1 T1 P1 Q1 d1; clear cP0_1 cP1_1 cP2_1 fP0_1 fP1_1 fP2_1 sP_1; obtain ⟨cP0_2, cP1_2, cP2_2, fP0_2, fP1_2, fP2_2, sP_2⟩ := P2.open3; clear cQ0_1 cQ1_1 cQ2_1 fQ0_1 fQ1_1 fQ2_1 sQ_1; obtain ⟨cQ0_2, cQ1_2, cQ2_2, fQ0_2, fQ1_2, fQ2_2, sQ_2⟩ := Q2.open3; obtain ⟨af2, kf2, rfl, -⟩ := f2.view; try simp only [List.length_nil] at f2)
              | (go_at_call 18; (with_reducible refine (Sign_n (m2.below (below_alloc _ _)) es.out).mono ?_); rintro e w3 ⟨rfl, hb3⟩; have hb3' := (below_a hb3); have B3 := B2.trans (hb3'.mono B2.size); have m3 := m2.below hb3'; have g3 := g2.below hb3'; have T3 := T2.below hb3'; have P3 := P2.below hb3'; have Q3 := Q2.below hb3'; have d3 := d2.below hb3'; have f3 := f2.below hb3'; clear m2 g2 T2 P2 Q2 d2 f2; clear cP0_2 cP1_2 cP2_2 fP0_2 fP1_2 fP2_2 sP_2; obtain ⟨cP0_3, cP1_3, cP2_3, fP0_3, fP1_3, fP2_3, sP_3⟩ := P3.open3; clear cQ0_2 cQ1_2 cQ2_2 fQ0_2 fQ1_2 fQ2_2 sQ_2; obtain ⟨cQ0_3, cQ1_3, cQ2_3, fQ0_3, fQ1_3, fQ2_3, sQ_3⟩ := Q3.open3)
              | (go_at_call 18; (with_reducible refine (Sign_n g3 es2.out).mono ?_); rintro e w4 ⟨rfl, hb4⟩; have B4 := B3.trans (hb4.mono B3.size); have m4 := m3.below hb4; have g4 := g3.below hb4; have T4 := T3.below hb4; have P4 := P3.below hb4; have Q4 := Q3.below hb4; have d4 := d3.below hb4; have f4 := f3.below hb4; clear m3 g3 T3 P3 Q3 d3 f3; clear cP0_3 cP1_3 cP2_3 fP0_3 fP1_3 fP2_3 sP_3; obtain ⟨cP0_4, cP1_4, cP2_4, fP0_4, fP1_4, fP2_4, sP_4⟩ := P4.open3; clear cQ0_3 cQ1_3 cQ2_3 fQ0_3 fQ1_3 fQ2_3 sQ_3; obtain ⟨cQ0_4, cQ1_4, cQ2_4, fQ0_4, fQ1_4, fQ2_4, sQ_4⟩ := Q4.open3)
              | fail)
          all_goals
            go_ret2
            exact ⟨rfl, by first | assumption | exact below_right (by assumption) _⟩
        · have hd4 : decide (s2 ≤ 0) = false := decide_eq_false c4
          have c5 : k < 1 := by
            rcases hx with h | h | h | h | h
            · exact absurd h c1
            · exact absurd h c2
            · exact absurd h c3
            · exact absurd h c4
            · exact h
          have hd5 : decide (k < 1) = true := decide_eq_true c5
          clear hx
          go_enter Tryd.func53, Tryd.ntmps53
          go_wp2_with
            (first
              | (go_at_call 17; (with_reducible refine (Bare_ok (h.below below_2) (hT.below below_2) h1 h2 ee.out hf).mono ?_); rintro e w1 ⟨vd1, rfl, d1, hb1⟩; have B1 := below_2.trans (hb1.mono below_2.size); have m1 := ((h.below below_2)).below hb1; have g1 := ((h'.below below_2)).below hb1; have T1 := ((hT.below below_2)).below hb1; have P1 := ((blk_a1)).below hb1; have Q1 := ((blk_a2)).below hb1; obtain ⟨cP0_1, cP1_1, cP2_1, fP0_1, fP1_1, fP2_1, sP_1⟩ := P1.open3; obtain ⟨cQ0_1, cQ1_1, cQ2_1, fQ0_1, fQ1_1, fQ2_1, sQ_1⟩ := Q1.open3; obtain ⟨ad1, kd1, rfl, -⟩ := d1.view; try simp only [List.length_nil] at d1)
              | (go_at_call 17; (with_reducible refine (Bare_ok (g1.below (below_alloc _ _)) (T1.below (below_alloc _ _)) h3 h4 ee2.out hf2).mono ?_); rintro e w2 ⟨vf2, rfl, f2, hb2⟩; have hb2' := (below_a hb2); have B2 := B1.trans (hb2'.mono B1.size); have m2 := m1.below hb2'; have g2 := g1.below hb2'; have T2 := T1.below hb2'; have P2 := P1.below hb2'; have Q2 := Q1.below hb2'; have d2 := d1.below hb2'; clear m1 g1 T1 P1 Q1 d1; clear cP0_1 cP1_1 cP2_1 fP0_1 fP1_1 fP2_1 sP_1; obtain ⟨cP0_2, cP1_2, cP2_2, fP0_2, fP1_2, fP2_2, sP_2⟩ := P2.open3; clear cQ0_1 cQ1_1 cQ2_1 fQ0_1 fQ1_1 fQ2_1 sQ_1; obtain ⟨cQ0_2, cQ1_2, cQ2_2, fQ0_2, fQ1_2, fQ2_2, sQ_2⟩ := Q2.open3; obtain ⟨af2, kf2, rfl, -⟩ := f2.view; try simp only [List.length_nil] at f2)
              | (go_at_call 18; (with_reducible refine (Sign_n (m2.below (below_alloc _ _)) es.out).mono ?_); rintro e w3 ⟨rfl, hb3⟩; have hb3' := (below_a hb3); have B3 := B2.trans (hb3'.mono B2.size); have m3 := m2.below hb3'; have g3 := g2.below hb3'; have T3 := T2.below hb3'; have P3 := P2.below hb3'; have Q3 := Q2.below hb3'; have d3 := d2.below hb3'; have f3 := f2.below hb3'; clear m2 g2 T2 P2 Q2 d2 f2; clear cP0_2 cP1_2 cP2_2 fP0_2 fP1_2 fP2_2 sP_2; obtain ⟨cP0_3, cP1_3, cP2_3, fP0_3, fP1_3, fP2_3, sP_3⟩ := P3.open3; clear cQ0_2 cQ1_2 cQ2_2 fQ0_2 fQ1_2 fQ2_2 sQ_2; obtain ⟨cQ0_3, cQ1_3, cQ2_3, fQ0_3, fQ1_3, fQ2_3, sQ_3⟩ := Q3.open3)
              | (go_at_call 18; (with_reducible refine (Sign_n g3 es2.out).mono ?_); rintro e w4 ⟨rfl, hb4⟩; have B4 := B3.trans (hb4.mono B3.size); have m4 := m3.below hb4; have g4 := g3.below hb4; have T4 := T3.below hb4; have P4 := P3.below hb4; have Q4 := Q3.below hb4; have d4 := d3.below hb4; have f4 := f3.below hb4; clear m3 g3 T3 P3 Q3 d3 f3; clear cP0_3 cP1_3 cP2_3 fP0_3 fP1_3 fP2_3 sP_3; obtain ⟨cP0_4, cP1_4, cP2_4, fP0_4, fP1_4, fP2_4, sP_4⟩ := P4.open3; clear cQ0_3 cQ1_3 cQ2_3 fQ0_3 fQ1_3 fQ2_3 sQ_3; obtain ⟨cQ0_4, cQ1_4, cQ2_4, fQ0_4, fQ1_4, fQ2_4, sQ_4⟩ := Q4.open3)
              | fail)
          all_goals
            go_ret2
            exact ⟨rfl, by first | assumption | exact below_right (by assumption) _⟩
end Go.Proofs.YtabdmnjdmnnejaaDoor

/- What chapter 10's laws share: alive(). Conditions: math/bits' table stands in its variable. -/
namespace Go.Proofs.YtabdmnjdmnnejaaDoor
set_option maxRecDepth 100000
open Go.RowKit Go.ChangeShapes Go.WideShapes

theorem bare_2 : bareD ⟨false, 2, 0⟩ = ⟨false, 1, 1⟩ := rfl
theorem bare_1 : bareD ⟨false, 1, 1⟩ = ⟨false, 1, 1⟩ := rfl
theorem bare_10 : bareD ⟨false, 1, 0⟩ = ⟨false, 1, 0⟩ := rfl
theorem bare_0 : bareD ⟨false, 0, 0⟩ = ⟨false, 0, 0⟩ := rfl
theorem bare_1000 : bareD ⟨false, 1000, 0⟩ = ⟨false, 125, 3⟩ := rfl
theorem bare_125 : bareD ⟨false, 125, 3⟩ = ⟨false, 125, 3⟩ := rfl
theorem alive_cmp : cmpM ⟨false, 1, 10⟩ ⟨false, 125, 3⟩ = 1 := by decide

end Go.Proofs.YtabdmnjdmnnejaaDoor

/- Chapter 10's own size, bits, fits; planimeterref05.Top. Conditions: the numbers are short. -/
namespace Go.Proofs.YtabdmnjdmnnejaaDoor
set_option maxRecDepth 100000
open Go.RowKit Go.ChangeShapes Go.WideShapes

/-- A number's size, up to 100000. -/
def lsize (n : Int) : Nat := min n.natAbs 100000
set_option maxHeartbeats 800000 in
theorem RTop_n {w : World} {u : Value} {neg : Bool} {M : Nat} {E : Int} (h : RdD w u (digs DD M)) (sM : bitN M ≤ 200000) (h1 : -4294967296 ≤ E) (h2 : E ≤ 4294967296) :
    Calls Tryd.prog 22 #[.agg #[.bool neg, u, .int .i64 E]] w (fun e w' => e = .returned (.int .i64 (topD ⟨neg, M, E⟩)) ∧ Below w.heap.size w w') := by
  obtain ⟨a, n, k, rfl⟩ := h.slice
  have sM4 : bitN M ≤ 400000 := by omega
  unfold topD
  simp only
  obtain ⟨b, hb⟩ : ∃ b, bitN M = b := ⟨_, rfl⟩
  have eb := Lib.hid hb
  rw [hb]
  have hw1 : IntKind.i64.wrap ((b : Int) - 1) = (b : Int) - 1 := by rw [IntKind.wrap_i64]; omega
  have hw2 : IntKind.i64.wrap ((b : Int) - 1 + E) = (b : Int) - 1 + E := by rw [IntKind.wrap_i64]; omega
  clear hb
  go_enter Tryd.func22, Tryd.ntmps22
  go_wp2_with fail
  have hA : Below w.heap.size w (w.alloc (.cells #[.bool neg, .slice a n k, .int .i64 E] 30)) := below_alloc _ _
  have hX := h.below hA
  have PX : Blk (w.alloc (.cells #[.bool neg, .slice a n k, .int .i64 E] 30)) w.heap.size #[.bool neg, .slice a n k, .int .i64 E] := blk_new
  generalize w.alloc (.cells #[.bool neg, .slice a n k, .int .i64 E] 30) = w1 at *
  obtain ⟨cP0, cP1, cP2, fP0, fP1, fP2, sP⟩ := PX.open3
  have hD : RdD w1.drew _ _ := hX.below (below_drewN (Below.refl _ _) 1)
  have HB := Lib.hid (rbits_n hD eb.out sM4)
  go_still_tail 7, (by kernel_rfl)
  still_call HB.out
  repeat still_step
  refine wpStill_nil ?_
  change wpList _ _ _ _ _ w1.drew
  have BD : Below w.heap.size w w1.drew := below_drewN hA 1
  generalize w1.drew = w2 at *
  go_wp2
  go_ret
  exact ⟨rfl, BD⟩

end Go.Proofs.YtabdmnjdmnnejaaDoor
