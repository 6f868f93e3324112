/- ExactOnce returns true and leaves what was there: the walk. Conditions: math/bits' table stands in its variable. -/
import Derived.Test.YtabdmnjdmnnejaaDoorEx8
import Derived.Test.YtabdmnjdmnnejaaDoorOnceLaw
namespace Go.Proofs.YtabdmnjdmnnejaaDoor.PEOnce
set_option maxRecDepth 100000
open Go.RowKit Go.Proofs.YtabdmnjdmnnejaaDoor
set_option linter.unusedVariables false
set_option linter.unusedSimpArgs false

theorem getOf {L : List Oper} {k : Nat} {o : Oper} {r : List Oper} (h : L.drop k = o :: r) : (L.toArray)[k]? = some o := by
  rw [List.getElem?_toArray]
  have h2 : (L.drop k)[0]? = some o := by rw [h]; rfl
  rwa [List.getElem?_drop, Nat.add_zero] at h2

set_option maxRecDepth 100000 in
set_option maxHeartbeats 8000000 in
theorem walk (b0 : Bool) (a0 : Option Addr) (len0 cap0 : Nat) (zs0 : List Int) (e0 : Int) (ki : Int) (ei : Int) (w : World) (w0 : IsRow .u64 w a0 len0 cap0 zs0) (we : (Lit.int .i64 e0).wf = true) (wk : (Lit.int .i16 ki).wf = true) (wE : (Lit.int .i16 ei).wf = true) (hT : Tab w) :
    Calls Tryd.prog 4 #[.agg #[.bool b0, .slice a0 len0 cap0, .int .i64 e0], .int .i16 ki, .int .i16 ei] w fun e w' => e = .returned (.bool true) ∧ Below w.heap.size w w' := by
  obtain ⟨l, hl, dl, RL, hl64⟩ := w0.nums
  have h2 : -9223372036854775808 ≤ e0 ∧ e0 ≤ 9223372036854775807 := by simpa [Lit.wf, IntKind.min, IntKind.max, IntKind.bits, IntKind.signed] using we
  have h3 : -32768 ≤ ki ∧ ki ≤ 32767 := by simpa [Lit.wf, IntKind.min, IntKind.max, IntKind.bits, IntKind.signed] using wk
  have h4 : -32768 ≤ ei ∧ ei ≤ 32767 := by simpa [Lit.wf, IntKind.min, IntKind.max, IntKind.bits, IntKind.signed] using wE
  clear w0 we wk wE
  by_cases hbig : 20 < len0
  · clear RL dl hl
    have dec0 : decide (20 < (len0 : Int)) = true := decide_eq_true (by omega)
    go_enter Tryd.func4, Tryd.ntmps4
    go_wp2_with
    (first
      | (go_at_call 7; (with_reducible refine (alive11_any (hT.below (below_alloc _ _))).mono ?_); rintro e w1 ⟨rfl, hb1⟩; have B1 := (below_alloc _ _).trans (hb1.mono (below_alloc _ _).size); have T1 := ((hT.below (below_alloc _ _))).below hb1; have P1 := ((blk_new)).below hb1; obtain ⟨cP0_1, cP1_1, cP2_1, fP0_1, fP1_1, fP2_1, sP_1⟩ := P1.open3)
      | fail)
    all_goals
      go_ret
      exact ⟨rfl, by assumption⟩
  have dec0 : decide (20 < (len0 : Int)) = false := decide_eq_false (by omega)
  have bA := val_bits dl (show l.length ≤ 20 by omega)
  have RA := RL.numl dl (by omega)
  clear dl RL hl
  generalize val BB l = A at *
  obtain ⟨⟨n', M, E⟩, ed⟩ : ∃ d, bareD ⟨b0, A, e0⟩ = d := ⟨_, rfl⟩
  have sM : bitN M ≤ 1280 := Nat.le_trans (bareD_bits ed) (by omega)
  have HP9 : (fitsE E = false ∨ signD ⟨n', M, E⟩ ≤ 0) → Hid (∀ (w : World) v, Num w v A → Tab w → Calls Tryd.prog 9 #[.agg #[.bool b0, v, .int .i64 e0], .agg #[.int .i64 1, .int .i64 1]] w (fun e w' => e = .returned (.tuple #[.agg #[.bool false, .slice none 0 0, .int .i64 0], .bool false, .int .i64 1]) ∧ Below w.heap.size w w')) := fun hb => Lib.hid (fun w v h hT => Power_arg h hT h2.1 h2.2 ed (by omega) (by decide) (by decide) (by decide) (hb.imp id .inl))
  by_cases hf : fitsE E = true
  rotate_left
  · have HP1 := HP9 (.inl (by simpa using hf))
    have HB := Lib.hid (fun w v (h : Num w v A) (hT : Tab w) => Bare_long h hT h2.1 h2.2 ed (by simpa using hf))
    clear HP9 hf ed
    go_enter Tryd.func4, Tryd.ntmps4
    go_wp2_with
    (first
      | (go_at_call 7; (with_reducible refine (alive11_any (hT.below (below_alloc _ _))).mono ?_); rintro e w1 ⟨rfl, hb1⟩; have B1 := (below_alloc _ _).trans (hb1.mono (below_alloc _ _).size); have z1 := ((RA.below (below_alloc _ _))).below hb1; have T1 := ((hT.below (below_alloc _ _))).below hb1; have P1 := ((blk_new)).below hb1; obtain ⟨cP0_1, cP1_1, cP2_1, fP0_1, fP1_1, fP2_1, sP_1⟩ := P1.open3)
      | (go_at_call 9; (with_reducible refine (HP1.out _ _ (z1.below (below_alloc _ _)) (T1.below (below_alloc _ _))).mono ?_); rintro e w2 ⟨rfl, hb2⟩; have hb2' := (below_a hb2); have B2 := B1.trans (hb2'.mono B1.size); have z2 := z1.below hb2'; have T2 := T1.below hb2'; have P2 := P1.below hb2'; clear z1 T1 P1; have Q2 := blk_new.below hb2; clear cP0_1 cP1_1 cP2_1 fP0_1 fP1_1 fP2_1 sP_1; obtain ⟨cP0_2, cP1_2, cP2_2, fP0_2, fP1_2, fP2_2, sP_2⟩ := P2.open3; obtain ⟨cQ0_2, cQ1_2, cQ2_2, fQ0_2, fQ1_2, fQ2_2, sQ_2⟩ := Q2.open3)
      | (go_at_call 17; (with_reducible refine (HB.out _ _ (z2.below (below_alloc _ _)) (T2.below (below_alloc _ _))).mono ?_); rintro e w3 ⟨rfl, hb3⟩; have hb3' := (below_a hb3); have B3 := B2.trans (hb3'.mono B2.size); have z3 := z2.below hb3'; have T3 := T2.below hb3'; have P3 := P2.below hb3'; have Q3 := Q2.below hb3'; clear z2 T2 P2 Q2; clear cP0_2 cP1_2 cP2_2 fP0_2 fP1_2 fP2_2 sP_2; obtain ⟨cP0_3, cP1_3, cP2_3, fP0_3, fP1_3, fP2_3, sP_3⟩ := P3.open3; clear cQ0_2 cQ1_2 cQ2_2 fQ0_2 fQ1_2 fQ2_2 sQ_2; obtain ⟨cQ0_3, cQ1_3, cQ2_3, fQ0_3, fQ1_3, fQ2_3, sQ_3⟩ := Q3.open3)
      | fail)
    all_goals
      go_ret
      exact ⟨rfl, below_right (by assumption) _⟩
  have HB := Lib.hid (fun w v (h : Num w v A) (hT : Tab w) => Bare_ok h hT h2.1 h2.2 ed hf)
  have hsA : signD ⟨b0, A, e0⟩ = signD ⟨n', M, E⟩ := signD_bare ed
  by_cases hs : signD ⟨n', M, E⟩ ≤ 0
  · have HP1 := HP9 (.inr hs)
    obtain ⟨s, hs2⟩ : ∃ s, signD ⟨n', M, E⟩ = s := ⟨_, rfl⟩
    rw [hs2] at hs hsA
    have ds : decide (s ≤ 0) = true := decide_eq_true hs
    have HS := Lib.hid (fun w v (h : Num w v A) => Sign_n h hsA)
    clear HP9 hf ed hs hs2 hsA
    go_enter Tryd.func4, Tryd.ntmps4
    go_wp2_with
    (first
      | (go_at_call 7; (with_reducible refine (alive11_any (hT.below (below_alloc _ _))).mono ?_); rintro e w1 ⟨rfl, hb1⟩; have B1 := (below_alloc _ _).trans (hb1.mono (below_alloc _ _).size); have z1 := ((RA.below (below_alloc _ _))).below hb1; have T1 := ((hT.below (below_alloc _ _))).below hb1; have P1 := ((blk_new)).below hb1; obtain ⟨cP0_1, cP1_1, cP2_1, fP0_1, fP1_1, fP2_1, sP_1⟩ := P1.open3)
      | (go_at_call 9; (with_reducible refine (HP1.out _ _ (z1.below (below_alloc _ _)) (T1.below (below_alloc _ _))).mono ?_); rintro e w2 ⟨rfl, hb2⟩; have hb2' := (below_a hb2); have B2 := B1.trans (hb2'.mono B1.size); have z2 := z1.below hb2'; have T2 := T1.below hb2'; have P2 := P1.below hb2'; clear z1 T1 P1; have Q2 := blk_new.below hb2; clear cP0_1 cP1_1 cP2_1 fP0_1 fP1_1 fP2_1 sP_1; obtain ⟨cP0_2, cP1_2, cP2_2, fP0_2, fP1_2, fP2_2, sP_2⟩ := P2.open3; obtain ⟨cQ0_2, cQ1_2, cQ2_2, fQ0_2, fQ1_2, fQ2_2, sQ_2⟩ := Q2.open3)
      | (go_at_call 17; (with_reducible refine (HB.out _ _ (z2.below (below_alloc _ _)) (T2.below (below_alloc _ _))).mono ?_); rintro e w3 ⟨vx3, rfl, x3, hb3⟩; have hb3' := (below_a hb3); have B3 := B2.trans (hb3'.mono B2.size); have z3 := z2.below hb3'; have T3 := T2.below hb3'; have P3 := P2.below hb3'; have Q3 := Q2.below hb3'; clear z2 T2 P2 Q2; clear cP0_2 cP1_2 cP2_2 fP0_2 fP1_2 fP2_2 sP_2; obtain ⟨cP0_3, cP1_3, cP2_3, fP0_3, fP1_3, fP2_3, sP_3⟩ := P3.open3; clear cQ0_2 cQ1_2 cQ2_2 fQ0_2 fQ1_2 fQ2_2 sQ_2; obtain ⟨cQ0_3, cQ1_3, cQ2_3, fQ0_3, fQ1_3, fQ2_3, sQ_3⟩ := Q3.open3; obtain ⟨ax3, kx3, rfl, -⟩ := x3.view; try simp only [List.length_nil] at x3)
      | (go_at_call 18; (with_reducible refine (HS.out _ _ (z3.below (below_alloc _ _))).mono ?_); rintro e w4 ⟨rfl, hb4⟩; have hb4' := (below_a hb4); have B4 := B3.trans (hb4'.mono B3.size); have z4 := z3.below hb4'; have T4 := T3.below hb4'; have P4 := P3.below hb4'; have Q4 := Q3.below hb4'; have x4 := x3.below hb4'; clear z3 T3 P3 Q3 x3; clear cP0_3 cP1_3 cP2_3 fP0_3 fP1_3 fP2_3 sP_3; obtain ⟨cP0_4, cP1_4, cP2_4, fP0_4, fP1_4, fP2_4, sP_4⟩ := P4.open3; clear cQ0_3 cQ1_3 cQ2_3 fQ0_3 fQ1_3 fQ2_3 sQ_3; obtain ⟨cQ0_4, cQ1_4, cQ2_4, fQ0_4, fQ1_4, fQ2_4, sQ_4⟩ := Q4.open3)
      | fail)
    all_goals
      go_ret
      exact ⟨rfl, by assumption⟩
  clear HP9
  have hM0 : M ≠ 0 := fun h => hs (by rw [h]; unfold signD; simp)
  obtain rfl : n' = false := by
    cases n'
    · rfl
    · exact absurd (show signD ⟨true, M, E⟩ ≤ 0 by unfold signD; rw [if_neg hM0]; simp) hs
  have hs1 : signD ⟨b0, A, e0⟩ = 1 := by rw [hsA]; unfold signD; rw [if_neg hM0]; rfl
  have hodd := bareD_oddM ed hM0
  have rE : -1073741824 ≤ E ∧ E ≤ 1073741824 := by unfold fitsE at hf; simp at hf; exact hf
  have qM : bareD ⟨false, M, E⟩ = ⟨false, M, E⟩ := bareD_odd hodd (by omega) (by omega)
  have HS := Lib.hid (fun w v (h : Num w v A) => Sign_n h hs1)
  obtain ⟨r, hr⟩ : ∃ r, isBrk M E = r := ⟨_, rfl⟩
  obtain ⟨pM, hpM⟩ : ∃ x, (if r then M else 0) = x := ⟨_, rfl⟩
  obtain ⟨pE, hpE⟩ : ∃ x, (if r then E else 0) = x := ⟨_, rfl⟩
  have hpM' := Lib.hid hpM; have hpE' := Lib.hid hpE
  have HP1 : Hid (∀ (w : World) v, Num w v A → Tab w → Calls Tryd.prog 9 #[.agg #[.bool b0, v, .int .i64 e0], .agg #[.int .i64 1, .int .i64 1]] w (fun e w' => ∃ u, e = .returned (.tuple #[.agg #[.bool false, u, .int .i64 pE], .bool r, .int .i64 0]) ∧ RdN w' u (digs BB pM) ∧ Below w.heap.size w w')) := Lib.hid (fun w v h hT => by
    refine (Power_ok (k := 1) (g := 1) (m := 1) h hT h2.1 h2.2 ed hf hM0 (by omega) (by decide) (by decide) (by decide) (by decide) (by decide) (by decide) (by decide)).mono ?_
    rintro e w' ⟨ok, P, F, a, n, kk, rfl, hp, hrd, hb⟩
    obtain ⟨rfl, rfl, rfl⟩ := PowR_first hp
    rw [hr, hpM] at hrd
    rw [hr, hpE]
    exact ⟨_, rfl, hrd, hb⟩)
  have HP0 : Hid (∀ (w : World) v, Num w v A → Tab w → Calls Tryd.prog 9 #[.agg #[.bool b0, v, .int .i64 e0], .agg #[.int .i64 0, .int .i64 5]] w (fun e w' => ∃ u, e = .returned (.tuple #[.agg #[.bool false, u, .int .i64 0], .bool true, .int .i64 0]) ∧ RdN w' u (digs BB 1) ∧ Below w.heap.size w w')) := Lib.hid (fun w v h hT => by
    refine (Power_ok (k := 1) (g := 5) (m := 0) h hT h2.1 h2.2 ed hf hM0 (by omega) (by decide) (by decide) (by decide) (by decide) (by decide) (by decide) (by decide)).mono ?_
    rintro e w' ⟨ok, P, F, a, n, kk, rfl, hp, hrd, hb⟩
    obtain ⟨rfl, rfl, rfl⟩ := PowR_nought hp
    exact ⟨_, rfl, hrd, hb⟩)
  have HBK := Lib.hid (fun w v (h : Num w v A) (hT : Tab w) => Break_n (r := r) h hT h2.1 h2.2 ed (by omega) (by rw [hf, Bool.true_and, decide_eq_false hM0, Bool.false_or]; exact hr))
  have HC1 : Hid (∀ (w : World) v u, RdN w v (digs BB M) → Num w u A → Tab w → Calls Tryd.prog 19 #[.agg #[.bool false, v, .int .i64 E], .agg #[.bool b0, u, .int .i64 e0]] w (fun e w' => e = .returned (.int .i64 0) ∧ Below w.heap.size w w')) := Lib.hid (fun w v u h k hT => Cmp_n (h.num (by omega)) k hT (by omega) (by omega) h2.1 h2.2 qM ed (by omega) (by omega) (cmpD_self hM0))
  have s1 : bitN 1 = 1 := bitN_one
  have HO1 := Lib.hid (fun w (hT : Tab w) => show Calls Tryd.prog 20 #[.int .i64 1] w _ from Of_n (n := 1) (by decide) hT (show bareD ⟨false, 1, 0⟩ = ⟨false, 1, 0⟩ from bareD_odd (by decide) (by decide) (by decide)))
  have HC2 : Hid (∀ (w : World) v u, RdN w v (digs BB 1) → RdN w u (digs BB 1) → Tab w → Calls Tryd.prog 19 #[.agg #[.bool false, v, .int .i64 0], .agg #[.bool false, u, .int .i64 0]] w (fun e w' => e = .returned (.int .i64 0) ∧ Below w.heap.size w w')) := Lib.hid (fun w v u h k hT => Cmp_n (h.num (by omega)) (k.num (by omega)) hT (by decide) (by decide) (by decide) (by decide) (show bareD ⟨false, 1, 0⟩ = ⟨false, 1, 0⟩ from bareD_odd (by decide) (by decide) (by decide)) (show bareD ⟨false, 1, 0⟩ = ⟨false, 1, 0⟩ from bareD_odd (by decide) (by decide) (by decide)) (by omega) (by omega) (by decide))
  have wk1 : IntKind.i64.wrap ki = ki := by rw [IntKind.wrap_i64]; omega
  have we1 : IntKind.i64.wrap ei = ei := by rw [IntKind.wrap_i64]; omega
  obtain ⟨mm, hmm⟩ : ∃ x, ki.tmod 50 = x := ⟨_, rfl⟩
  obtain ⟨nn, hnn⟩ : ∃ x, ei.tmod 50 = x := ⟨_, rfl⟩
  have rm : mm.natAbs ≤ 49 := by rw [← hmm, Int.natAbs_tmod]; exact Nat.le_of_lt_succ (Nat.mod_lt _ (by decide))
  have rn : nn.natAbs ≤ 49 := by rw [← hnn, Int.natAbs_tmod]; exact Nat.le_of_lt_succ (Nat.mod_lt _ (by decide))
  have wm1 : IntKind.i64.wrap mm = mm := by rw [IntKind.wrap_i64]; omega
  have wn1 : IntKind.i64.wrap nn = nn := by rw [IntKind.wrap_i64]; omega
  obtain ⟨pr, hpr⟩ : ∃ x, mm * nn = x := ⟨_, rfl⟩
  have rp : pr.natAbs ≤ 49 * 49 := by rw [← hpr, Int.natAbs_mul]; exact Nat.mul_le_mul rm rn
  have wp1 : IntKind.i64.wrap pr = pr := by rw [IntKind.wrap_i64]; omega
  obtain ⟨i1, hi1⟩ : ∃ i1, decide (-1075 ≤ pr) = i1 := ⟨_, rfl⟩
  obtain ⟨i2, hi2⟩ : ∃ i2, decide (pr ≤ 1024) = i2 := ⟨_, rfl⟩
  obtain ⟨i, hi⟩ : ∃ i, (i1 && i2) = i := ⟨_, rfl⟩
  obtain ⟨qM1, hqM1⟩ : ∃ x, (if i then 1 else 0) = x := ⟨_, rfl⟩
  obtain ⟨qE1, hqE1⟩ : ∃ x, (if i then pr else 0) = x := ⟨_, rfl⟩
  have hqM' := Lib.hid hqM1; have hqE' := Lib.hid hqE1
  have hi' := Lib.hid hi
  have HPT : Hid (∀ (w : World) v, RdN w v [1] → Tab w → Calls Tryd.prog 9 #[.agg #[.bool false, v, .int .i64 nn], .agg #[.int .i64 mm, .int .i64 1]] w (fun e w' => ∃ u, e = .returned (.tuple #[.agg #[.bool false, u, .int .i64 qE1], .bool i, .int .i64 0]) ∧ RdN w' u (digs BB qM1) ∧ Below w.heap.size w w')) := Lib.hid (fun w v h hT => by
    refine (Power_ok (A := 1) (neg := false) (M := 1) (E := nn) (k := 1) (g := 1) (m := mm) (h.num1 (by decide)) hT (by omega) (by omega) (bareD_odd (by decide) (by omega) (by omega)) (by unfold fitsE; rw [Bool.and_eq_true]; exact ⟨decide_eq_true (by omega), decide_eq_true (by omega)⟩) (by decide) (by omega) (by omega) (by omega) (by decide) (by decide) (Nat.gcd_one_right _) (by omega) (by decide)).mono ?_
    rintro e w' ⟨ok, P, F, a, n, kk, rfl, hp, hrd, hb⟩
    obtain ⟨rfl, rfl, rfl⟩ := PowR_two (i := i) (by rw [hpr, hi1, hi2]; exact hi) hp
    rw [hqM1] at hrd
    rw [hpr, hqE1]
    exact ⟨_, rfl, hrd, hb⟩)
  have HCQ : Hid (∀ (w : World) v u, RdN w v (digs BB 1) → RdN w u [1] → Tab w → Calls Tryd.prog 19 #[.agg #[.bool false, v, .int .i64 pr], .agg #[.bool false, u, .int .i64 pr]] w (fun e w' => e = .returned (.int .i64 0) ∧ Below w.heap.size w w')) := Lib.hid (fun w v u h k hT => Cmp_n (h.num (by omega)) (k.num1 (by decide)) hT (by omega) (by omega) (by omega) (by omega) (bareD_odd (neg := false) (M := 1) (E := pr) (by decide) (by omega) (by omega)) (bareD_odd (neg := false) (M := 1) (E := pr) (by decide) (by omega) (by omega)) (by omega) (by omega) (cmpD_self (by decide)))
  clear hpM hpE hs hsA hs1 ed hf hM0 hodd qM hr s1 rm rn rp hi hqM1 hqE1
  go_enter Tryd.func4, Tryd.ntmps4
  go_upto_region 10 with
    (first
      | (go_at_call 7; (with_reducible refine (alive11_any (hT.below (below_alloc _ _))).mono ?_); rintro e w1 ⟨rfl, hb1⟩; have B1 := (below_alloc _ _).trans (hb1.mono (below_alloc _ _).size); have z1 := ((RA.below (below_alloc _ _))).below hb1; have T1 := ((hT.below (below_alloc _ _))).below hb1; have P1 := ((blk_new)).below hb1; obtain ⟨cP0_1, cP1_1, cP2_1, fP0_1, fP1_1, fP2_1, sP_1⟩ := P1.open3)
      | (go_at_call 9; (with_reducible refine (HP1.out _ _ (z1.below (below_alloc _ _)) (T1.below (below_alloc _ _))).mono ?_); rintro e w2 ⟨vu, rfl, u2, hb2⟩; have hb2' := (below_a hb2); have B2 := B1.trans (hb2'.mono B1.size); have z2 := z1.below hb2'; have T2 := T1.below hb2'; have P2 := P1.below hb2'; clear z1 T1 P1; have Q2 := blk_new.below hb2; clear cP0_1 cP1_1 cP2_1 fP0_1 fP1_1 fP2_1 sP_1; obtain ⟨cP0_2, cP1_2, cP2_2, fP0_2, fP1_2, fP2_2, sP_2⟩ := P2.open3; obtain ⟨cQ0_2, cQ1_2, cQ2_2, fQ0_2, fQ1_2, fQ2_2, sQ_2⟩ := Q2.open3; obtain ⟨au2, ku2, rfl, -⟩ := u2.view; try simp only [List.length_nil] at u2)
      | (go_at_call 17; (with_reducible refine (HB.out _ _ (z2.below (below_alloc _ _)) (T2.below (below_alloc _ _))).mono ?_); rintro e w3 ⟨vx3, rfl, x3, hb3⟩; have hb3' := (below_a hb3); have B3 := B2.trans (hb3'.mono B2.size); have z3 := z2.below hb3'; have T3 := T2.below hb3'; have P3 := P2.below hb3'; have Q3 := Q2.below hb3'; have u3 := u2.below hb3'; clear z2 T2 P2 Q2 u2; have X3 := blk_new.below hb3; clear cP0_2 cP1_2 cP2_2 fP0_2 fP1_2 fP2_2 sP_2; obtain ⟨cP0_3, cP1_3, cP2_3, fP0_3, fP1_3, fP2_3, sP_3⟩ := P3.open3; clear cQ0_2 cQ1_2 cQ2_2 fQ0_2 fQ1_2 fQ2_2 sQ_2; obtain ⟨cQ0_3, cQ1_3, cQ2_3, fQ0_3, fQ1_3, fQ2_3, sQ_3⟩ := Q3.open3; obtain ⟨cX0_3, cX1_3, cX2_3, fX0_3, fX1_3, fX2_3, sX_3⟩ := X3.open3; obtain ⟨ax3, kx3, rfl, -⟩ := x3.view; try simp only [List.length_nil] at x3)
      | (go_at_call 18; (with_reducible refine (HS.out _ _ (z3.below (below_alloc _ _))).mono ?_); rintro e w4 ⟨rfl, hb4⟩; have hb4' := (below_a hb4); have B4 := B3.trans (hb4'.mono B3.size); have z4 := z3.below hb4'; have T4 := T3.below hb4'; have P4 := P3.below hb4'; have Q4 := Q3.below hb4'; have u4 := u3.below hb4'; have X4 := X3.below hb4'; have x4 := x3.below hb4'; clear z3 T3 P3 Q3 u3 X3 x3; clear cP0_3 cP1_3 cP2_3 fP0_3 fP1_3 fP2_3 sP_3; obtain ⟨cP0_4, cP1_4, cP2_4, fP0_4, fP1_4, fP2_4, sP_4⟩ := P4.open3; clear cQ0_3 cQ1_3 cQ2_3 fQ0_3 fQ1_3 fQ2_3 sQ_3; obtain ⟨cQ0_4, cQ1_4, cQ2_4, fQ0_4, fQ1_4, fQ2_4, sQ_4⟩ := Q4.open3; clear cX0_3 cX1_3 cX2_3 fX0_3 fX1_3 fX2_3 sX_3; obtain ⟨cX0_4, cX1_4, cX2_4, fX0_4, fX1_4, fX2_4, sX_4⟩ := X4.open3)
      | fail)
  clear cP0_4 cP1_4 cP2_4 fP0_4 fP1_4 fP2_4 sP_4 P4 x4 hb4
  go_cut [13, 14, 15] (fun v t n w' => ∃ a k b, v = .pointer (some ⟨b, 0, none⟩) ∧ t = .bool true ∧ n = .int .i64 0 ∧ Blk w' b #[.bool false, .slice a (digs BB 1).length k, .int .i64 0] ∧ RdN w' (.slice a (digs BB 1).length k) (digs BB 1) ∧ Below w4.heap.size w4 w')
  case first =>
    have Bz := Below.refl w4.heap.size w4
    go_wp2_with
      (first
        | (go_at_call 9; (with_reducible refine (HP0.out _ _ z4 T4).mono ?_); rintro e w5 ⟨vo, rfl, o5, hb5⟩; have B5 := Bz.trans (hb5.mono Bz.size); have z5 := z4.below hb5; have T5 := T4.below hb5; have Q5 := Q4.below hb5; clear z4 T4 Q4; obtain ⟨cQ0_5, cQ1_5, cQ2_5, fQ0_5, fQ1_5, fQ2_5, sQ_5⟩ := Q5.open3; obtain ⟨ao5, ko5, rfl, -⟩ := o5.view; try simp only [List.length_nil] at o5)
        | fail)
    go_meet
    exact ⟨_, _, _, rfl, rfl, rfl, blk_new, o5.below (below_alloc _ _), below_right B5 _⟩
  obtain ⟨ao5, ko5, bo, rfl, rfl, rfl, Y5x, o5x, hb5x⟩ := hcut
  generalize hwx : wc = w5x at *
  clear hwx
  have z5x := z4.below hb5x; have u5x := u4.below hb5x; have T5x := T4.below hb5x; have Q5x := Q4.below hb5x; have X5x := X4.below hb5x
  have B5x := B4.trans (hb5x.mono B4.size)
  clear cQ0_4 cQ1_4 cQ2_4 fQ0_4 fQ1_4 fQ2_4 sQ_4 cX0_4 cX1_4 cX2_4 fX0_4 fX1_4 fX2_4 sX_4 Q4 X4 z4 u4 T4 B4 hb5x HP0 HP1 HB HS
  go_upto_region 11 with fail
  go_cut [87] (fun v w' => v = .bool false ∧ Below w5x.heap.size w5x w')
  case first =>
    clear HPT HCQ hi' hi1 hi2 wp1 hpr wn1 wm1 hmm hnn wk1 we1 B5x
    have Dw : Below w5x.heap.size w5x w5x.drew := below_drewN (Below.refl _ _) 1
    have qy0 := z5x.below Dw; have uy0 := u5x.below Dw; have oy0 := o5x.below Dw; have Ty0 := T5x.below Dw; have Qy0 := Q5x.below Dw; have Xy0 := X5x.below Dw; have Yy0 := Y5x.below Dw
    have By0 := Dw
    cases r
    · obtain rfl : pM = 0 := by rw [← hpM'.out]; rfl
      obtain rfl : pE = 0 := by rw [← hpE'.out]; rfl
      have z0 := Lib.hid (And.intro (cells33x Qy0) (And.intro (cells33x Xy0) (cells33x Yy0)))
      refine wp_region_held_drew (S := (fun w' => (w'.cell? ⟨w1.heap.size, 0, none⟩ = some (.bool b0) ∧ w'.cell? ⟨w1.heap.size, 1, none⟩ = some (.slice a0 len0 cap0) ∧ w'.cell? ⟨w1.heap.size, 2, none⟩ = some (.int .i64 e0)) ∧ (w'.cell? ⟨w2.heap.size, 0, none⟩ = some (.bool false) ∧ w'.cell? ⟨w2.heap.size, 1, none⟩ = some (.slice au2 (digs BB 0).length ku2) ∧ w'.cell? ⟨w2.heap.size, 2, none⟩ = some (.int .i64 0)) ∧ (w'.cell? ⟨bo, 0, none⟩ = some (.bool false) ∧ w'.cell? ⟨bo, 1, none⟩ = some (.slice ao5 (digs BB 1).length ko5) ∧ w'.cell? ⟨bo, 2, none⟩ = some (.int .i64 0)))) (by kernel_rfl) ?_ (fun hHeld => ?_)
      · (try dsimp only); exact z0.out
      refine wpAnyH_take (i := 0) (v := ?_) (getOf rfl) (by kernel_rfl) (by kernel_rfl) (by kernel_rfl) (fun _ _ _ h => h) (Or.inl ⟨by rfl, ?_⟩) hHeld ?_
      rotate_left
      · (intro w hSw; (try dsimp only at hSw); go_simp; (try with_reducible rfl))
      (try simp only [Act.put, List.setIfInBounds_toArray, List.set_cons_zero, List.set_cons_succ])
      refine wpAnyH_take (i := 1) (v := ?_) (getOf rfl) (by kernel_rfl) (by kernel_rfl) (by kernel_rfl) (fun _ _ _ h => h) (Or.inl ⟨by rfl, ?_⟩) hHeld ?_
      rotate_left
      · (intro w hSw; (try dsimp only at hSw); go_simp; (try with_reducible rfl))
      (try simp only [Act.put, List.setIfInBounds_toArray, List.set_cons_zero, List.set_cons_succ])
      refine wpAnyH_take (i := 2) (v := ?_) (getOf rfl) (by kernel_rfl) (by kernel_rfl) (by kernel_rfl) (fun _ _ _ h => h) (Or.inl ⟨by rfl, ?_⟩) hHeld ?_
      rotate_left
      · (intro w hSw; (try dsimp only at hSw); go_simp; (try with_reducible rfl))
      (try simp only [Act.put, List.setIfInBounds_toArray, List.set_cons_zero, List.set_cons_succ])
      refine wpAnyH_take (i := 3) (v := ?_) (getOf rfl) (by kernel_rfl) (by kernel_rfl) (by kernel_rfl) (fun _ _ _ h => h) (Or.inl ⟨by rfl, ?_⟩) hHeld ?_
      rotate_left
      · (intro w hSw; (try dsimp only at hSw); go_simp; (try with_reducible rfl))
      (try simp only [Act.put, List.setIfInBounds_toArray, List.set_cons_zero, List.set_cons_succ])
      refine wpAnyH_take (i := 4) (v := ?_) (getOf rfl) (by kernel_rfl) (by kernel_rfl) (by kernel_rfl) (fun _ _ _ h => h) (Or.inl ⟨by rfl, ?_⟩) hHeld ?_
      rotate_left
      · (intro w hSw; (try dsimp only at hSw); go_simp; (try with_reducible rfl))
      (try simp only [Act.put, List.setIfInBounds_toArray, List.set_cons_zero, List.set_cons_succ])
      refine wpAnyH_take (i := 5) (v := ?_) (getOf rfl) (by kernel_rfl) (by kernel_rfl) (by kernel_rfl) (fun _ _ _ h => h) (Or.inl ⟨by rfl, ?_⟩) hHeld ?_
      rotate_left
      · (intro w hSw; (try dsimp only at hSw); go_simp; (try with_reducible rfl))
      (try simp only [Act.put, List.setIfInBounds_toArray, List.set_cons_zero, List.set_cons_succ])
      refine wpAnyH_take (i := 6) (v := ?_) (getOf rfl) (by kernel_rfl) (by kernel_rfl) (by kernel_rfl) (fun _ _ _ h => h) (Or.inl ⟨by rfl, ?_⟩) hHeld ?_
      rotate_left
      · (intro w hSw; (try dsimp only at hSw); go_simp; (try with_reducible rfl))
      (try simp only [Act.put, List.setIfInBounds_toArray, List.set_cons_zero, List.set_cons_succ])
      refine wpAnyH_take (i := 7) (v := ?_) (getOf rfl) (by kernel_rfl) (by kernel_rfl) (by kernel_rfl) (fun _ _ _ h => h) (Or.inl ⟨by rfl, ?_⟩) hHeld ?_
      rotate_left
      · (intro w hSw; (try dsimp only at hSw); go_simp; (try with_reducible rfl))
      (try simp only [Act.put, List.setIfInBounds_toArray, List.set_cons_zero, List.set_cons_succ])
      refine wpAnyH_take (i := 8) (v := ?_) (getOf rfl) (by kernel_rfl) (by kernel_rfl) (by kernel_rfl) (fun _ _ _ h => h) (Or.inl ⟨by rfl, ?_⟩) hHeld ?_
      rotate_left
      · (intro w hSw; (try dsimp only at hSw); go_simp; (try with_reducible rfl))
      (try simp only [Act.put, List.setIfInBounds_toArray, List.set_cons_zero, List.set_cons_succ])
      refine wpAnyH_ready (rs := [9]) (by kernel_rfl) (by simp) ?_
      refine AllReadyH.cons (getOf rfl) (fun K hK => ?_) AllReadyH.nil
      go_simp
      (go_at_call 12; (with_reducible refine (HBK.out _ _ qy0 Ty0).mono ?_); rintro e y1 ⟨rfl, hz1⟩; have qy1 := qy0.below hz1; have uy1 := uy0.below hz1; have oy1 := oy0.below hz1; have Ty1 := Ty0.below hz1; have Qy1 := Qy0.below hz1; have Xy1 := Xy0.below hz1; have Yy1 := Yy0.below hz1; have By1 := By0.trans (hz1.mono By0.size); have z1 := Lib.hid (And.intro (cells33x Qy1) (And.intro (cells33x Xy1) (cells33x Yy1))))
      (try (go_wp2_with fail))
      refine hK.out _ _ ?_ (fun hHeld2 => ?_)
      · (try dsimp only); exact z1.out
      clear hK K hHeld
      have hHeld := hHeld2
      clear hHeld2
      (try simp only [Act.put, List.setIfInBounds_toArray, List.set_cons_zero, List.set_cons_succ])
      refine wpAnyH_take (i := 10) (v := ?_) (getOf rfl) (by kernel_rfl) (by kernel_rfl) (by kernel_rfl) (fun _ _ _ h => h) (Or.inl ⟨by rfl, ?_⟩) hHeld ?_
      rotate_left
      · (intro w hSw; (try dsimp only at hSw); go_simp; (try with_reducible rfl))
      (try simp only [Act.put, List.setIfInBounds_toArray, List.set_cons_zero, List.set_cons_succ])
      refine wpAnyH_take (i := 11) (v := ?_) (getOf rfl) (by kernel_rfl) (by kernel_rfl) (by kernel_rfl) (fun _ _ _ h => h) (Or.inl ⟨by rfl, ?_⟩) hHeld ?_
      rotate_left
      · (intro w hSw; (try dsimp only at hSw); go_simp; (try with_reducible rfl))
      (try simp only [Act.put, List.setIfInBounds_toArray, List.set_cons_zero, List.set_cons_succ])
      refine wpAnyH_take (i := 12) (v := ?_) (getOf rfl) (by kernel_rfl) (by kernel_rfl) (by kernel_rfl) (fun _ _ _ h => h) (Or.inl ⟨by rfl, ?_⟩) hHeld ?_
      rotate_left
      · (intro w hSw; (try dsimp only at hSw); go_simp; (try with_reducible rfl))
      (try simp only [Act.put, List.setIfInBounds_toArray, List.set_cons_zero, List.set_cons_succ])
      refine wpAnyH_take (i := 13) (v := ?_) (getOf rfl) (by kernel_rfl) (by kernel_rfl) (by kernel_rfl) (fun _ _ _ h => h) (Or.inl ⟨by rfl, ?_⟩) hHeld ?_
      rotate_left
      · (intro w hSw; (try dsimp only at hSw); go_simp; (try with_reducible rfl))
      (try simp only [Act.put, List.setIfInBounds_toArray, List.set_cons_zero, List.set_cons_succ])
      refine wpAnyH_take (i := 14) (v := ?_) (getOf rfl) (by kernel_rfl) (by kernel_rfl) (by kernel_rfl) (fun _ _ _ h => h) (Or.inl ⟨by rfl, ?_⟩) hHeld ?_
      rotate_left
      · (intro w hSw; (try dsimp only at hSw); go_simp; (try with_reducible rfl))
      (try simp only [Act.put, List.setIfInBounds_toArray, List.set_cons_zero, List.set_cons_succ])
      refine wpAnyH_take (i := 15) (v := undef) (getOf rfl) (by kernel_rfl) (by kernel_rfl) (by kernel_rfl) (fun _ _ _ h => h) (Or.inr ⟨by rfl, rfl⟩) hHeld ?_
      (try simp only [Act.put, List.setIfInBounds_toArray, List.set_cons_zero, List.set_cons_succ])
      refine wpAnyH_take (i := 16) (v := undef) (getOf rfl) (by kernel_rfl) (by kernel_rfl) (by kernel_rfl) (fun _ _ _ h => h) (Or.inr ⟨by rfl, rfl⟩) hHeld ?_
      (try simp only [Act.put, List.setIfInBounds_toArray, List.set_cons_zero, List.set_cons_succ])
      refine wpAnyH_take (i := 17) (v := undef) (getOf rfl) (by kernel_rfl) (by kernel_rfl) (by kernel_rfl) (fun _ _ _ h => h) (Or.inr ⟨by rfl, rfl⟩) hHeld ?_
      (try simp only [Act.put, List.setIfInBounds_toArray, List.set_cons_zero, List.set_cons_succ])
      refine wpAnyH_take (i := 18) (v := undef) (getOf rfl) (by kernel_rfl) (by kernel_rfl) (by kernel_rfl) (fun _ _ _ h => h) (Or.inr ⟨by rfl, rfl⟩) hHeld ?_
      (try simp only [Act.put, List.setIfInBounds_toArray, List.set_cons_zero, List.set_cons_succ])
      refine wpAnyH_take (i := 19) (v := ?_) (getOf rfl) (by kernel_rfl) (by kernel_rfl) (by kernel_rfl) (fun _ _ _ h => h) (Or.inl ⟨by rfl, ?_⟩) hHeld ?_
      rotate_left
      · (intro w hSw; (try dsimp only at hSw); go_simp; (try with_reducible rfl))
      (try simp only [Act.put, List.setIfInBounds_toArray, List.set_cons_zero, List.set_cons_succ])
      refine wpAnyH_take (i := 20) (v := ?_) (getOf rfl) (by kernel_rfl) (by kernel_rfl) (by kernel_rfl) (fun _ _ _ h => h) (Or.inl ⟨by rfl, ?_⟩) hHeld ?_
      rotate_left
      · (intro w hSw; (try dsimp only at hSw); go_simp; (try with_reducible rfl))
      (try simp only [Act.put, List.setIfInBounds_toArray, List.set_cons_zero, List.set_cons_succ])
      refine wpAnyH_take (i := 21) (v := ?_) (getOf rfl) (by kernel_rfl) (by kernel_rfl) (by kernel_rfl) (fun _ _ _ h => h) (Or.inl ⟨by rfl, ?_⟩) hHeld ?_
      rotate_left
      · (intro w hSw; (try dsimp only at hSw); go_simp; (try with_reducible rfl))
      (try simp only [Act.put, List.setIfInBounds_toArray, List.set_cons_zero, List.set_cons_succ])
      refine wpAnyH_take (i := 22) (v := ?_) (getOf rfl) (by kernel_rfl) (by kernel_rfl) (by kernel_rfl) (fun _ _ _ h => h) (Or.inl ⟨by rfl, ?_⟩) hHeld ?_
      rotate_left
      · (intro w hSw; (try dsimp only at hSw); go_simp; (try with_reducible rfl))
      (try simp only [Act.put, List.setIfInBounds_toArray, List.set_cons_zero, List.set_cons_succ])
      refine wpAnyH_take (i := 23) (v := ?_) (getOf rfl) (by kernel_rfl) (by kernel_rfl) (by kernel_rfl) (fun _ _ _ h => h) (Or.inl ⟨by rfl, ?_⟩) hHeld ?_
      rotate_left
      · (intro w hSw; (try dsimp only at hSw); go_simp; (try with_reducible rfl))
      (try simp only [Act.put, List.setIfInBounds_toArray, List.set_cons_zero, List.set_cons_succ])
      refine wpAnyH_take (i := 24) (v := ?_) (getOf rfl) (by kernel_rfl) (by kernel_rfl) (by kernel_rfl) (fun _ _ _ h => h) (Or.inl ⟨by rfl, ?_⟩) hHeld ?_
      rotate_left
      · (intro w hSw; (try dsimp only at hSw); go_simp; (try with_reducible rfl))
      (try simp only [Act.put, List.setIfInBounds_toArray, List.set_cons_zero, List.set_cons_succ])
      refine wpAnyH_take (i := 25) (v := ?_) (getOf rfl) (by kernel_rfl) (by kernel_rfl) (by kernel_rfl) (fun _ _ _ h => h) (Or.inl ⟨by rfl, ?_⟩) hHeld ?_
      rotate_left
      · (intro w hSw; (try dsimp only at hSw); go_simp; (try with_reducible rfl))
      (try simp only [Act.put, List.setIfInBounds_toArray, List.set_cons_zero, List.set_cons_succ])
      refine wpAnyH_take (i := 26) (v := ?_) (getOf rfl) (by kernel_rfl) (by kernel_rfl) (by kernel_rfl) (fun _ _ _ h => h) (Or.inl ⟨by rfl, ?_⟩) hHeld ?_
      rotate_left
      · (intro w hSw; (try dsimp only at hSw); go_simp; (try with_reducible rfl))
      (try simp only [Act.put, List.setIfInBounds_toArray, List.set_cons_zero, List.set_cons_succ])
      refine wpAnyH_ready (rs := [27]) (by kernel_rfl) (by simp) ?_
      refine AllReadyH.cons (getOf rfl) (fun K hK => ?_) AllReadyH.nil
      go_simp
      (go_at_call 20; (with_reducible refine (HO1.out _ Ty1).mono ?_); rintro e y2 ⟨vb, rfl, tb0, hz2⟩; obtain ⟨ub, rfl, tb⟩ := tb0; obtain ⟨ab, kb, rfl, -⟩ := tb.view; have qy2 := qy1.below hz2; have uy2 := uy1.below hz2; have oy2 := oy1.below hz2; have Ty2 := Ty1.below hz2; have Qy2 := Qy1.below hz2; have Xy2 := Xy1.below hz2; have Yy2 := Yy1.below hz2; have By2 := By1.trans (hz2.mono By1.size); have z2 := Lib.hid (And.intro (cells33x Qy2) (And.intro (cells33x Xy2) (cells33x Yy2))))
      (try (go_wp2_with fail))
      refine hK.out _ _ ?_ (fun hHeld2 => ?_)
      · (try dsimp only); exact z2.out
      clear hK K hHeld
      have hHeld := hHeld2
      clear hHeld2
      (try simp only [Act.put, List.setIfInBounds_toArray, List.set_cons_zero, List.set_cons_succ])
      refine wpAnyH_ready (rs := [28]) (by kernel_rfl) (by simp) ?_
      refine AllReadyH.cons (getOf rfl) (fun K hK => ?_) AllReadyH.nil
      go_simp
      (go_at_call 19; (with_reducible refine (HC2.out _ _ _ oy2 tb Ty2).mono ?_); rintro e y3 ⟨rfl, hz3⟩; have qy3 := qy2.below hz3; have uy3 := uy2.below hz3; have oy3 := oy2.below hz3; have Ty3 := Ty2.below hz3; have Qy3 := Qy2.below hz3; have Xy3 := Xy2.below hz3; have Yy3 := Yy2.below hz3; have By3 := By2.trans (hz3.mono By2.size); have z3 := Lib.hid (And.intro (cells33x Qy3) (And.intro (cells33x Xy3) (cells33x Yy3))))
      (try (go_wp2_with fail))
      refine hK.out _ _ ?_ (fun hHeld2 => ?_)
      · (try dsimp only); exact z3.out
      clear hK K hHeld
      have hHeld := hHeld2
      clear hHeld2
      (try simp only [Act.put, List.setIfInBounds_toArray, List.set_cons_zero, List.set_cons_succ])
      refine wpAnyH_take (i := 29) (v := ?_) (getOf rfl) (by kernel_rfl) (by kernel_rfl) (by kernel_rfl) (fun _ _ _ h => h) (Or.inl ⟨by rfl, ?_⟩) hHeld ?_
      rotate_left
      · (intro w hSw; (try dsimp only at hSw); go_simp; (try with_reducible rfl))
      (try simp only [Act.put, List.setIfInBounds_toArray, List.set_cons_zero, List.set_cons_succ])
      refine wpAnyH_take (i := 30) (v := ?_) (getOf rfl) (by kernel_rfl) (by kernel_rfl) (by kernel_rfl) (fun _ _ _ h => h) (Or.inl ⟨by rfl, ?_⟩) hHeld ?_
      rotate_left
      · (intro w hSw; (try dsimp only at hSw); go_simp; (try with_reducible rfl))
      (try simp only [Act.put, List.setIfInBounds_toArray, List.set_cons_zero, List.set_cons_succ])
      refine wpAnyH_done (by kernel_rfl) ?_ _
      go_wp2_with fail
      go_meet
      exact ⟨rfl, by assumption⟩
    · obtain rfl : pM = M := by rw [← hpM'.out]; rfl
      obtain rfl : pE = E := by rw [← hpE'.out]; rfl
      have z0 := Lib.hid (And.intro (cells33x Qy0) (And.intro (cells33x Xy0) (cells33x Yy0)))
      go_region_held3 (fun w' => (w'.cell? ⟨w1.heap.size, 0, none⟩ = some (.bool b0) ∧ w'.cell? ⟨w1.heap.size, 1, none⟩ = some (.slice a0 len0 cap0) ∧ w'.cell? ⟨w1.heap.size, 2, none⟩ = some (.int .i64 e0)) ∧ (w'.cell? ⟨w2.heap.size, 0, none⟩ = some (.bool false) ∧ w'.cell? ⟨w2.heap.size, 1, none⟩ = some (.slice au2 (digs BB pM).length ku2) ∧ w'.cell? ⟨w2.heap.size, 2, none⟩ = some (.int .i64 pE)) ∧ (w'.cell? ⟨bo, 0, none⟩ = some (.bool false) ∧ w'.cell? ⟨bo, 1, none⟩ = some (.slice ao5 (digs BB 1).length ko5) ∧ w'.cell? ⟨bo, 2, none⟩ = some (.int .i64 0)))
        (first | exact z0.out | exact z1.out | exact z2.out | exact z3.out | exact z4.out)
        (first
          | (go_at_call 12; (with_reducible refine (HBK.out _ _ qy0 Ty0).mono ?_); rintro e y1 ⟨rfl, hz1⟩; have qy1 := qy0.below hz1; have uy1 := uy0.below hz1; have oy1 := oy0.below hz1; have Ty1 := Ty0.below hz1; have Qy1 := Qy0.below hz1; have Xy1 := Xy0.below hz1; have Yy1 := Yy0.below hz1; have By1 := By0.trans (hz1.mono By0.size); have z1 := Lib.hid (And.intro (cells33x Qy1) (And.intro (cells33x Xy1) (cells33x Yy1))))
          | (go_at_call 19; (with_reducible refine (HC1.out _ _ _ uy1 qy1 Ty1).mono ?_); rintro e y2 ⟨rfl, hz2⟩; have qy2 := qy1.below hz2; have uy2 := uy1.below hz2; have oy2 := oy1.below hz2; have Ty2 := Ty1.below hz2; have Qy2 := Qy1.below hz2; have Xy2 := Xy1.below hz2; have Yy2 := Yy1.below hz2; have By2 := By1.trans (hz2.mono By1.size); have z2 := Lib.hid (And.intro (cells33x Qy2) (And.intro (cells33x Xy2) (cells33x Yy2))))
          | (go_at_call 20; (with_reducible refine (HO1.out _ Ty2).mono ?_); rintro e y3 ⟨vb, rfl, tb0, hz3⟩; obtain ⟨ub, rfl, tb⟩ := tb0; obtain ⟨ab, kb, rfl, -⟩ := tb.view; have qy3 := qy2.below hz3; have uy3 := uy2.below hz3; have oy3 := oy2.below hz3; have Ty3 := Ty2.below hz3; have Qy3 := Qy2.below hz3; have Xy3 := Xy2.below hz3; have Yy3 := Yy2.below hz3; have By3 := By2.trans (hz3.mono By2.size); have z3 := Lib.hid (And.intro (cells33x Qy3) (And.intro (cells33x Xy3) (cells33x Yy3))))
          | (go_at_call 19; (with_reducible refine (HC2.out _ _ _ oy3 tb Ty3).mono ?_); rintro e y4 ⟨rfl, hz4⟩; have qy4 := qy3.below hz4; have uy4 := uy3.below hz4; have oy4 := oy3.below hz4; have Ty4 := Ty3.below hz4; have Qy4 := Qy3.below hz4; have Xy4 := Xy3.below hz4; have Yy4 := Yy3.below hz4; have By4 := By3.trans (hz4.mono By3.size); have z4 := Lib.hid (And.intro (cells33x Qy4) (And.intro (cells33x Xy4) (cells33x Yy4))))
          | fail)
      all_goals
        go_wp2_with fail
        go_meet
        exact ⟨rfl, by assumption⟩
  case rest =>
    obtain ⟨rfl, hb6⟩ := hcut
    generalize hwx : wc = w6 at *
    clear hwx
    have T6 := T5x.below hb6; have B6 := B5x.trans (hb6.mono B5x.size)
    clear z5x u5x o5x T5x Q5x X5x Y5x B5x hb6
    cases i1
    · obtain rfl : i = false := by rw [← hi'.out]; rfl
      obtain rfl : qM1 = 0 := by rw [← hqM'.out]; rfl
      obtain rfl : qE1 = 0 := by rw [← hqE'.out]; rfl
      go_wp2_with
      (first
        | (go_at_call 9; (with_reducible refine (HPT.out _ _ ?_ (T6.below (below_alloc _ _))).mono ?_); (exact rd_one (heap_alloc_new _ _) trivial); rintro e w7 ⟨vq, rfl, q7, hb7⟩; have hb7' := (below_a hb7); have B7 := B6.trans (hb7'.mono B6.size); have T7 := T6.below hb7'; clear T6; obtain ⟨aq7, kq7, rfl, -⟩ := q7.view; try simp only [List.length_nil] at q7)
        | fail)
      all_goals
        go_ret
        exact ⟨rfl, below_right (by assumption) _⟩
    · cases i2
      · obtain rfl : i = false := by rw [← hi'.out]; rfl
        obtain rfl : qM1 = 0 := by rw [← hqM'.out]; rfl
        obtain rfl : qE1 = 0 := by rw [← hqE'.out]; rfl
        go_wp2_with
        (first
          | (go_at_call 9; (with_reducible refine (HPT.out _ _ ?_ (T6.below (below_alloc _ _))).mono ?_); (exact rd_one (heap_alloc_new _ _) trivial); rintro e w7 ⟨vq, rfl, q7, hb7⟩; have hb7' := (below_a hb7); have B7 := B6.trans (hb7'.mono B6.size); have T7 := T6.below hb7'; clear T6; obtain ⟨aq7, kq7, rfl, -⟩ := q7.view; try simp only [List.length_nil] at q7)
          | fail)
        all_goals
          go_ret
          exact ⟨rfl, below_right (by assumption) _⟩
      · obtain rfl : i = true := by rw [← hi'.out]; rfl
        obtain rfl : qM1 = 1 := by rw [← hqM'.out]; rfl
        obtain rfl : qE1 = pr := by rw [← hqE'.out]; rfl
        go_wp2_with
        (first
          | (go_at_call 9; (with_reducible refine (HPT.out _ _ ?_ (T6.below (below_alloc _ _))).mono ?_); (exact rd_one (heap_alloc_new _ _) trivial); rintro e w7 ⟨vq, rfl, q7, hb7⟩; have hb7' := (below_a hb7); have B7 := B6.trans (hb7'.mono B6.size); have T7 := T6.below hb7'; clear T6; obtain ⟨aq7, kq7, rfl, -⟩ := q7.view; try simp only [List.length_nil] at q7)
          | (go_at_call 19; (with_reducible refine (HCQ.out _ _ _ (((q7.below (below_alloc _ _))).below (below_alloc _ _)) ?_ (((T7.below (below_alloc _ _))).below (below_alloc _ _))).mono ?_); (exact rd_one (heap_new2 _ _ _) trivial); rintro e w8 ⟨rfl, hb8⟩; have hb8' := (below_a (below_a hb8)); have B8 := B7.trans (hb8'.mono B7.size); have T8 := T7.below hb8'; have q8 := q7.below hb8'; clear T7 q7)
          | fail)
        all_goals
          go_ret
          exact ⟨rfl, by assumption⟩
end Go.Proofs.YtabdmnjdmnnejaaDoor.PEOnce
