/- LogsNear returns true and leaves what was there: the walk. Conditions: math/bits' table stands in its variable. -/
import Derived.Test.YtngicppjljbafaaDoorLRef1
namespace Go.Proofs.YtngicppjljbafaaDoor.PLNear
set_option maxRecDepth 100000
open Go.RowKit Go.Proofs.YtngicppjljbafaaDoor
set_option linter.unusedVariables false

theorem rsub_n {w : World} {v u : Value} {A B C : Nat} (h : RdD w v (digs DD A)) (k : RdD w u (digs DD B)) (e : B + C = A) (h0 : 0 < A) (sA : bitN A ≤ 400000) : Calls Tryd.prog 14 #[v, u] w (OneD w (digs DD C)) := by
  have := rsub_any h k (Nat.le_trans (digsDlen sA) (by omega)) (show B ≤ A by omega) h0
  rwa [show A - B = C by omega] at this

theorem cells12 {w : World} {b : Nat} {x y z : Value} (h : Blk w b #[x, y, z]) : w.cell? ⟨b, 1, none⟩ = some y ∧ w.cell? ⟨b, 2, none⟩ = some z := ⟨h.open3.2.1, h.open3.2.2.1⟩


set_option maxRecDepth 100000 in
set_option maxHeartbeats 4000000 in
theorem walk (b0 : Bool) (a0 : Option Addr) (len0 cap0 : Nat) (z0 : List Int) (e0 : Int) (w : World) (w0 : IsRow .u64 w a0 len0 cap0 z0) (we : (Lit.int .i64 e0).wf = true) (hT : Tab w) :
    Calls Tryd.prog 3 #[.agg #[.bool b0, .slice a0 len0 cap0, .int .i64 e0]] w fun e w' => e = .returned (.bool true) ∧ Below w.heap.size w w' := by
  obtain ⟨l, hl, dl, RL, hl64⟩ := w0.nums
  have h2 : -9223372036854775808 ≤ e0 ∧ e0 ≤ 9223372036854775807 := by simpa [Lit.wf, IntKind.min, IntKind.max, IntKind.bits, IntKind.signed] using we
  clear w0 we
  by_cases hbig : 70 < len0
  · clear RL dl hl
    have dec0 : decide (70 < (len0 : Int)) = true := decide_eq_true (by omega)
    go_enter Tryd.func3, Tryd.ntmps3
    go_wp2_with
    (first
      | (go_at_call 7; (with_reducible refine (alive13_any (hT.below (below_alloc _ _))).mono ?_); rintro e w1 ⟨rfl, hb1⟩; have B1 := (below_alloc _ _).trans (hb1.mono (below_alloc _ _).size); have T1 := ((hT.below (below_alloc _ _))).below hb1; have P1 := ((blk_new)).below hb1; obtain ⟨cP0_1, cP1_1, cP2_1, fP0_1, fP1_1, fP2_1, sP_1⟩ := P1.open3)
      | fail)
    all_goals
      go_ret
      exact ⟨rfl, by assumption⟩
  have dec0 : decide (70 < (len0 : Int)) = false := decide_eq_false (by omega)
  have bA := val_bits dl (show l.length ≤ 70 by omega)
  have RA := RL.numl dl (by omega)
  clear dl RL hl
  generalize val BB l = A at *
  obtain ⟨⟨n', M, E⟩, ed⟩ : ∃ d, bareD ⟨b0, A, e0⟩ = d := ⟨_, rfl⟩
  have sM : bitN M ≤ 4480 := Nat.le_trans (bareD_bits ed) (by omega)
  have rE : -2147483648 ≤ E ∧ E ≤ 2147483648 + 4480 := by
    by_cases h0 : A = 0
    · rw [bareD_zero h0] at ed
      injection ed with g1 g2 g3
      omega
    · rw [bareD_pos h0] at ed
      injection ed with g1 g2 g3
      have h3 := cutE_range e0
      have h4 := low2_lt (n := A) h0
      dsimp only at g3
      omega
  have HOF := Lib.hid (fun w v (h : Num w v A) => ROf_n h (by omega) h2.1 h2.2 ed)
  obtain ⟨r, hr⟩ : ∃ r, nearOk ⟨b0, A, e0⟩ = r := ⟨_, rfl⟩
  have HRR := Lib.hid (fun w u (h : RdD w u (digs DD M)) => RRight_n (n' := n') (E' := E) (r := r) h (by omega) (by omega) (by omega) (by rw [← hr]; unfold nearOk; rw [ed]))
  cases r
  · have HNR := Lib.hid (fun w v (h : Num w v A) (hT : Tab w) => Near_no h hT (by omega) h2.1 h2.2 hr)
    clear ed hr
    go_enter Tryd.func3, Tryd.ntmps3
    go_wp2_with
    (first
      | (go_at_call 7; (with_reducible refine (alive13_any (hT.below (below_alloc _ _))).mono ?_); rintro e w1 ⟨rfl, hb1⟩; have B1 := (below_alloc _ _).trans (hb1.mono (below_alloc _ _).size); have z1 := ((RA.below (below_alloc _ _))).below hb1; have T1 := ((hT.below (below_alloc _ _))).below hb1; have P1 := ((blk_new)).below hb1; obtain ⟨cP0_1, cP1_1, cP2_1, fP0_1, fP1_1, fP2_1, sP_1⟩ := P1.open3)
      | (go_at_call 8; (with_reducible refine (HOF.out _ _ z1).mono ?_); rintro e w2 ⟨vm2, rfl, m2, hb2⟩; have B2 := B1.trans (hb2.mono B1.size); have z2 := z1.below hb2; have T2 := T1.below hb2; have P2 := P1.below hb2; clear z1 T1 P1; clear cP0_1 cP1_1 cP2_1 fP0_1 fP1_1 fP2_1 sP_1; obtain ⟨cP0_2, cP1_2, cP2_2, fP0_2, fP1_2, fP2_2, sP_2⟩ := P2.open3; obtain ⟨am2, km2, rfl, -⟩ := m2.view; try simp only [List.length_nil] at m2)
      | (go_at_call 9; (with_reducible refine (HNR.out _ _ (z2.below (below_alloc _ _)) (T2.below (below_alloc _ _))).mono ?_); rintro e w3 ⟨rfl, hb3⟩; have hb3' := (below_a hb3); have B3 := B2.trans (hb3'.mono B2.size); have z3 := z2.below hb3'; have T3 := T2.below hb3'; have P3 := P2.below hb3'; have m3 := m2.below hb3'; clear z2 T2 P2 m2; have Q3 := blk_new.below hb3; clear cP0_2 cP1_2 cP2_2 fP0_2 fP1_2 fP2_2 sP_2; obtain ⟨cP0_3, cP1_3, cP2_3, fP0_3, fP1_3, fP2_3, sP_3⟩ := P3.open3; obtain ⟨cQ0_3, cQ1_3, cQ2_3, fQ0_3, fQ1_3, fQ2_3, sQ_3⟩ := Q3.open3)
      | (go_at_call 10; (with_reducible refine (HRR.out _ _ m3).mono ?_); rintro e w4 ⟨rfl, hb4⟩; have B4 := B3.trans (hb4.mono B3.size); have z4 := z3.below hb4; have T4 := T3.below hb4; have P4 := P3.below hb4; have m4 := m3.below hb4; have Q4 := Q3.below hb4; clear z3 T3 P3 m3 Q3; clear cP0_3 cP1_3 cP2_3 fP0_3 fP1_3 fP2_3 sP_3; obtain ⟨cP0_4, cP1_4, cP2_4, fP0_4, fP1_4, fP2_4, sP_4⟩ := P4.open3; clear cQ0_3 cQ1_3 cQ2_3 fQ0_3 fQ1_3 fQ2_3 sQ_3; obtain ⟨cQ0_4, cQ1_4, cQ2_4, fQ0_4, fQ1_4, fQ2_4, sQ_4⟩ := Q4.open3)
      | fail)
    all_goals
      go_ret
      exact ⟨rfl, by assumption⟩
  · obtain ⟨rfl, hf, h0, b4, t1, t2⟩ := nearOk_parts ed hr
    obtain ⟨N, hN⟩ : ∃ N, nearN M = N := ⟨_, rfl⟩
    obtain ⟨P, hP⟩ : ∃ P, nearP M = P := ⟨_, rfl⟩
    obtain ⟨D, hD⟩ : ∃ D, M + P = D := ⟨_, rfl⟩
    obtain ⟨ng, hg⟩ : ∃ ng, decide (M < P) = ng := ⟨_, rfl⟩
    obtain ⟨e, he⟩ : ∃ e, nearE M E = e := ⟨_, rfl⟩
    have HNR := Lib.hid (fun w v (h : Num w v A) (hT : Tab w) => Near_ok (N := N) (D := D) (ng := ng) (e := e) h hT h2.1 h2.2 ed hf h0 b4 t1 t2 hN (by rw [hP]; exact hD) (by rw [hP]; exact hg) he)
    obtain ⟨sN, sD⟩ := near_bits h0 b4
    obtain ⟨n3, nP⟩ := near_third h0
    obtain ⟨p1, p2⟩ := topn_le h0
    obtain ⟨b, hb⟩ : ∃ b, bitN M = b := ⟨_, rfl⟩
    have hb0 : b ≠ 0 := fun e => by rw [e] at hb; exact h0 (eq_zero_of_bitN hb)
    obtain ⟨c, hc⟩ : ∃ c, b - 1 = c := ⟨_, rfl⟩
    obtain ⟨Q, hQ⟩ : ∃ Q, 2 ^ c = Q := ⟨_, rfl⟩
    have EB := Lib.hid hb
    rw [hN, hP, hD] at n3
    rw [hN] at sN
    rw [hP] at sD nP
    rw [hD] at sD
    rw [hb, hc, hQ] at p1 p2
    obtain ⟨t, ht⟩ : ∃ t, topD ⟨false, M, E⟩ = t := ⟨_, rfl⟩
    have hte : t = (c : Int) + E := by rw [← ht]; unfold topD; dsimp only; rw [hb]; omega
    unfold nearP at hP
    unfold nearE at he
    unfold nearN nearP at hN
    rw [hb, hc, hQ] at hP hN he
    rw [ht] at he t1 t2
    have sQ : bitN Q ≤ 4000 := Nat.le_trans (bitN_mono p1) (by omega)
    obtain ⟨M2, hM2⟩ : ∃ x, M + M = x := ⟨_, rfl⟩
    obtain ⟨Q2, hQ2⟩ : ∃ x, Q + Q = x := ⟨_, rfl⟩
    obtain ⟨Q3, hQ3⟩ : ∃ x, Q + Q2 = x := ⟨_, rfl⟩
    obtain ⟨N2, hN2⟩ : ∃ x, N + N = x := ⟨_, rfl⟩
    obtain ⟨N3, hN3⟩ : ∃ x, N + N2 = x := ⟨_, rfl⟩
    have sM2 : bitN M2 ≤ 10000 := by rw [← hM2]; exact Nat.le_trans (bitN_add_le _ _) (by omega)
    have sQ2 : bitN Q2 ≤ 10000 := by rw [← hQ2]; exact Nat.le_trans (bitN_add_le _ _) (by omega)
    have sN2 : bitN N2 ≤ 10000 := by rw [← hN2]; exact Nat.le_trans (bitN_add_le _ _) (by omega)
    have sN3 : bitN N3 ≤ 20000 := by rw [← hN3]; exact Nat.le_trans (bitN_add_le _ _) (by omega)
    have EM2 := Lib.hid hM2
    have EQ2 := Lib.hid hQ2
    have EQ3 := Lib.hid hQ3
    have EN2 := Lib.hid hN2
    have EN3 := Lib.hid hN3
    have HC1 : Hid (∀ w v u, RdD w v (digs DD N3) → RdD w u (digs DD D) → Calls Tryd.prog 13 #[v, u] w (fun e w' => ∃ c, e = .returned (.int .i64 c) ∧ decide (0 < c) = false ∧ Below w.heap.size w w')) := Lib.hid (fun w v u h k => rcmp_gt h k (by omega) (by omega))
    have HSH : Hid (∀ w v, RdD w v (digs DD 1) → Calls Tryd.prog 16 #[v, .int .i64 (c : Int)] w (OneD w (digs DD Q))) := Lib.hid (fun w v h => by
      have := rshl_n (n := c) h (by rw [bitN_one]; omega)
      rwa [Nat.one_mul, hQ] at this)
    have hDp : 0 < D := by omega
    obtain ⟨cc, hcc⟩ : ∃ x, cmpN M2 Q3 = x := ⟨_, rfl⟩
    have EC := Lib.hid hcc
    have w1 : IntKind.i64.wrap ((b : Int) - 1) = (c : Int) := by rw [IntKind.wrap_i64]; omega
    have hi3 : (3 * Q ≤ 2 * M) ↔ (Q3 ≤ M2) := by omega
    have bQ : bitN Q = c + 1 := by
      have := bitN_shift (m := 1) (by decide) c
      rw [Nat.one_mul, hQ, bitN_one] at this
      omega
    have bQ2 : bitN Q2 = c + 2 := by
      have := bitN_shift (m := 1) (by decide) (c + 1)
      rw [Nat.one_mul, Nat.pow_succ, hQ, bitN_one, show Q * 2 = Q2 by omega] at this
      omega
    have rt : E + (c : Int) = t := by omega
    by_cases hhi : Q3 ≤ M2
    · have dc : decide (0 ≤ cc) = true := decide_eq_true (by have := cmpN_ge' hhi; omega)
      rw [if_pos (hi3.2 hhi)] at hP he
      have hlt : M < P := by omega
      have hng : ng = true := by rw [← hg]; exact decide_eq_true hlt
      subst hng
      rw [if_pos (hi3.2 hhi), if_pos (by omega)] at hN
      obtain ⟨U, hU⟩ : ∃ U, D + N = U := ⟨_, rfl⟩
      have EU := Lib.hid hU
      have EV := Lib.hid (show N + M2 = D by omega)
      obtain ⟨Q4, hQ4⟩ : ∃ x, Q2 + Q2 = x := ⟨_, rfl⟩
      have EQ4 := Lib.hid hQ4
      have ECZ := Lib.hid (show cmpN U Q4 = 0 by rw [show U = Q4 by omega]; exact cmpN_eq _)
      have sQ4 : bitN Q4 ≤ 30000 := by rw [← hQ4]; exact Nat.le_trans (bitN_add_le _ _) (by omega)
      obtain ⟨cq, hcq⟩ : ∃ x, cmpN M Q2 = x := ⟨_, rfl⟩
      have ECQ := Lib.hid hcq
      have dcq : decide (cq < 0) = true := decide_eq_true (by rw [← hcq, cmpN_lt (show M < Q2 by omega)]; decide)
      obtain ⟨bq, hbq⟩ : ∃ x, c + 2 = x := ⟨_, rfl⟩
      obtain ⟨f, hfe⟩ : ∃ x, e + 1 = x := ⟨_, rfl⟩
      have v2 : IntKind.i64.wrap (E + (bq : Int)) = f := by rw [IntKind.wrap_i64]; omega
      have v3 : IntKind.i64.wrap (f - 1) = e := by rw [IntKind.wrap_i64]; omega
      have EB2 := Lib.hid (bQ2.trans hbq)
      have sU : bitN U ≤ 20000 := by rw [← hU]; exact Nat.le_trans (bitN_add_le _ _) (by omega)
      clear ed hr hf h0 hN hP hD hg he n3 nP p1 p2 hb hQ ht hte hM2 hQ2 hQ3 hN2 hN3 hcc hi3 bQ bQ2 hhi hlt hU hQ4 hcq rt hc hb0 t1 t2 hbq hfe
      go_enter Tryd.func3, Tryd.ntmps3
      go_upto_region 9 with
      (first
        | (go_at_call 7; (with_reducible refine (alive13_any (hT.below (below_alloc _ _))).mono ?_); rintro e w1 ⟨rfl, hb1⟩; have B1 := (below_alloc _ _).trans (hb1.mono (below_alloc _ _).size); have z1 := ((RA.below (below_alloc _ _))).below hb1; have T1 := ((hT.below (below_alloc _ _))).below hb1; have P1 := ((blk_new)).below hb1; obtain ⟨cP0_1, cP1_1, cP2_1, fP0_1, fP1_1, fP2_1, sP_1⟩ := P1.open3)
        | (go_at_call 8; (with_reducible refine (HOF.out _ _ z1).mono ?_); rintro e w2 ⟨vm2, rfl, m2, hb2⟩; have B2 := B1.trans (hb2.mono B1.size); have z2 := z1.below hb2; have T2 := T1.below hb2; have P2 := P1.below hb2; clear z1 T1 P1; clear cP0_1 cP1_1 cP2_1 fP0_1 fP1_1 fP2_1 sP_1; obtain ⟨cP0_2, cP1_2, cP2_2, fP0_2, fP1_2, fP2_2, sP_2⟩ := P2.open3; obtain ⟨am2, km2, rfl, -⟩ := m2.view; try simp only [List.length_nil] at m2)
        | (go_at_call 9; (with_reducible refine (HNR.out _ _ (z2.below (below_alloc _ _)) (T2.below (below_alloc _ _))).mono ?_); rintro e w3 ⟨vx, vy, rfl, x3, y3, hb3⟩; have hb3' := (below_a hb3); have B3 := B2.trans (hb3'.mono B2.size); have z3 := z2.below hb3'; have T3 := T2.below hb3'; have P3 := P2.below hb3'; have m3 := m2.below hb3'; clear z2 T2 P2 m2; have Q3 := blk_new.below hb3; clear cP0_2 cP1_2 cP2_2 fP0_2 fP1_2 fP2_2 sP_2; obtain ⟨cP0_3, cP1_3, cP2_3, fP0_3, fP1_3, fP2_3, sP_3⟩ := P3.open3; obtain ⟨cQ0_3, cQ1_3, cQ2_3, fQ0_3, fQ1_3, fQ2_3, sQ_3⟩ := Q3.open3)
        | (go_at_call 10; (with_reducible refine (HRR.out _ _ m3).mono ?_); rintro e w4 ⟨rfl, hb4⟩; have B4 := B3.trans (hb4.mono B3.size); have z4 := z3.below hb4; have T4 := T3.below hb4; have P4 := P3.below hb4; have m4 := m3.below hb4; have Q4 := Q3.below hb4; have x4 := x3.below hb4; have y4 := y3.below hb4; clear z3 T3 P3 m3 Q3 x3 y3; clear cP0_3 cP1_3 cP2_3 fP0_3 fP1_3 fP2_3 sP_3; obtain ⟨cP0_4, cP1_4, cP2_4, fP0_4, fP1_4, fP2_4, sP_4⟩ := P4.open3; clear cQ0_3 cQ1_3 cQ2_3 fQ0_3 fQ1_3 fQ2_3 sQ_3; obtain ⟨cQ0_4, cQ1_4, cQ2_4, fQ0_4, fQ1_4, fQ2_4, sQ_4⟩ := Q4.open3)
        | fail)
      go_upto_region 20 with
      (first
        | (go_at_call 11; (with_reducible refine (to_n (x4.num (by omega))).mono ?_); rintro e w21 ⟨va21, rfl, a21, hb21⟩; have B21 := B4.trans (hb21.mono B4.size); have x21 := x4.below hb21; have y21 := y4.below hb21; have m21 := m4.below hb21; have P21 := P4.below hb21; have R21 := Q4.below hb21; have T21 := T4.below hb21; clear x4 y4 m4 P4 Q4 T4; obtain ⟨cP0_21, cP1_21, cP2_21, fP0_21, fP1_21, fP2_21, sP_21⟩ := P21.open3; obtain ⟨cR0_21, cR1_21, cR2_21, fR0_21, fR1_21, fR2_21, sR_21⟩ := R21.open3)
        | (go_at_call 11; (with_reducible refine (to_n (y21.num (by omega))).mono ?_); rintro e w22 ⟨vb22, rfl, b22, hb22⟩; have B22 := B21.trans (hb22.mono B21.size); have x22 := x21.below hb22; have y22 := y21.below hb22; have m22 := m21.below hb22; have P22 := P21.below hb22; have R22 := R21.below hb22; have T22 := T21.below hb22; have a22 := a21.below hb22; clear x21 y21 m21 P21 R21 T21 a21; clear cP0_21 cP1_21 cP2_21 fP0_21 fP1_21 fP2_21 sP_21; obtain ⟨cP0_22, cP1_22, cP2_22, fP0_22, fP1_22, fP2_22, sP_22⟩ := P22.open3; clear cR0_21 cR1_21 cR2_21 fR0_21 fR1_21 fR2_21 sR_21; obtain ⟨cR0_22, cR1_22, cR2_22, fR0_22, fR1_22, fR2_22, sR_22⟩ := R22.open3)
        | (go_at_call 12; (with_reducible refine (radd_n a22 a22 EN2.out (by omega) (by omega)).mono ?_); rintro e w23 ⟨vc23, rfl, c23, hb23⟩; have B23 := B22.trans (hb23.mono B22.size); have x23 := x22.below hb23; have y23 := y22.below hb23; have m23 := m22.below hb23; have P23 := P22.below hb23; have R23 := R22.below hb23; have T23 := T22.below hb23; have a23 := a22.below hb23; have b23 := b22.below hb23; clear x22 y22 m22 P22 R22 T22 a22 b22; clear cP0_22 cP1_22 cP2_22 fP0_22 fP1_22 fP2_22 sP_22; obtain ⟨cP0_23, cP1_23, cP2_23, fP0_23, fP1_23, fP2_23, sP_23⟩ := P23.open3; clear cR0_22 cR1_22 cR2_22 fR0_22 fR1_22 fR2_22 sR_22; obtain ⟨cR0_23, cR1_23, cR2_23, fR0_23, fR1_23, fR2_23, sR_23⟩ := R23.open3)
        | (go_at_call 12; (with_reducible refine (radd_n a23 c23 EN3.out (by omega) (by omega)).mono ?_); rintro e w24 ⟨vd24, rfl, d24, hb24⟩; have B24 := B23.trans (hb24.mono B23.size); have x24 := x23.below hb24; have y24 := y23.below hb24; have m24 := m23.below hb24; have P24 := P23.below hb24; have R24 := R23.below hb24; have T24 := T23.below hb24; have a24 := a23.below hb24; have b24 := b23.below hb24; have c24 := c23.below hb24; clear x23 y23 m23 P23 R23 T23 a23 b23 c23; clear cP0_23 cP1_23 cP2_23 fP0_23 fP1_23 fP2_23 sP_23; obtain ⟨cP0_24, cP1_24, cP2_24, fP0_24, fP1_24, fP2_24, sP_24⟩ := P24.open3; clear cR0_23 cR1_23 cR2_23 fR0_23 fR1_23 fR2_23 sR_23; obtain ⟨cR0_24, cR1_24, cR2_24, fR0_24, fR1_24, fR2_24, sR_24⟩ := R24.open3)
        | (go_at_call 13; (with_reducible refine (HC1.out _ _ _ d24 b24).mono ?_); rintro e w25 ⟨c1, rfl, dc1, hb25⟩; have B25 := B24.trans (hb25.mono B24.size); have x25 := x24.below hb25; have y25 := y24.below hb25; have m25 := m24.below hb25; have P25 := P24.below hb25; have R25 := R24.below hb25; have T25 := T24.below hb25; have a25 := a24.below hb25; have b25 := b24.below hb25; have c25 := c24.below hb25; have d25 := d24.below hb25; clear x24 y24 m24 P24 R24 T24 a24 b24 c24 d24; clear cP0_24 cP1_24 cP2_24 fP0_24 fP1_24 fP2_24 sP_24; obtain ⟨cP0_25, cP1_25, cP2_25, fP0_25, fP1_25, fP2_25, sP_25⟩ := P25.open3; clear cR0_24 cR1_24 cR2_24 fR0_24 fR1_24 fR2_24 sR_24; obtain ⟨cR0_25, cR1_25, cR2_25, fR0_25, fR1_25, fR2_25, sR_25⟩ := R25.open3)
        | (go_at_call 12; (with_reducible refine (radd_n b25 a25 EU.out (by omega) (by omega)).mono ?_); rintro e w26 ⟨vg26, rfl, g26, hb26⟩; have B26 := B25.trans (hb26.mono B25.size); have x26 := x25.below hb26; have y26 := y25.below hb26; have m26 := m25.below hb26; have P26 := P25.below hb26; have R26 := R25.below hb26; have T26 := T25.below hb26; have a26 := a25.below hb26; have b26 := b25.below hb26; have c26 := c25.below hb26; have d26 := d25.below hb26; clear x25 y25 m25 P25 R25 T25 a25 b25 c25 d25; clear cP0_25 cP1_25 cP2_25 fP0_25 fP1_25 fP2_25 sP_25; obtain ⟨cP0_26, cP1_26, cP2_26, fP0_26, fP1_26, fP2_26, sP_26⟩ := P26.open3; clear cR0_25 cR1_25 cR2_25 fR0_25 fR1_25 fR2_25 sR_25; obtain ⟨cR0_26, cR1_26, cR2_26, fR0_26, fR1_26, fR2_26, sR_26⟩ := R26.open3)
        | (go_at_call 14; (with_reducible refine (rsub_n b26 a26 EV.out hDp (by omega)).mono ?_); rintro e w27 ⟨vi27, rfl, i27, hb27⟩; have B27 := B26.trans (hb27.mono B26.size); have x27 := x26.below hb27; have y27 := y26.below hb27; have m27 := m26.below hb27; have P27 := P26.below hb27; have R27 := R26.below hb27; have T27 := T26.below hb27; have a27 := a26.below hb27; have b27 := b26.below hb27; have c27 := c26.below hb27; have d27 := d26.below hb27; have g27 := g26.below hb27; clear x26 y26 m26 P26 R26 T26 a26 b26 c26 d26 g26; clear cP0_26 cP1_26 cP2_26 fP0_26 fP1_26 fP2_26 sP_26; obtain ⟨cP0_27, cP1_27, cP2_27, fP0_27, fP1_27, fP2_27, sP_27⟩ := P27.open3; clear cR0_26 cR1_26 cR2_26 fR0_26 fR1_26 fR2_26 sR_26; obtain ⟨cR0_27, cR1_27, cR2_27, fR0_27, fR1_27, fR2_27, sR_27⟩ := R27.open3)
        | (go_at_call 15; (with_reducible refine (rbits_n m27 EB.out (by omega)).mono ?_); rintro e w28 ⟨rfl, rfl⟩)
        | (go_at_call 17; (with_reducible refine (rnum_k1).mono ?_); rintro e w29 ⟨vj29, rfl, j29, hb29⟩; have B29 := B27.trans (hb29.mono B27.size); have x29 := x27.below hb29; have y29 := y27.below hb29; have m29 := m27.below hb29; have P29 := P27.below hb29; have R29 := R27.below hb29; have T29 := T27.below hb29; have a29 := a27.below hb29; have b29 := b27.below hb29; have c29 := c27.below hb29; have d29 := d27.below hb29; have g29 := g27.below hb29; have i29 := i27.below hb29; clear x27 y27 m27 P27 R27 T27 a27 b27 c27 d27 g27 i27; obtain ⟨cP0_29, cP1_29, cP2_29, fP0_29, fP1_29, fP2_29, sP_29⟩ := P29.open3; obtain ⟨cR0_29, cR1_29, cR2_29, fR0_29, fR1_29, fR2_29, sR_29⟩ := R29.open3)
        | (go_at_call 16; (with_reducible refine (HSH.out _ _ j29).mono ?_); rintro e w30 ⟨vk30, rfl, k30, hb30⟩; have B30 := B29.trans (hb30.mono B29.size); have x30 := x29.below hb30; have y30 := y29.below hb30; have m30 := m29.below hb30; have P30 := P29.below hb30; have R30 := R29.below hb30; have T30 := T29.below hb30; have a30 := a29.below hb30; have b30 := b29.below hb30; have c30 := c29.below hb30; have d30 := d29.below hb30; have g30 := g29.below hb30; have i30 := i29.below hb30; have j30 := j29.below hb30; clear x29 y29 m29 P29 R29 T29 a29 b29 c29 d29 g29 i29 j29; clear cP0_29 cP1_29 cP2_29 fP0_29 fP1_29 fP2_29 sP_29; obtain ⟨cP0_30, cP1_30, cP2_30, fP0_30, fP1_30, fP2_30, sP_30⟩ := P30.open3; clear cR0_29 cR1_29 cR2_29 fR0_29 fR1_29 fR2_29 sR_29; obtain ⟨cR0_30, cR1_30, cR2_30, fR0_30, fR1_30, fR2_30, sR_30⟩ := R30.open3)
        | (go_at_call 12; (with_reducible refine (radd_n m30 m30 EM2.out (by omega) (by omega)).mono ?_); rintro e w31 ⟨vl31, rfl, l31, hb31⟩; have B31 := B30.trans (hb31.mono B30.size); have x31 := x30.below hb31; have y31 := y30.below hb31; have m31 := m30.below hb31; have P31 := P30.below hb31; have R31 := R30.below hb31; have T31 := T30.below hb31; have a31 := a30.below hb31; have b31 := b30.below hb31; have c31 := c30.below hb31; have d31 := d30.below hb31; have g31 := g30.below hb31; have i31 := i30.below hb31; have j31 := j30.below hb31; have k31 := k30.below hb31; clear x30 y30 m30 P30 R30 T30 a30 b30 c30 d30 g30 i30 j30 k30; clear cP0_30 cP1_30 cP2_30 fP0_30 fP1_30 fP2_30 sP_30; obtain ⟨cP0_31, cP1_31, cP2_31, fP0_31, fP1_31, fP2_31, sP_31⟩ := P31.open3; clear cR0_30 cR1_30 cR2_30 fR0_30 fR1_30 fR2_30 sR_30; obtain ⟨cR0_31, cR1_31, cR2_31, fR0_31, fR1_31, fR2_31, sR_31⟩ := R31.open3)
        | (go_at_call 12; (with_reducible refine (radd_n k31 k31 EQ2.out (by omega) (by omega)).mono ?_); rintro e w32 ⟨vn32, rfl, n32, hb32⟩; have B32 := B31.trans (hb32.mono B31.size); have x32 := x31.below hb32; have y32 := y31.below hb32; have m32 := m31.below hb32; have P32 := P31.below hb32; have R32 := R31.below hb32; have T32 := T31.below hb32; have a32 := a31.below hb32; have b32 := b31.below hb32; have c32 := c31.below hb32; have d32 := d31.below hb32; have g32 := g31.below hb32; have i32 := i31.below hb32; have j32 := j31.below hb32; have k32 := k31.below hb32; have l32 := l31.below hb32; clear x31 y31 m31 P31 R31 T31 a31 b31 c31 d31 g31 i31 j31 k31 l31; clear cP0_31 cP1_31 cP2_31 fP0_31 fP1_31 fP2_31 sP_31; obtain ⟨cP0_32, cP1_32, cP2_32, fP0_32, fP1_32, fP2_32, sP_32⟩ := P32.open3; clear cR0_31 cR1_31 cR2_31 fR0_31 fR1_31 fR2_31 sR_31; obtain ⟨cR0_32, cR1_32, cR2_32, fR0_32, fR1_32, fR2_32, sR_32⟩ := R32.open3)
        | (go_at_call 12; (with_reducible refine (radd_n k32 n32 EQ3.out (by omega) (by omega)).mono ?_); rintro e w33 ⟨vo33, rfl, o33, hb33⟩; have B33 := B32.trans (hb33.mono B32.size); have x33 := x32.below hb33; have y33 := y32.below hb33; have m33 := m32.below hb33; have P33 := P32.below hb33; have R33 := R32.below hb33; have T33 := T32.below hb33; have a33 := a32.below hb33; have b33 := b32.below hb33; have c33 := c32.below hb33; have d33 := d32.below hb33; have g33 := g32.below hb33; have i33 := i32.below hb33; have j33 := j32.below hb33; have k33 := k32.below hb33; have l33 := l32.below hb33; have n33 := n32.below hb33; clear x32 y32 m32 P32 R32 T32 a32 b32 c32 d32 g32 i32 j32 k32 l32 n32; clear cP0_32 cP1_32 cP2_32 fP0_32 fP1_32 fP2_32 sP_32; obtain ⟨cP0_33, cP1_33, cP2_33, fP0_33, fP1_33, fP2_33, sP_33⟩ := P33.open3; clear cR0_32 cR1_32 cR2_32 fR0_32 fR1_32 fR2_32 sR_32; obtain ⟨cR0_33, cR1_33, cR2_33, fR0_33, fR1_33, fR2_33, sR_33⟩ := R33.open3)
        | (go_at_call 13; (with_reducible refine (rcmp_n l33 o33 EC.out (by omega)).mono ?_); rintro e w34 ⟨rfl, hb34⟩; have B34 := B33.trans (hb34.mono B33.size); have x34 := x33.below hb34; have y34 := y33.below hb34; have m34 := m33.below hb34; have P34 := P33.below hb34; have R34 := R33.below hb34; have T34 := T33.below hb34; have a34 := a33.below hb34; have b34 := b33.below hb34; have c34 := c33.below hb34; have d34 := d33.below hb34; have g34 := g33.below hb34; have i34 := i33.below hb34; have j34 := j33.below hb34; have k34 := k33.below hb34; have l34 := l33.below hb34; have n34 := n33.below hb34; have o34 := o33.below hb34; clear x33 y33 m33 P33 R33 T33 a33 b33 c33 d33 g33 i33 j33 k33 l33 n33 o33; clear cP0_33 cP1_33 cP2_33 fP0_33 fP1_33 fP2_33 sP_33; obtain ⟨cP0_34, cP1_34, cP2_34, fP0_34, fP1_34, fP2_34, sP_34⟩ := P34.open3; clear cR0_33 cR1_33 cR2_33 fR0_33 fR1_33 fR2_33 sR_33; obtain ⟨cR0_34, cR1_34, cR2_34, fR0_34, fR1_34, fR2_34, sR_34⟩ := R34.open3)
        | (go_at_call 12; (with_reducible refine (radd_n k34 k34 EQ2.out (by omega) (by omega)).mono ?_); rintro e w35 ⟨vp35, rfl, p35, hb35⟩; have B35 := B34.trans (hb35.mono B34.size); have x35 := x34.below hb35; have y35 := y34.below hb35; have m35 := m34.below hb35; have P35 := P34.below hb35; have R35 := R34.below hb35; have T35 := T34.below hb35; have a35 := a34.below hb35; have b35 := b34.below hb35; have c35 := c34.below hb35; have d35 := d34.below hb35; have g35 := g34.below hb35; have i35 := i34.below hb35; have j35 := j34.below hb35; have k35 := k34.below hb35; have l35 := l34.below hb35; have n35 := n34.below hb35; have o35 := o34.below hb35; clear x34 y34 m34 P34 R34 T34 a34 b34 c34 d34 g34 i34 j34 k34 l34 n34 o34; clear cP0_34 cP1_34 cP2_34 fP0_34 fP1_34 fP2_34 sP_34; obtain ⟨cP0_35, cP1_35, cP2_35, fP0_35, fP1_35, fP2_35, sP_35⟩ := P35.open3; clear cR0_34 cR1_34 cR2_34 fR0_34 fR1_34 fR2_34 sR_34; obtain ⟨cR0_35, cR1_35, cR2_35, fR0_35, fR1_35, fR2_35, sR_35⟩ := R35.open3)
        | fail)
      generalize hbp : w2.heap.size = bp at *
      have Dw : Below w35.heap.size w35 w35.drew := below_drewN (Below.refl _ _) 1
      have md := m35.below Dw; have ud := i35.below Dw; have vd := g35.below Dw; have od := p35.below Dw; have Pd := R35.below Dw; have Bd := B35.trans (Dw.mono B35.size)
      have k0 := Lib.hid (cells12 Pd)
      go_region_held3 (fun w' => w'.cell? ⟨bp, 1, none⟩ = some (.slice am2 (digs DD M).length km2) ∧ w'.cell? ⟨bp, 2, none⟩ = some (.int .i64 E))
        (first | exact k0.out | exact k1.out | exact k2.out | exact k3.out | exact k4.out | exact k5.out | exact k6.out)
        (first
          | (go_at_call 12; (with_reducible refine (radd_n md md EM2.out (by omega) (by omega)).mono ?_); rintro e z1 ⟨va, rfl, ta, hz1⟩; have md1 := md.below hz1; have ud1 := ud.below hz1; have vd1 := vd.below hz1; have od1 := od.below hz1; have Pd1 := Pd.below hz1; have Bd1 := Bd.trans (hz1.mono Bd.size); have k1 := Lib.hid (cells12 Pd1))
          | (go_at_call 13; (with_reducible refine (rcmp_n ud1 ta (cmpN_eq _) (by omega)).mono ?_); rintro e z2 ⟨rfl, hz2⟩; have md2 := md1.below hz2; have vd2 := vd1.below hz2; have od2 := od1.below hz2; have Pd2 := Pd1.below hz2; have Bd2 := Bd1.trans (hz2.mono Bd1.size); have k2 := Lib.hid (cells12 Pd2))
          | (go_at_call 12; (with_reducible refine (radd_n od2 od2 EQ4.out (by omega) (by omega)).mono ?_); rintro e z3 ⟨vb, rfl, tb, hz3⟩; have md3 := md2.below hz3; have vd3 := vd2.below hz3; have od3 := od2.below hz3; have Pd3 := Pd2.below hz3; have Bd3 := Bd2.trans (hz3.mono Bd2.size); have k3 := Lib.hid (cells12 Pd3))
          | (go_at_call 13; (with_reducible refine (rcmp_n vd3 tb ECZ.out (by omega)).mono ?_); rintro e z4 ⟨rfl, hz4⟩; have md4 := md3.below hz4; have od4 := od3.below hz4; have Pd4 := Pd3.below hz4; have Bd4 := Bd3.trans (hz4.mono Bd3.size); have k4 := Lib.hid (cells12 Pd4))
          | (go_at_call 15; (with_reducible refine (rbits_n od4 EB2.out (by omega)).mono ?_); rintro e z5 ⟨rfl, rfl⟩)
          | (go_at_call 13; (with_reducible refine (rcmp_n md4 od4 ECQ.out (by omega)).mono ?_); rintro e z6 ⟨rfl, hz6⟩; have Pd6 := Pd4.below hz6; have Bd6 := Bd4.trans (hz6.mono Bd4.size); have k6 := Lib.hid (cells12 Pd6))
          | fail)
      go_wp2_with fail
      go_ret
      exact ⟨rfl, by assumption⟩
    · have dc : decide (0 ≤ cc) = false := decide_eq_false (by have := cmpN_lt (show M2 < Q3 by omega); omega)
      rw [if_neg (fun hh => hhi (hi3.1 hh))] at hP he
      have hlt : ¬ M < P := by omega
      have hng : ng = false := by rw [← hg]; exact decide_eq_false hlt
      subst hng
      rw [if_neg (fun hh => hhi (hi3.1 hh)), if_neg (by omega)] at hN
      have EU := Lib.hid (show D + N = M2 by omega)
      have EV := Lib.hid (show N + Q2 = D by omega)
      have ECZ := Lib.hid (cmpN_eq Q2)
      obtain ⟨cq, hcq⟩ : ∃ x, cmpN M Q = x := ⟨_, rfl⟩
      have ECQ := Lib.hid hcq
      have dcq : decide (cq < 0) = false := decide_eq_false (by have := cmpN_ge' (show Q ≤ M by omega); omega)
      obtain ⟨bq, hbq⟩ : ∃ x, c + 1 = x := ⟨_, rfl⟩
      obtain ⟨f, hfe⟩ : ∃ x, e + 1 = x := ⟨_, rfl⟩
      have v2 : IntKind.i64.wrap (E + (bq : Int)) = f := by rw [IntKind.wrap_i64]; omega
      have v3 : IntKind.i64.wrap (f - 1) = e := by rw [IntKind.wrap_i64]; omega
      have EB2 := Lib.hid (bQ.trans hbq)
      clear ed hr hf h0 hN hP hD hg he n3 nP p1 p2 hb hQ ht hte hM2 hQ2 hQ3 hN2 hN3 hcc hi3 bQ bQ2 hhi hlt hcq rt hc hb0 t1 t2 hbq hfe
      go_enter Tryd.func3, Tryd.ntmps3
      go_upto_region 9 with
      (first
        | (go_at_call 7; (with_reducible refine (alive13_any (hT.below (below_alloc _ _))).mono ?_); rintro e w1 ⟨rfl, hb1⟩; have B1 := (below_alloc _ _).trans (hb1.mono (below_alloc _ _).size); have z1 := ((RA.below (below_alloc _ _))).below hb1; have T1 := ((hT.below (below_alloc _ _))).below hb1; have P1 := ((blk_new)).below hb1; obtain ⟨cP0_1, cP1_1, cP2_1, fP0_1, fP1_1, fP2_1, sP_1⟩ := P1.open3)
        | (go_at_call 8; (with_reducible refine (HOF.out _ _ z1).mono ?_); rintro e w2 ⟨vm2, rfl, m2, hb2⟩; have B2 := B1.trans (hb2.mono B1.size); have z2 := z1.below hb2; have T2 := T1.below hb2; have P2 := P1.below hb2; clear z1 T1 P1; clear cP0_1 cP1_1 cP2_1 fP0_1 fP1_1 fP2_1 sP_1; obtain ⟨cP0_2, cP1_2, cP2_2, fP0_2, fP1_2, fP2_2, sP_2⟩ := P2.open3; obtain ⟨am2, km2, rfl, -⟩ := m2.view; try simp only [List.length_nil] at m2)
        | (go_at_call 9; (with_reducible refine (HNR.out _ _ (z2.below (below_alloc _ _)) (T2.below (below_alloc _ _))).mono ?_); rintro e w3 ⟨vx, vy, rfl, x3, y3, hb3⟩; have hb3' := (below_a hb3); have B3 := B2.trans (hb3'.mono B2.size); have z3 := z2.below hb3'; have T3 := T2.below hb3'; have P3 := P2.below hb3'; have m3 := m2.below hb3'; clear z2 T2 P2 m2; have Q3 := blk_new.below hb3; clear cP0_2 cP1_2 cP2_2 fP0_2 fP1_2 fP2_2 sP_2; obtain ⟨cP0_3, cP1_3, cP2_3, fP0_3, fP1_3, fP2_3, sP_3⟩ := P3.open3; obtain ⟨cQ0_3, cQ1_3, cQ2_3, fQ0_3, fQ1_3, fQ2_3, sQ_3⟩ := Q3.open3)
        | (go_at_call 10; (with_reducible refine (HRR.out _ _ m3).mono ?_); rintro e w4 ⟨rfl, hb4⟩; have B4 := B3.trans (hb4.mono B3.size); have z4 := z3.below hb4; have T4 := T3.below hb4; have P4 := P3.below hb4; have m4 := m3.below hb4; have Q4 := Q3.below hb4; have x4 := x3.below hb4; have y4 := y3.below hb4; clear z3 T3 P3 m3 Q3 x3 y3; clear cP0_3 cP1_3 cP2_3 fP0_3 fP1_3 fP2_3 sP_3; obtain ⟨cP0_4, cP1_4, cP2_4, fP0_4, fP1_4, fP2_4, sP_4⟩ := P4.open3; clear cQ0_3 cQ1_3 cQ2_3 fQ0_3 fQ1_3 fQ2_3 sQ_3; obtain ⟨cQ0_4, cQ1_4, cQ2_4, fQ0_4, fQ1_4, fQ2_4, sQ_4⟩ := Q4.open3)
        | fail)
      go_upto_region 20 with
      (first
        | (go_at_call 11; (with_reducible refine (to_n (x4.num (by omega))).mono ?_); rintro e w21 ⟨va21, rfl, a21, hb21⟩; have B21 := B4.trans (hb21.mono B4.size); have x21 := x4.below hb21; have y21 := y4.below hb21; have m21 := m4.below hb21; have P21 := P4.below hb21; have R21 := Q4.below hb21; have T21 := T4.below hb21; clear x4 y4 m4 P4 Q4 T4; obtain ⟨cP0_21, cP1_21, cP2_21, fP0_21, fP1_21, fP2_21, sP_21⟩ := P21.open3; obtain ⟨cR0_21, cR1_21, cR2_21, fR0_21, fR1_21, fR2_21, sR_21⟩ := R21.open3)
        | (go_at_call 11; (with_reducible refine (to_n (y21.num (by omega))).mono ?_); rintro e w22 ⟨vb22, rfl, b22, hb22⟩; have B22 := B21.trans (hb22.mono B21.size); have x22 := x21.below hb22; have y22 := y21.below hb22; have m22 := m21.below hb22; have P22 := P21.below hb22; have R22 := R21.below hb22; have T22 := T21.below hb22; have a22 := a21.below hb22; clear x21 y21 m21 P21 R21 T21 a21; clear cP0_21 cP1_21 cP2_21 fP0_21 fP1_21 fP2_21 sP_21; obtain ⟨cP0_22, cP1_22, cP2_22, fP0_22, fP1_22, fP2_22, sP_22⟩ := P22.open3; clear cR0_21 cR1_21 cR2_21 fR0_21 fR1_21 fR2_21 sR_21; obtain ⟨cR0_22, cR1_22, cR2_22, fR0_22, fR1_22, fR2_22, sR_22⟩ := R22.open3)
        | (go_at_call 12; (with_reducible refine (radd_n a22 a22 EN2.out (by omega) (by omega)).mono ?_); rintro e w23 ⟨vc23, rfl, c23, hb23⟩; have B23 := B22.trans (hb23.mono B22.size); have x23 := x22.below hb23; have y23 := y22.below hb23; have m23 := m22.below hb23; have P23 := P22.below hb23; have R23 := R22.below hb23; have T23 := T22.below hb23; have a23 := a22.below hb23; have b23 := b22.below hb23; clear x22 y22 m22 P22 R22 T22 a22 b22; clear cP0_22 cP1_22 cP2_22 fP0_22 fP1_22 fP2_22 sP_22; obtain ⟨cP0_23, cP1_23, cP2_23, fP0_23, fP1_23, fP2_23, sP_23⟩ := P23.open3; clear cR0_22 cR1_22 cR2_22 fR0_22 fR1_22 fR2_22 sR_22; obtain ⟨cR0_23, cR1_23, cR2_23, fR0_23, fR1_23, fR2_23, sR_23⟩ := R23.open3)
        | (go_at_call 12; (with_reducible refine (radd_n a23 c23 EN3.out (by omega) (by omega)).mono ?_); rintro e w24 ⟨vd24, rfl, d24, hb24⟩; have B24 := B23.trans (hb24.mono B23.size); have x24 := x23.below hb24; have y24 := y23.below hb24; have m24 := m23.below hb24; have P24 := P23.below hb24; have R24 := R23.below hb24; have T24 := T23.below hb24; have a24 := a23.below hb24; have b24 := b23.below hb24; have c24 := c23.below hb24; clear x23 y23 m23 P23 R23 T23 a23 b23 c23; clear cP0_23 cP1_23 cP2_23 fP0_23 fP1_23 fP2_23 sP_23; obtain ⟨cP0_24, cP1_24, cP2_24, fP0_24, fP1_24, fP2_24, sP_24⟩ := P24.open3; clear cR0_23 cR1_23 cR2_23 fR0_23 fR1_23 fR2_23 sR_23; obtain ⟨cR0_24, cR1_24, cR2_24, fR0_24, fR1_24, fR2_24, sR_24⟩ := R24.open3)
        | (go_at_call 13; (with_reducible refine (HC1.out _ _ _ d24 b24).mono ?_); rintro e w25 ⟨c1, rfl, dc1, hb25⟩; have B25 := B24.trans (hb25.mono B24.size); have x25 := x24.below hb25; have y25 := y24.below hb25; have m25 := m24.below hb25; have P25 := P24.below hb25; have R25 := R24.below hb25; have T25 := T24.below hb25; have a25 := a24.below hb25; have b25 := b24.below hb25; have c25 := c24.below hb25; have d25 := d24.below hb25; clear x24 y24 m24 P24 R24 T24 a24 b24 c24 d24; clear cP0_24 cP1_24 cP2_24 fP0_24 fP1_24 fP2_24 sP_24; obtain ⟨cP0_25, cP1_25, cP2_25, fP0_25, fP1_25, fP2_25, sP_25⟩ := P25.open3; clear cR0_24 cR1_24 cR2_24 fR0_24 fR1_24 fR2_24 sR_24; obtain ⟨cR0_25, cR1_25, cR2_25, fR0_25, fR1_25, fR2_25, sR_25⟩ := R25.open3)
        | (go_at_call 12; (with_reducible refine (radd_n b25 a25 EU.out (by omega) (by omega)).mono ?_); rintro e w26 ⟨vg26, rfl, g26, hb26⟩; have B26 := B25.trans (hb26.mono B25.size); have x26 := x25.below hb26; have y26 := y25.below hb26; have m26 := m25.below hb26; have P26 := P25.below hb26; have R26 := R25.below hb26; have T26 := T25.below hb26; have a26 := a25.below hb26; have b26 := b25.below hb26; have c26 := c25.below hb26; have d26 := d25.below hb26; clear x25 y25 m25 P25 R25 T25 a25 b25 c25 d25; clear cP0_25 cP1_25 cP2_25 fP0_25 fP1_25 fP2_25 sP_25; obtain ⟨cP0_26, cP1_26, cP2_26, fP0_26, fP1_26, fP2_26, sP_26⟩ := P26.open3; clear cR0_25 cR1_25 cR2_25 fR0_25 fR1_25 fR2_25 sR_25; obtain ⟨cR0_26, cR1_26, cR2_26, fR0_26, fR1_26, fR2_26, sR_26⟩ := R26.open3)
        | (go_at_call 14; (with_reducible refine (rsub_n b26 a26 EV.out hDp (by omega)).mono ?_); rintro e w27 ⟨vi27, rfl, i27, hb27⟩; have B27 := B26.trans (hb27.mono B26.size); have x27 := x26.below hb27; have y27 := y26.below hb27; have m27 := m26.below hb27; have P27 := P26.below hb27; have R27 := R26.below hb27; have T27 := T26.below hb27; have a27 := a26.below hb27; have b27 := b26.below hb27; have c27 := c26.below hb27; have d27 := d26.below hb27; have g27 := g26.below hb27; clear x26 y26 m26 P26 R26 T26 a26 b26 c26 d26 g26; clear cP0_26 cP1_26 cP2_26 fP0_26 fP1_26 fP2_26 sP_26; obtain ⟨cP0_27, cP1_27, cP2_27, fP0_27, fP1_27, fP2_27, sP_27⟩ := P27.open3; clear cR0_26 cR1_26 cR2_26 fR0_26 fR1_26 fR2_26 sR_26; obtain ⟨cR0_27, cR1_27, cR2_27, fR0_27, fR1_27, fR2_27, sR_27⟩ := R27.open3)
        | (go_at_call 15; (with_reducible refine (rbits_n m27 EB.out (by omega)).mono ?_); rintro e w28 ⟨rfl, rfl⟩)
        | (go_at_call 17; (with_reducible refine (rnum_k1).mono ?_); rintro e w29 ⟨vj29, rfl, j29, hb29⟩; have B29 := B27.trans (hb29.mono B27.size); have x29 := x27.below hb29; have y29 := y27.below hb29; have m29 := m27.below hb29; have P29 := P27.below hb29; have R29 := R27.below hb29; have T29 := T27.below hb29; have a29 := a27.below hb29; have b29 := b27.below hb29; have c29 := c27.below hb29; have d29 := d27.below hb29; have g29 := g27.below hb29; have i29 := i27.below hb29; clear x27 y27 m27 P27 R27 T27 a27 b27 c27 d27 g27 i27; obtain ⟨cP0_29, cP1_29, cP2_29, fP0_29, fP1_29, fP2_29, sP_29⟩ := P29.open3; obtain ⟨cR0_29, cR1_29, cR2_29, fR0_29, fR1_29, fR2_29, sR_29⟩ := R29.open3)
        | (go_at_call 16; (with_reducible refine (HSH.out _ _ j29).mono ?_); rintro e w30 ⟨vk30, rfl, k30, hb30⟩; have B30 := B29.trans (hb30.mono B29.size); have x30 := x29.below hb30; have y30 := y29.below hb30; have m30 := m29.below hb30; have P30 := P29.below hb30; have R30 := R29.below hb30; have T30 := T29.below hb30; have a30 := a29.below hb30; have b30 := b29.below hb30; have c30 := c29.below hb30; have d30 := d29.below hb30; have g30 := g29.below hb30; have i30 := i29.below hb30; have j30 := j29.below hb30; clear x29 y29 m29 P29 R29 T29 a29 b29 c29 d29 g29 i29 j29; clear cP0_29 cP1_29 cP2_29 fP0_29 fP1_29 fP2_29 sP_29; obtain ⟨cP0_30, cP1_30, cP2_30, fP0_30, fP1_30, fP2_30, sP_30⟩ := P30.open3; clear cR0_29 cR1_29 cR2_29 fR0_29 fR1_29 fR2_29 sR_29; obtain ⟨cR0_30, cR1_30, cR2_30, fR0_30, fR1_30, fR2_30, sR_30⟩ := R30.open3)
        | (go_at_call 12; (with_reducible refine (radd_n m30 m30 EM2.out (by omega) (by omega)).mono ?_); rintro e w31 ⟨vl31, rfl, l31, hb31⟩; have B31 := B30.trans (hb31.mono B30.size); have x31 := x30.below hb31; have y31 := y30.below hb31; have m31 := m30.below hb31; have P31 := P30.below hb31; have R31 := R30.below hb31; have T31 := T30.below hb31; have a31 := a30.below hb31; have b31 := b30.below hb31; have c31 := c30.below hb31; have d31 := d30.below hb31; have g31 := g30.below hb31; have i31 := i30.below hb31; have j31 := j30.below hb31; have k31 := k30.below hb31; clear x30 y30 m30 P30 R30 T30 a30 b30 c30 d30 g30 i30 j30 k30; clear cP0_30 cP1_30 cP2_30 fP0_30 fP1_30 fP2_30 sP_30; obtain ⟨cP0_31, cP1_31, cP2_31, fP0_31, fP1_31, fP2_31, sP_31⟩ := P31.open3; clear cR0_30 cR1_30 cR2_30 fR0_30 fR1_30 fR2_30 sR_30; obtain ⟨cR0_31, cR1_31, cR2_31, fR0_31, fR1_31, fR2_31, sR_31⟩ := R31.open3)
        | (go_at_call 12; (with_reducible refine (radd_n k31 k31 EQ2.out (by omega) (by omega)).mono ?_); rintro e w32 ⟨vn32, rfl, n32, hb32⟩; have B32 := B31.trans (hb32.mono B31.size); have x32 := x31.below hb32; have y32 := y31.below hb32; have m32 := m31.below hb32; have P32 := P31.below hb32; have R32 := R31.below hb32; have T32 := T31.below hb32; have a32 := a31.below hb32; have b32 := b31.below hb32; have c32 := c31.below hb32; have d32 := d31.below hb32; have g32 := g31.below hb32; have i32 := i31.below hb32; have j32 := j31.below hb32; have k32 := k31.below hb32; have l32 := l31.below hb32; clear x31 y31 m31 P31 R31 T31 a31 b31 c31 d31 g31 i31 j31 k31 l31; clear cP0_31 cP1_31 cP2_31 fP0_31 fP1_31 fP2_31 sP_31; obtain ⟨cP0_32, cP1_32, cP2_32, fP0_32, fP1_32, fP2_32, sP_32⟩ := P32.open3; clear cR0_31 cR1_31 cR2_31 fR0_31 fR1_31 fR2_31 sR_31; obtain ⟨cR0_32, cR1_32, cR2_32, fR0_32, fR1_32, fR2_32, sR_32⟩ := R32.open3)
        | (go_at_call 12; (with_reducible refine (radd_n k32 n32 EQ3.out (by omega) (by omega)).mono ?_); rintro e w33 ⟨vo33, rfl, o33, hb33⟩; have B33 := B32.trans (hb33.mono B32.size); have x33 := x32.below hb33; have y33 := y32.below hb33; have m33 := m32.below hb33; have P33 := P32.below hb33; have R33 := R32.below hb33; have T33 := T32.below hb33; have a33 := a32.below hb33; have b33 := b32.below hb33; have c33 := c32.below hb33; have d33 := d32.below hb33; have g33 := g32.below hb33; have i33 := i32.below hb33; have j33 := j32.below hb33; have k33 := k32.below hb33; have l33 := l32.below hb33; have n33 := n32.below hb33; clear x32 y32 m32 P32 R32 T32 a32 b32 c32 d32 g32 i32 j32 k32 l32 n32; clear cP0_32 cP1_32 cP2_32 fP0_32 fP1_32 fP2_32 sP_32; obtain ⟨cP0_33, cP1_33, cP2_33, fP0_33, fP1_33, fP2_33, sP_33⟩ := P33.open3; clear cR0_32 cR1_32 cR2_32 fR0_32 fR1_32 fR2_32 sR_32; obtain ⟨cR0_33, cR1_33, cR2_33, fR0_33, fR1_33, fR2_33, sR_33⟩ := R33.open3)
        | (go_at_call 13; (with_reducible refine (rcmp_n l33 o33 EC.out (by omega)).mono ?_); rintro e w34 ⟨rfl, hb34⟩; have B34 := B33.trans (hb34.mono B33.size); have x34 := x33.below hb34; have y34 := y33.below hb34; have m34 := m33.below hb34; have P34 := P33.below hb34; have R34 := R33.below hb34; have T34 := T33.below hb34; have a34 := a33.below hb34; have b34 := b33.below hb34; have c34 := c33.below hb34; have d34 := d33.below hb34; have g34 := g33.below hb34; have i34 := i33.below hb34; have j34 := j33.below hb34; have k34 := k33.below hb34; have l34 := l33.below hb34; have n34 := n33.below hb34; have o34 := o33.below hb34; clear x33 y33 m33 P33 R33 T33 a33 b33 c33 d33 g33 i33 j33 k33 l33 n33 o33; clear cP0_33 cP1_33 cP2_33 fP0_33 fP1_33 fP2_33 sP_33; obtain ⟨cP0_34, cP1_34, cP2_34, fP0_34, fP1_34, fP2_34, sP_34⟩ := P34.open3; clear cR0_33 cR1_33 cR2_33 fR0_33 fR1_33 fR2_33 sR_33; obtain ⟨cR0_34, cR1_34, cR2_34, fR0_34, fR1_34, fR2_34, sR_34⟩ := R34.open3)
        | fail)
      generalize hbp : w2.heap.size = bp at *
      have Dw : Below w34.heap.size w34 w34.drew := below_drewN (Below.refl _ _) 1
      have md := m34.below Dw; have ud := g34.below Dw; have vd := i34.below Dw; have od := k34.below Dw; have Pd := R34.below Dw; have Bd := B34.trans (Dw.mono B34.size)
      have k0 := Lib.hid (cells12 Pd)
      go_region_held3 (fun w' => w'.cell? ⟨bp, 1, none⟩ = some (.slice am2 (digs DD M).length km2) ∧ w'.cell? ⟨bp, 2, none⟩ = some (.int .i64 E))
        (first | exact k0.out | exact k1.out | exact k2.out | exact k3.out | exact k4.out | exact k5.out | exact k6.out)
        (first
          | (go_at_call 12; (with_reducible refine (radd_n md md EM2.out (by omega) (by omega)).mono ?_); rintro e z1 ⟨va, rfl, ta, hz1⟩; have md1 := md.below hz1; have ud1 := ud.below hz1; have vd1 := vd.below hz1; have od1 := od.below hz1; have Pd1 := Pd.below hz1; have Bd1 := Bd.trans (hz1.mono Bd.size); have k1 := Lib.hid (cells12 Pd1))
          | (go_at_call 13; (with_reducible refine (rcmp_n ud1 ta (cmpN_eq _) (by omega)).mono ?_); rintro e z2 ⟨rfl, hz2⟩; have md2 := md1.below hz2; have vd2 := vd1.below hz2; have od2 := od1.below hz2; have Pd2 := Pd1.below hz2; have Bd2 := Bd1.trans (hz2.mono Bd1.size); have k2 := Lib.hid (cells12 Pd2))
          | (go_at_call 12; (with_reducible refine (radd_n od2 od2 EQ2.out (by omega) (by omega)).mono ?_); rintro e z3 ⟨vb, rfl, tb, hz3⟩; have md3 := md2.below hz3; have vd3 := vd2.below hz3; have od3 := od2.below hz3; have Pd3 := Pd2.below hz3; have Bd3 := Bd2.trans (hz3.mono Bd2.size); have k3 := Lib.hid (cells12 Pd3))
          | (go_at_call 13; (with_reducible refine (rcmp_n vd3 tb ECZ.out (by omega)).mono ?_); rintro e z4 ⟨rfl, hz4⟩; have md4 := md3.below hz4; have od4 := od3.below hz4; have Pd4 := Pd3.below hz4; have Bd4 := Bd3.trans (hz4.mono Bd3.size); have k4 := Lib.hid (cells12 Pd4))
          | (go_at_call 15; (with_reducible refine (rbits_n od4 EB2.out (by omega)).mono ?_); rintro e z5 ⟨rfl, rfl⟩)
          | (go_at_call 13; (with_reducible refine (rcmp_n md4 od4 ECQ.out (by omega)).mono ?_); rintro e z6 ⟨rfl, hz6⟩; have Pd6 := Pd4.below hz6; have Bd6 := Bd4.trans (hz6.mono Bd4.size); have k6 := Lib.hid (cells12 Pd6))
          | fail)
      go_wp2_with fail
      go_ret
      exact ⟨rfl, by assumption⟩
end Go.Proofs.YtngicppjljbafaaDoor.PLNear
