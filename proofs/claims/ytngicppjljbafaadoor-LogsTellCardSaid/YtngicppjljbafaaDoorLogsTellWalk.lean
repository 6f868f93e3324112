/- LogsTell returns true and leaves what was there: the walk. Conditions: math/bits' table stands in its variable. -/
import Derived.Test.YtngicppjljbafaaDoorLRef5
namespace Go.Proofs.YtngicppjljbafaaDoor.PLTell
set_option maxRecDepth 100000
open Go.RowKit Go.Proofs.YtngicppjljbafaaDoor
set_option linter.unusedVariables false

set_option maxRecDepth 100000 in
set_option maxHeartbeats 4000000 in
theorem walk (b0 : Bool) (a0 : Option Addr) (len0 cap0 : Nat) (z0 : List Int) (e0 : Int) (s : Int) (w : World) (w0 : IsRow .u64 w a0 len0 cap0 z0) (we : (Lit.int .i64 e0).wf = true) (ws : (Lit.int .i64 s).wf = true) (hT : Tab w) :
    Calls Tryd.prog 4 #[.agg #[.bool b0, .slice a0 len0 cap0, .int .i64 e0], .int .i64 s] w fun e w' => e = .returned (.bool true) ∧ Below w.heap.size w w' := by
  obtain ⟨l, hl, dl, RL, hl64⟩ := w0.nums
  have h2 : -9223372036854775808 ≤ e0 ∧ e0 ≤ 9223372036854775807 := by simpa [Lit.wf, IntKind.min, IntKind.max, IntKind.bits, IntKind.signed] using we
  have h3 : -9223372036854775808 ≤ s ∧ s ≤ 9223372036854775807 := by simpa [Lit.wf, IntKind.min, IntKind.max, IntKind.bits, IntKind.signed] using ws
  clear w0 we ws
  by_cases hbig : 70 < len0
  · clear RL dl hl
    have dec0 : decide (70 < (len0 : Int)) = true := decide_eq_true (by omega)
    go_enter Tryd.func4, Tryd.ntmps4
    go_wp2_with
    (first
      | (go_at_call 7; (with_reducible refine (alive13_any (hT.below (below_alloc _ _))).mono ?_); rintro e w1 ⟨rfl, hb1⟩; have B1 := (below_alloc _ _).trans (hb1.mono (below_alloc _ _).size); have T1 := ((hT.below (below_alloc _ _))).below hb1; have P1 := ((blk_new)).below hb1; obtain ⟨cP0_1, cP1_1, cP2_1, fP0_1, fP1_1, fP2_1, sP_1⟩ := P1.open3)
      | fail)
    all_goals
      go_ret
      exact ⟨rfl, by assumption⟩
  have dec0 : decide (70 < (len0 : Int)) = false := decide_eq_false (by omega)
  by_cases hs12 : 12 < len0 ∧ 100 < s
  · clear RL dl hl
    have dec1 : decide (12 < (len0 : Int)) = true := decide_eq_true (by omega)
    have dec2 : decide (100 < s) = true := decide_eq_true (by omega)
    go_enter Tryd.func4, Tryd.ntmps4
    go_wp2_with
    (first
      | (go_at_call 7; (with_reducible refine (alive13_any (hT.below (below_alloc _ _))).mono ?_); rintro e w1 ⟨rfl, hb1⟩; have B1 := (below_alloc _ _).trans (hb1.mono (below_alloc _ _).size); have T1 := ((hT.below (below_alloc _ _))).below hb1; have P1 := ((blk_new)).below hb1; obtain ⟨cP0_1, cP1_1, cP2_1, fP0_1, fP1_1, fP2_1, sP_1⟩ := P1.open3)
      | fail)
    all_goals
      go_ret
      exact ⟨rfl, by assumption⟩
  have bA := val_bits dl (show l.length ≤ 70 by omega)
  have RA := RL.numl dl (by omega)
  clear dl RL hl
  generalize val BB l = A at *
  obtain ⟨⟨n', M, E⟩, ed⟩ : ∃ d, bareD ⟨b0, A, e0⟩ = d := ⟨_, rfl⟩
  have sM : bitN M ≤ 4480 := Nat.le_trans (bareD_bits ed) (by omega)
  have rE : -2147483648 ≤ E ∧ E ≤ 2147483648 + 4480 := by
    by_cases h0 : A = 0
    · rw [bareD_zero h0] at ed
      injection ed with g1 g2 g3
      omega
    · rw [bareD_pos h0] at ed
      injection ed with g1 g2 g3
      have h3 := cutE_range e0
      have h4 := low2_lt (n := A) h0
      dsimp only at g3
      omega
  have HOF := Lib.hid (fun w v (h : Num w v A) => ROf_n h (by omega) h2.1 h2.2 ed)
  obtain ⟨r, hr⟩ : ∃ r, nearOk ⟨b0, A, e0⟩ = r := ⟨_, rfl⟩
  have HRR := Lib.hid (fun w u (h : RdD w u (digs DD M)) => RRight_n (n' := n') (E' := E) (r := r) h (by omega) (by omega) (by omega) (by rw [← hr]; unfold nearOk; rw [ed]))
  have hskip : decide (12 < (len0 : Int)) = false ∨ (decide (12 < (len0 : Int)) = true ∧ decide (100 < s) = false) := by
    by_cases c : 12 < len0
    · exact .inr ⟨decide_eq_true (by omega), decide_eq_false (by omega)⟩
    · exact .inl (decide_eq_false (by omega))
  cases r
  · have HLG := Lib.hid (fun (w : World) v (h : Num w v A) (hT : Tab w) => Log_arg (s := s) h hT (by omega) h2.1 h2.2 (.inl hr))
    clear ed hr
    rcases hskip with dec1 | ⟨dec1, dec2⟩
    all_goals
      go_enter Tryd.func4, Tryd.ntmps4
      go_wp2_with
      (first
        | (go_at_call 7; (with_reducible refine (alive13_any (hT.below (below_alloc _ _))).mono ?_); rintro e w1 ⟨rfl, hb1⟩; have B1 := (below_alloc _ _).trans (hb1.mono (below_alloc _ _).size); have z1 := ((RA.below (below_alloc _ _))).below hb1; have T1 := ((hT.below (below_alloc _ _))).below hb1; have P1 := ((blk_new)).below hb1; obtain ⟨cP0_1, cP1_1, cP2_1, fP0_1, fP1_1, fP2_1, sP_1⟩ := P1.open3)
        | (go_at_call 8; (with_reducible refine (HOF.out _ _ z1).mono ?_); rintro e w2 ⟨vm2, rfl, m2, hb2⟩; have B2 := B1.trans (hb2.mono B1.size); have z2 := z1.below hb2; have T2 := T1.below hb2; have P2 := P1.below hb2; clear z1 T1 P1; clear cP0_1 cP1_1 cP2_1 fP0_1 fP1_1 fP2_1 sP_1; obtain ⟨cP0_2, cP1_2, cP2_2, fP0_2, fP1_2, fP2_2, sP_2⟩ := P2.open3; obtain ⟨am2, km2, rfl, -⟩ := m2.view; try simp only [List.length_nil] at m2)
        | (go_at_call 18; (with_reducible refine (HLG.out _ _ (z2.below (below_alloc _ _)) (T2.below (below_alloc _ _))).mono ?_); rintro e w3 ⟨rfl, hb3⟩; have hb3' := (below_a hb3); have B3 := B2.trans (hb3'.mono B2.size); have z3 := z2.below hb3'; have T3 := T2.below hb3'; have P3 := P2.below hb3'; have m3 := m2.below hb3'; clear z2 T2 P2 m2; have Q3 := blk_new.below hb3; clear cP0_2 cP1_2 cP2_2 fP0_2 fP1_2 fP2_2 sP_2; obtain ⟨cP0_3, cP1_3, cP2_3, fP0_3, fP1_3, fP2_3, sP_3⟩ := P3.open3; obtain ⟨cQ0_3, cQ1_3, cQ2_3, fQ0_3, fQ1_3, fQ2_3, sQ_3⟩ := Q3.open3)
        | (go_at_call 10; (with_reducible refine (HRR.out _ _ (m3.below (below_alloc _ _))).mono ?_); rintro e w4 ⟨rfl, hb4⟩; have hb4' := (below_a hb4); have B4 := B3.trans (hb4'.mono B3.size); have z4 := z3.below hb4'; have T4 := T3.below hb4'; have P4 := P3.below hb4'; have m4 := m3.below hb4'; have Q4 := Q3.below hb4'; clear z3 T3 P3 m3 Q3; have I4 := blk_new.below hb4; clear cP0_3 cP1_3 cP2_3 fP0_3 fP1_3 fP2_3 sP_3; obtain ⟨cP0_4, cP1_4, cP2_4, fP0_4, fP1_4, fP2_4, sP_4⟩ := P4.open3; clear cQ0_3 cQ1_3 cQ2_3 fQ0_3 fQ1_3 fQ2_3 sQ_3; obtain ⟨cQ0_4, cQ1_4, cQ2_4, fQ0_4, fQ1_4, fQ2_4, sQ_4⟩ := Q4.open3; obtain ⟨cI0_4, cI1_4, cI2_4, cI3_4, cI4_4, cI5_4, fI0_4, fI1_4, fI2_4, fI3_4, fI4_4, fI5_4, sI_4⟩ := I4.open6)
        | fail)
      go_ret
      exact ⟨rfl, by assumption⟩
  by_cases hsr : s < 8 ∨ 9000 < s
  · have HLG := Lib.hid (fun (w : World) v (h : Num w v A) (hT : Tab w) => Log_arg (neg := b0) (E := e0) (s := s) h hT (by omega) h2.1 h2.2 (.inr (by omega)))
    have HRS := Lib.hid hsr
    clear ed hr
    rcases hskip with dec1 | ⟨dec1, dec2⟩
    all_goals
      go_enter Tryd.func4, Tryd.ntmps4
      go_wp2_with
      (first
        | (go_at_call 7; (with_reducible refine (alive13_any (hT.below (below_alloc _ _))).mono ?_); rintro e w1 ⟨rfl, hb1⟩; have B1 := (below_alloc _ _).trans (hb1.mono (below_alloc _ _).size); have z1 := ((RA.below (below_alloc _ _))).below hb1; have T1 := ((hT.below (below_alloc _ _))).below hb1; have P1 := ((blk_new)).below hb1; obtain ⟨cP0_1, cP1_1, cP2_1, fP0_1, fP1_1, fP2_1, sP_1⟩ := P1.open3)
        | (go_at_call 8; (with_reducible refine (HOF.out _ _ z1).mono ?_); rintro e w2 ⟨vm2, rfl, m2, hb2⟩; have B2 := B1.trans (hb2.mono B1.size); have z2 := z1.below hb2; have T2 := T1.below hb2; have P2 := P1.below hb2; clear z1 T1 P1; clear cP0_1 cP1_1 cP2_1 fP0_1 fP1_1 fP2_1 sP_1; obtain ⟨cP0_2, cP1_2, cP2_2, fP0_2, fP1_2, fP2_2, sP_2⟩ := P2.open3; obtain ⟨am2, km2, rfl, -⟩ := m2.view; try simp only [List.length_nil] at m2)
        | (go_at_call 18; (with_reducible refine (HLG.out _ _ (z2.below (below_alloc _ _)) (T2.below (below_alloc _ _))).mono ?_); rintro e w3 ⟨rfl, hb3⟩; have hb3' := (below_a hb3); have B3 := B2.trans (hb3'.mono B2.size); have z3 := z2.below hb3'; have T3 := T2.below hb3'; have P3 := P2.below hb3'; have m3 := m2.below hb3'; clear z2 T2 P2 m2; have Q3 := blk_new.below hb3; clear cP0_2 cP1_2 cP2_2 fP0_2 fP1_2 fP2_2 sP_2; obtain ⟨cP0_3, cP1_3, cP2_3, fP0_3, fP1_3, fP2_3, sP_3⟩ := P3.open3; obtain ⟨cQ0_3, cQ1_3, cQ2_3, fQ0_3, fQ1_3, fQ2_3, sQ_3⟩ := Q3.open3)
        | (go_at_call 10; (with_reducible refine (HRR.out _ _ (m3.below (below_alloc _ _))).mono ?_); rintro e w4 ⟨rfl, hb4⟩; have hb4' := (below_a hb4); have B4 := B3.trans (hb4'.mono B3.size); have z4 := z3.below hb4'; have T4 := T3.below hb4'; have P4 := P3.below hb4'; have m4 := m3.below hb4'; have Q4 := Q3.below hb4'; clear z3 T3 P3 m3 Q3; have I4 := blk_new.below hb4; clear cP0_3 cP1_3 cP2_3 fP0_3 fP1_3 fP2_3 sP_3; obtain ⟨cP0_4, cP1_4, cP2_4, fP0_4, fP1_4, fP2_4, sP_4⟩ := P4.open3; clear cQ0_3 cQ1_3 cQ2_3 fQ0_3 fQ1_3 fQ2_3 sQ_3; obtain ⟨cQ0_4, cQ1_4, cQ2_4, fQ0_4, fQ1_4, fQ2_4, sQ_4⟩ := Q4.open3; obtain ⟨cI0_4, cI1_4, cI2_4, cI3_4, cI4_4, cI5_4, fI0_4, fI1_4, fI2_4, fI3_4, fI4_4, fI5_4, sI_4⟩ := I4.open6)
        | (go_at_call 19; (with_reducible refine (right_no HRS.out).mono ?_); rintro e w5 ⟨rfl, rfl⟩)
        | fail)
      go_ret
      exact ⟨rfl, by assumption⟩
  obtain ⟨S, rfl⟩ : ∃ S : Nat, s = (S : Int) := ⟨s.toNat, by omega⟩
  obtain ⟨rfl, hf, h0, b4, t1, t2⟩ := nearOk_parts ed hr
  have HLG := Lib.hid (fun (w : World) v (h : Num w v A) (hT : Tab w) => Log_v (s := S) h hT h2.1 h2.2 ed hr (by omega) (by omega))
  have HRS : Hid (∀ w : World, Calls Tryd.prog 19 #[.int .i64 (S : Int)] w fun e w' => e = .returned (.bool true) ∧ w' = w) := Lib.hid (fun w => right_ok (by omega) (by omega))
  obtain ⟨t, ht⟩ : ∃ t, topD ⟨false, M, E⟩ = t := ⟨_, rfl⟩
  have HTP := Lib.hid (fun w u (h : RdD w u (digs DD M)) => RTop_n (neg := false) (E := E) h (by omega) (by omega) (by omega))
  rw [ht] at t1 t2 HTP
  have htn : t.natAbs ≤ 1048576 := by omega
  have HK : IntKind.u64.wrap ((max t (-t) + 2) * (2 * (S : Int) + 128)) = (((t.natAbs : Nat) : Int) + 2) * (2 * (S : Int) + 128) := by
    have e : max t (-t) = ((t.natAbs : Nat) : Int) := by omega
    have b : (t.natAbs + 2) * (2 * S + 128) ≤ 1048578 * 18128 := Nat.mul_le_mul (by omega) (by omega)
    rw [e, IntKind.wrap_u64]
    have c : (((t.natAbs : Nat) : Int) + 2) * (2 * (S : Int) + 128) = (((t.natAbs + 2) * (2 * S + 128) : Nat) : Int) := by rw [Int.natCast_mul]; rfl
    rw [c]
    omega
  have ws : IntKind.i64.wrap (-(S : Int)) = -(S : Int) := by rw [IntKind.wrap_i64]; omega
  have HTN : Hid (∀ (w : World) v u n1 m1 e1 n2 m2 e2, RdN w v (digs BB m1) → RdN w u (digs BB m2) → Tab w → LogOk ⟨false, M, E⟩ ⟨n1, m1, e1⟩ ⟨n2, m2, e2⟩ S → Calls Tryd.prog 21 #[.agg #[.bool n1, v, .int .i64 e1, .bool n2, u, .int .i64 e2], .int .u64 ((((t.natAbs : Nat) : Int) + 2) * (2 * (S : Int) + 128)), .int .i64 (S : Int)] w (fun e w' => e = .returned (.bool true) ∧ Below w.heap.size w w')) := Lib.hid (fun w v u n1 m1 e1 n2 m2 e2 h h' hT o => by
    have b : (t.natAbs + 2) * (2 * S + 128) ≤ 1048578 * 18128 := Nat.mul_le_mul (by omega) (by omega)
    have hBB : BB = 18446744073709551616 := rfl
    have c : (((t.natAbs : Nat) : Int) + 2) * (2 * (S : Int) + 128) = (((t.natAbs + 2) * (2 * S + 128) : Nat) : Int) := by rw [Int.natCast_mul]; rfl
    rw [c]
    refine lthin_n h h' hT o.mLo o.mHi (o.ln.le o.ln Rat.le_refl) ?_ (by omega) (Nat.mul_pos (by omega) (by omega)) (by omega)
    have hw := o.wide
    rw [ht] at hw
    rw [Rat.natCast_mul]
    grind)
  have HF : Hid (∀ (w : World) v n1 m1 e1, RdN w v (digs BB m1) → (bareD ⟨n1, m1, e1⟩ = ⟨n1, m1, e1⟩ ∧ Mid 10000 ⟨n1, m1, e1⟩ ∧ -(S : Int) ≤ e1) → Calls Tryd.prog 22 #[.agg #[.bool n1, v, .int .i64 e1]] w (fun e w' => ∃ u, e = .returned (.agg #[.bool n1, u, .int .i64 e1]) ∧ decide (e1 < -(S : Int)) = false ∧ RdD w' u (digs DD m1) ∧ Below w.heap.size w w')) := Lib.hid (fun w v n1 m1 e1 h o => by
    have a1 := o.2.1.nums
    refine (lof_n (h.num (by omega)) (by omega) (by omega) (by omega) o.1).mono ?_
    rintro e w' ⟨u, rfl, r, hb⟩
    exact ⟨u, rfl, decide_eq_false (by omega), r, hb⟩)
  have hfd : ∀ (w : World) n a ln k e, (Instr.field 28 (.agg #[.bool n, .slice a ln k, .int .i64 e]) 2).run Tryd.prog w = .ok (.int .i64 e) w := fun _ _ _ _ _ _ => by kernel_rfl
  have HRL : Hid (∀ (m : Nat) (w : World) v, m ≤ 480 → RdD w v (digs DD M) → Calls Tryd.prog 24 #[.agg #[.bool false, v, .int .i64 E], .int .i64 (m : Int)] w (fun e w' => ∃ n M' x v, e = .returned (.agg #[.bool n, v, .int .i64 x]) ∧ (qv ⟨n, M', x⟩ = 2 * (refLogU M m : Rat) * pw (-(m : Int)) + (t : Rat) * (2 * (refTwoU m : Rat)) * pw (-(m : Int)) ∧ Mid 2001 ⟨n, M', x⟩) ∧ RdD w' v (digs DD M') ∧ Below w.heap.size w w')) := Lib.hid (fun m w v hm h => rlog_n h b4 h0 (by omega) (by omega) ht t1 t2 hm)
  have HFF : Hid (∀ (m : Nat) (w : World), m ≤ 480 → Calls Tryd.prog 25 #[.int .i64 t, .int .i64 (m : Int)] w (fun e w' => ∃ v, e = .returned (.agg #[.bool false, v, .int .i64 (-(m : Int))]) ∧ RdD w' v (digs DD (1048576 * (2 * t.natAbs + 4))) ∧ Below w.heap.size w w')) := Lib.hid (fun m w hm => roff_n (by omega) (by omega) rfl)
  have HHO : Hid (∀ (m : Nat) (w : World) x y u v n1 m1 e1 n2 m2 e2 n3 m3 e3, m ≤ 480 → RdN w x (digs BB m1) → RdN w y (digs BB m2) → LogOk ⟨false, M, E⟩ ⟨n1, m1, e1⟩ ⟨n2, m2, e2⟩ S → RdD w u (digs DD m3) → (qv ⟨n3, m3, e3⟩ = 2 * (refLogU M m : Rat) * pw (-(m : Int)) + (t : Rat) * (2 * (refTwoU m : Rat)) * pw (-(m : Int)) ∧ Mid 2001 ⟨n3, m3, e3⟩) → RdD w v (digs DD (1048576 * (2 * t.natAbs + 4))) → Calls Tryd.prog 23 #[.agg #[.bool n1, x, .int .i64 e1, .bool n2, y, .int .i64 e2], .agg #[.bool n3, u, .int .i64 e3], .agg #[.bool false, v, .int .i64 (-(m : Int))]] w (fun e w' => e = .returned (.bool true) ∧ Below w.heap.size w w')) := Lib.hid (fun m w x y u v n1 m1 e1 n2 m2 e2 n3 m3 e3 hm h h' o k g k' => by
    have ho : qv ⟨false, 1048576 * (2 * t.natAbs + 4), -(m : Int)⟩ = ((1048576 * (2 * t.natAbs + 4) : Nat) : Rat) * pw (-(m : Int)) := rfl
    have ke : LnIn ((M : Rat) * pw E) (qv ⟨n1, m1, e1⟩) (qv ⟨n2, m2, e2⟩) := o.ln
    obtain ⟨f1, f2⟩ := log_tells h0 ht ke g.1 ho
    have sF : bitN (1048576 * (2 * t.natAbs + 4)) ≤ 64 := bitN_le.2 (by omega)
    exact lholds_n h h' k k' o.bLo o.bHi o.mLo o.mHi (g.2.mono (by omega)) ⟨by dsimp only; omega, by dsimp only; omega, by dsimp only; omega⟩ f1 f2)
  clear ed hr ht htn
  rcases hskip with dec1 | ⟨dec1, dec2⟩
  all_goals
    go_enter Tryd.func4, Tryd.ntmps4
    go_upto_region 12 with
    (first
      | (go_at_call 7; (with_reducible refine (alive13_any (hT.below (below_alloc _ _))).mono ?_); rintro e w1 ⟨rfl, hb1⟩; have B1 := (below_alloc _ _).trans (hb1.mono (below_alloc _ _).size); have z1 := ((RA.below (below_alloc _ _))).below hb1; have T1 := ((hT.below (below_alloc _ _))).below hb1; have P1 := ((blk_new)).below hb1; obtain ⟨cP0_1, cP1_1, cP2_1, fP0_1, fP1_1, fP2_1, sP_1⟩ := P1.open3)
      | (go_at_call 8; (with_reducible refine (HOF.out _ _ z1).mono ?_); rintro e w2 ⟨vm2, rfl, m2, hb2⟩; have B2 := B1.trans (hb2.mono B1.size); have z2 := z1.below hb2; have T2 := T1.below hb2; have P2 := P1.below hb2; clear z1 T1 P1; clear cP0_1 cP1_1 cP2_1 fP0_1 fP1_1 fP2_1 sP_1; obtain ⟨cP0_2, cP1_2, cP2_2, fP0_2, fP1_2, fP2_2, sP_2⟩ := P2.open3; obtain ⟨am2, km2, rfl, -⟩ := m2.view; try simp only [List.length_nil] at m2)
      | (go_at_call 18; (with_reducible refine (HLG.out _ _ (z2.below (below_alloc _ _)) (T2.below (below_alloc _ _))).mono ?_); rintro e w3 ⟨na, ma, ea, nb, mb, eb, vx, vy, rfl, ok, x3, y3, hb3⟩; have hb3' := (below_a hb3); have B3 := B2.trans (hb3'.mono B2.size); have z3 := z2.below hb3'; have T3 := T2.below hb3'; have P3 := P2.below hb3'; have m3 := m2.below hb3'; clear z2 T2 P2 m2; have Q3 := blk_new.below hb3; clear cP0_2 cP1_2 cP2_2 fP0_2 fP1_2 fP2_2 sP_2; obtain ⟨cP0_3, cP1_3, cP2_3, fP0_3, fP1_3, fP2_3, sP_3⟩ := P3.open3; obtain ⟨cQ0_3, cQ1_3, cQ2_3, fQ0_3, fQ1_3, fQ2_3, sQ_3⟩ := Q3.open3; obtain ⟨ax3, kx3, rfl, -⟩ := x3.view; (try simp only [List.length_nil] at x3); obtain ⟨ay3, ky3, rfl, -⟩ := y3.view; try simp only [List.length_nil] at y3)
      | (go_at_call 10; (with_reducible refine (HRR.out _ _ (m3.below (below_alloc _ _))).mono ?_); rintro e w4 ⟨rfl, hb4⟩; have hb4' := (below_a hb4); have B4 := B3.trans (hb4'.mono B3.size); have z4 := z3.below hb4'; have T4 := T3.below hb4'; have P4 := P3.below hb4'; have m4 := m3.below hb4'; have Q4 := Q3.below hb4'; have x4 := x3.below hb4'; have y4 := y3.below hb4'; clear z3 T3 P3 m3 Q3 x3 y3; have I4 := blk_new.below hb4; clear cP0_3 cP1_3 cP2_3 fP0_3 fP1_3 fP2_3 sP_3; obtain ⟨cP0_4, cP1_4, cP2_4, fP0_4, fP1_4, fP2_4, sP_4⟩ := P4.open3; clear cQ0_3 cQ1_3 cQ2_3 fQ0_3 fQ1_3 fQ2_3 sQ_3; obtain ⟨cQ0_4, cQ1_4, cQ2_4, fQ0_4, fQ1_4, fQ2_4, sQ_4⟩ := Q4.open3; obtain ⟨cI0_4, cI1_4, cI2_4, cI3_4, cI4_4, cI5_4, fI0_4, fI1_4, fI2_4, fI3_4, fI4_4, fI5_4, sI_4⟩ := I4.open6)
      | (go_at_call 19; (with_reducible refine (HRS.out _).mono ?_); rintro e w5 ⟨rfl, rfl⟩)
      | (go_at_call 20; (with_reducible refine (HTP.out _ _ m4).mono ?_); rintro e w6 ⟨rfl, hb6⟩; have B6 := B4.trans (hb6.mono B4.size); have z6 := z4.below hb6; have T6 := T4.below hb6; have P6 := P4.below hb6; have m6 := m4.below hb6; have Q6 := Q4.below hb6; have x6 := x4.below hb6; have y6 := y4.below hb6; have I6 := I4.below hb6; clear z4 T4 P4 m4 Q4 x4 y4 I4; obtain ⟨cP0_6, cP1_6, cP2_6, fP0_6, fP1_6, fP2_6, sP_6⟩ := P6.open3; obtain ⟨cQ0_6, cQ1_6, cQ2_6, fQ0_6, fQ1_6, fQ2_6, sQ_6⟩ := Q6.open3; obtain ⟨cI0_6, cI1_6, cI2_6, cI3_6, cI4_6, cI5_6, fI0_6, fI1_6, fI2_6, fI3_6, fI4_6, fI5_6, sI_6⟩ := I6.open6)
      | (go_at_call 21; (with_reducible refine (HTN.out _ _ _ _ _ _ _ _ _ x6 y6 T6 ok.1).mono ?_); rintro e w7 ⟨rfl, hb7⟩; have B7 := B6.trans (hb7.mono B6.size); have z7 := z6.below hb7; have T7 := T6.below hb7; have P7 := P6.below hb7; have m7 := m6.below hb7; have Q7 := Q6.below hb7; have x7 := x6.below hb7; have y7 := y6.below hb7; have I7 := I6.below hb7; clear z6 T6 P6 m6 Q6 x6 y6 I6; clear cP0_6 cP1_6 cP2_6 fP0_6 fP1_6 fP2_6 sP_6; obtain ⟨cP0_7, cP1_7, cP2_7, fP0_7, fP1_7, fP2_7, sP_7⟩ := P7.open3; clear cQ0_6 cQ1_6 cQ2_6 fQ0_6 fQ1_6 fQ2_6 sQ_6; obtain ⟨cQ0_7, cQ1_7, cQ2_7, fQ0_7, fQ1_7, fQ2_7, sQ_7⟩ := Q7.open3; clear cI0_6 cI1_6 cI2_6 cI3_6 cI4_6 cI5_6 fI0_6 fI1_6 fI2_6 fI3_6 fI4_6 fI5_6 sI_6; obtain ⟨cI0_7, cI1_7, cI2_7, cI3_7, cI4_7, cI5_7, fI0_7, fI1_7, fI2_7, fI3_7, fI4_7, fI5_7, sI_7⟩ := I7.open6)
      | (go_at_call 22; (with_reducible refine (HF.out _ _ _ _ _ x7 ⟨ok.1.bLo, ok.1.mLo, ok.1.eLo⟩).mono ?_); rintro e w8 ⟨ua, rfl, da, u8, hb8⟩; have B8 := B7.trans (hb8.mono B7.size); have z8 := z7.below hb8; have T8 := T7.below hb8; have P8 := P7.below hb8; have m8 := m7.below hb8; have Q8 := Q7.below hb8; have x8 := x7.below hb8; have y8 := y7.below hb8; have I8 := I7.below hb8; clear z7 T7 P7 m7 Q7 x7 y7 I7; clear cP0_7 cP1_7 cP2_7 fP0_7 fP1_7 fP2_7 sP_7; obtain ⟨cP0_8, cP1_8, cP2_8, fP0_8, fP1_8, fP2_8, sP_8⟩ := P8.open3; clear cQ0_7 cQ1_7 cQ2_7 fQ0_7 fQ1_7 fQ2_7 sQ_7; obtain ⟨cQ0_8, cQ1_8, cQ2_8, fQ0_8, fQ1_8, fQ2_8, sQ_8⟩ := Q8.open3; clear cI0_7 cI1_7 cI2_7 cI3_7 cI4_7 cI5_7 fI0_7 fI1_7 fI2_7 fI3_7 fI4_7 fI5_7 sI_7; obtain ⟨cI0_8, cI1_8, cI2_8, cI3_8, cI4_8, cI5_8, fI0_8, fI1_8, fI2_8, fI3_8, fI4_8, fI5_8, sI_8⟩ := I8.open6; obtain ⟨au8, ku8, rfl, -⟩ := u8.view; try simp only [List.length_nil] at u8)
      | (go_at_call 22; (with_reducible refine (HF.out _ _ _ _ _ y8 ⟨ok.1.bHi, ok.1.mHi, ok.1.eHi⟩).mono ?_); rintro e w9 ⟨ub, rfl, db, v9, hb9⟩; have B9 := B8.trans (hb9.mono B8.size); have z9 := z8.below hb9; have T9 := T8.below hb9; have P9 := P8.below hb9; have m9 := m8.below hb9; have Q9 := Q8.below hb9; have x9 := x8.below hb9; have y9 := y8.below hb9; have I9 := I8.below hb9; have u9 := u8.below hb9; clear z8 T8 P8 m8 Q8 x8 y8 I8 u8; clear cP0_8 cP1_8 cP2_8 fP0_8 fP1_8 fP2_8 sP_8; obtain ⟨cP0_9, cP1_9, cP2_9, fP0_9, fP1_9, fP2_9, sP_9⟩ := P9.open3; clear cQ0_8 cQ1_8 cQ2_8 fQ0_8 fQ1_8 fQ2_8 sQ_8; obtain ⟨cQ0_9, cQ1_9, cQ2_9, fQ0_9, fQ1_9, fQ2_9, sQ_9⟩ := Q9.open3; clear cI0_8 cI1_8 cI2_8 cI3_8 cI4_8 cI5_8 fI0_8 fI1_8 fI2_8 fI3_8 fI4_8 fI5_8 sI_8; obtain ⟨cI0_9, cI1_9, cI2_9, cI3_9, cI4_9, cI5_9, fI0_9, fI1_9, fI2_9, fI3_9, fI4_9, fI5_9, sI_9⟩ := I9.open6; obtain ⟨av9, kv9, rfl, -⟩ := v9.view; try simp only [List.length_nil] at v9)
      | fail)
    obtain ⟨q, hq⟩ : ∃ q : Bool, q = decide (M = 1 ∧ E = 0) := ⟨_, rfl⟩
    have hq' := Lib.hid hq
    clear hq
    obtain ⟨ok, -⟩ := ok
    have ok' := Lib.hid ok
    clear ok
    go_cut [9] (fun v w' => v = .bool q ∧ Below w9.heap.size w9 w')
    case first =>
      have Dw : Below w9.heap.size w9 w9.drew := below_drewN (Below.refl _ _) 1
      have md := m9.below Dw; have Qd := Q9.below Dw
      have zd := Lib.hid (cells33 Qd)
      clear cP0_9 cP1_9 cP2_9 fP0_9 fP1_9 fP2_9 sP_9 cI0_9 cI1_9 cI2_9 cI3_9 cI4_9 cI5_9 fI0_9 fI1_9 fI2_9 fI3_9 fI4_9 fI5_9 sI_9
      have HN1 : Hid (∀ w, Calls Tryd.prog 17 #[.int .u64 1] w (OneD w (digs DD 1))) := Lib.hid (fun w => num_any (n := 1) (by decide))
      by_cases hM : M = 1
      · have ec := Lib.hid (show cmpN M 1 = 0 by rw [hM]; exact cmpN_eq 1)
        by_cases hE : E = 0
        · have q1 := Lib.hid (show q = true by rw [hq'.out]; exact decide_eq_true ⟨hM, hE⟩)
          clear hM
          subst hE
          go_region_held3 (fun w' => w'.cell? ⟨w2.heap.size, 0, none⟩ = some (.bool false) ∧ w'.cell? ⟨w2.heap.size, 1, none⟩ = some (.slice am2 (digs DD M).length km2) ∧ w'.cell? ⟨w2.heap.size, 2, none⟩ = some (.int .i64 0))
            (first | exact zd.out | exact z1.out | exact z2.out)
            (first
              | (go_at_call 17; (with_reducible refine (HN1.out _).mono ?_); rintro e y1 ⟨va, rfl, ta1, hz1⟩; have m1 := md.below hz1; have Q1 := Qd.below hz1; have B1 := Dw.trans (hz1.mono Dw.size); have z1 := Lib.hid (cells33 Q1))
              | (go_at_call 13; (with_reducible refine (rcmp_n m1 ta1 ec.out (by omega)).mono ?_); rintro e y2 ⟨rfl, hz2⟩; have Q2 := Q1.below hz2; have B2 := B1.trans (hz2.mono B1.size); have z2 := Lib.hid (cells33 Q2))
              | fail)
          all_goals
            go_wp2_with fail
            go_meet
            exact ⟨by rw [q1.out], by assumption⟩
        · have q1 := Lib.hid (show q = false by rw [hq'.out]; exact decide_eq_false (fun h => hE h.2))
          have hEb : (E == 0) = false := beq_eq_false_iff_ne.2 hE
          clear hM hE
          go_region_held3 (fun w' => w'.cell? ⟨w2.heap.size, 0, none⟩ = some (.bool false) ∧ w'.cell? ⟨w2.heap.size, 1, none⟩ = some (.slice am2 (digs DD M).length km2) ∧ w'.cell? ⟨w2.heap.size, 2, none⟩ = some (.int .i64 E))
            (first | exact zd.out | exact z1.out | exact z2.out)
            (first
              | (go_at_call 17; (with_reducible refine (HN1.out _).mono ?_); rintro e y1 ⟨va, rfl, ta1, hz1⟩; have m1 := md.below hz1; have Q1 := Qd.below hz1; have B1 := Dw.trans (hz1.mono Dw.size); have z1 := Lib.hid (cells33 Q1))
              | (go_at_call 13; (with_reducible refine (rcmp_n m1 ta1 ec.out (by omega)).mono ?_); rintro e y2 ⟨rfl, hz2⟩; have Q2 := Q1.below hz2; have B2 := B1.trans (hz2.mono B1.size); have z2 := Lib.hid (cells33 Q2))
              | fail)
          all_goals
            go_wp2_with fail
            go_meet
            exact ⟨by rw [q1.out], by assumption⟩
      · have q1 := Lib.hid (show q = false by rw [hq'.out]; exact decide_eq_false (fun h => hM h.1))
        have ec := Lib.hid (show cmpN M 1 = 1 from cmpN_gt (by omega))
        clear hM cQ0_9 cQ1_9 cQ2_9 fQ0_9 fQ1_9 fQ2_9 sQ_9
        obtain ⟨dQ0, dQ1, dQ2, gQ0, gQ1, gQ2, sQd⟩ := Qd.open3
        (first | (go_region_with
          (first
            | (go_at_call 17; (with_reducible refine (HN1.out _).mono ?_); rintro e y1 ⟨va, rfl, ta1, hz1⟩; have m1 := md.below hz1; have Q1 := Qd.below hz1; have B1 := Dw.trans (hz1.mono Dw.size); obtain ⟨hQ0, hQ1, hQ2, iQ0, iQ1, iQ2, sQ1⟩ := Q1.open3)
            | (go_at_call 13; (with_reducible refine (rcmp_n m1 ta1 ec.out (by omega)).mono ?_); rintro e y2 ⟨rfl, hz2⟩; have B2 := B1.trans (hz2.mono B1.size))
            | fail)) | fail)
        all_goals
          go_wp2_with fail
          go_meet
          exact ⟨by rw [q1.out], by assumption⟩
    case rest =>
      obtain ⟨rfl, hb10⟩ := hcut
      generalize hwx : wc = w10 at *
      clear hwx
      have x10 := x9.below hb10; have y10 := y9.below hb10; have m10 := m9.below hb10; have I10 := I9.below hb10; have Q10 := Q9.below hb10; have B10 := B9.trans (hb10.mono B9.size)
      clear x9 y9 m9 I9 Q9 P9 B9 z9 T9 u9 v9 cP0_9 cP1_9 cP2_9 fP0_9 fP1_9 fP2_9 sP_9 cI0_9 cI1_9 cI2_9 cI3_9 cI4_9 cI5_9 fI0_9 fI1_9 fI2_9 fI3_9 fI4_9 fI5_9 sI_9 cQ0_9 cQ1_9 cQ2_9 fQ0_9 fQ1_9 fQ2_9 sQ_9
      obtain ⟨cI0_9, cI1_9, cI2_9, cI3_9, cI4_9, cI5_9, fI0_9, fI1_9, fI2_9, fI3_9, fI4_9, fI5_9, sI_9⟩ := I10.open6
      go_upto_region 13 with fail
      go_cut [118] (fun v w' => v = .bool false ∧ w' = w10)
      case first =>
        cases q
        · go_wp2_with fail
          go_meet
          exact ⟨rfl, rfl⟩
        · have hMM := of_decide_eq_true hq'.out.symm
          have hz := ok'.out.one hMM.1 hMM.2
          have l1 : (digs BB ma).length = 0 := by rw [show ma = 0 from hz.1]; rfl
          have l2 : (digs BB mb).length = 0 := by rw [show mb = 0 from hz.2]; rfl
          clear hMM hz
          go_wp2_with fail
          go_meet
          exact ⟨rfl, rfl⟩
      case rest =>
        obtain ⟨rfl, hw⟩ := hcut
        subst hw
        by_cases h4 : 400 < S
        · have dS : decide (400 < (S : Int)) = true := decide_eq_true (by omega)
          go_wp2_with fail
          go_ret
          exact ⟨rfl, by assumption⟩
        have dS : decide (400 < (S : Int)) = false := decide_eq_false (by omega)
        obtain ⟨m, hm⟩ : ∃ m : Nat, S + 80 = m := ⟨_, rfl⟩
        have wm : IntKind.i64.wrap ((S : Int) + 80) = (m : Int) := by rw [IntKind.wrap_i64]; omega
        have hm' := Lib.hid (show m ≤ 480 by omega)
        clear hm
        go_upto_region 18 with fail
        have Dw : Below wc.heap.size wc wc.drew := below_drewN (Below.refl _ _) 1
        have md := m10.below Dw; have Qd := Q10.below Dw; have Id := I10.below Dw; have xd := x10.below Dw; have yd := y10.below Dw; have Bd := B10.trans (Dw.mono B10.size)
        have zd := Lib.hid (And.intro (cells46 Id) (cells33 Qd))
        clear cI0_9 cI1_9 cI2_9 cI3_9 cI4_9 cI5_9 fI0_9 fI1_9 fI2_9 fI3_9 fI4_9 fI5_9 sI_9
        go_region_held3 (fun w' => (w'.cell? ⟨w3.heap.size, 0, none⟩ = some (.bool na) ∧ w'.cell? ⟨w3.heap.size, 1, none⟩ = some (.slice ax3 (digs BB ma).length kx3) ∧ w'.cell? ⟨w3.heap.size, 2, none⟩ = some (.int .i64 ea) ∧ w'.cell? ⟨w3.heap.size, 3, none⟩ = some (.bool nb) ∧ w'.cell? ⟨w3.heap.size, 4, none⟩ = some (.slice ay3 (digs BB mb).length ky3) ∧ w'.cell? ⟨w3.heap.size, 5, none⟩ = some (.int .i64 eb)) ∧ (w'.cell? ⟨w2.heap.size, 0, none⟩ = some (.bool false) ∧ w'.cell? ⟨w2.heap.size, 1, none⟩ = some (.slice am2 (digs DD M).length km2) ∧ w'.cell? ⟨w2.heap.size, 2, none⟩ = some (.int .i64 E)))
          (first | exact zd.out | exact z1.out | exact z2.out | exact z3.out)
          (first
            | (go_at_call 24; (with_reducible refine (HRL.out _ _ _ hm'.out md).mono ?_); rintro e y1 ⟨nl, ml, el, vl, rfl, gl, tl1, hz1⟩; have x1 := xd.below hz1; have y1' := yd.below hz1; have Q1 := Qd.below hz1; have I1 := Id.below hz1; have B1 := Bd.trans (hz1.mono Bd.size); have z1 := Lib.hid (And.intro (cells46 I1) (cells33 Q1)))
            | (go_at_call 25; (with_reducible refine (HFF.out _ _ hm'.out).mono ?_); rintro e y2 ⟨vo, rfl, to2, hz2⟩; have x2 := x1.below hz2; have y2' := y1'.below hz2; have tl2 := tl1.below hz2; have Q2 := Q1.below hz2; have I2 := I1.below hz2; have B2 := B1.trans (hz2.mono B1.size); have z2 := Lib.hid (And.intro (cells46 I2) (cells33 Q2)))
            | (go_at_call 23; (with_reducible refine (HHO.out _ _ _ _ _ _ _ _ _ _ _ _ _ _ _ hm'.out x2 y2' ok'.out tl2 gl to2).mono ?_); rintro e y3 ⟨rfl, hz3⟩; have Q3 := Q2.below hz3; have I3 := I2.below hz3; have B3 := B2.trans (hz3.mono B2.size); have z3 := Lib.hid (And.intro (cells46 I3) (cells33 Q3)))
            | fail)
        all_goals
          go_wp2_with fail
          go_ret
          exact ⟨rfl, by assumption⟩
end Go.Proofs.YtngicppjljbafaaDoor.PLTell
