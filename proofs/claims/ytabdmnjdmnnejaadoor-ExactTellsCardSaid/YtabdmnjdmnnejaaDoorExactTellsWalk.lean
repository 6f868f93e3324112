/- ExactTells returns true and leaves what was there: the walk. Conditions: math/bits' table stands in its variable. -/
import Derived.Test.YtabdmnjdmnnejaaDoorTl4
import Derived.Test.YtabdmnjdmnnejaaDoorRefC
import Derived.Test.YtabdmnjdmnnejaaDoorOnceLaw
namespace Go.Proofs.YtabdmnjdmnnejaaDoor.PETells
set_option maxRecDepth 100000
open Go.RowKit Go.Proofs.YtabdmnjdmnnejaaDoor
set_option linter.unusedVariables false
set_option linter.unusedSimpArgs false

theorem powR_odd {M k P : Nat} {E m F : Int} (h : PowR M E m (k : Int) true P F) : P % 2 = 1 ∧ isBrk P F = true := by
  rcases h with ⟨-, -, rfl, rfl⟩ | ⟨-, -, h1, h2, -⟩ | ⟨-, h, -⟩
  · exact ⟨by decide, by decide⟩
  · exact ⟨h2, h1⟩
  · exact absurd h (by decide)
theorem powR_no {M k P : Nat} {E m F : Int} (h : PowR M E m (k : Int) false P F) : P = 0 ∧ F = 0 := by
  rcases h with ⟨-, h, -⟩ | ⟨-, h, -⟩ | ⟨-, -, h1, h2, -⟩
  · exact absurd h (by decide)
  · exact absurd h (by decide)
  · exact ⟨h1, h2⟩

set_option maxRecDepth 100000 in
set_option maxHeartbeats 8000000 in
theorem walk (b0 : Bool) (a0 : Option Addr) (len0 cap0 : Nat) (zs0 : List Int) (e0 mq kq : Int) (w : World) (w0 : IsRow .u64 w a0 len0 cap0 zs0) (we : (Lit.int .i64 e0).wf = true) (wm : (Lit.int .i64 mq).wf = true) (wk : (Lit.int .i64 kq).wf = true) (hT : Tab w) :
    Calls Tryd.prog 3 #[.agg #[.bool b0, .slice a0 len0 cap0, .int .i64 e0], .agg #[.int .i64 mq, .int .i64 kq]] w fun e w' => e = .returned (.bool true) ∧ Below w.heap.size w w' := by
  obtain ⟨l, hl, dl, RL, hl64⟩ := w0.nums
  have h2 : -9223372036854775808 ≤ e0 ∧ e0 ≤ 9223372036854775807 := by simpa [Lit.wf, IntKind.min, IntKind.max, IntKind.bits, IntKind.signed] using we
  have h3 : -9223372036854775808 ≤ mq ∧ mq ≤ 9223372036854775807 := by simpa [Lit.wf, IntKind.min, IntKind.max, IntKind.bits, IntKind.signed] using wm
  have h4 : -9223372036854775808 ≤ kq ∧ kq ≤ 9223372036854775807 := by simpa [Lit.wf, IntKind.min, IntKind.max, IntKind.bits, IntKind.signed] using wk
  clear w0 we wm wk
  have P := blk_a1 (w := w) (T := 24) (c := #[.bool b0, .slice a0 len0 cap0, .int .i64 e0]) (o := .cells #[.int .i64 mq, .int .i64 kq] 26 (0, 0))
  have Q := blk_a2 (w := w) (T := 26) (o := .cells #[.bool b0, .slice a0 len0 cap0, .int .i64 e0] 24 (0, 0)) (c := #[.int .i64 mq, .int .i64 kq])
  have B0 : Below w.heap.size w ((w.alloc (.cells #[.bool b0, .slice a0 len0 cap0, .int .i64 e0] 24 (0, 0))).alloc (.cells #[.int .i64 mq, .int .i64 kq] 26 (0, 0))) := below_2
  have T0 := hT.below B0
  by_cases hbig : 10 < len0
  · clear RL dl hl
    have dec0 : decide (10 < (len0 : Int)) = true := decide_eq_true (by omega)
    go_enter Tryd.func3, Tryd.ntmps3
    go_upto_region 1 with fail
    generalize hwx : (w.alloc (.cells #[.bool b0, .slice a0 len0 cap0, .int .i64 e0] 24 (0, 0))).alloc (.cells #[.int .i64 mq, .int .i64 kq] 26 (0, 0)) = w0 at *
    clear hwx
    obtain ⟨cP0, cP1, cP2, fP0, fP1, fP2, sP⟩ := P.open3
    obtain ⟨cQ0, cQ1, fQ0, fQ1, sQ⟩ := Q.open2
    go_wp2_with
    (first
      | (go_at_call 7; (with_reducible refine (alive11_any T0).mono ?_); rintro e w1 ⟨rfl, hb1⟩; have B1 := B0.trans (hb1.mono B0.size); have T1 := T0.below hb1; have P1 := P.below hb1; have Q1 := Q.below hb1; clear T0 P Q; obtain ⟨cP0_1, cP1_1, cP2_1, fP0_1, fP1_1, fP2_1, sP_1⟩ := P1.open3; obtain ⟨cQ0_1, cQ1_1, fQ0_1, fQ1_1, sQ_1⟩ := Q1.open2)
      | fail)
    all_goals
      go_ret
      exact ⟨rfl, by assumption⟩
  have dec0 : decide (10 < (len0 : Int)) = false := decide_eq_false (by omega)
  have bA := val_bits dl (show l.length ≤ 20 by omega)
  have RA := RL.numl dl (by omega)
  have z0 := RA.below B0
  clear dl RL hl RA
  generalize val BB l = A at *
  obtain ⟨⟨n', M, E⟩, ed⟩ : ∃ d, bareD ⟨b0, A, e0⟩ = d := ⟨_, rfl⟩
  have sM : bitN M ≤ 1280 := Nat.le_trans (bareD_bits ed) (by omega)
  have HO := Lib.hid (fun w v (h : Num w v A) => ROf_n h (by omega) h2.1 h2.2 ed)
  have HP9 : (fitsE E = false ∨ signD ⟨n', M, E⟩ ≤ 0 ∨ kq < 1) → Hid (∀ (w : World) v, Num w v A → Tab w → Calls Tryd.prog 9 #[.agg #[.bool b0, v, .int .i64 e0], .agg #[.int .i64 mq, .int .i64 kq]] w (fun e w' => e = .returned (.tuple #[.agg #[.bool false, .slice none 0 0, .int .i64 0], .bool false, .int .i64 1]) ∧ Below w.heap.size w w')) := fun hb => Lib.hid (fun w v h hT => Power_arg h hT h2.1 h2.2 ed (by omega) h3.1 h3.2 h4.2 hb)
  by_cases hf : fitsE E = true
  rotate_left
  · have HP := HP9 (.inl (by simpa using hf))
    have ff : fitsE E = false := by simpa using hf
    clear HP9 hf ed
    go_enter Tryd.func3, Tryd.ntmps3
    go_upto_region 1 with fail
    generalize hwx : (w.alloc (.cells #[.bool b0, .slice a0 len0 cap0, .int .i64 e0] 24 (0, 0))).alloc (.cells #[.int .i64 mq, .int .i64 kq] 26 (0, 0)) = w0 at *
    clear hwx
    obtain ⟨cP0, cP1, cP2, fP0, fP1, fP2, sP⟩ := P.open3
    obtain ⟨cQ0, cQ1, fQ0, fQ1, sQ⟩ := Q.open2
    go_wp2_with
    (first
      | (go_at_call 7; (with_reducible refine (alive11_any T0).mono ?_); rintro e w1 ⟨rfl, hb1⟩; have B1 := B0.trans (hb1.mono B0.size); have z1 := z0.below hb1; have T1 := T0.below hb1; have P1 := P.below hb1; have Q1 := Q.below hb1; clear z0 T0 P Q; obtain ⟨cP0_1, cP1_1, cP2_1, fP0_1, fP1_1, fP2_1, sP_1⟩ := P1.open3; obtain ⟨cQ0_1, cQ1_1, fQ0_1, fQ1_1, sQ_1⟩ := Q1.open2)
      | (go_at_call 8; (with_reducible refine (HO.out _ _ z1).mono ?_); rintro e w2 ⟨vx2, rfl, x2, hb2⟩; have B2 := B1.trans (hb2.mono B1.size); have z2 := z1.below hb2; have T2 := T1.below hb2; have P2 := P1.below hb2; have Q2 := Q1.below hb2; clear z1 T1 P1 Q1; clear cP0_1 cP1_1 cP2_1 fP0_1 fP1_1 fP2_1 sP_1; obtain ⟨cP0_2, cP1_2, cP2_2, fP0_2, fP1_2, fP2_2, sP_2⟩ := P2.open3; clear cQ0_1 cQ1_1 fQ0_1 fQ1_1 sQ_1; obtain ⟨cQ0_2, cQ1_2, fQ0_2, fQ1_2, sQ_2⟩ := Q2.open2; obtain ⟨ax2, kx2, rfl, -⟩ := x2.view; try simp only [List.length_nil] at x2)
      | (go_at_call 9; (with_reducible refine (HP.out _ _ (z2.below (below_alloc _ _)) (T2.below (below_alloc _ _))).mono ?_); rintro e w3 ⟨rfl, hb3⟩; have hb3' := (below_a hb3); have B3 := B2.trans (hb3'.mono B2.size); have z3 := z2.below hb3'; have T3 := T2.below hb3'; have P3 := P2.below hb3'; have Q3 := Q2.below hb3'; have x3 := x2.below hb3'; clear z2 T2 P2 Q2 x2; have X3 := blk_new.below hb3; clear cP0_2 cP1_2 cP2_2 fP0_2 fP1_2 fP2_2 sP_2; obtain ⟨cP0_3, cP1_3, cP2_3, fP0_3, fP1_3, fP2_3, sP_3⟩ := P3.open3; clear cQ0_2 cQ1_2 fQ0_2 fQ1_2 sQ_2; obtain ⟨cQ0_3, cQ1_3, fQ0_3, fQ1_3, sQ_3⟩ := Q3.open2; obtain ⟨cX0_3, cX1_3, cX2_3, fX0_3, fX1_3, fX2_3, sX_3⟩ := X3.open3)
      | (go_at_call 10; (with_reducible refine (RFits_n).mono ?_); rintro e w4 ⟨rfl, hb4⟩; have hb4' := (below_a hb4); have B4 := B3.trans (hb4'.mono B3.size); have z4 := z3.below hb4'; have T4 := T3.below hb4'; have P4 := P3.below hb4'; have Q4 := Q3.below hb4'; have x4 := x3.below hb4'; have X4 := X3.below hb4'; clear z3 T3 P3 Q3 x3 X3; have Y4 := blk_new.below hb4; clear cP0_3 cP1_3 cP2_3 fP0_3 fP1_3 fP2_3 sP_3; obtain ⟨cP0_4, cP1_4, cP2_4, fP0_4, fP1_4, fP2_4, sP_4⟩ := P4.open3; clear cQ0_3 cQ1_3 fQ0_3 fQ1_3 sQ_3; obtain ⟨cQ0_4, cQ1_4, fQ0_4, fQ1_4, sQ_4⟩ := Q4.open2; clear cX0_3 cX1_3 cX2_3 fX0_3 fX1_3 fX2_3 sX_3; obtain ⟨cX0_4, cX1_4, cX2_4, fX0_4, fX1_4, fX2_4, sX_4⟩ := X4.open3; obtain ⟨cY0_4, cY1_4, cY2_4, fY0_4, fY1_4, fY2_4, sY_4⟩ := Y4.open3)
      | fail)
    all_goals
      go_ret
      exact ⟨rfl, by assumption⟩
  by_cases hs : signD ⟨n', M, E⟩ ≤ 0
  · have HP := HP9 (.inr (.inl hs))
    obtain ⟨s, hs2⟩ : ∃ s, signD ⟨n', M, E⟩ = s := ⟨_, rfl⟩
    have HSG := Lib.hid (fun w v (h : RdD w v (digs DD M)) => RSign_n h hs2)
    rw [hs2] at hs
    have ds : decide (s ≤ 0) = true := decide_eq_true hs
    clear HP9 ed hs hs2
    go_enter Tryd.func3, Tryd.ntmps3
    go_upto_region 1 with fail
    generalize hwx : (w.alloc (.cells #[.bool b0, .slice a0 len0 cap0, .int .i64 e0] 24 (0, 0))).alloc (.cells #[.int .i64 mq, .int .i64 kq] 26 (0, 0)) = w0 at *
    clear hwx
    obtain ⟨cP0, cP1, cP2, fP0, fP1, fP2, sP⟩ := P.open3
    obtain ⟨cQ0, cQ1, fQ0, fQ1, sQ⟩ := Q.open2
    go_wp2_with
    (first
      | (go_at_call 7; (with_reducible refine (alive11_any T0).mono ?_); rintro e w1 ⟨rfl, hb1⟩; have B1 := B0.trans (hb1.mono B0.size); have z1 := z0.below hb1; have T1 := T0.below hb1; have P1 := P.below hb1; have Q1 := Q.below hb1; clear z0 T0 P Q; obtain ⟨cP0_1, cP1_1, cP2_1, fP0_1, fP1_1, fP2_1, sP_1⟩ := P1.open3; obtain ⟨cQ0_1, cQ1_1, fQ0_1, fQ1_1, sQ_1⟩ := Q1.open2)
      | (go_at_call 8; (with_reducible refine (HO.out _ _ z1).mono ?_); rintro e w2 ⟨vx2, rfl, x2, hb2⟩; have B2 := B1.trans (hb2.mono B1.size); have z2 := z1.below hb2; have T2 := T1.below hb2; have P2 := P1.below hb2; have Q2 := Q1.below hb2; clear z1 T1 P1 Q1; clear cP0_1 cP1_1 cP2_1 fP0_1 fP1_1 fP2_1 sP_1; obtain ⟨cP0_2, cP1_2, cP2_2, fP0_2, fP1_2, fP2_2, sP_2⟩ := P2.open3; clear cQ0_1 cQ1_1 fQ0_1 fQ1_1 sQ_1; obtain ⟨cQ0_2, cQ1_2, fQ0_2, fQ1_2, sQ_2⟩ := Q2.open2; obtain ⟨ax2, kx2, rfl, -⟩ := x2.view; try simp only [List.length_nil] at x2)
      | (go_at_call 9; (with_reducible refine (HP.out _ _ (z2.below (below_alloc _ _)) (T2.below (below_alloc _ _))).mono ?_); rintro e w3 ⟨rfl, hb3⟩; have hb3' := (below_a hb3); have B3 := B2.trans (hb3'.mono B2.size); have z3 := z2.below hb3'; have T3 := T2.below hb3'; have P3 := P2.below hb3'; have Q3 := Q2.below hb3'; have x3 := x2.below hb3'; clear z2 T2 P2 Q2 x2; have X3 := blk_new.below hb3; clear cP0_2 cP1_2 cP2_2 fP0_2 fP1_2 fP2_2 sP_2; obtain ⟨cP0_3, cP1_3, cP2_3, fP0_3, fP1_3, fP2_3, sP_3⟩ := P3.open3; clear cQ0_2 cQ1_2 fQ0_2 fQ1_2 sQ_2; obtain ⟨cQ0_3, cQ1_3, fQ0_3, fQ1_3, sQ_3⟩ := Q3.open2; obtain ⟨cX0_3, cX1_3, cX2_3, fX0_3, fX1_3, fX2_3, sX_3⟩ := X3.open3)
      | (go_at_call 10; (with_reducible refine (RFits_n).mono ?_); rintro e w4 ⟨rfl, hb4⟩; have hb4' := (below_a hb4); have B4 := B3.trans (hb4'.mono B3.size); have z4 := z3.below hb4'; have T4 := T3.below hb4'; have P4 := P3.below hb4'; have Q4 := Q3.below hb4'; have x4 := x3.below hb4'; have X4 := X3.below hb4'; clear z3 T3 P3 Q3 x3 X3; have Y4 := blk_new.below hb4; clear cP0_3 cP1_3 cP2_3 fP0_3 fP1_3 fP2_3 sP_3; obtain ⟨cP0_4, cP1_4, cP2_4, fP0_4, fP1_4, fP2_4, sP_4⟩ := P4.open3; clear cQ0_3 cQ1_3 fQ0_3 fQ1_3 sQ_3; obtain ⟨cQ0_4, cQ1_4, fQ0_4, fQ1_4, sQ_4⟩ := Q4.open2; clear cX0_3 cX1_3 cX2_3 fX0_3 fX1_3 fX2_3 sX_3; obtain ⟨cX0_4, cX1_4, cX2_4, fX0_4, fX1_4, fX2_4, sX_4⟩ := X4.open3; obtain ⟨cY0_4, cY1_4, cY2_4, fY0_4, fY1_4, fY2_4, sY_4⟩ := Y4.open3)
      | (go_at_call 11; (with_reducible refine (HSG.out _ _ x4).mono ?_); rintro e w5 ⟨rfl, hb5⟩; have B5 := B4.trans (hb5.mono B4.size); have z5 := z4.below hb5; have T5 := T4.below hb5; have P5 := P4.below hb5; have Q5 := Q4.below hb5; have x5 := x4.below hb5; have X5 := X4.below hb5; have Y5 := Y4.below hb5; clear z4 T4 P4 Q4 x4 X4 Y4; clear cP0_4 cP1_4 cP2_4 fP0_4 fP1_4 fP2_4 sP_4; obtain ⟨cP0_5, cP1_5, cP2_5, fP0_5, fP1_5, fP2_5, sP_5⟩ := P5.open3; clear cQ0_4 cQ1_4 fQ0_4 fQ1_4 sQ_4; obtain ⟨cQ0_5, cQ1_5, fQ0_5, fQ1_5, sQ_5⟩ := Q5.open2; clear cX0_4 cX1_4 cX2_4 fX0_4 fX1_4 fX2_4 sX_4; obtain ⟨cX0_5, cX1_5, cX2_5, fX0_5, fX1_5, fX2_5, sX_5⟩ := X5.open3; clear cY0_4 cY1_4 cY2_4 fY0_4 fY1_4 fY2_4 sY_4; obtain ⟨cY0_5, cY1_5, cY2_5, fY0_5, fY1_5, fY2_5, sY_5⟩ := Y5.open3)
      | fail)
    all_goals
      go_ret
      exact ⟨rfl, by assumption⟩
  have hM0 : M ≠ 0 := fun h => hs (by rw [h]; unfold signD; simp)
  obtain rfl : n' = false := by
    cases n'
    · rfl
    · exact absurd (show signD ⟨true, M, E⟩ ≤ 0 by unfold signD; rw [if_neg hM0]; simp) hs
  have hs1 : signD ⟨false, M, E⟩ = 1 := by unfold signD; rw [if_neg hM0]; rfl
  have HSG := Lib.hid (fun w v (h : RdD w v (digs DD M)) => RSign_n h hs1)
  by_cases hk : kq < 1
  · have HP := HP9 (.inr (.inr hk))
    have dk : decide (kq < 1) = true := decide_eq_true hk
    clear HP9 ed hs hs1 hk
    go_enter Tryd.func3, Tryd.ntmps3
    go_upto_region 1 with fail
    generalize hwx : (w.alloc (.cells #[.bool b0, .slice a0 len0 cap0, .int .i64 e0] 24 (0, 0))).alloc (.cells #[.int .i64 mq, .int .i64 kq] 26 (0, 0)) = w0 at *
    clear hwx
    obtain ⟨cP0, cP1, cP2, fP0, fP1, fP2, sP⟩ := P.open3
    obtain ⟨cQ0, cQ1, fQ0, fQ1, sQ⟩ := Q.open2
    go_wp2_with
    (first
      | (go_at_call 7; (with_reducible refine (alive11_any T0).mono ?_); rintro e w1 ⟨rfl, hb1⟩; have B1 := B0.trans (hb1.mono B0.size); have z1 := z0.below hb1; have T1 := T0.below hb1; have P1 := P.below hb1; have Q1 := Q.below hb1; clear z0 T0 P Q; obtain ⟨cP0_1, cP1_1, cP2_1, fP0_1, fP1_1, fP2_1, sP_1⟩ := P1.open3; obtain ⟨cQ0_1, cQ1_1, fQ0_1, fQ1_1, sQ_1⟩ := Q1.open2)
      | (go_at_call 8; (with_reducible refine (HO.out _ _ z1).mono ?_); rintro e w2 ⟨vx2, rfl, x2, hb2⟩; have B2 := B1.trans (hb2.mono B1.size); have z2 := z1.below hb2; have T2 := T1.below hb2; have P2 := P1.below hb2; have Q2 := Q1.below hb2; clear z1 T1 P1 Q1; clear cP0_1 cP1_1 cP2_1 fP0_1 fP1_1 fP2_1 sP_1; obtain ⟨cP0_2, cP1_2, cP2_2, fP0_2, fP1_2, fP2_2, sP_2⟩ := P2.open3; clear cQ0_1 cQ1_1 fQ0_1 fQ1_1 sQ_1; obtain ⟨cQ0_2, cQ1_2, fQ0_2, fQ1_2, sQ_2⟩ := Q2.open2; obtain ⟨ax2, kx2, rfl, -⟩ := x2.view; try simp only [List.length_nil] at x2)
      | (go_at_call 9; (with_reducible refine (HP.out _ _ (z2.below (below_alloc _ _)) (T2.below (below_alloc _ _))).mono ?_); rintro e w3 ⟨rfl, hb3⟩; have hb3' := (below_a hb3); have B3 := B2.trans (hb3'.mono B2.size); have z3 := z2.below hb3'; have T3 := T2.below hb3'; have P3 := P2.below hb3'; have Q3 := Q2.below hb3'; have x3 := x2.below hb3'; clear z2 T2 P2 Q2 x2; have X3 := blk_new.below hb3; clear cP0_2 cP1_2 cP2_2 fP0_2 fP1_2 fP2_2 sP_2; obtain ⟨cP0_3, cP1_3, cP2_3, fP0_3, fP1_3, fP2_3, sP_3⟩ := P3.open3; clear cQ0_2 cQ1_2 fQ0_2 fQ1_2 sQ_2; obtain ⟨cQ0_3, cQ1_3, fQ0_3, fQ1_3, sQ_3⟩ := Q3.open2; obtain ⟨cX0_3, cX1_3, cX2_3, fX0_3, fX1_3, fX2_3, sX_3⟩ := X3.open3)
      | (go_at_call 10; (with_reducible refine (RFits_n).mono ?_); rintro e w4 ⟨rfl, hb4⟩; have hb4' := (below_a hb4); have B4 := B3.trans (hb4'.mono B3.size); have z4 := z3.below hb4'; have T4 := T3.below hb4'; have P4 := P3.below hb4'; have Q4 := Q3.below hb4'; have x4 := x3.below hb4'; have X4 := X3.below hb4'; clear z3 T3 P3 Q3 x3 X3; have Y4 := blk_new.below hb4; clear cP0_3 cP1_3 cP2_3 fP0_3 fP1_3 fP2_3 sP_3; obtain ⟨cP0_4, cP1_4, cP2_4, fP0_4, fP1_4, fP2_4, sP_4⟩ := P4.open3; clear cQ0_3 cQ1_3 fQ0_3 fQ1_3 sQ_3; obtain ⟨cQ0_4, cQ1_4, fQ0_4, fQ1_4, sQ_4⟩ := Q4.open2; clear cX0_3 cX1_3 cX2_3 fX0_3 fX1_3 fX2_3 sX_3; obtain ⟨cX0_4, cX1_4, cX2_4, fX0_4, fX1_4, fX2_4, sX_4⟩ := X4.open3; obtain ⟨cY0_4, cY1_4, cY2_4, fY0_4, fY1_4, fY2_4, sY_4⟩ := Y4.open3)
      | (go_at_call 11; (with_reducible refine (HSG.out _ _ x4).mono ?_); rintro e w5 ⟨rfl, hb5⟩; have B5 := B4.trans (hb5.mono B4.size); have z5 := z4.below hb5; have T5 := T4.below hb5; have P5 := P4.below hb5; have Q5 := Q4.below hb5; have x5 := x4.below hb5; have X5 := X4.below hb5; have Y5 := Y4.below hb5; clear z4 T4 P4 Q4 x4 X4 Y4; clear cP0_4 cP1_4 cP2_4 fP0_4 fP1_4 fP2_4 sP_4; obtain ⟨cP0_5, cP1_5, cP2_5, fP0_5, fP1_5, fP2_5, sP_5⟩ := P5.open3; clear cQ0_4 cQ1_4 fQ0_4 fQ1_4 sQ_4; obtain ⟨cQ0_5, cQ1_5, fQ0_5, fQ1_5, sQ_5⟩ := Q5.open2; clear cX0_4 cX1_4 cX2_4 fX0_4 fX1_4 fX2_4 sX_4; obtain ⟨cX0_5, cX1_5, cX2_5, fX0_5, fX1_5, fX2_5, sX_5⟩ := X5.open3; clear cY0_4 cY1_4 cY2_4 fY0_4 fY1_4 fY2_4 sY_4; obtain ⟨cY0_5, cY1_5, cY2_5, fY0_5, fY1_5, fY2_5, sY_5⟩ := Y5.open3)
      | fail)
    all_goals
      go_ret
      exact ⟨rfl, by assumption⟩
  have dk : decide (kq < 1) = false := decide_eq_false hk
  clear HP9 hs1 hs
  have hodd := bareD_oddM ed hM0
  obtain ⟨kn, rfl⟩ : ∃ kn : Nat, kq = (kn : Int) := ⟨kq.toNat, by omega⟩
  obtain ⟨g, hg⟩ : ∃ g, Nat.gcd mq.natAbs kn = g := ⟨_, rfl⟩
  have hg1 : 1 ≤ g := by rw [← hg]; exact Nat.gcd_pos_of_pos_right _ (by omega)
  obtain ⟨m, em⟩ : ∃ m : Int, mq = m * (g : Int) := by
    have h5 : g ∣ mq.natAbs := by rw [← hg]; exact Nat.gcd_dvd_left _ _
    obtain ⟨t, ht⟩ := Int.natAbs_dvd_natAbs.1 (show (g : Int).natAbs ∣ mq.natAbs by rwa [Int.natAbs_natCast])
    exact ⟨t, by rw [ht, Int.mul_comm]⟩
  obtain ⟨k, ek⟩ : ∃ k : Nat, kn = k * g := by
    obtain ⟨t, ht⟩ := (show g ∣ kn by rw [← hg]; exact Nat.gcd_dvd_right _ _)
    exact ⟨t, by rw [ht, Nat.mul_comm]⟩
  have hgcd : Nat.gcd m.natAbs k = 1 := by
    rw [em, ek, Int.natAbs_mul, Int.natAbs_natCast, Nat.gcd_mul_right] at hg
    exact Nat.eq_of_mul_eq_mul_right (show 0 < g by omega) (by rw [hg, Nat.one_mul])
  have hk1 : 1 ≤ k := by
    rcases Nat.eq_zero_or_pos k with h | h
    · rw [h, Nat.zero_mul] at ek; omega
    · exact h
  have TL : Hid (∀ ok P F low is P2 F2, PowR M E m (k : Int) ok P F → BelowR (czOf M E mq kn) low → RefP (czOf M E mq kn) (cmOf M E mq kn) low is P2 F2 → is = ok ∧ P2 = P ∧ F2 = F) := Lib.hid (fun ok P F low is P2 F2 hp hB hr => by
    rw [em, ek] at hB hr
    exact tell_law hodd hk1 hg1 hgcd hp hB hr)
  have HP : Hid (∀ (w : World) v, Num w v A → Tab w → Calls Tryd.prog 9 #[.agg #[.bool b0, v, .int .i64 e0], .agg #[.int .i64 mq, .int .i64 (kn : Int)]] w (fun e w' => ∃ ok P F u, e = .returned (.tuple #[.agg #[.bool false, u, .int .i64 F], .bool ok, .int .i64 0]) ∧ PowR M E m (k : Int) ok P F ∧ RdN w' u (digs BB P) ∧ Below w.heap.size w w')) := Lib.hid (fun w v h hT => by
    refine (Power_ok (k := k) (g := g) (m := m) h hT h2.1 h2.2 ed hf hM0 (by omega) h3.1 h3.2 (by omega) h4.2 hg em (by rw [ek, Int.natCast_mul])).mono ?_
    rintro e w' ⟨ok, P, F, a, n, kk, rfl, hp, hrd, hb⟩
    exact ⟨ok, P, F, _, rfl, hp, hrd, hb⟩)
  have HNR := Lib.hid (fun w v (h : RdD w v (digs DD M)) => RNear_n (neg := false) (E := E) (m := mq) (K := (kn : Int)) h (by omega) (by omega))
  have hk1 := Lib.hid (show 1 ≤ kn by omega); have hM0 := Lib.hid hM0
  clear ed hk em ek hg hg1 hgcd hodd h2 h3 h4 hbig bA
  go_enter Tryd.func3, Tryd.ntmps3
  go_upto_region 1 with fail
  generalize hwx : (w.alloc (.cells #[.bool b0, .slice a0 len0 cap0, .int .i64 e0] 24 (0, 0))).alloc (.cells #[.int .i64 mq, .int .i64 (kn : Int)] 26 (0, 0)) = w0 at *
  clear hwx
  obtain ⟨cP0, cP1, cP2, fP0, fP1, fP2, sP⟩ := P.open3
  obtain ⟨cQ0, cQ1, fQ0, fQ1, sQ⟩ := Q.open2
  go_upto_region 9 with
  (first
    | (go_at_call 7; (with_reducible refine (alive11_any T0).mono ?_); rintro e w1 ⟨rfl, hb1⟩; have B1 := B0.trans (hb1.mono B0.size); have z1 := z0.below hb1; have T1 := T0.below hb1; have P1 := P.below hb1; have Q1 := Q.below hb1; clear z0 T0 P Q; obtain ⟨cP0_1, cP1_1, cP2_1, fP0_1, fP1_1, fP2_1, sP_1⟩ := P1.open3; obtain ⟨cQ0_1, cQ1_1, fQ0_1, fQ1_1, sQ_1⟩ := Q1.open2)
    | (go_at_call 8; (with_reducible refine (HO.out _ _ z1).mono ?_); rintro e w2 ⟨vx2, rfl, x2, hb2⟩; have B2 := B1.trans (hb2.mono B1.size); have z2 := z1.below hb2; have T2 := T1.below hb2; have P2 := P1.below hb2; have Q2 := Q1.below hb2; clear z1 T1 P1 Q1; clear cP0_1 cP1_1 cP2_1 fP0_1 fP1_1 fP2_1 sP_1; obtain ⟨cP0_2, cP1_2, cP2_2, fP0_2, fP1_2, fP2_2, sP_2⟩ := P2.open3; clear cQ0_1 cQ1_1 fQ0_1 fQ1_1 sQ_1; obtain ⟨cQ0_2, cQ1_2, fQ0_2, fQ1_2, sQ_2⟩ := Q2.open2; obtain ⟨ax2, kx2, rfl, -⟩ := x2.view; try simp only [List.length_nil] at x2)
    | (go_at_call 9; (with_reducible refine (HP.out _ _ (z2.below (below_alloc _ _)) (T2.below (below_alloc _ _))).mono ?_); rintro e w3 ⟨ok, pP, pF, vu, rfl, hp, u3, hb3⟩; have hb3' := (below_a hb3); have B3 := B2.trans (hb3'.mono B2.size); have z3 := z2.below hb3'; have T3 := T2.below hb3'; have P3 := P2.below hb3'; have Q3 := Q2.below hb3'; have x3 := x2.below hb3'; clear z2 T2 P2 Q2 x2; have X3 := blk_new.below hb3; clear cP0_2 cP1_2 cP2_2 fP0_2 fP1_2 fP2_2 sP_2; obtain ⟨cP0_3, cP1_3, cP2_3, fP0_3, fP1_3, fP2_3, sP_3⟩ := P3.open3; clear cQ0_2 cQ1_2 fQ0_2 fQ1_2 sQ_2; obtain ⟨cQ0_3, cQ1_3, fQ0_3, fQ1_3, sQ_3⟩ := Q3.open2; obtain ⟨cX0_3, cX1_3, cX2_3, fX0_3, fX1_3, fX2_3, sX_3⟩ := X3.open3; obtain ⟨au3, ku3, rfl, -⟩ := u3.view; try simp only [List.length_nil] at u3)
    | (go_at_call 10; (with_reducible refine (RFits_n).mono ?_); rintro e w4 ⟨rfl, hb4⟩; have hb4' := (below_a hb4); have B4 := B3.trans (hb4'.mono B3.size); have z4 := z3.below hb4'; have T4 := T3.below hb4'; have P4 := P3.below hb4'; have Q4 := Q3.below hb4'; have x4 := x3.below hb4'; have X4 := X3.below hb4'; have u4 := u3.below hb4'; clear z3 T3 P3 Q3 x3 X3 u3; have Y4 := blk_new.below hb4; clear cP0_3 cP1_3 cP2_3 fP0_3 fP1_3 fP2_3 sP_3; obtain ⟨cP0_4, cP1_4, cP2_4, fP0_4, fP1_4, fP2_4, sP_4⟩ := P4.open3; clear cQ0_3 cQ1_3 fQ0_3 fQ1_3 sQ_3; obtain ⟨cQ0_4, cQ1_4, fQ0_4, fQ1_4, sQ_4⟩ := Q4.open2; clear cX0_3 cX1_3 cX2_3 fX0_3 fX1_3 fX2_3 sX_3; obtain ⟨cX0_4, cX1_4, cX2_4, fX0_4, fX1_4, fX2_4, sX_4⟩ := X4.open3; obtain ⟨cY0_4, cY1_4, cY2_4, fY0_4, fY1_4, fY2_4, sY_4⟩ := Y4.open3)
    | (go_at_call 11; (with_reducible refine (HSG.out _ _ x4).mono ?_); rintro e w5 ⟨rfl, hb5⟩; have B5 := B4.trans (hb5.mono B4.size); have z5 := z4.below hb5; have T5 := T4.below hb5; have P5 := P4.below hb5; have Q5 := Q4.below hb5; have x5 := x4.below hb5; have X5 := X4.below hb5; have u5 := u4.below hb5; have Y5 := Y4.below hb5; clear z4 T4 P4 Q4 x4 X4 u4 Y4; clear cP0_4 cP1_4 cP2_4 fP0_4 fP1_4 fP2_4 sP_4; obtain ⟨cP0_5, cP1_5, cP2_5, fP0_5, fP1_5, fP2_5, sP_5⟩ := P5.open3; clear cQ0_4 cQ1_4 fQ0_4 fQ1_4 sQ_4; obtain ⟨cQ0_5, cQ1_5, fQ0_5, fQ1_5, sQ_5⟩ := Q5.open2; clear cX0_4 cX1_4 cX2_4 fX0_4 fX1_4 fX2_4 sX_4; obtain ⟨cX0_5, cX1_5, cX2_5, fX0_5, fX1_5, fX2_5, sX_5⟩ := X5.open3; clear cY0_4 cY1_4 cY2_4 fY0_4 fY1_4 fY2_4 sY_4; obtain ⟨cY0_5, cY1_5, cY2_5, fY0_5, fY1_5, fY2_5, sY_5⟩ := Y5.open3)
    | fail)
  have hp := Lib.hid hp
  clear z5 HO HP HSG
  cases ok
  · obtain ⟨e1, e2⟩ := powR_no hp.out
    subst e1; subst e2
    have dz : (digs BB 0).length = 0 := by rw [digs_zero]; rfl
    go_upto_region 11 with fail
    go_cut [79] (fun t w' => ∃ r, t = .bool (!r) ∧ (r = true → mq.natAbs ≤ 60 ∧ (kn : Int) ≤ 40 ∧ bitN M * mq.natAbs ≤ 1500 ∧ E.natAbs ≤ 2000) ∧ Below w5.heap.size w5 w')
    case first =>
      have Bq := Below.refl w5.heap.size w5
      go_wp2_with
      (first
        | (go_at_call 13; (with_reducible refine (HNR.out _ _ x5).mono ?_); rintro e w6 ⟨rr, rfl, hnr, hb6⟩; have B6 := Bq.trans (hb6.mono Bq.size); have x6 := x5.below hb6; have P6 := P5.below hb6; have Q6 := Q5.below hb6; have X6 := X5.below hb6; clear x5 P5 Q5 X5; obtain ⟨cP0_6, cP1_6, cP2_6, fP0_6, fP1_6, fP2_6, sP_6⟩ := P6.open3; obtain ⟨cQ0_6, cQ1_6, fQ0_6, fQ1_6, sQ_6⟩ := Q6.open2; obtain ⟨cX0_6, cX1_6, cX2_6, fX0_6, fX1_6, fX2_6, sX_6⟩ := X6.open3)
        | fail)
      go_meet
      exact ⟨rr, rfl, hnr, by assumption⟩
    case rest =>
      obtain ⟨rr, rfl, hnr, hb6⟩ := hcut
      generalize hwx : wc = w6x at *
      clear hwx
      have x6x := x5.below hb6; have u6x := u5.below hb6; have T6x := T5.below hb6; have P6x := P5.below hb6; have Q6x := Q5.below hb6; have X6x := X5.below hb6; have Y6x := Y5.below hb6
      have B6x := B5.trans (hb6.mono B5.size)
      clear cP0_5 cP1_5 cP2_5 fP0_5 fP1_5 fP2_5 sP_5 cQ0_5 cQ1_5 fQ0_5 fQ1_5 sQ_5 cX0_5 cX1_5 cX2_5 fX0_5 fX1_5 fX2_5 sX_5 cY0_5 cY1_5 cY2_5 fY0_5 fY1_5 fY2_5 sY_5
      clear x5 u5 T5 P5 Q5 X5 Y5 B5 hb6
      cases rr
      · go_wp2_with fail
        all_goals
          go_ret
          exact ⟨rfl, by assumption⟩
      · obtain ⟨r1, r2, r3, r4⟩ := hnr rfl
        have hX : nearX M E mq kn := ⟨hM0.out, r1, hk1.out, by omega, by omega, r3, r4⟩
        have HPW := Lib.hid (fun w v (h : RdD w v (digs DD M)) => RPow11_n hX h)
        clear hX r1 r2 r3 r4 hnr
        obtain ⟨cP0_6, cP1_6, cP2_6, fP0_6, fP1_6, fP2_6, sP_6⟩ := P6x.open3
        obtain ⟨cQ0_6, cQ1_6, fQ0_6, fQ1_6, sQ_6⟩ := Q6x.open2
        obtain ⟨cX0_6, cX1_6, cX2_6, fX0_6, fX1_6, fX2_6, sX_6⟩ := X6x.open3
        obtain ⟨cY0_6, cY1_6, cY2_6, fY0_6, fY1_6, fY2_6, sY_6⟩ := Y6x.open3
        go_upto_region 14 with
        (first
          | (go_at_call 14; (with_reducible refine (HPW.out _ _ x6x).mono ?_); rintro e w7 ⟨is, P2, F2, low, vp, rfl, hBR, hRP, p7, hb7⟩; have B7 := B6x.trans (hb7.mono B6x.size); have x7 := x6x.below hb7; have u7 := u6x.below hb7; have T7 := T6x.below hb7; have P7 := P6x.below hb7; have Q7 := Q6x.below hb7; have X7 := X6x.below hb7; have Y7 := Y6x.below hb7; clear x6x u6x T6x P6x Q6x X6x Y6x; obtain ⟨cP0_7, cP1_7, cP2_7, fP0_7, fP1_7, fP2_7, sP_7⟩ := P7.open3; obtain ⟨cQ0_7, cQ1_7, fQ0_7, fQ1_7, sQ_7⟩ := Q7.open2; obtain ⟨cX0_7, cX1_7, cX2_7, fX0_7, fX1_7, fX2_7, sX_7⟩ := X7.open3; obtain ⟨cY0_7, cY1_7, cY2_7, fY0_7, fY1_7, fY2_7, sY_7⟩ := Y7.open3; obtain ⟨ap7, kp7, rfl, -⟩ := p7.view; try simp only [List.length_nil] at p7)
          | fail)
        obtain ⟨h1is, h2is, h3is⟩ := TL.out _ _ _ low is P2 F2 hp.out hBR hRP
        subst h1is; subst h2is; subst h3is
        clear hBR hRP
        go_wp2_with fail
        all_goals
          go_ret
          exact ⟨rfl, below_right B7 _⟩
  · obtain ⟨o1, o2⟩ := powR_odd hp.out
    have o3 : pP ≠ 0 := by omega
    have o4 := brk_range o3 o2
    have o5 := brk_bits o3 o2
    have o6 := bareD_odd (neg := false) o1 (show -2147483648 ≤ pF by omega) (show pF ≤ 2147483648 by omega)
    have o7 : fitsE pF = true := by unfold fitsE; rw [Bool.and_eq_true]; exact ⟨decide_eq_true (by omega), decide_eq_true (by omega)⟩
    have HBK := Lib.hid (fun w v (h : RdN w v (digs BB pP)) (hT : Tab w) => Break_n (r := true) (h.num (by omega)) hT (by omega) (by omega) o6 (by omega) (by rw [o7, o2, Bool.or_true]; rfl))
    have HTO := Lib.hid (fun w v (h : RdD w v (digs DD pP)) => RTo_n h (by omega) (by omega) (by omega) o6 o7)
    have HSM := Lib.hid (fun w v u (h : RdN w v (digs BB pP)) (k : RdN w u (digs BB pP)) => RSame_n (neg := false) (neg2 := false) (E := pF) (E2 := pF) (r := true) h k (by simp))
    clear o1 o2 o3 o4 o5 o6 o7
    go_upto_region 11 with
    (first
      | (go_at_call 12; (with_reducible refine (HBK.out _ _ u5 T5).mono ?_); rintro e w6 ⟨rfl, hb6⟩; have B6 := B5.trans (hb6.mono B5.size); have x6 := x5.below hb6; have u6 := u5.below hb6; have T6 := T5.below hb6; have P6 := P5.below hb6; have Q6 := Q5.below hb6; have X6 := X5.below hb6; have Y6 := Y5.below hb6; clear x5 u5 T5 P5 Q5 X5 Y5; obtain ⟨cP0_6, cP1_6, cP2_6, fP0_6, fP1_6, fP2_6, sP_6⟩ := P6.open3; obtain ⟨cQ0_6, cQ1_6, fQ0_6, fQ1_6, sQ_6⟩ := Q6.open2; obtain ⟨cX0_6, cX1_6, cX2_6, fX0_6, fX1_6, fX2_6, sX_6⟩ := X6.open3; obtain ⟨cY0_6, cY1_6, cY2_6, fY0_6, fY1_6, fY2_6, sY_6⟩ := Y6.open3)
      | fail)
    go_cut [79] (fun t w' => ∃ r, t = .bool (!r) ∧ (r = true → mq.natAbs ≤ 60 ∧ (kn : Int) ≤ 40 ∧ bitN M * mq.natAbs ≤ 1500 ∧ E.natAbs ≤ 2000) ∧ Below w6.heap.size w6 w')
    case first =>
      have Bq := Below.refl w6.heap.size w6
      go_wp2_with
      (first
        | (go_at_call 13; (with_reducible refine (HNR.out _ _ x6).mono ?_); rintro e w7 ⟨rr, rfl, hnr, hb7⟩; have B7 := Bq.trans (hb7.mono Bq.size); have x7 := x6.below hb7; have P7 := P6.below hb7; have Q7 := Q6.below hb7; have X7 := X6.below hb7; clear x6 P6 Q6 X6; obtain ⟨cP0_7, cP1_7, cP2_7, fP0_7, fP1_7, fP2_7, sP_7⟩ := P7.open3; obtain ⟨cQ0_7, cQ1_7, fQ0_7, fQ1_7, sQ_7⟩ := Q7.open2; obtain ⟨cX0_7, cX1_7, cX2_7, fX0_7, fX1_7, fX2_7, sX_7⟩ := X7.open3)
        | fail)
      go_meet
      exact ⟨rr, rfl, hnr, by assumption⟩
    case rest =>
      obtain ⟨rr, rfl, hnr, hb6⟩ := hcut
      generalize hwx : wc = w6x at *
      clear hwx
      have x6x := x6.below hb6; have u6x := u6.below hb6; have T6x := T6.below hb6; have P6x := P6.below hb6; have Q6x := Q6.below hb6; have X6x := X6.below hb6; have Y6x := Y6.below hb6
      have B6x := B6.trans (hb6.mono B6.size)
      clear cP0_6 cP1_6 cP2_6 fP0_6 fP1_6 fP2_6 sP_6 cQ0_6 cQ1_6 fQ0_6 fQ1_6 sQ_6 cX0_6 cX1_6 cX2_6 fX0_6 fX1_6 fX2_6 sX_6 cY0_6 cY1_6 cY2_6 fY0_6 fY1_6 fY2_6 sY_6
      clear x6 u6 T6 P6 Q6 X6 Y6 B6 hb6
      cases rr
      · go_wp2_with fail
        all_goals
          go_ret
          exact ⟨rfl, by assumption⟩
      · obtain ⟨r1, r2, r3, r4⟩ := hnr rfl
        have hX : nearX M E mq kn := ⟨hM0.out, r1, hk1.out, by omega, by omega, r3, r4⟩
        have HPW := Lib.hid (fun w v (h : RdD w v (digs DD M)) => RPow11_n hX h)
        clear hX r1 r2 r3 r4 hnr
        obtain ⟨cP0_6, cP1_6, cP2_6, fP0_6, fP1_6, fP2_6, sP_6⟩ := P6x.open3
        obtain ⟨cQ0_6, cQ1_6, fQ0_6, fQ1_6, sQ_6⟩ := Q6x.open2
        obtain ⟨cX0_6, cX1_6, cX2_6, fX0_6, fX1_6, fX2_6, sX_6⟩ := X6x.open3
        obtain ⟨cY0_6, cY1_6, cY2_6, fY0_6, fY1_6, fY2_6, sY_6⟩ := Y6x.open3
        go_upto_region 14 with
        (first
          | (go_at_call 14; (with_reducible refine (HPW.out _ _ x6x).mono ?_); rintro e w7 ⟨is, P2, F2, low, vp, rfl, hBR, hRP, p7, hb7⟩; have B7 := B6x.trans (hb7.mono B6x.size); have x7 := x6x.below hb7; have u7 := u6x.below hb7; have T7 := T6x.below hb7; have P7 := P6x.below hb7; have Q7 := Q6x.below hb7; have X7 := X6x.below hb7; have Y7 := Y6x.below hb7; clear x6x u6x T6x P6x Q6x X6x Y6x; obtain ⟨cP0_7, cP1_7, cP2_7, fP0_7, fP1_7, fP2_7, sP_7⟩ := P7.open3; obtain ⟨cQ0_7, cQ1_7, fQ0_7, fQ1_7, sQ_7⟩ := Q7.open2; obtain ⟨cX0_7, cX1_7, cX2_7, fX0_7, fX1_7, fX2_7, sX_7⟩ := X7.open3; obtain ⟨cY0_7, cY1_7, cY2_7, fY0_7, fY1_7, fY2_7, sY_7⟩ := Y7.open3; obtain ⟨ap7, kp7, rfl, -⟩ := p7.view; try simp only [List.length_nil] at p7)
          | fail)
        obtain ⟨h1is, h2is, h3is⟩ := TL.out _ _ _ low is P2 F2 hp.out hBR hRP
        subst h1is; subst h2is; subst h3is
        clear hBR hRP
        go_wp2_with
      (first
        | (go_at_call 15; (with_reducible refine (HTO.out _ _ (p7.below (below_alloc _ _))).mono ?_); rintro e w8 ⟨vy8, rfl, y8, hb8⟩; have hb8' := (below_a hb8); have B8 := B7.trans (hb8'.mono B7.size); have p8 := p7.below hb8'; have u8 := u7.below hb8'; have T8 := T7.below hb8'; have P8 := P7.below hb8'; have Q8 := Q7.below hb8'; have X8 := X7.below hb8'; have Y8 := Y7.below hb8'; clear p7 u7 T7 P7 Q7 X7 Y7; obtain ⟨cP0_8, cP1_8, cP2_8, fP0_8, fP1_8, fP2_8, sP_8⟩ := P8.open3; obtain ⟨cQ0_8, cQ1_8, fQ0_8, fQ1_8, sQ_8⟩ := Q8.open2; obtain ⟨cX0_8, cX1_8, cX2_8, fX0_8, fX1_8, fX2_8, sX_8⟩ := X8.open3; obtain ⟨cY0_8, cY1_8, cY2_8, fY0_8, fY1_8, fY2_8, sY_8⟩ := Y8.open3; obtain ⟨ay8, ky8, rfl, -⟩ := y8.view; try simp only [List.length_nil] at y8)
        | (go_at_call 16; (with_reducible refine (HSM.out _ _ _ (u8.below (below_alloc _ _)) (y8.below (below_alloc _ _))).mono ?_); rintro e w9 ⟨rfl, hb9⟩; have hb9' := (below_a hb9); have B9 := B8.trans (hb9'.mono B8.size); have p9 := p8.below hb9'; have u9 := u8.below hb9'; have T9 := T8.below hb9'; have P9 := P8.below hb9'; have Q9 := Q8.below hb9'; have X9 := X8.below hb9'; have Y9 := Y8.below hb9'; have y9 := y8.below hb9'; clear p8 u8 T8 P8 Q8 X8 Y8 y8; clear cP0_8 cP1_8 cP2_8 fP0_8 fP1_8 fP2_8 sP_8; obtain ⟨cP0_9, cP1_9, cP2_9, fP0_9, fP1_9, fP2_9, sP_9⟩ := P9.open3; clear cQ0_8 cQ1_8 fQ0_8 fQ1_8 sQ_8; obtain ⟨cQ0_9, cQ1_9, fQ0_9, fQ1_9, sQ_9⟩ := Q9.open2; clear cX0_8 cX1_8 cX2_8 fX0_8 fX1_8 fX2_8 sX_8; obtain ⟨cX0_9, cX1_9, cX2_9, fX0_9, fX1_9, fX2_9, sX_9⟩ := X9.open3; clear cY0_8 cY1_8 cY2_8 fY0_8 fY1_8 fY2_8 sY_8; obtain ⟨cY0_9, cY1_9, cY2_9, fY0_9, fY1_9, fY2_9, sY_9⟩ := Y9.open3)
        | fail)
        all_goals
          go_ret
          exact ⟨rfl, by assumption⟩
end Go.Proofs.YtabdmnjdmnnejaaDoor.PETells
