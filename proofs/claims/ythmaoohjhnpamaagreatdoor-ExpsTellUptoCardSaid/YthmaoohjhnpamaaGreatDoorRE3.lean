/- planimeterref14.Exp by its contract. Conditions: the number is of a middle size. (Only in the seat of ExpsTell: set expsz.) -/
import Derived.Test.YthmaoohjhnpamaaGreatDoorRE2
namespace Go.Proofs.YthmaoohjhnpamaaGreatDoor
set_option maxRecDepth 100000
open Go.RowKit Go.ChangeShapes Go.WideShapes
set_option linter.unusedVariables false
set_option linter.unusedSimpArgs false

set_option maxHeartbeats 4000000 in
theorem RExp14_n {w : World} {u : Value} {neg : Bool} {M m : Nat} {E : Int} (h : RdD w u (digs DD M)) (hv : Mid 20000 ⟨neg, M, E⟩) (v1 : -1024 < qv ⟨neg, M, E⟩) (v2 : qv ⟨neg, M, E⟩ < 1024) (hm1 : 40 ≤ m) (hm2 : m ≤ 480) :
    Calls Tryz.prog 11 #[.agg #[.bool neg, u, .int .i64 E], .int .i64 (m : Int)] w (fun e w' => ∃ (k : Int) (Mu N : Nat) (v : Value), e = .returned (.agg #[.bool false, v, .int .i64 (k - (m : Int))]) ∧ (TwoLeft (qv ⟨neg, M, E⟩) (((refTwoU m * 2 : Nat) : Rat) * pw (-(m : Int))) m k Mu ∧ m + 8 ≤ exB (N + 1) ∧ N ≤ m + 8) ∧ RdD w' v (digs DD (refExp Mu (2 ^ m) (N + 1))) ∧ Below w.heap.size w w') := by
  obtain ⟨a, kk, rfl, -⟩ := h.view
  obtain ⟨V, hV⟩ : ∃ V, qv ⟨neg, M, E⟩ = V := ⟨_, rfl⟩
  obtain ⟨-, ht1, ht2⟩ := refTwo_ends hm1
  obtain ⟨T2, hT2⟩ : ∃ T2, refTwoU m * 2 = T2 := ⟨_, rfl⟩
  have tb : bitN T2 ≤ 495 := by rw [← hT2]; exact refTwo_bits hm2
  have HTW : Hid (∀ w, Calls Tryz.prog 28 #[.int .i64 (m : Int)] w (OneD w (digs DD T2))) := Lib.hid (fun w => by rw [← hT2]; exact rtwo_n (by omega))
  rw [hV] at v1 v2 ⊢
  rw [hT2] at ht1 ht2 ⊢
  obtain ⟨t, ht⟩ : ∃ t, (T2 : Rat) * pw (-(m : Int)) = t := ⟨_, rfl⟩
  rw [ht] at ht1 ht2 ⊢
  have tq : qv ⟨false, T2, -(m : Int)⟩ = t := ht
  have tq2 : qv ⟨true, T2, -(m : Int)⟩ = -t := by rw [← ht]; rfl
  have tm : ∀ n, Mid 20000 ⟨n, T2, -(m : Int)⟩ := fun n => ⟨by dsimp only; omega, by dsimp only; omega, by dsimp only; omega⟩
  have wm : IntKind.i64.wrap (-(m : Int)) = -(m : Int) := by rw [IntKind.wrap_i64]; omega
  replace hV := Lib.hid hV; replace hT2 := Lib.hid hT2; replace ht := Lib.hid ht; replace tq := Lib.hid tq; replace tq2 := Lib.hid tq2
  replace ht1 := Lib.hid ht1; replace ht2 := Lib.hid ht2; replace v1 := Lib.hid v1; replace v2 := Lib.hid v2
  replace hm1 := Lib.hid hm1; replace hm2 := Lib.hid hm2; replace hv := Lib.hid hv; replace tm := Lib.hid tm
  clear tb
  go_enter Tryz.func11, Tryz.ntmps11
  go_upto_region 4 with
  (first
    | (go_at_call 28; (with_reducible refine (HTW.out _).mono ?_); rintro e w1 ⟨vt1, rfl, t1, hb1⟩; have B1 := below_2.trans (hb1.mono below_2.size); have x1 := ((h.below below_2)).below hb1; have P1 := ((blk_a1)).below hb1; have R1 := ((blk_a2)).below hb1; obtain ⟨cP0_1, cP1_1, cP2_1, fP0_1, fP1_1, fP2_1, sP_1⟩ := P1.open3; obtain ⟨cR0_1, cR1_1, cR2_1, fR0_1, fR1_1, fR2_1, sR_1⟩ := R1.open3; obtain ⟨at1, kt1, rfl, -⟩ := t1.view; try simp only [List.length_nil] at t1)
    | fail)
  have hA5 := below_alloc w1 (.cells #[.bool false, .slice at1 (digs DD T2).length kt1, .int .i64 (-(m : Int))] 28 (0, 0))
  have S2 : Blk (w1.alloc (.cells #[.bool false, .slice at1 (digs DD T2).length kt1, .int .i64 (-(m : Int))] 28 (0, 0))) w1.heap.size #[.bool false, .slice at1 (digs DD T2).length kt1, .int .i64 (-(m : Int))] := blk_new
  have hsz : (w1.alloc (.cells #[.bool false, .slice at1 (digs DD T2).length kt1, .int .i64 (-(m : Int))] 28 (0, 0))).heap.size = w1.heap.size + 1 := by simp
  have x2 := x1.below hA5; have t2' := t1.below hA5; have R2 := R1.below hA5; have B2 := B1.trans (hA5.mono B1.size)
  clear x1 R1 B1 P1 hb1 cP0_1 cP1_1 cP2_1 fP0_1 fP1_1 fP2_1 sP_1 cR0_1 cR1_1 cR2_1 fR0_1 fR1_1 fR2_1 sR_1 hA5
  rw [← hsz]
  generalize w1.alloc (.cells #[.bool false, .slice at1 (digs DD T2).length kt1, .int .i64 (-(m : Int))] 28 (0, 0)) = w2 at *
  have e0 : qv ⟨neg, M, E⟩ = V + ((0 : Nat) : Rat) * t := by rw [hV.out]; grind
  have B7 : Blk (w2.alloc (.cells #[.bool neg, .slice a (digs DD M).length kk, .int .i64 E] 28 (0, 0))) w2.heap.size #[.bool neg, .slice a (digs DD M).length kk, .int .i64 E] := blk_new
  have x3 := x2.below (below_alloc w2 (.cells #[.bool neg, .slice a (digs DD M).length kk, .int .i64 E] 28 (0, 0)))
  have HS1 := Lib.hid (fun w v n' M' E' (h : RdD w v (digs DD M')) (hq : qv ⟨n', M', E'⟩ < 0) => RSign_lt h hq)
  have HS2 := Lib.hid (fun w v n' M' E' (h : RdD w v (digs DD M')) (hq : 0 ≤ qv ⟨n', M', E'⟩) => RSign_nn h hq)
  have HA1 : Hid (∀ (w : World) v u n' M' E' (j : Nat), j ≤ 1708 → RdD w v (digs DD M') → RdD w u (digs DD T2) → Mid (20000 + j) ⟨n', M', E'⟩ → Calls Tryz.prog 21 #[.agg #[.bool n', v, .int .i64 E'], .agg #[.bool false, u, .int .i64 (-(m : Int))]] w (fun e w' => ∃ n m x v, e = .returned (.agg #[.bool n, v, .int .i64 x]) ∧ (qv ⟨n, m, x⟩ = qv ⟨n', M', E'⟩ + t ∧ Mid (20000 + j + 1) ⟨n, m, x⟩) ∧ RdD w' v (digs DD m) ∧ Below w.heap.size w w')) := Lib.hid (fun w v u n' M' E' j hj h k hm => by
    rw [← tq.out]
    exact RAdd_v h k hm ((tm.out _).mono (by omega)) (by omega) (by omega))
  clear hsz
  generalize hb7 : w2.heap.size = b7 at *
  replace hb7 := Lib.hid hb7
  go_loopw [6] (fun kv wr => Left1 V t w2 b7 kv wr) (fun kv _ => (intOf kv + 1709).toNat)
  case atStart => exact ⟨0, neg, M, E, _, _, rfl, B7, x3, ⟨e0, hv.out, .inl rfl, by omega⟩, below_alloc _ _⟩
  case round =>
    clear x3 B7 e0
    obtain ⟨j, n', M', E', a', k', rfl, Q, x, ⟨lq, lm, lt, lj⟩, hB⟩ := hrel
    rename World => wr
    have tr := t2'.below hB; have S := S2.below hB; have R := R2.below hB
    have Bz : Below wr.heap.size wr wr := Below.refl _ _
    obtain ⟨i0, i1, i2, i3, i4, i5, i6⟩ := Q.open3
    obtain ⟨j0, j1, j2, j3, j4, j5, j6⟩ := S.open3
    replace lq := Lib.hid lq; replace lm := Lib.hid lm; replace lt := Lib.hid lt; replace lj := Lib.hid lj; replace hB := Lib.hid hB
    by_cases hneg : qv ⟨n', M', E'⟩ < 0
    · have hj : j ≤ 1707 := often (v := -V) ht1.out (by have := v1.out; grind) (by have := lq.out; grind)
      have wk : IntKind.i64.wrap (-(j : Int) - 1) = -((j + 1 : Nat) : Int) := by rw [IntKind.wrap_i64]; omega
      replace hneg := Lib.hid hneg; replace hj := Lib.hid hj
      go_wp2_with
      (first
        | (go_at_call 20; (with_reducible refine (HS1.out _ _ _ _ _ x hneg.out).mono ?_); rintro e w1 ⟨rfl, hb1⟩; have B1 := Bz.trans (hb1.mono Bz.size); have x1 := x.below hb1; have t1 := tr.below hb1; have S1 := S.below hb1; have R1 := R.below hb1; have Q1 := Q.below hb1; clear x tr S R Q; obtain ⟨cS0_1, cS1_1, cS2_1, fS0_1, fS1_1, fS2_1, sS_1⟩ := S1.open3; obtain ⟨cR0_1, cR1_1, cR2_1, fR0_1, fR1_1, fR2_1, sR_1⟩ := R1.open3; obtain ⟨cQ0_1, cQ1_1, cQ2_1, fQ0_1, fQ1_1, fQ2_1, sQ_1⟩ := Q1.open3)
        | (go_at_call 21; (with_reducible refine (HA1.out _ _ _ _ _ _ _ lj.out x1 t1 lm.out).mono ?_); rintro e w2 ⟨na, ma, xa, va, rfl, oa, y2, hb2⟩; have B2 := B1.trans (hb2.mono B1.size); have x2 := x1.below hb2; have t2 := t1.below hb2; have S2 := S1.below hb2; have R2 := R1.below hb2; have Q2 := Q1.below hb2; clear x1 t1 S1 R1 Q1; clear cS0_1 cS1_1 cS2_1 fS0_1 fS1_1 fS2_1 sS_1; obtain ⟨cS0_2, cS1_2, cS2_2, fS0_2, fS1_2, fS2_2, sS_2⟩ := S2.open3; clear cR0_1 cR1_1 cR2_1 fR0_1 fR1_1 fR2_1 sR_1; obtain ⟨cR0_2, cR1_2, cR2_2, fR0_2, fR1_2, fR2_2, sR_2⟩ := R2.open3; clear cQ0_1 cQ1_1 cQ2_1 fQ0_1 fQ1_1 fQ2_1 sQ_1; obtain ⟨cQ0_2, cQ1_2, cQ2_2, fQ0_2, fQ1_2, fQ2_2, sQ_2⟩ := Q2.open3; obtain ⟨ay2, ky2, rfl, -⟩ := y2.view; try simp only [List.length_nil] at y2)
        | fail)
      go_round
      case rel => exact ⟨j + 1, na, ma, xa, _, _, rfl, Q2.set3 _ _ _, y2.set3 Q2 dcells32 _ _ _, ⟨by rw [oa.1, lq.out, Rat.natCast_add]; grind, oa.2, .inr (by rw [oa.1]; have := hneg.out; grind), by have := hj.out; omega⟩, below_set3b (hB.out.trans (B2.mono hB.out.size)) (by have := hb7.out; omega) _ _ _⟩
      case measure => exact (by have := hj.out; simp [intOf]; omega)
    · have hnn : Hid (0 ≤ qv ⟨n', M', E'⟩) := Lib.hid (by grind)
      clear HS1 HA1 hneg
      go_upto_region 9 with
      (first
        | (go_at_call 20; (with_reducible refine (HS2.out _ _ _ _ _ x hnn.out).mono ?_); rintro e w11 ⟨sg0, rfl, ds0, hb11⟩; have B11 := Bz.trans (hb11.mono Bz.size); have x11 := x.below hb11; have t11 := tr.below hb11; have S11 := S.below hb11; have R11 := R.below hb11; have Q11 := Q.below hb11; clear x tr S R Q; obtain ⟨cS0_11, cS1_11, cS2_11, fS0_11, fS1_11, fS2_11, sS_11⟩ := S11.open3; obtain ⟨cR0_11, cR1_11, cR2_11, fR0_11, fR1_11, fR2_11, sR_11⟩ := R11.open3; obtain ⟨cQ0_11, cQ1_11, cQ2_11, fQ0_11, fQ1_11, fQ2_11, sQ_11⟩ := Q11.open3)
        | fail)
      have hW := below_alloc w11 (.cells #[.bool true, .slice at1 (digs DD T2).length kt1, .int .i64 (-(m : Int))] 28 (0, 0))
      have L : Blk (w11.alloc (.cells #[.bool true, .slice at1 (digs DD T2).length kt1, .int .i64 (-(m : Int))] 28 (0, 0))) w11.heap.size #[.bool true, .slice at1 (digs DD T2).length kt1, .int .i64 (-(m : Int))] := blk_new
      have Q2 := Q11.below hW; have x2 := x11.below hW
      have hB2 := Lib.hid ((hB.out.trans (B11.mono hB.out.size)).trans (hW.mono (Nat.le_trans hB.out.size B11.size)))
      have hne : Hid (w11.heap.size ≠ b7) := Lib.hid (by have := Q11.1; omega)
      clear S11 R11 x11 t11 B11 Bz Q11 hW HS2 hb11 i0 i1 i2 i3 i4 i5 i6 j0 j1 j2 j3 j4 j5 j6 cS0_11 cS1_11 cS2_11 fS0_11 fS1_11 fS2_11 sS_11 cR0_11 cR1_11 cR2_11 fR0_11 fR1_11 fR2_11 sR_11 cQ0_11 cQ1_11 cQ2_11 fQ0_11 fQ1_11 fQ2_11 sQ_11
      generalize w11.alloc (.cells #[.bool true, .slice at1 (digs DD T2).length kt1, .int .i64 (-(m : Int))] 28 (0, 0)) = w12 at *
      generalize w11.heap.size = b8 at *
      have HC1 : Hid (∀ (w : World) v u n3 M3 E3 (i : Nat), i ≤ 1708 → RdD w v (digs DD M3) → RdD w u (digs DD T2) → Mid (21800 + i) ⟨n3, M3, E3⟩ → t < qv ⟨n3, M3, E3⟩ → Calls Tryz.prog 29 #[.agg #[.bool n3, v, .int .i64 E3], .agg #[.bool false, u, .int .i64 (-(m : Int))]] w (fun e w' => ∃ c : Int, e = .returned (.int .i64 c) ∧ decide (0 < c) = true ∧ Below w.heap.size w w')) := Lib.hid (fun w v u n3 M3 E3 i hi h k hm hl => RCmp_yes h k hm ((tm.out _).mono (by omega)) (by omega) (by rw [tq.out]; exact hl))
      have HC2 : Hid (∀ (w : World) v u n3 M3 E3 (i : Nat), i ≤ 1708 → RdD w v (digs DD M3) → RdD w u (digs DD T2) → Mid (21800 + i) ⟨n3, M3, E3⟩ → qv ⟨n3, M3, E3⟩ ≤ t → Calls Tryz.prog 29 #[.agg #[.bool n3, v, .int .i64 E3], .agg #[.bool false, u, .int .i64 (-(m : Int))]] w (fun e w' => ∃ c : Int, e = .returned (.int .i64 c) ∧ decide (0 < c) = false ∧ Below w.heap.size w w')) := Lib.hid (fun w v u n3 M3 E3 i hi h k hm hl => RCmp_not h k hm ((tm.out _).mono (by omega)) (by omega) (by rw [tq.out]; exact hl))
      have HA2 : Hid (∀ (w : World) v u n3 M3 E3 (i : Nat), i ≤ 1708 → RdD w v (digs DD M3) → RdD w u (digs DD T2) → Mid (21800 + i) ⟨n3, M3, E3⟩ → Calls Tryz.prog 21 #[.agg #[.bool n3, v, .int .i64 E3], .agg #[.bool true, u, .int .i64 (-(m : Int))]] w (fun e w' => ∃ n m x v, e = .returned (.agg #[.bool n, v, .int .i64 x]) ∧ (qv ⟨n, m, x⟩ = qv ⟨n3, M3, E3⟩ + -t ∧ Mid (21800 + i + 1) ⟨n, m, x⟩) ∧ RdD w' v (digs DD m) ∧ Below w.heap.size w w')) := Lib.hid (fun w v u n3 M3 E3 i hi h k hm => by
        rw [← tq2.out]
        exact RAdd_v h k hm ((tm.out _).mono (by omega)) (by omega) (by omega))
      go_loopw [6] (fun kv wr => Left2 V t j w2 b7 b8 #[.bool true, .slice at1 (digs DD T2).length kt1, .int .i64 (-(m : Int))] kv wr) (fun kv _ => (1709 - (intOf kv + (j : Int))).toNat)
      case atStart => exact ⟨0, n', M', E', _, _, by rw [show ((0 : Nat) : Int) - (j : Int) = -(j : Int) by omega], Q2, x2, ⟨by rw [lq.out]; grind, hnn.out, lm.out.mono (by have := lj.out; omega), by omega, by rcases lt.out with h | h; exact .inl h; exact .inr ⟨rfl, h⟩⟩, L, hB2.out⟩
      case round =>
        clear x2 Q2 L hB2
        obtain ⟨i, n3, M3, E3, a3, k3, rfl, Q3, x3, ⟨mq, mn, mm, mi, mo⟩, L3, hB3⟩ := hrel
        rename World => wr
        have t3 := t2'.below hB3; have S3 := S2.below hB3; have R3 := R2.below hB3
        have Bz3 : Below wr.heap.size wr wr := Below.refl _ _
        have Bw := Lib.hid (B2.trans (hB3.mono B2.size))
        obtain ⟨i0, i1, i2, i3, i4, i5, i6⟩ := Q3.open3
        obtain ⟨j0, j1, j2, j3, j4, j5, j6⟩ := S3.open3
        obtain ⟨l0, l1, l2, l3, l4, l5, l6⟩ := L3.open3
        replace mq := Lib.hid mq; replace mn := Lib.hid mn; have lm3 := Lib.hid mm; replace mi := Lib.hid mi; replace mo := Lib.hid mo; replace hB3 := Lib.hid hB3
        by_cases hgt : t < qv ⟨n3, M3, E3⟩
        · have hj0 : j = 0 := by
            rcases mo.out with h | h
            · exact h
            · exfalso; have := h.2; grind
          have hi : i ≤ 1707 := often (v := V) ht1.out v2.out (by have h1 := mq.out; rw [hj0] at h1; have h2 := ht1.out; have h3 : ((0 : Nat) : Rat) * t = 0 := Rat.zero_mul t; grind)
          have wk : IntKind.i64.wrap ((i : Int) - (j : Int) + 1) = ((i + 1 : Nat) : Int) - (j : Int) := by rw [IntKind.wrap_i64]; omega
          have hj0' := Lib.hid hj0
          clear hj0
          replace hgt := Lib.hid hgt; replace hi := Lib.hid hi
          clear mm HC2
          go_wp2_with
          (first
            | (go_at_call 29; (with_reducible refine (HC1.out _ _ _ _ _ _ _ mi.out x3 t3 lm3.out hgt.out).mono ?_); rintro e w21 ⟨c0, rfl, dc0, hb21⟩; have B21 := Bz3.trans (hb21.mono Bz3.size); have x21 := x3.below hb21; have t21 := t3.below hb21; have S21 := S3.below hb21; have R21 := R3.below hb21; have Q21 := Q3.below hb21; have L21 := L3.below hb21; clear x3 t3 S3 R3 Q3 L3; obtain ⟨cS0_21, cS1_21, cS2_21, fS0_21, fS1_21, fS2_21, sS_21⟩ := S21.open3; obtain ⟨cR0_21, cR1_21, cR2_21, fR0_21, fR1_21, fR2_21, sR_21⟩ := R21.open3; obtain ⟨cQ0_21, cQ1_21, cQ2_21, fQ0_21, fQ1_21, fQ2_21, sQ_21⟩ := Q21.open3; obtain ⟨cL0_21, cL1_21, cL2_21, fL0_21, fL1_21, fL2_21, sL_21⟩ := L21.open3)
            | (go_at_call 21; (with_reducible refine (HA2.out _ _ _ _ _ _ _ mi.out x21 t21 lm3.out).mono ?_); rintro e w22 ⟨na, ma, xa, va, rfl, oa, y22, hb22⟩; have B22 := B21.trans (hb22.mono B21.size); have x22 := x21.below hb22; have t22 := t21.below hb22; have S22 := S21.below hb22; have R22 := R21.below hb22; have Q22 := Q21.below hb22; have L22 := L21.below hb22; clear x21 t21 S21 R21 Q21 L21; clear cS0_21 cS1_21 cS2_21 fS0_21 fS1_21 fS2_21 sS_21; obtain ⟨cS0_22, cS1_22, cS2_22, fS0_22, fS1_22, fS2_22, sS_22⟩ := S22.open3; clear cR0_21 cR1_21 cR2_21 fR0_21 fR1_21 fR2_21 sR_21; obtain ⟨cR0_22, cR1_22, cR2_22, fR0_22, fR1_22, fR2_22, sR_22⟩ := R22.open3; clear cQ0_21 cQ1_21 cQ2_21 fQ0_21 fQ1_21 fQ2_21 sQ_21; obtain ⟨cQ0_22, cQ1_22, cQ2_22, fQ0_22, fQ1_22, fQ2_22, sQ_22⟩ := Q22.open3; clear cL0_21 cL1_21 cL2_21 fL0_21 fL1_21 fL2_21 sL_21; obtain ⟨cL0_22, cL1_22, cL2_22, fL0_22, fL1_22, fL2_22, sL_22⟩ := L22.open3; obtain ⟨ay22, ky22, rfl, -⟩ := y22.view; try simp only [List.length_nil] at y22)
            | fail)
          go_round
          case rel => exact ⟨i + 1, na, ma, xa, _, _, rfl, Q22.set3 _ _ _, y22.set3 Q22 dcells32 _ _ _, ⟨by rw [oa.1, mq.out, Rat.natCast_add]; grind, by rw [oa.1]; have := hgt.out; grind, oa.2, by have := hi.out; omega, .inl hj0'.out⟩, L22.other3 hne.out _ _ _, below_set3b (hB3.out.trans (B22.mono hB3.out.size)) (by have := hb7.out; omega) _ _ _⟩
          case measure => exact (by have := hi.out; have := hj0'.out; simp [intOf]; omega)
        · have lg : Hid (qv ⟨n3, M3, E3⟩ ≤ t) := Lib.hid (by grind)
          have htold := Lib.hid (left_told (m := m) ht2.out mq.out mn.out lg.out mi.out lj.out)
          have b1 := mm.1; have b2 := mm.2.1; have b3 := mm.2.2
          dsimp only at b1 b2 b3
          have hm1' := hm1.out; have hm2' := hm2.out; have hi' := mi.out; have hj' := lj.out
          have wk : IntKind.i64.wrap ((i : Int) - (j : Int) - (m : Int)) = (i : Int) - (j : Int) - (m : Int) := by rw [IntKind.wrap_i64]; omega
          have HX : Hid (∀ w v, RdD w v (digs DD (unitsN M3 E3 m false)) → Calls Tryz.prog 32 #[v, .int .i64 (m : Int)] w fun e w' => ∃ N u, m + 8 ≤ exB (N + 1) ∧ N ≤ m + 8 ∧ e = .returned u ∧ RdD w' u (digs DD (refExp (unitsN M3 E3 m false) (2 ^ m) (N + 1))) ∧ Below w.heap.size w w') := Lib.hid (fun w v h => rexp_n h (by omega) htold.out.2.1)
          have HC2 := Lib.hid (fun (w : World) v u (h : RdD w v (digs DD M3)) (k : RdD w u (digs DD T2)) => HC2.out w v u n3 M3 E3 i hi' h k lm3.out lg.out)
          clear HC1 HA2 mm
          by_cases hE : 0 ≤ E3 + (m : Int)
          · obtain ⟨z, hz⟩ : ∃ z : Nat, E3 + (m : Int) = (z : Int) := ⟨(E3 + (m : Int)).toNat, by omega⟩
            have wE : IntKind.i64.wrap (E3 + (m : Int)) = (z : Int) := by rw [IntKind.wrap_i64]; omega
            have dz : decide ((0 : Int) ≤ (z : Int)) = true := decide_eq_true (by omega)
            have hMu : unitsN M3 E3 m false = M3 * 2 ^ z := by unfold unitsN; rw [if_pos hE, hz]; rfl
            have HSH : Hid (∀ w v, RdD w v (digs DD M3) → Calls Tryz.prog 30 #[v, .int .i64 (z : Int)] w (OneD w (digs DD (M3 * 2 ^ z)))) := Lib.hid (fun w v h => rshl_n h (by omega))
            rw [← hMu] at HSH
            replace hz := Lib.hid hz; replace hMu := Lib.hid hMu
            clear hE b1 b2 b3 hm1' hm2' hi' hj'
            go_wp2_with
          (first
            | (go_at_call 29; (with_reducible refine (HC2.out _ _ _ x3 t3).mono ?_); rintro e w31 ⟨c0, rfl, dc0, hb31⟩; have B31 := Bz3.trans (hb31.mono Bz3.size); have x31 := x3.below hb31; have R31 := R3.below hb31; have Q31 := Q3.below hb31; have t31 := t3.below hb31; have S31 := S3.below hb31; clear x3 R3 Q3 t3 S3; obtain ⟨cR0_31, cR1_31, cR2_31, fR0_31, fR1_31, fR2_31, sR_31⟩ := R31.open3; obtain ⟨cQ0_31, cQ1_31, cQ2_31, fQ0_31, fQ1_31, fQ2_31, sQ_31⟩ := Q31.open3; obtain ⟨cS0_31, cS1_31, cS2_31, fS0_31, fS1_31, fS2_31, sS_31⟩ := S31.open3)
            | (go_at_call 30; (with_reducible refine (HSH.out _ _ x31).mono ?_); rintro e w32 ⟨vf32, rfl, f32, hb32⟩; have B32 := B31.trans (hb32.mono B31.size); have x32 := x31.below hb32; have R32 := R31.below hb32; have Q32 := Q31.below hb32; have t32 := t31.below hb32; have S32 := S31.below hb32; clear x31 R31 Q31 t31 S31; clear cR0_31 cR1_31 cR2_31 fR0_31 fR1_31 fR2_31 sR_31; obtain ⟨cR0_32, cR1_32, cR2_32, fR0_32, fR1_32, fR2_32, sR_32⟩ := R32.open3; clear cQ0_31 cQ1_31 cQ2_31 fQ0_31 fQ1_31 fQ2_31 sQ_31; obtain ⟨cQ0_32, cQ1_32, cQ2_32, fQ0_32, fQ1_32, fQ2_32, sQ_32⟩ := Q32.open3; clear cS0_31 cS1_31 cS2_31 fS0_31 fS1_31 fS2_31 sS_31; obtain ⟨cS0_32, cS1_32, cS2_32, fS0_32, fS1_32, fS2_32, sS_32⟩ := S32.open3; obtain ⟨af32, kf32, rfl, -⟩ := f32.view; try simp only [List.length_nil] at f32)
            | (go_at_call 32; (with_reducible refine (HX.out _ _ f32).mono ?_); rintro e w33 ⟨Nn, vy, hn1, hn2, rfl, y33, hb33⟩; have B33 := B32.trans (hb33.mono B32.size); have x33 := x32.below hb33; have R33 := R32.below hb33; have Q33 := Q32.below hb33; have t33 := t32.below hb33; have S33 := S32.below hb33; have f33 := f32.below hb33; clear x32 R32 Q32 t32 S32 f32; clear cR0_32 cR1_32 cR2_32 fR0_32 fR1_32 fR2_32 sR_32; obtain ⟨cR0_33, cR1_33, cR2_33, fR0_33, fR1_33, fR2_33, sR_33⟩ := R33.open3; clear cQ0_32 cQ1_32 cQ2_32 fQ0_32 fQ1_32 fQ2_32 sQ_32; obtain ⟨cQ0_33, cQ1_33, cQ2_33, fQ0_33, fQ1_33, fQ2_33, sQ_33⟩ := Q33.open3; clear cS0_32 cS1_32 cS2_32 fS0_32 fS1_32 fS2_32 sS_32; obtain ⟨cS0_33, cS1_33, cS2_33, fS0_33, fS1_33, fS2_33, sS_33⟩ := S33.open3; obtain ⟨ay33, ky33, rfl, -⟩ := y33.view; try simp only [List.length_nil] at y33)
            | fail)
            obtain ⟨z0, z1, z2, -⟩ := (R33.set3 (.bool false) (.slice ay33 (digs DD (refExp (unitsN M3 E3 m false) (2 ^ m) (Nn + 1))).length ky33) (.int .i64 ((i : Int) - (j : Int) - (m : Int)))).open3
            refine bodyPost_ret (v := .agg #[.bool false, .slice ay33 (digs DD (refExp (unitsN M3 E3 m false) (2 ^ m) (Nn + 1))).length ky33, .int .i64 ((i : Int) - (j : Int) - (m : Int))]) ?_ rfl ?_
            · simp [results, Tryz.results11, go_sem, z0, z1, z2]
            · exact ⟨_, _, Nn, _, rfl, ⟨htold.out, hn1, hn2⟩, RdD.set3 y33 R33 dcells32 _ _ _, below_set3b (Bw.out.trans (B33.mono Bw.out.size)) (by omega) _ _ _⟩

          · obtain ⟨z, hz⟩ : ∃ z : Nat, -E3 - (m : Int) = (z : Int) := ⟨(-E3 - (m : Int)).toNat, by omega⟩
            have wE : IntKind.i64.wrap (E3 + (m : Int)) = E3 + (m : Int) := by rw [IntKind.wrap_i64]; omega
            have dz : decide (0 ≤ E3 + (m : Int)) = false := decide_eq_false hE
            have wE2 : IntKind.i64.wrap (-E3) = -E3 := by rw [IntKind.wrap_i64]; omega
            have wE3 : IntKind.i64.wrap (-E3 - (m : Int)) = (z : Int) := by rw [IntKind.wrap_i64]; omega
            have hMu : unitsN M3 E3 m false = M3 / 2 ^ z := by unfold unitsN; rw [if_neg hE, hz]; rfl
            have HSH : Hid (∀ w v, RdD w v (digs DD M3) → Calls Tryz.prog 31 #[v, .int .i64 (z : Int)] w (fun e w' => ∃ v b, e = .returned (.tuple #[v, .bool b]) ∧ RdD w' v (digs DD (M3 / 2 ^ z)) ∧ Below w.heap.size w w')) := Lib.hid (fun w v h => by
              refine (rshr_n h (by omega) (by omega)).mono ?_
              rintro e w' ⟨v, rfl, r, hb⟩
              exact ⟨v, _, rfl, r, hb⟩)
            rw [← hMu] at HSH
            replace hz := Lib.hid hz; replace hMu := Lib.hid hMu
            clear hE b1 b2 b3 hm1' hm2' hi' hj'
            go_wp2_with
          (first
            | (go_at_call 29; (with_reducible refine (HC2.out _ _ _ x3 t3).mono ?_); rintro e w31 ⟨c0, rfl, dc0, hb31⟩; have B31 := Bz3.trans (hb31.mono Bz3.size); have x31 := x3.below hb31; have R31 := R3.below hb31; have Q31 := Q3.below hb31; have t31 := t3.below hb31; have S31 := S3.below hb31; clear x3 R3 Q3 t3 S3; obtain ⟨cR0_31, cR1_31, cR2_31, fR0_31, fR1_31, fR2_31, sR_31⟩ := R31.open3; obtain ⟨cQ0_31, cQ1_31, cQ2_31, fQ0_31, fQ1_31, fQ2_31, sQ_31⟩ := Q31.open3; obtain ⟨cS0_31, cS1_31, cS2_31, fS0_31, fS1_31, fS2_31, sS_31⟩ := S31.open3)
            | (go_at_call 31; (with_reducible refine (HSH.out _ _ x31).mono ?_); rintro e w32 ⟨vf, bf, rfl, f32, hb32⟩; have B32 := B31.trans (hb32.mono B31.size); have x32 := x31.below hb32; have R32 := R31.below hb32; have Q32 := Q31.below hb32; have t32 := t31.below hb32; have S32 := S31.below hb32; clear x31 R31 Q31 t31 S31; clear cR0_31 cR1_31 cR2_31 fR0_31 fR1_31 fR2_31 sR_31; obtain ⟨cR0_32, cR1_32, cR2_32, fR0_32, fR1_32, fR2_32, sR_32⟩ := R32.open3; clear cQ0_31 cQ1_31 cQ2_31 fQ0_31 fQ1_31 fQ2_31 sQ_31; obtain ⟨cQ0_32, cQ1_32, cQ2_32, fQ0_32, fQ1_32, fQ2_32, sQ_32⟩ := Q32.open3; clear cS0_31 cS1_31 cS2_31 fS0_31 fS1_31 fS2_31 sS_31; obtain ⟨cS0_32, cS1_32, cS2_32, fS0_32, fS1_32, fS2_32, sS_32⟩ := S32.open3; obtain ⟨af32, kf32, rfl, -⟩ := f32.view; try simp only [List.length_nil] at f32)
            | (go_at_call 32; (with_reducible refine (HX.out _ _ f32).mono ?_); rintro e w33 ⟨Nn, vy, hn1, hn2, rfl, y33, hb33⟩; have B33 := B32.trans (hb33.mono B32.size); have x33 := x32.below hb33; have R33 := R32.below hb33; have Q33 := Q32.below hb33; have t33 := t32.below hb33; have S33 := S32.below hb33; have f33 := f32.below hb33; clear x32 R32 Q32 t32 S32 f32; clear cR0_32 cR1_32 cR2_32 fR0_32 fR1_32 fR2_32 sR_32; obtain ⟨cR0_33, cR1_33, cR2_33, fR0_33, fR1_33, fR2_33, sR_33⟩ := R33.open3; clear cQ0_32 cQ1_32 cQ2_32 fQ0_32 fQ1_32 fQ2_32 sQ_32; obtain ⟨cQ0_33, cQ1_33, cQ2_33, fQ0_33, fQ1_33, fQ2_33, sQ_33⟩ := Q33.open3; clear cS0_32 cS1_32 cS2_32 fS0_32 fS1_32 fS2_32 sS_32; obtain ⟨cS0_33, cS1_33, cS2_33, fS0_33, fS1_33, fS2_33, sS_33⟩ := S33.open3; obtain ⟨ay33, ky33, rfl, -⟩ := y33.view; try simp only [List.length_nil] at y33)
            | fail)
            obtain ⟨z0, z1, z2, -⟩ := (R33.set3 (.bool false) (.slice ay33 (digs DD (refExp (unitsN M3 E3 m false) (2 ^ m) (Nn + 1))).length ky33) (.int .i64 ((i : Int) - (j : Int) - (m : Int)))).open3
            refine bodyPost_ret (v := .agg #[.bool false, .slice ay33 (digs DD (refExp (unitsN M3 E3 m false) (2 ^ m) (Nn + 1))).length ky33, .int .i64 ((i : Int) - (j : Int) - (m : Int))]) ?_ rfl ?_
            · simp [results, Tryz.results11, go_sem, z0, z1, z2]
            · exact ⟨_, _, Nn, _, rfl, ⟨htold.out, hn1, hn2⟩, RdD.set3 y33 R33 dcells32 _ _ _, below_set3b (Bw.out.trans (B33.mono Bw.out.size)) (by omega) _ _ _⟩

end Go.Proofs.YthmaoohjhnpamaaGreatDoor
