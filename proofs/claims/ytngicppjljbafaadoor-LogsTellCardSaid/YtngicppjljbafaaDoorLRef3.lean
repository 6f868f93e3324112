/- planimeterref13.Log by its contract. Conditions: the numbers are short. -/
import Derived.Test.YtngicppjljbafaaDoorLRef2
namespace Go.Proofs.YtngicppjljbafaaDoor
set_option maxRecDepth 100000
open Go.RowKit Go.ChangeShapes Go.WideShapes
set_option linter.unusedVariables false

theorem refAt_bits {A B m : Nat} (hAB : A ≤ B) (hm : m ≤ 9080) : bitN (refAt A B (2 ^ m) (m / 3 + 2)) ≤ m + 14 := by
  have hT0 : 0 < 2 ^ m := Nat.two_pow_pos _
  have r1 : A * 2 ^ m / B ≤ 2 ^ m := Nat.div_le_of_le_mul (Nat.mul_le_mul_right _ hAB)
  have r2 : ∀ r, r ≤ 2 ^ m → refH (2 ^ m) (r * r / 2 ^ m) (m / 3 + 2) (m / 3 + 2 + 1) * r / 2 ^ m ≤ 8192 * 2 ^ m := fun r hr => by
    have q0 : r * r / 2 ^ m ≤ 2 ^ m := Nat.div_le_of_le_mul (Nat.mul_le_mul hr hr)
    have q1 := refH_size (M := m / 3 + 2) hT0 q0 (m / 3 + 2 + 1)
    refine Nat.le_trans (Nat.div_le_of_le_mul ?_) (Nat.le_trans q1 (Nat.mul_le_mul_right _ (by omega)))
    rw [Nat.mul_comm]; exact Nat.mul_le_mul_right _ hr
  unfold refAt
  exact Nat.le_trans (bitN_le_pow (r2 _ r1)) (by omega)

set_option maxHeartbeats 2000000 in
theorem rlog_n {w : World} {u : Value} {M m : Nat} {E t : Int} (h : RdD w u (digs DD M)) (sM : bitN M ≤ 4000) (h0 : M ≠ 0) (rE : -4294967296 ≤ E) (rE2 : E ≤ 4294967296) (ht : topD ⟨false, M, E⟩ = t) (t1 : -1048576 ≤ t) (t2 : t ≤ 1048576) (hm : m ≤ 480) :
    Calls Tryd.prog 24 #[.agg #[.bool false, u, .int .i64 E], .int .i64 (m : Int)] w (fun e w' => ∃ n M' x v, e = .returned (.agg #[.bool n, v, .int .i64 x]) ∧ (qv ⟨n, M', x⟩ = 2 * (refLogU M m : Rat) * pw (-(m : Int)) + (t : Rat) * (2 * (refTwoU m : Rat)) * pw (-(m : Int)) ∧ Mid 2001 ⟨n, M', x⟩) ∧ RdD w' v (digs DD M') ∧ Below w.heap.size w w') := by
  obtain ⟨a, n, k, rfl⟩ := h.slice
  have hb0 : bitN M ≠ 0 := fun e => by have := bitN_lt M; rw [e] at this; omega
  obtain ⟨b, hb⟩ : ∃ b, bitN M = b + 1 := ⟨bitN M - 1, by omega⟩
  obtain ⟨P, hP⟩ : ∃ P, 2 ^ b = P := ⟨_, rfl⟩
  have hPM : P ≤ M := by
    have q := (topn_le h0).1
    rw [hb] at q
    rw [← hP]
    exact q
  have hP0 : 0 < P := by rw [← hP]; exact Nat.two_pow_pos _
  have sP : bitN P ≤ 4000 := Nat.le_trans (bitN_mono hPM) sM
  obtain ⟨A, hA⟩ : ∃ A, M - P = A := ⟨_, rfl⟩
  obtain ⟨B, hB⟩ : ∃ B, M + P = B := ⟨_, rfl⟩
  have hAB : A ≤ B := by omega
  have sA : bitN A ≤ 4096 := Nat.le_trans (bitN_mono (show A ≤ M by omega)) (by omega)
  have sB : bitN B ≤ 4096 := by
    have q := bitN_lt M
    have : 2 ^ (bitN M + 1) = 2 ^ bitN M + 2 ^ bitN M := by rw [Nat.pow_succ]; omega
    exact Nat.le_trans (bitN_le.2 (show B < 2 ^ (bitN M + 1) by omega)) (by omega)
  obtain ⟨U1, hR1⟩ : ∃ R, refAt A B (2 ^ m) (m / 3 + 2) = R := ⟨_, rfl⟩
  obtain ⟨U2, hR2⟩ : ∃ R, refTwoU m = R := ⟨_, rfl⟩
  obtain ⟨K, hK⟩ : ∃ K, t.natAbs = K := ⟨_, rfl⟩
  have hRL : refLogU M m = U1 := by
    unfold refLogU
    rw [hb, show b + 1 - 1 = b from rfl, hP, hA, hB]
    exact hR1
  have sR1 : bitN U1 ≤ 494 := by rw [← hR1]; exact Nat.le_trans (refAt_bits hAB (by omega)) (by omega)
  have sR2 : bitN U2 ≤ 494 := by rw [← hR2]; exact Nat.le_trans (refAt_bits (by omega) (by omega)) (by omega)
  have HRA : Hid (∀ w v u, RdD w v (digs DD A) → RdD w u (digs DD B) → Calls Tryd.prog 56 #[v, u, .int .i64 (m : Int)] w (OneD w (digs DD U1))) := Lib.hid (fun w v u h h' => by
    rw [← hR1]; exact ratanh_n (n := m) h h' (by omega) sA sB (by omega) hAB)
  have HTW : Hid (∀ w, Calls Tryd.prog 57 #[.int .i64 (m : Int)] w (OneD w (digs DD (U2 * 2)))) := Lib.hid (fun w => by rw [← hR2]; exact rtwo_n (by omega))
  have HSU : Hid (∀ w v u, RdD w v (digs DD M) → RdD w u (digs DD P) → Calls Tryd.prog 14 #[v, u] w (OneD w (digs DD A))) := Lib.hid (fun w v u h k => by
    rw [← hA]; exact rsub_any h k (Nat.le_trans (digsDlen (by omega)) (by omega)) hPM (by omega))
  have HSH : Hid (∀ w v, RdD w v (digs DD 1) → Calls Tryd.prog 16 #[v, .int .i64 (b : Int)] w (OneD w (digs DD P))) := Lib.hid (fun w v h => by
    have := rshl_n (n := b) h (by have := bitN_one; omega)
    rwa [Nat.one_mul, hP] at this)
  have HAD : Hid (∀ w v u, RdD w v (digs DD M) → RdD w u (digs DD P) → Calls Tryd.prog 12 #[v, u] w (OneD w (digs DD B))) := Lib.hid (fun w v u h k => radd_n h k hB (by omega) (by omega))
  have HTP : Hid (∀ w v, RdD w v (digs DD M) → Calls Tryd.prog 20 #[.agg #[.bool false, v, .int .i64 E]] w (fun e w' => e = .returned (.int .i64 t) ∧ Below w.heap.size w w')) := Lib.hid (fun w v h => by rw [← ht]; exact RTop_n h (by omega) rE rE2)
  have HN1 : Hid (∀ w, Calls Tryd.prog 17 #[.int .u64 1] w (OneD w (digs DD 1))) := Lib.hid (fun w => num_any (n := 1) (by decide))
  have HN2 : Hid (∀ w, Calls Tryd.prog 17 #[.int .u64 2] w (OneD w (digs DD 2))) := Lib.hid (fun w => num_any (n := 2) (by decide))
  have HNK : Hid (∀ w, Calls Tryd.prog 17 #[.int .u64 (K : Int)] w (OneD w (digs DD K))) := Lib.hid (fun w => num_any (n := K) (by rw [show BB = 18446744073709551616 from rfl]; omega))
  have HML : Hid (∀ w v u, RdD w v (digs DD U1) → RdD w u (digs DD 2) → Calls Tryd.prog 55 #[v, u] w (OneD w (digs DD (U1 * 2)))) := Lib.hid (fun w v u h k => rmul_n h k rfl (by omega) (Nat.le_trans (bitN_le.2 (show 2 < 2 ^ 2 by decide)) (by omega)))
  have s22 : bitN (U2 * 2) ≤ 495 := by
    have q := bitN_lt U2
    have : 2 ^ (bitN U2 + 1) = 2 ^ bitN U2 * 2 := by rw [Nat.pow_succ]
    exact Nat.le_trans (bitN_le.2 (show U2 * 2 < 2 ^ (bitN U2 + 1) by omega)) (by omega)
  have sK : bitN K ≤ 21 := bitN_le.2 (show K < 2 ^ 21 by omega)
  have HM2 : Hid (∀ w v u, RdD w v (digs DD (U2 * 2)) → RdD w u (digs DD K) → Calls Tryd.prog 55 #[v, u] w (OneD w (digs DD (U2 * 2 * K)))) := Lib.hid (fun w v u h k => rmul_n h k rfl (by omega) (by omega))
  have wm : IntKind.i64.wrap (-(m : Int)) = -(m : Int) := by rw [IntKind.wrap_i64]; omega
  have wb : wrap64 (b : Int) = (b : Int) := by unfold wrap64; omega
  have wK : IntKind.u64.wrap (K : Int) = (K : Int) := by rw [IntKind.wrap_u64]; omega
  have s21 : bitN (U1 * 2) ≤ 495 := by
    have q := bitN_lt U1
    have : 2 ^ (bitN U1 + 1) = 2 ^ bitN U1 * 2 := by rw [Nat.pow_succ]
    exact Nat.le_trans (bitN_le.2 (show U1 * 2 < 2 ^ (bitN U1 + 1) by omega)) (by omega)
  have s2K : bitN (U2 * 2 * K) ≤ 520 := by
    have q := bitN_lt (U2 * 2)
    have q2 := bitN_lt K
    have : U2 * 2 * K < 2 ^ (bitN (U2 * 2) + bitN K) := by rw [Nat.pow_add]; exact Nat.mul_lt_mul'' q q2
    exact Nat.le_trans (bitN_le.2 this) (by omega)
  have m1 : Mid 2000 ⟨false, U1 * 2, -(m : Int)⟩ := ⟨by dsimp only; omega, by dsimp only; omega, by dsimp only; omega⟩
  have m2 : ∀ n, Mid 2000 ⟨n, U2 * 2 * K, -(m : Int)⟩ := fun n => ⟨by dsimp only; omega, by dsimp only; omega, by dsimp only; omega⟩
  have ebb := Lib.hid hb
  have hway : (decide (t < 0) = true ∧ IntKind.i64.wrap (-t) = (K : Int) ∧ IntKind.u64.wrap (K : Int) = (K : Int) ∧ qv ⟨true, U2 * 2 * K, -(m : Int)⟩ = (t : Rat) * (2 * (U2 : Rat)) * pw (-(m : Int))) ∨ (decide (t < 0) = false ∧ IntKind.u64.wrap t = (K : Int) ∧ qv ⟨false, U2 * 2 * K, -(m : Int)⟩ = (t : Rat) * (2 * (U2 : Rat)) * pw (-(m : Int))) := by
    by_cases c : t < 0
    · refine .inl ⟨decide_eq_true c, by rw [IntKind.wrap_i64]; omega, wK, ?_⟩
      have hna : ((K : Nat) : Rat) = -(t : Rat) := by
        have : ((K : Nat) : Int) = -t := by omega
        have h2 : (((K : Nat) : Int) : Rat) = ((-t : Int) : Rat) := by rw [this]
        rw [Rat.intCast_neg] at h2
        exact h2
      simp only [qv, if_true, Rat.natCast_mul, hna]
      grind
    · refine .inr ⟨decide_eq_false c, by rw [IntKind.wrap_u64]; omega, ?_⟩
      have hna : ((K : Nat) : Rat) = (t : Rat) := by
        have : ((K : Nat) : Int) = t := by omega
        have h2 : (((K : Nat) : Int) : Rat) = ((t : Int) : Rat) := by rw [this]
        exact h2
      simp only [qv, Rat.natCast_mul, hna]
      grind
  have hv1 : qv ⟨false, U1 * 2, -(m : Int)⟩ = 2 * (U1 : Rat) * pw (-(m : Int)) := by
    simp only [qv, Rat.natCast_mul]
    grind
  rw [hRL, hR2]
  have HRD : ∀ n, Hid (∀ w v u, RdD w v (digs DD (U1 * 2)) → RdD w u (digs DD (U2 * 2 * K)) → Calls Tryd.prog 53 #[.agg #[.bool false, v, .int .i64 (-(m : Int))], .agg #[.bool n, u, .int .i64 (-(m : Int))]] w (fun e w' => ∃ n' m' x v, e = .returned (.agg #[.bool n', v, .int .i64 x]) ∧ (qv ⟨n', m', x⟩ = qv ⟨false, U1 * 2, -(m : Int)⟩ + qv ⟨n, U2 * 2 * K, -(m : Int)⟩ ∧ Mid 2001 ⟨n', m', x⟩) ∧ RdD w' v (digs DD m') ∧ Below w.heap.size w w')) := fun n => Lib.hid (fun w v u h k => RAdd_v h k m1 (m2 n) (by omega) (by omega))
  clear hb hRL hR1 hR2 hA hB hP hPM hK ht t1 t2 hm m1 m2 sA sB sR1 sR2 s22 sK s21 s2K hAB sP h0 hb0 rE rE2
  rcases hway with ⟨dt, wt, wk, hq⟩ | ⟨dt, wt, hq⟩
  · have HR1 := HRD true
    clear HRD
    go_enter Tryd.func24, Tryd.ntmps24
    go_upto_region 3 with
    (first
      | (go_at_call 15; (with_reducible refine (rbits_n (h.below below_2) ebb.out (by omega)).mono ?_); rintro e w1 ⟨rfl, rfl⟩)
      | (go_at_call 17; (with_reducible refine (HN1.out _).mono ?_); rintro e w2 ⟨ve2, rfl, e2, hb2⟩; have B2 := below_2.trans (hb2.mono below_2.size); have x2 := ((h.below below_2)).below hb2; have P2 := ((blk_a1)).below hb2; have R2 := ((blk_a2)).below hb2; obtain ⟨cP0_2, cP1_2, cP2_2, fP0_2, fP1_2, fP2_2, sP_2⟩ := P2.open3; obtain ⟨cR0_2, cR1_2, cR2_2, fR0_2, fR1_2, fR2_2, sR_2⟩ := R2.open3)
      | (go_at_call 16; (with_reducible refine (HSH.out _ _ e2).mono ?_); rintro e w3 ⟨vf3, rfl, f3, hb3⟩; have B3 := B2.trans (hb3.mono B2.size); have x3 := x2.below hb3; have P3 := P2.below hb3; have R3 := R2.below hb3; have e3 := e2.below hb3; clear x2 P2 R2 e2; clear cP0_2 cP1_2 cP2_2 fP0_2 fP1_2 fP2_2 sP_2; obtain ⟨cP0_3, cP1_3, cP2_3, fP0_3, fP1_3, fP2_3, sP_3⟩ := P3.open3; clear cR0_2 cR1_2 cR2_2 fR0_2 fR1_2 fR2_2 sR_2; obtain ⟨cR0_3, cR1_3, cR2_3, fR0_3, fR1_3, fR2_3, sR_3⟩ := R3.open3)
      | fail)
    have Dw : Below w3.heap.size w3 w3.drew := below_drewN (Below.refl _ _) 1
    have md := x3.below Dw; have fd := f3.below Dw; have Pd := P3.below Dw; have Rd := R3.below Dw; have Bd := B3.trans (Dw.mono B3.size)
    have k0 := Lib.hid Pd.open3.2.1
    go_region_held3 (fun w' => w'.cell? ⟨w.heap.size, 1, none⟩ = some (.slice a n k))
      (first | exact k0.out | exact k1.out | exact k2.out)
      (first
        | (go_at_call 14; (with_reducible refine (HSU.out _ _ _ md fd).mono ?_); rintro e z1 ⟨va, rfl, ta, hz1⟩; have md1 := md.below hz1; have fd1 := fd.below hz1; have Pd1 := Pd.below hz1; have Rd1 := Rd.below hz1; have Bd1 := Bd.trans (hz1.mono Bd.size); have k1 := Lib.hid Pd1.open3.2.1)
        | (go_at_call 12; (with_reducible refine (HAD.out _ _ _ md1 fd1).mono ?_); rintro e z2 ⟨vb, rfl, tb, hz2⟩; have ta2 := ta.below hz2; have md2 := md1.below hz2; have Pd2 := Pd1.below hz2; have Rd2 := Rd1.below hz2; have Bd2 := Bd1.trans (hz2.mono Bd1.size); have k2 := Lib.hid Pd2.open3.2.1)
        | fail)
    go_wp2_with
            (first
              | (go_at_call 56; (with_reducible refine (HRA.out _ _ _ ta2 tb).mono ?_); rintro e w41 ⟨vr41, rfl, r41, hb41⟩; have B41 := Bd2.trans (hb41.mono Bd2.size); have x41 := md2.below hb41; have g41 := ta2.below hb41; have h41 := tb.below hb41; have P41 := Pd2.below hb41; have R41 := Rd2.below hb41; clear md2 ta2 tb Pd2 Rd2; obtain ⟨cP0_41, cP1_41, cP2_41, fP0_41, fP1_41, fP2_41, sP_41⟩ := P41.open3; obtain ⟨cR0_41, cR1_41, cR2_41, fR0_41, fR1_41, fR2_41, sR_41⟩ := R41.open3)
              | (go_at_call 17; (with_reducible refine (HN2.out _).mono ?_); rintro e w42 ⟨ve42, rfl, e42, hb42⟩; have B42 := B41.trans (hb42.mono B41.size); have x42 := x41.below hb42; have g42 := g41.below hb42; have h42 := h41.below hb42; have P42 := P41.below hb42; have R42 := R41.below hb42; have r42 := r41.below hb42; clear x41 g41 h41 P41 R41 r41; clear cP0_41 cP1_41 cP2_41 fP0_41 fP1_41 fP2_41 sP_41; obtain ⟨cP0_42, cP1_42, cP2_42, fP0_42, fP1_42, fP2_42, sP_42⟩ := P42.open3; clear cR0_41 cR1_41 cR2_41 fR0_41 fR1_41 fR2_41 sR_41; obtain ⟨cR0_42, cR1_42, cR2_42, fR0_42, fR1_42, fR2_42, sR_42⟩ := R42.open3)
              | (go_at_call 55; (with_reducible refine (HML.out _ _ _ r42 e42).mono ?_); rintro e w43 ⟨vl43, rfl, l43, hb43⟩; have B43 := B42.trans (hb43.mono B42.size); have x43 := x42.below hb43; have g43 := g42.below hb43; have h43 := h42.below hb43; have P43 := P42.below hb43; have R43 := R42.below hb43; have r43 := r42.below hb43; have e43 := e42.below hb43; clear x42 g42 h42 P42 R42 r42 e42; clear cP0_42 cP1_42 cP2_42 fP0_42 fP1_42 fP2_42 sP_42; obtain ⟨cP0_43, cP1_43, cP2_43, fP0_43, fP1_43, fP2_43, sP_43⟩ := P43.open3; clear cR0_42 cR1_42 cR2_42 fR0_42 fR1_42 fR2_42 sR_42; obtain ⟨cR0_43, cR1_43, cR2_43, fR0_43, fR1_43, fR2_43, sR_43⟩ := R43.open3; obtain ⟨al43, kl43, rfl, -⟩ := l43.view; try simp only [List.length_nil] at l43)
              | (go_at_call 20; (with_reducible refine (HTP.out _ _ x43).mono ?_); rintro e w44 ⟨rfl, hb44⟩; have B44 := B43.trans (hb44.mono B43.size); have x44 := x43.below hb44; have g44 := g43.below hb44; have h44 := h43.below hb44; have P44 := P43.below hb44; have R44 := R43.below hb44; have r44 := r43.below hb44; have e44 := e43.below hb44; have l44 := l43.below hb44; clear x43 g43 h43 P43 R43 r43 e43 l43; clear cP0_43 cP1_43 cP2_43 fP0_43 fP1_43 fP2_43 sP_43; obtain ⟨cP0_44, cP1_44, cP2_44, fP0_44, fP1_44, fP2_44, sP_44⟩ := P44.open3; clear cR0_43 cR1_43 cR2_43 fR0_43 fR1_43 fR2_43 sR_43; obtain ⟨cR0_44, cR1_44, cR2_44, fR0_44, fR1_44, fR2_44, sR_44⟩ := R44.open3)
              | (go_at_call 57; (with_reducible refine (HTW.out _).mono ?_); rintro e w45 ⟨vj45, rfl, j45, hb45⟩; have B45 := B44.trans (hb45.mono B44.size); have x45 := x44.below hb45; have g45 := g44.below hb45; have h45 := h44.below hb45; have P45 := P44.below hb45; have R45 := R44.below hb45; have r45 := r44.below hb45; have e45 := e44.below hb45; have l45 := l44.below hb45; clear x44 g44 h44 P44 R44 r44 e44 l44; clear cP0_44 cP1_44 cP2_44 fP0_44 fP1_44 fP2_44 sP_44; obtain ⟨cP0_45, cP1_45, cP2_45, fP0_45, fP1_45, fP2_45, sP_45⟩ := P45.open3; clear cR0_44 cR1_44 cR2_44 fR0_44 fR1_44 fR2_44 sR_44; obtain ⟨cR0_45, cR1_45, cR2_45, fR0_45, fR1_45, fR2_45, sR_45⟩ := R45.open3)
              | (go_at_call 17; (with_reducible refine (HNK.out _).mono ?_); rintro e w46 ⟨vq46, rfl, q46, hb46⟩; have B46 := B45.trans (hb46.mono B45.size); have x46 := x45.below hb46; have g46 := g45.below hb46; have h46 := h45.below hb46; have P46 := P45.below hb46; have R46 := R45.below hb46; have r46 := r45.below hb46; have e46 := e45.below hb46; have l46 := l45.below hb46; have j46 := j45.below hb46; clear x45 g45 h45 P45 R45 r45 e45 l45 j45; clear cP0_45 cP1_45 cP2_45 fP0_45 fP1_45 fP2_45 sP_45; obtain ⟨cP0_46, cP1_46, cP2_46, fP0_46, fP1_46, fP2_46, sP_46⟩ := P46.open3; clear cR0_45 cR1_45 cR2_45 fR0_45 fR1_45 fR2_45 sR_45; obtain ⟨cR0_46, cR1_46, cR2_46, fR0_46, fR1_46, fR2_46, sR_46⟩ := R46.open3)
              | (go_at_call 55; (with_reducible refine (HM2.out _ _ _ j46 q46).mono ?_); rintro e w47 ⟨vi47, rfl, i47, hb47⟩; have B47 := B46.trans (hb47.mono B46.size); have x47 := x46.below hb47; have g47 := g46.below hb47; have h47 := h46.below hb47; have P47 := P46.below hb47; have R47 := R46.below hb47; have r47 := r46.below hb47; have e47 := e46.below hb47; have l47 := l46.below hb47; have j47 := j46.below hb47; have q47 := q46.below hb47; clear x46 g46 h46 P46 R46 r46 e46 l46 j46 q46; clear cP0_46 cP1_46 cP2_46 fP0_46 fP1_46 fP2_46 sP_46; obtain ⟨cP0_47, cP1_47, cP2_47, fP0_47, fP1_47, fP2_47, sP_47⟩ := P47.open3; clear cR0_46 cR1_46 cR2_46 fR0_46 fR1_46 fR2_46 sR_46; obtain ⟨cR0_47, cR1_47, cR2_47, fR0_47, fR1_47, fR2_47, sR_47⟩ := R47.open3; obtain ⟨ai47, ki47, rfl, -⟩ := i47.view; try simp only [List.length_nil] at i47)
              | (go_at_call 53; (with_reducible refine (HR1.out _ _ _ (l47.below (below_alloc _ _)) (i47.below (below_alloc _ _))).mono ?_); rintro e w48 ⟨n1, p1, x1, vz, rfl, hz, z48, hb48⟩; have hb48' := (below_a hb48); have B48 := B47.trans (hb48'.mono B47.size); have x48 := x47.below hb48'; have g48 := g47.below hb48'; have h48 := h47.below hb48'; have P48 := P47.below hb48'; have R48 := R47.below hb48'; have r48 := r47.below hb48'; have e48 := e47.below hb48'; have l48 := l47.below hb48'; have j48 := j47.below hb48'; have q48 := q47.below hb48'; have i48 := i47.below hb48'; clear x47 g47 h47 P47 R47 r47 e47 l47 j47 q47 i47; clear cP0_47 cP1_47 cP2_47 fP0_47 fP1_47 fP2_47 sP_47; obtain ⟨cP0_48, cP1_48, cP2_48, fP0_48, fP1_48, fP2_48, sP_48⟩ := P48.open3; clear cR0_47 cR1_47 cR2_47 fR0_47 fR1_47 fR2_47 sR_47; obtain ⟨cR0_48, cR1_48, cR2_48, fR0_48, fR1_48, fR2_48, sR_48⟩ := R48.open3; obtain ⟨az48, kz48, rfl, -⟩ := z48.view; try simp only [List.length_nil] at z48)
              | fail)
    obtain ⟨z0, z1, z2, -⟩ := (R48.set3 (.bool n1) (.slice az48 (digs DD p1).length kz48) (.int .i64 x1)).open3
    refine bodyPost_ret (v := .agg #[.bool n1, .slice az48 (digs DD p1).length kz48, .int .i64 x1]) ?_ rfl ?_
    · simp [results, Tryd.results24, go_sem, z0, z1, z2]
    · exact ⟨_, _, _, _, rfl, ⟨by rw [hz.1, hv1, hq], hz.2⟩, RdD.set3 z48 R48 dcells32 _ _ _, below_set3b B48 (by omega) _ _ _⟩
  · have HR1 := HRD false
    clear HRD
    go_enter Tryd.func24, Tryd.ntmps24
    go_upto_region 3 with
    (first
      | (go_at_call 15; (with_reducible refine (rbits_n (h.below below_2) ebb.out (by omega)).mono ?_); rintro e w1 ⟨rfl, rfl⟩)
      | (go_at_call 17; (with_reducible refine (HN1.out _).mono ?_); rintro e w2 ⟨ve2, rfl, e2, hb2⟩; have B2 := below_2.trans (hb2.mono below_2.size); have x2 := ((h.below below_2)).below hb2; have P2 := ((blk_a1)).below hb2; have R2 := ((blk_a2)).below hb2; obtain ⟨cP0_2, cP1_2, cP2_2, fP0_2, fP1_2, fP2_2, sP_2⟩ := P2.open3; obtain ⟨cR0_2, cR1_2, cR2_2, fR0_2, fR1_2, fR2_2, sR_2⟩ := R2.open3)
      | (go_at_call 16; (with_reducible refine (HSH.out _ _ e2).mono ?_); rintro e w3 ⟨vf3, rfl, f3, hb3⟩; have B3 := B2.trans (hb3.mono B2.size); have x3 := x2.below hb3; have P3 := P2.below hb3; have R3 := R2.below hb3; have e3 := e2.below hb3; clear x2 P2 R2 e2; clear cP0_2 cP1_2 cP2_2 fP0_2 fP1_2 fP2_2 sP_2; obtain ⟨cP0_3, cP1_3, cP2_3, fP0_3, fP1_3, fP2_3, sP_3⟩ := P3.open3; clear cR0_2 cR1_2 cR2_2 fR0_2 fR1_2 fR2_2 sR_2; obtain ⟨cR0_3, cR1_3, cR2_3, fR0_3, fR1_3, fR2_3, sR_3⟩ := R3.open3)
      | fail)
    have Dw : Below w3.heap.size w3 w3.drew := below_drewN (Below.refl _ _) 1
    have md := x3.below Dw; have fd := f3.below Dw; have Pd := P3.below Dw; have Rd := R3.below Dw; have Bd := B3.trans (Dw.mono B3.size)
    have k0 := Lib.hid Pd.open3.2.1
    go_region_held3 (fun w' => w'.cell? ⟨w.heap.size, 1, none⟩ = some (.slice a n k))
      (first | exact k0.out | exact k1.out | exact k2.out)
      (first
        | (go_at_call 14; (with_reducible refine (HSU.out _ _ _ md fd).mono ?_); rintro e z1 ⟨va, rfl, ta, hz1⟩; have md1 := md.below hz1; have fd1 := fd.below hz1; have Pd1 := Pd.below hz1; have Rd1 := Rd.below hz1; have Bd1 := Bd.trans (hz1.mono Bd.size); have k1 := Lib.hid Pd1.open3.2.1)
        | (go_at_call 12; (with_reducible refine (HAD.out _ _ _ md1 fd1).mono ?_); rintro e z2 ⟨vb, rfl, tb, hz2⟩; have ta2 := ta.below hz2; have md2 := md1.below hz2; have Pd2 := Pd1.below hz2; have Rd2 := Rd1.below hz2; have Bd2 := Bd1.trans (hz2.mono Bd1.size); have k2 := Lib.hid Pd2.open3.2.1)
        | fail)
    go_wp2_with
            (first
              | (go_at_call 56; (with_reducible refine (HRA.out _ _ _ ta2 tb).mono ?_); rintro e w41 ⟨vr41, rfl, r41, hb41⟩; have B41 := Bd2.trans (hb41.mono Bd2.size); have x41 := md2.below hb41; have g41 := ta2.below hb41; have h41 := tb.below hb41; have P41 := Pd2.below hb41; have R41 := Rd2.below hb41; clear md2 ta2 tb Pd2 Rd2; obtain ⟨cP0_41, cP1_41, cP2_41, fP0_41, fP1_41, fP2_41, sP_41⟩ := P41.open3; obtain ⟨cR0_41, cR1_41, cR2_41, fR0_41, fR1_41, fR2_41, sR_41⟩ := R41.open3)
              | (go_at_call 17; (with_reducible refine (HN2.out _).mono ?_); rintro e w42 ⟨ve42, rfl, e42, hb42⟩; have B42 := B41.trans (hb42.mono B41.size); have x42 := x41.below hb42; have g42 := g41.below hb42; have h42 := h41.below hb42; have P42 := P41.below hb42; have R42 := R41.below hb42; have r42 := r41.below hb42; clear x41 g41 h41 P41 R41 r41; clear cP0_41 cP1_41 cP2_41 fP0_41 fP1_41 fP2_41 sP_41; obtain ⟨cP0_42, cP1_42, cP2_42, fP0_42, fP1_42, fP2_42, sP_42⟩ := P42.open3; clear cR0_41 cR1_41 cR2_41 fR0_41 fR1_41 fR2_41 sR_41; obtain ⟨cR0_42, cR1_42, cR2_42, fR0_42, fR1_42, fR2_42, sR_42⟩ := R42.open3)
              | (go_at_call 55; (with_reducible refine (HML.out _ _ _ r42 e42).mono ?_); rintro e w43 ⟨vl43, rfl, l43, hb43⟩; have B43 := B42.trans (hb43.mono B42.size); have x43 := x42.below hb43; have g43 := g42.below hb43; have h43 := h42.below hb43; have P43 := P42.below hb43; have R43 := R42.below hb43; have r43 := r42.below hb43; have e43 := e42.below hb43; clear x42 g42 h42 P42 R42 r42 e42; clear cP0_42 cP1_42 cP2_42 fP0_42 fP1_42 fP2_42 sP_42; obtain ⟨cP0_43, cP1_43, cP2_43, fP0_43, fP1_43, fP2_43, sP_43⟩ := P43.open3; clear cR0_42 cR1_42 cR2_42 fR0_42 fR1_42 fR2_42 sR_42; obtain ⟨cR0_43, cR1_43, cR2_43, fR0_43, fR1_43, fR2_43, sR_43⟩ := R43.open3; obtain ⟨al43, kl43, rfl, -⟩ := l43.view; try simp only [List.length_nil] at l43)
              | (go_at_call 20; (with_reducible refine (HTP.out _ _ x43).mono ?_); rintro e w44 ⟨rfl, hb44⟩; have B44 := B43.trans (hb44.mono B43.size); have x44 := x43.below hb44; have g44 := g43.below hb44; have h44 := h43.below hb44; have P44 := P43.below hb44; have R44 := R43.below hb44; have r44 := r43.below hb44; have e44 := e43.below hb44; have l44 := l43.below hb44; clear x43 g43 h43 P43 R43 r43 e43 l43; clear cP0_43 cP1_43 cP2_43 fP0_43 fP1_43 fP2_43 sP_43; obtain ⟨cP0_44, cP1_44, cP2_44, fP0_44, fP1_44, fP2_44, sP_44⟩ := P44.open3; clear cR0_43 cR1_43 cR2_43 fR0_43 fR1_43 fR2_43 sR_43; obtain ⟨cR0_44, cR1_44, cR2_44, fR0_44, fR1_44, fR2_44, sR_44⟩ := R44.open3)
              | (go_at_call 57; (with_reducible refine (HTW.out _).mono ?_); rintro e w45 ⟨vj45, rfl, j45, hb45⟩; have B45 := B44.trans (hb45.mono B44.size); have x45 := x44.below hb45; have g45 := g44.below hb45; have h45 := h44.below hb45; have P45 := P44.below hb45; have R45 := R44.below hb45; have r45 := r44.below hb45; have e45 := e44.below hb45; have l45 := l44.below hb45; clear x44 g44 h44 P44 R44 r44 e44 l44; clear cP0_44 cP1_44 cP2_44 fP0_44 fP1_44 fP2_44 sP_44; obtain ⟨cP0_45, cP1_45, cP2_45, fP0_45, fP1_45, fP2_45, sP_45⟩ := P45.open3; clear cR0_44 cR1_44 cR2_44 fR0_44 fR1_44 fR2_44 sR_44; obtain ⟨cR0_45, cR1_45, cR2_45, fR0_45, fR1_45, fR2_45, sR_45⟩ := R45.open3)
              | (go_at_call 17; (with_reducible refine (HNK.out _).mono ?_); rintro e w46 ⟨vq46, rfl, q46, hb46⟩; have B46 := B45.trans (hb46.mono B45.size); have x46 := x45.below hb46; have g46 := g45.below hb46; have h46 := h45.below hb46; have P46 := P45.below hb46; have R46 := R45.below hb46; have r46 := r45.below hb46; have e46 := e45.below hb46; have l46 := l45.below hb46; have j46 := j45.below hb46; clear x45 g45 h45 P45 R45 r45 e45 l45 j45; clear cP0_45 cP1_45 cP2_45 fP0_45 fP1_45 fP2_45 sP_45; obtain ⟨cP0_46, cP1_46, cP2_46, fP0_46, fP1_46, fP2_46, sP_46⟩ := P46.open3; clear cR0_45 cR1_45 cR2_45 fR0_45 fR1_45 fR2_45 sR_45; obtain ⟨cR0_46, cR1_46, cR2_46, fR0_46, fR1_46, fR2_46, sR_46⟩ := R46.open3)
              | (go_at_call 55; (with_reducible refine (HM2.out _ _ _ j46 q46).mono ?_); rintro e w47 ⟨vi47, rfl, i47, hb47⟩; have B47 := B46.trans (hb47.mono B46.size); have x47 := x46.below hb47; have g47 := g46.below hb47; have h47 := h46.below hb47; have P47 := P46.below hb47; have R47 := R46.below hb47; have r47 := r46.below hb47; have e47 := e46.below hb47; have l47 := l46.below hb47; have j47 := j46.below hb47; have q47 := q46.below hb47; clear x46 g46 h46 P46 R46 r46 e46 l46 j46 q46; clear cP0_46 cP1_46 cP2_46 fP0_46 fP1_46 fP2_46 sP_46; obtain ⟨cP0_47, cP1_47, cP2_47, fP0_47, fP1_47, fP2_47, sP_47⟩ := P47.open3; clear cR0_46 cR1_46 cR2_46 fR0_46 fR1_46 fR2_46 sR_46; obtain ⟨cR0_47, cR1_47, cR2_47, fR0_47, fR1_47, fR2_47, sR_47⟩ := R47.open3; obtain ⟨ai47, ki47, rfl, -⟩ := i47.view; try simp only [List.length_nil] at i47)
              | (go_at_call 53; (with_reducible refine (HR1.out _ _ _ (l47.below (below_alloc _ _)) (i47.below (below_alloc _ _))).mono ?_); rintro e w48 ⟨n1, p1, x1, vz, rfl, hz, z48, hb48⟩; have hb48' := (below_a hb48); have B48 := B47.trans (hb48'.mono B47.size); have x48 := x47.below hb48'; have g48 := g47.below hb48'; have h48 := h47.below hb48'; have P48 := P47.below hb48'; have R48 := R47.below hb48'; have r48 := r47.below hb48'; have e48 := e47.below hb48'; have l48 := l47.below hb48'; have j48 := j47.below hb48'; have q48 := q47.below hb48'; have i48 := i47.below hb48'; clear x47 g47 h47 P47 R47 r47 e47 l47 j47 q47 i47; clear cP0_47 cP1_47 cP2_47 fP0_47 fP1_47 fP2_47 sP_47; obtain ⟨cP0_48, cP1_48, cP2_48, fP0_48, fP1_48, fP2_48, sP_48⟩ := P48.open3; clear cR0_47 cR1_47 cR2_47 fR0_47 fR1_47 fR2_47 sR_47; obtain ⟨cR0_48, cR1_48, cR2_48, fR0_48, fR1_48, fR2_48, sR_48⟩ := R48.open3; obtain ⟨az48, kz48, rfl, -⟩ := z48.view; try simp only [List.length_nil] at z48)
              | fail)
    obtain ⟨z0, z1, z2, -⟩ := (R48.set3 (.bool n1) (.slice az48 (digs DD p1).length kz48) (.int .i64 x1)).open3
    refine bodyPost_ret (v := .agg #[.bool n1, .slice az48 (digs DD p1).length kz48, .int .i64 x1]) ?_ rfl ?_
    · simp [results, Tryd.results24, go_sem, z0, z1, z2]
    · exact ⟨_, _, _, _, rfl, ⟨by rw [hz.1, hv1, hq], hz.2⟩, RdD.set3 z48 R48 dcells32 _ _ _, below_set3b B48 (by omega) _ _ _⟩
end Go.Proofs.YtngicppjljbafaaDoor
