/- planimeterref05.Add, Cmp by values; planimeterref13.Two, Off; chapter 13's of, minus. Conditions: the numbers are of a middle size. -/
import Derived.Test.YthmaoohjhnpamaaGreatDoorLRef1
import Derived.Test.YthmaoohjhnpamaaGreatDoorLogTell
namespace Go.Proofs.YthmaoohjhnpamaaGreatDoor
set_option maxRecDepth 100000
open Go.RowKit Go.ChangeShapes Go.WideShapes
set_option linter.unusedVariables false

theorem RAdd_v {w : World} {u u2 : Value} {n1 n2 : Bool} {m1 m2 : Nat} {e1 e2 k : Int} (h : RdD w u (digs DD m1)) (h' : RdD w u2 (digs DD m2)) (ha : Mid k ⟨n1, m1, e1⟩) (hb : Mid k ⟨n2, m2, e2⟩) (hk : k ≤ 40000) (hk0 : 0 ≤ k) :
    Calls Tryz.prog 21 #[.agg #[.bool n1, u, .int .i64 e1], .agg #[.bool n2, u2, .int .i64 e2]] w (fun e w' => ∃ n m x v, e = .returned (.agg #[.bool n, v, .int .i64 x]) ∧ (qv ⟨n, m, x⟩ = qv ⟨n1, m1, e1⟩ + qv ⟨n2, m2, e2⟩ ∧ Mid (k + 1) ⟨n, m, x⟩) ∧ RdD w' v (digs DD m) ∧ Below w.heap.size w w') := by
  by_cases h0 : m1 = 0
  · subst h0
    refine (RAdd_zl (neg := n1) (neg2 := n2) (E := e1) (E2 := e2) h h').mono ?_
    rintro e w' ⟨v, rfl, r, hb'⟩
    exact ⟨n2, m2, e2, v, rfl, ⟨by rw [qv_zero (d := ⟨n1, 0, e1⟩) rfl, Rat.zero_add], hb.mono (by omega)⟩, r, hb'⟩
  · by_cases h1 : m2 = 0
    · subst h1
      refine (RAdd_zr (neg := n1) (neg2 := n2) (E := e1) (E2 := e2) h h' h0).mono ?_
      rintro e w' ⟨v, rfl, r, hb'⟩
      exact ⟨n1, m1, e1, v, rfl, ⟨by rw [qv_zero (d := ⟨n2, 0, e2⟩) rfl, Rat.add_zero], ha.mono (by omega)⟩, r, hb'⟩
    · have a1 := ha.1; have a2 := ha.2.1; have a3 := ha.2.2; have b1 := hb.1; have b2 := hb.2.1; have b3 := hb.2.2
      dsimp only at a1 a2 a3 b1 b2 b3
      refine (RAdd_n (neg := n1) (neg2 := n2) (E := e1) (E2 := e2) (low := min e1 e2) (s1 := (e1 - min e1 e2).toNat) (s2 := (e2 - min e1 e2).toNat) h h' h0 h1 rfl (by omega) (by omega) rfl rfl (by omega) (by omega) rfl).mono ?_
      rintro e w' ⟨v, rfl, r, hb'⟩
      exact ⟨_, _, _, v, rfl, ⟨qv_sum ⟨n1, m1, e1⟩ ⟨n2, m2, e2⟩, ha.sum hb⟩, r, hb'⟩
theorem RCmp_leq {w : World} {u u2 : Value} {n1 n2 : Bool} {m1 m2 : Nat} {e1 e2 k : Int} (h : RdD w u (digs DD m1)) (h' : RdD w u2 (digs DD m2)) (ha : Mid k ⟨n1, m1, e1⟩) (hb : Mid k ⟨n2, m2, e2⟩) (hk : k ≤ 50000) (hle : qv ⟨n1, m1, e1⟩ ≤ qv ⟨n2, m2, e2⟩) :
    Calls Tryz.prog 29 #[.agg #[.bool n1, u, .int .i64 e1], .agg #[.bool n2, u2, .int .i64 e2]] w (fun e w' => ∃ c : Int, e = .returned (.int .i64 c) ∧ decide (c ≤ 0) = true ∧ Below w.heap.size w w') := by
  have a1 := ha.nums
  have b1 := hb.nums
  refine (RCmp_n h h' (by omega) (by omega) (by omega) (by omega) (by omega) (by omega) rfl).mono ?_
  rintro e w' ⟨rfl, hb'⟩
  exact ⟨_, rfl, decide_eq_true (cmpD_le hle), hb'⟩
theorem rtwo_n {w : World} {m : Nat} (hm : m ≤ 9080) : Calls Tryz.prog 28 #[.int .i64 (m : Int)] w (OneD w (digs DD (refTwoU m * 2))) := by
  have b1 : bitN 1 ≤ 4096 := by rw [bitN_one]; omega
  have b3 : bitN 3 ≤ 4096 := Nat.le_trans (bitN_le.2 (show 3 < 2 ^ 2 by decide)) (by omega)
  have b2 : bitN 2 ≤ 2 := bitN_le.2 (by decide)
  have HN1 : Hid (∀ w, Calls Tryz.prog 48 #[.int .u64 1] w (OneD w (digs DD 1))) := Lib.hid (fun w => num_any (n := 1) (by decide))
  have HN2 : Hid (∀ w, Calls Tryz.prog 48 #[.int .u64 2] w (OneD w (digs DD 2))) := Lib.hid (fun w => num_any (n := 2) (by decide))
  have HN3 : Hid (∀ w, Calls Tryz.prog 48 #[.int .u64 3] w (OneD w (digs DD 3))) := Lib.hid (fun w => num_any (n := 3) (by decide))
  obtain ⟨R, hR⟩ : ∃ R, refTwoU m = R := ⟨_, rfl⟩
  have HRA : Hid (∀ w v u, RdD w v (digs DD 1) → RdD w u (digs DD 3) → Calls Tryz.prog 70 #[v, u, .int .i64 (m : Int)] w (OneD w (digs DD R))) := Lib.hid (fun w v u h h' => by
    rw [← hR]; exact ratanh_n (n := m) h h' hm b1 b3 (by omega) (by omega))
  have sR : bitN R ≤ 10000 := by
    have hT0 : 0 < 2 ^ m := Nat.two_pow_pos _
    have r1 : 1 * 2 ^ m / 3 ≤ 2 ^ m := Nat.div_le_of_le_mul (Nat.mul_le_mul_right _ (by omega))
    have r2 : ∀ r, r ≤ 2 ^ m → refH (2 ^ m) (r * r / 2 ^ m) (m / 3 + 2) (m / 3 + 2 + 1) * r / 2 ^ m ≤ 8192 * 2 ^ m := fun r hr => by
      have q0 : r * r / 2 ^ m ≤ 2 ^ m := Nat.div_le_of_le_mul (Nat.mul_le_mul hr hr)
      have q1 := refH_size (M := m / 3 + 2) hT0 q0 (m / 3 + 2 + 1)
      refine Nat.le_trans (Nat.div_le_of_le_mul ?_) (Nat.le_trans q1 (Nat.mul_le_mul_right _ (by omega)))
      rw [Nat.mul_comm]; exact Nat.mul_le_mul_right _ hr
    rw [← hR]
    unfold refTwoU refAt
    exact Nat.le_trans (bitN_le_pow (r2 _ r1)) (by omega)
  rw [hR]
  clear hR
  go_enter Tryz.func28, Tryz.ntmps28
  go_wp2_with
  (first
    | (go_at_call 48; (with_reducible refine (HN1.out _).mono ?_); rintro e w1 ⟨ve1, rfl, e1, hb1⟩; have B1 := hb1)
    | (go_at_call 48; (with_reducible refine (HN3.out _).mono ?_); rintro e w2 ⟨vf2, rfl, f2, hb2⟩; have B2 := B1.trans (hb2.mono B1.size); have e2 := e1.below hb2; clear e1)
    | (go_at_call 70; (with_reducible refine (HRA.out _ _ _ e2 f2).mono ?_); rintro e w3 ⟨vr3, rfl, r3, hb3⟩; have B3 := B2.trans (hb3.mono B2.size); have e3 := e2.below hb3; have f3 := f2.below hb3; clear e2 f2)
    | (go_at_call 48; (with_reducible refine (HN2.out _).mono ?_); rintro e w4 ⟨vg4, rfl, g4, hb4⟩; have B4 := B3.trans (hb4.mono B3.size); have e4 := e3.below hb4; have f4 := f3.below hb4; have r4 := r3.below hb4; clear e3 f3 r3)
    | (go_at_call 69; (with_reducible refine (rmul_n r4 g4 rfl (by omega) (by omega)).mono ?_); rintro e w5 ⟨vt5, rfl, t5, hb5⟩; have B5 := B4.trans (hb5.mono B4.size); have e5 := e4.below hb5; have f5 := f4.below hb5; have r5 := r4.below hb5; have g5 := g4.below hb5; clear e4 f4 r4 g4)
    | fail)
  go_ret
  exact ⟨_, rfl, t5, B5⟩
theorem lof_n {w : World} {v : Value} {neg n' : Bool} {M M' : Nat} {E E' : Int} (h : Num w v M) (sM : bitN M ≤ 200000) (h1 : -9223372036854775808 ≤ E) (h2 : E ≤ 9223372036854775807) (e : bareD ⟨neg, M, E⟩ = ⟨n', M', E'⟩) :
    Calls Tryz.prog 46 #[.agg #[.bool neg, v, .int .i64 E]] w (fun e w' => ∃ u, e = .returned (.agg #[.bool n', u, .int .i64 E']) ∧ RdD w' u (digs DD M') ∧ Below w.heap.size w w') := by
  obtain ⟨a, n, k, rfl⟩ := h.slice
  have HO := Lib.hid (fun w v (h : Num w v M) => ROf_n h sM h1 h2 e)
  clear e
  go_enter Tryz.func46, Tryz.ntmps46
  go_wp2_with
  (first
    | (go_at_call 18; (with_reducible refine (HO.out _ _ (h.below below_2)).mono ?_); rintro e w1 ⟨vx1, rfl, x1, hb1⟩; have B1 := below_2.trans (hb1.mono below_2.size); have m1 := ((h.below below_2)).below hb1; have P1 := ((blk_a1)).below hb1; have R1 := ((blk_a2)).below hb1; obtain ⟨cP0_1, cP1_1, cP2_1, fP0_1, fP1_1, fP2_1, sP_1⟩ := P1.open3; obtain ⟨cR0_1, cR1_1, cR2_1, fR0_1, fR1_1, fR2_1, sR_1⟩ := R1.open3; obtain ⟨ax1, kx1, rfl, -⟩ := x1.view; try simp only [List.length_nil] at x1)
    | fail)
  obtain ⟨z0, z1, z2, -⟩ := (R1.set3 (.bool n') (.slice ax1 (digs DD M').length kx1) (.int .i64 E')).open3
  refine bodyPost_ret (v := .agg #[.bool n', .slice ax1 (digs DD M').length kx1, .int .i64 E']) ?_ rfl ?_
  · simp [results, Tryz.results46, go_sem, z0, z1, z2]
  · exact ⟨_, rfl, RdD.set3 x1 R1 dcells32 _ _ _, below_set3b B1 (by omega) _ _ _⟩
theorem lminus_n {w : World} {u : Value} {neg : Bool} {M : Nat} {E : Int} (h : RdD w u (digs DD M)) :
    Calls Tryz.prog 47 #[.agg #[.bool neg, u, .int .i64 E]] w (fun e w' => ∃ v, e = .returned (.agg #[.bool (!neg), v, .int .i64 E]) ∧ RdD w' v (digs DD M) ∧ Below w.heap.size w w') := by
  obtain ⟨a, k, rfl, -⟩ := h.view
  go_enter Tryz.func47, Tryz.ntmps47
  go_wp2_with fail
  have R := fun T o => (blk_a2 (w := w) (T := T) (o := o) (c := #[.bool (!neg), .slice a (digs DD M).length k, .int .i64 E])).open3
  have z0 := fun T o => (R T o).1
  have z1 := fun T o => (R T o).2.1
  have z2 := fun T o => (R T o).2.2.1
  refine bodyPost_ret (v := .agg #[.bool (!neg), .slice a (digs DD M).length k, .int .i64 E]) (by simp [results, Tryz.results47, go_sem, z0, z1, z2]) rfl ⟨_, rfl, h.below below_2, below_2⟩
end Go.Proofs.YthmaoohjhnpamaaGreatDoor
