/- dyad.Of of any whole number, by its value. Conditions: math/bits' table stands in its variable. -/
import Derived.Test.YtflkemcoomgoiaaDoorLog6
namespace Go.Proofs.YtflkemcoomgoiaaDoor
set_option maxRecDepth 100000
open Go.RowKit Go.ChangeShapes Go.WideShapes
set_option linter.unusedVariables false

theorem mid_of {neg : Bool} {m : Nat} (h : m < 4611686018427387904) : Mid 64 ⟨neg, m, 0⟩ := by
  have h1 : bitN m ≤ 62 := bitN_le.2 (by omega)
  exact ⟨by show (-64 : Int) ≤ 0; omega, by show (0 : Int) ≤ 64; omega, by show (bitN m : Int) + 0 ≤ 64; omega⟩
theorem Of_v {w : World} {n : Int} (h1 : -4611686018427387904 < n) (h2 : n < 4611686018427387904) (hT : Tab w) :
    Calls Tryd.prog 16 #[.int .i64 n] w (fun e w' => ∃ n' M' E' v, e = .returned (.agg #[.bool n', v, .int .i64 E']) ∧ (qv ⟨n', M', E'⟩ = (n : Rat) ∧ Mid 64 ⟨n', M', E'⟩ ∧ bareD ⟨n', M', E'⟩ = ⟨n', M', E'⟩) ∧ RdN w' v (digs BB M') ∧ Below w.heap.size w w') := by
  by_cases hn : 0 ≤ n
  · obtain ⟨m, rfl⟩ := Int.eq_ofNat_of_zero_le hn
    have hm : m < 4611686018427387904 := by omega
    obtain ⟨a1, -, -, -, a5⟩ := (mid_of (neg := false) hm).bare (by omega) (by omega)
    obtain ⟨⟨n', M', E'⟩, e⟩ : ∃ d, bareD ⟨false, m, 0⟩ = d := ⟨_, rfl⟩
    have a6 := bareD_bare ⟨false, m, 0⟩ (by have := a1.1; omega) (by have := a1.2.1; omega)
    rw [e] at a1 a5 a6
    refine (Of_n (by omega) hT e).mono ?_
    rintro r w' ⟨v, rfl, ⟨u, rfl, hu⟩, hb⟩
    refine ⟨n', M', E', u, rfl, ⟨?_, a1, a6⟩, hu, hb⟩
    rw [a5, qv_pos, pw_zero, Rat.mul_one]
    rfl
  · obtain ⟨m, hm⟩ : ∃ m : Nat, n = -(m : Int) := ⟨n.natAbs, by omega⟩
    subst hm
    have hm : m < 4611686018427387904 := by omega
    obtain ⟨a1, -, -, -, a5⟩ := (mid_of (neg := true) hm).bare (by omega) (by omega)
    obtain ⟨⟨n', M', E'⟩, e⟩ : ∃ d, bareD ⟨true, m, 0⟩ = d := ⟨_, rfl⟩
    have a6 := bareD_bare ⟨true, m, 0⟩ (by have := a1.1; omega) (by have := a1.2.1; omega)
    rw [e] at a1 a5 a6
    have fin : qv ⟨n', M', E'⟩ = ((-(m : Int) : Int) : Rat) := by
      rw [a5, qv_neg, pw_zero, Rat.mul_one, Rat.intCast_neg]
      rfl
    have hd : decide (-(m : Int) < 0) = true := decide_eq_true (by omega)
    have hd2 : decide (0 < (m : Int)) = true := decide_eq_true (by omega)
    have hd3 : decide (0 < m) = true := decide_eq_true (by omega)
    have hw : IntKind.u64.wrap (-IntKind.u64.wrap (-(m : Int))) = (m : Int) := by rw [IntKind.wrap_u64, IntKind.wrap_u64]; omega
    have hB : m < BB := by unfold BB; omega
    have hX := Lib.hid (fun w v (h : RdN w v [m]) (hT : Tab w) => bare_d (neg := true) (E := 0) (h.num1 hB) hT (by decide) (by decide) e)
    clear e hn
    go_enter Tryd.func16, Tryd.ntmps16
    go_wp2_with
    (first
      | (go_at_call 34; (with_reducible refine (hX.out _ _ (rd_lit2) (hT.below below_2)).mono ?_); rintro e w1 ⟨vd1, rfl, d1, hb1⟩; have B1 := below_2.trans (hb1.mono below_2.size); have m1 := ((rd_lit2)).below hb1; have T1 := ((hT.below below_2)).below hb1; have R1 := ((blk_a1)).below hb1; obtain ⟨cR0_1, cR1_1, cR2_1, fR0_1, fR1_1, fR2_1, sR_1⟩ := R1.open3; obtain ⟨ud1, rfl, d1⟩ := d1; obtain ⟨ad1, kd1, rfl, -⟩ := d1.view)
      | fail)
    obtain ⟨q0, q1, q2, -⟩ := (R1.set3 (.bool n') (.slice ad1 (digs BB M').length kd1) (.int .i64 E')).open3
    refine bodyPost_ret (v := .agg #[.bool n', .slice ad1 (digs BB M').length kd1, .int .i64 E']) ?_ rfl ?_
    · simp [results, Tryd.results16, go_sem, q0, q1, q2]
    · exact ⟨n', M', E', _, rfl, ⟨fin, a1, a6⟩, d1.set3 R1 dcells _ _ _, below_set3 B1 (Nat.le_refl _) _ _ _⟩
end Go.Proofs.YtflkemcoomgoiaaDoor
