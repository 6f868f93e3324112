/- exp of a logarithm's interval, plainly. Conditions: none. -/
import Derived.Test.YthmaoohjhnpamaaDoorExpsLaw4
namespace Go.Proofs.YthmaoohjhnpamaaDoor
set_option maxRecDepth 100000
set_option linter.unusedVariables false

theorem exp_1 (n : Nat) : XL (-(n : Rat)) (pw (n : Int)) 1 := by
  have h := (exp_710.mono (p := -1) (by decide +kernel)).pow n
  rw [pow_two, one_pow'] at h
  have e : (n : Rat) * -1 = -(n : Rat) := by grind
  rwa [e] at h
theorem ln_bound {x lo hi : Rat} {n : Nat} (k : LnIn x lo hi) (h1 : pw (-(n : Int)) ≤ x) (h2 : x ≤ pw (n : Int)) : lo ≤ (n : Rat) ∧ -(n : Rat) ≤ hi := by
  have hx := k.pos
  constructor
  · exact k.lo.le_of ((exp_1 n).down hx h2)
  · have hu : pw (-(n : Int)) * pw (n : Int) = 1 := pw_neg (n : Int)
    -- exp (-hi) <= 1 / x <= 2 ^ n
    have h3 : XL (-hi) (pw (-(n : Int))) 1 := k.hi.down (pw_pos _) h1
    have h4 := h3.scale (pw_pos (n : Int))
    rw [hu, Rat.one_mul] at h4
    have := h4.le_of (exp_1 n)
    grind
/-- A logarithm's interval, of a number between 2^-1100 and 2^1100. -/
theorem log_mid {d lo hi : Dn} {s : Nat} (o : LogOk d lo hi s) (s1 : 32 ≤ s) (ht : (topD d).natAbs ≤ 1098) (h1 : pw (-(1100 : Nat)) ≤ qv d) (h2 : qv d ≤ pw ((1100 : Nat) : Int)) :
    -1102 ≤ qv lo ∧ qv lo ≤ 1102 ∧ -1102 ≤ qv hi ∧ qv hi ≤ 1102 ∧ qv lo ≤ qv hi := by
  obtain ⟨a1, a2⟩ := ln_bound o.ln h1 h2
  have a3 := o.ln.le_self
  have hw := o.wide
  have hp := pw_pos (-(s : Int))
  have hsm : (((topD d).natAbs + 2 : Nat) : Rat) * ((2 * s + 128 : Nat) : Rat) * pw (-(s : Int)) ≤ 1 := by
    obtain ⟨j, rfl⟩ : ∃ j, s = 32 + j := ⟨s - 32, by omega⟩
    have h7 := two_s j
    have h8 : ((topD d).natAbs + 2) * (2 * (32 + j) + 128) ≤ 2 ^ (32 + j) := by
      have h9 : ((topD d).natAbs + 2) * (2 * (32 + j) + 128) ≤ 16777216 * 2 ^ (8 + j) := Nat.mul_le_mul (by omega) h7
      rw [show 32 + j = 24 + (8 + j) by omega, Nat.pow_add]
      rw [show 32 + j = 24 + (8 + j) by omega] at h9
      exact h9
    have h10 := Rat.mul_le_mul_of_nonneg_right (rq_le h8) (Rat.le_of_lt hp)
    rw [pw_unit, Rat.natCast_mul] at h10
    exact h10
  have e : ((1100 : Nat) : Rat) = 1100 := rfl
  rw [e] at a1 a2
  refine ⟨by grind, by grind, by grind, by grind, a3⟩
theorem exp_log_lo {x l r : Rat} (k : XL l 1 x) (h : XL (-l) r 1) : r ≤ x := by
  have := k.mul h
  rw [Rat.mul_one, Rat.one_mul] at this
  have e : l + -l = 0 := by grind
  rw [e] at this
  exact this.zero_le
theorem exp_log_hi {x h r m : Rat} (k : XL (-h) x 1) (hm : h ≤ m) (k' : XL m 1 r) : x ≤ r := by
  have := k.mul (k'.mono hm)
  rw [Rat.mul_one, Rat.one_mul] at this
  have e : -h + h = 0 := by grind
  rw [e] at this
  exact this.zero_le
theorem more_sizes {n : Bool} {m : Nat} {e : Int} {k : Int} (h : Mid k ⟨n, m, e⟩) (hk : k ≤ 19000) (h1 : qv ⟨n, m, e⟩ < 4096) (h2 : -4096 < qv ⟨n, m, e⟩) : bitN m ≤ 20000 ∧ -20000 ≤ e ∧ e ≤ 20000 := by
  obtain ⟨a1, a2, a3⟩ := h
  dsimp only at a1 a2 a3
  by_cases h0 : m = 0
  · rw [h0, bitN_zero]; omega
  · have := top_small (d := ⟨n, m, e⟩) h0 h1 h2
    dsimp only at this
    omega
theorem small_val {m : Nat} {e : Int} (h0 : m ≠ 0) (hm : m < 18446744073709551616) (he : e.natAbs ≤ 999) : pw (-((1100 : Nat) : Int)) ≤ qv ⟨false, m, e⟩ ∧ qv ⟨false, m, e⟩ ≤ pw ((1100 : Nat) : Int) := by
  rw [qv_pos]
  have hp := pw_pos e
  constructor
  · have h1 := Rat.mul_le_mul_of_nonneg_right (rq_le (show 1 ≤ m by omega)) (Rat.le_of_lt hp)
    have e1 : ((1 : Nat) : Rat) = 1 := rfl
    rw [e1, Rat.one_mul] at h1
    exact Rat.le_trans (pw_mono (show -((1100 : Nat) : Int) ≤ e by omega)) h1
  · have h1 := Rat.mul_le_mul_of_nonneg_right (rq_le (show m ≤ 2 ^ 64 by omega)) (Rat.le_of_lt hp)
    rw [← pw_nat, ← pw_add] at h1
    exact Rat.le_trans h1 (pw_mono (by omega))
theorem little {b : Nat} (hb : b < 4096) : 0 ≤ qv ⟨false, b, -12⟩ ∧ qv ⟨false, b, -12⟩ ≤ 1 := by
  rw [qv_pos]
  have hp := pw_pos (-12)
  refine ⟨Rat.mul_nonneg (rq_nat_nonneg b) (Rat.le_of_lt hp), ?_⟩
  have h1 := Rat.mul_le_mul_of_nonneg_right (rq_le (show b ≤ 2 ^ 12 by omega)) (Rat.le_of_lt hp)
  have h2 := pw_unit 12
  rw [show -((12 : Nat) : Int) = -12 from rfl] at h2
  rw [h2] at h1
  exact h1
end Go.Proofs.YthmaoohjhnpamaaDoor
