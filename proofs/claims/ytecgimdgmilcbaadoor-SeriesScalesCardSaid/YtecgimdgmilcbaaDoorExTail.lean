/- exp's series: what is left behind a term is at most the term. Conditions: none. -/
import Derived.Test.YtecgimdgmilcbaaDoorExLaw
namespace Go.Proofs.YtecgimdgmilcbaaDoor
set_option maxRecDepth 100000
set_option linter.unusedVariables false
theorem inv_half {m : Nat} (hm : 1 ≤ m) : 0 ≤ ((m + 1 : Nat) : Rat)⁻¹ ∧ 2 * ((m + 1 : Nat) : Rat)⁻¹ ≤ 1 := by
  have hp : (0 : Rat) < ((m + 1 : Nat) : Rat) := rq_nat_pos (Nat.succ_pos m)
  have hi : (0 : Rat) ≤ ((m + 1 : Nat) : Rat)⁻¹ := Rat.le_of_lt (Rat.inv_pos.2 hp)
  have h2 : ((2 : Nat) : Rat) ≤ ((m + 1 : Nat) : Rat) := Rat.natCast_le_natCast.2 (by omega)
  have h3 := Rat.mul_le_mul_of_nonneg_right h2 hi
  rw [Rat.mul_inv_cancel _ (fun e => by rw [e] at hp; exact absurd hp (Rat.lt_irrefl))] at h3
  exact ⟨hi, h3⟩
theorem exT_half {x : Rat} (h0 : 0 ≤ x) (h1 : x ≤ 1) {m : Nat} (hm : 1 ≤ m) : 2 * exT x (m + 1) ≤ exT x m := by
  obtain ⟨i0, i2⟩ := inv_half hm
  have t0 := exT_nonneg h0 m
  rw [exT_succ]
  generalize exT x m = t at *
  generalize ((m + 1 : Nat) : Rat)⁻¹ = i at *
  have e : 2 * (t * x * i) = (t * x) * (2 * i) := by grind
  have a1 := Rat.mul_le_mul_of_nonneg_left i2 (Rat.mul_nonneg t0 h0)
  have a2 := Rat.mul_le_mul_of_nonneg_left h1 t0
  rw [e]
  rw [Rat.mul_one] at a1 a2
  exact Rat.le_trans a1 a2
theorem exA_tail {x : Rat} (h0 : 0 ≤ x) (h1 : x ≤ 1) {k : Nat} (hk : 1 ≤ k) : ∀ j, exA x (k + 1 + j) + exT x (k + j) ≤ exA x (k + 1) + exT x k
  | 0 => Rat.le_refl
  | j + 1 => by
    have h2 := exA_tail h0 h1 hk j
    have h3 := exT_half h0 h1 (show 1 ≤ k + j by omega)
    rw [show k + 1 + (j + 1) = (k + 1 + j) + 1 by omega, exA_succ, show k + (j + 1) = k + j + 1 by omega, show k + 1 + j = k + j + 1 by omega]
    rw [show k + 1 + j = k + j + 1 by omega] at h2
    generalize exA x (k + j + 1) = a at *
    generalize exT x (k + j + 1) = b at *
    generalize exT x (k + j) = c at *
    generalize exA x (k + 1) + exT x k = d at *
    grind
theorem exA_mono {x : Rat} (h0 : 0 ≤ x) {m : Nat} : ∀ j, exA x m ≤ exA x (m + j)
  | 0 => Rat.le_refl
  | j + 1 => by
    have h1 := exA_mono (m := m) h0 j
    have h2 := exT_nonneg h0 (m + j)
    rw [show m + (j + 1) = m + j + 1 by omega, exA_succ]
    generalize exA x (m + j) = a at *
    generalize exT x (m + j) = b at *
    generalize exA x m = c at *
    grind
theorem exA_bound {x : Rat} (h0 : 0 ≤ x) (h1 : x ≤ 1) {k : Nat} (hk : 1 ≤ k) (K : Nat) : exA x K ≤ exA x (k + 1) + exT x k := by
  have t0 := exT_nonneg h0 k
  rcases Nat.le_total K (k + 1) with h | h
  · obtain ⟨j, hj⟩ : ∃ j, k + 1 = K + j := ⟨k + 1 - K, by omega⟩
    have h2 := exA_mono (m := K) h0 j
    rw [hj]
    grind
  · obtain ⟨j, rfl⟩ : ∃ j, K = k + 1 + j := ⟨K - (k + 1), by omega⟩
    have h2 := exA_tail h0 h1 hk j
    have h3 := exT_nonneg h0 (k + j)
    grind
end Go.Proofs.YtecgimdgmilcbaaDoor
