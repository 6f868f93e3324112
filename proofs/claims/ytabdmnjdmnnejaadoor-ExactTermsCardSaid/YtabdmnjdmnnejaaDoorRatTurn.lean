/- Powers of dyads beside each other: turned about, one divided by them. Conditions: none. -/
import Derived.Test.YtabdmnjdmnnejaaDoorRatA
namespace Go.Proofs.YtabdmnjdmnnejaaDoor
set_option maxRecDepth 100000

theorem cmpN_swap (a b : Nat) : cmpN b a = -cmpN a b := by
  rcases Nat.lt_trichotomy a b with h | h | h
  · rw [cmpN_lt h, cmpN_gt h]; rfl
  · rw [h, cmpN_eq]; rfl
  · rw [cmpN_gt h, cmpN_lt h]
theorem cmpM_swap (a b : Dn) : cmpM b a = -cmpM a b := by
  unfold cmpM
  rw [Int.min_comm b.e a.e]
  exact cmpN_swap _ _
theorem cmpN_pow {a b p : Nat} (hp : 0 < p) : cmpN (a ^ p) (b ^ p) = cmpN a b := by
  rcases Nat.lt_trichotomy a b with h | h | h
  · rw [cmpN_lt h, cmpN_lt (Nat.pow_lt_pow_left h (by omega))]
  · rw [h, cmpN_eq, cmpN_eq]
  · rw [cmpN_gt h, cmpN_gt (Nat.pow_lt_pow_left h (by omega))]
theorem cmpM_one (n : Bool) (A : Nat) (E : Int) : cmpM ⟨n, A, E⟩ ⟨false, 1, 0⟩ = cmpN (A * 2 ^ E.toNat) (2 ^ (-E).toNat) := by
  unfold cmpM
  simp only
  rw [Nat.one_mul, show (E - min E 0).toNat = E.toNat by omega, show (0 - min E 0).toNat = (-E).toNat by omega]
/-- A power is to one as what it is a power of. -/
theorem cmpM_pow_one {A p : Nat} {E : Int} (hp : 0 < p) : cmpM ⟨false, A ^ p, E * p⟩ ⟨false, 1, 0⟩ = cmpM ⟨false, A, E⟩ ⟨false, 1, 0⟩ := by
  rw [cmpM_one, cmpM_one]
  have e1 : (E * (p : Int)).toNat = E.toNat * p := by
    rcases Int.le_total 0 E with h | h
    · obtain ⟨k, rfl⟩ := Int.eq_ofNat_of_zero_le h
      rw [← Int.natCast_mul, Int.toNat_natCast, Int.toNat_natCast]
    · rw [Int.toNat_of_nonpos h, Int.toNat_of_nonpos (Int.mul_nonpos_of_nonpos_of_nonneg h (by omega)), Nat.zero_mul]
  have e2 : (-(E * (p : Int))).toNat = (-E).toNat * p := by
    rcases Int.le_total 0 E with h | h
    · rw [Int.toNat_of_nonpos (show -E ≤ 0 by omega), Int.toNat_of_nonpos (by have := Int.mul_nonneg h (show (0 : Int) ≤ p by omega); omega), Nat.zero_mul]
    · obtain ⟨k, hk⟩ := Int.eq_ofNat_of_zero_le (show 0 ≤ -E by omega)
      rw [← Int.neg_mul, hk, ← Int.natCast_mul, Int.toNat_natCast, Int.toNat_natCast]
  rw [e1, e2, Nat.pow_mul, Nat.pow_mul, ← Nat.mul_pow]
  exact cmpN_pow hp
end Go.Proofs.YtabdmnjdmnnejaaDoor
