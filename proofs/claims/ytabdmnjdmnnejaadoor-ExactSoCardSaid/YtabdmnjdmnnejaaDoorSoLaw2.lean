/- What is exact is so, by comparison, and something beside it isn't: plainly. -/
import Derived.Test.YtabdmnjdmnnejaaDoorSoLaw
namespace Go.Proofs.YtabdmnjdmnnejaaDoor
set_option maxRecDepth 100000
set_option linter.unusedVariables false

theorem even_of_pow {b n : Nat} (h : n ≠ 0) : b * 2 ^ n % 2 = 0 := by
  obtain ⟨k, rfl⟩ : ∃ k, n = k + 1 := ⟨n - 1, by omega⟩
  rw [Nat.pow_succ, ← Nat.mul_assoc]
  omega
/-- Odd ones that are as great have one exponent. -/
theorem cmpM_odd {n n' : Bool} {a b : Nat} {e f : Int} (ha : a % 2 = 1) (hb : b % 2 = 1) (h : cmpM ⟨n, a, e⟩ ⟨n', b, f⟩ = 0) : e = f := by
  rcases Int.lt_trichotomy e f with h1 | h1 | h1
  · rw [cmpM_at (Int.le_refl e) (Int.le_of_lt h1)] at h
    have := cmpN_zero.1 h
    unfold at2 at this
    rw [Int.sub_self, show (0 : Int).toNat = 0 from rfl, Nat.pow_zero, Nat.mul_one] at this
    have h2 := even_of_pow (b := b) (n := (f - e).toNat) (by omega)
    omega
  · exact h1
  · rw [cmpM_at (Int.le_of_lt h1) (Int.le_refl f)] at h
    have := cmpN_zero.1 h
    unfold at2 at this
    rw [Int.sub_self, show (0 : Int).toNat = 0 from rfl, Nat.pow_zero, Nat.mul_one] at this
    have h2 := even_of_pow (b := a) (n := (e - f).toNat) (by omega)
    omega
theorem so_yes {X N k1 P : Nat} {E i F : Int} (hR : Raise X E i P F) (hk : i.natAbs = k1) :
    (0 ≤ i → cmpM ⟨false, (X ^ N) ^ k1, E * (N : Int) * (k1 : Int)⟩ ⟨false, P ^ N, F * (N : Int)⟩ = 0) ∧ (i < 0 → cmpM ⟨false, 1, 0⟩ ⟨false, (X ^ N) ^ k1 * P ^ N, E * (N : Int) * (k1 : Int) + F * (N : Int)⟩ = 0) := by
  refine ⟨fun h => ?_, fun h => ?_⟩
  · obtain rfl : i = (k1 : Int) := by omega
    rcases hR.2 with ⟨-, h2⟩ | ⟨h2, -⟩
    · rw [Int.toNat_natCast] at h2
      rw [h2, hR.1, show E * (k1 : Int) * (N : Int) = E * (N : Int) * (k1 : Int) by rw [Int.mul_assoc, Int.mul_comm (k1 : Int), ← Int.mul_assoc], show (X ^ N) ^ k1 = (X ^ k1) ^ N by rw [← Nat.pow_mul, ← Nat.pow_mul, Nat.mul_comm]]
      exact cmpM_self
    · omega
  · obtain rfl : i = -(k1 : Int) := by omega
    rcases hR.2 with ⟨h2, -⟩ | ⟨-, h2, h3⟩
    · omega
    · subst h2; subst h3
      rw [hR.1, Nat.one_pow, Nat.one_pow, Nat.one_mul, show E * (N : Int) * (k1 : Int) + E * -(k1 : Int) * (N : Int) = 0 by rw [Int.mul_neg, Int.neg_mul, Int.mul_assoc E (k1 : Int), Int.mul_comm (k1 : Int), ← Int.mul_assoc]; omega]
      exact cmpM_self
theorem so_no {X N k1 P : Nat} {E i F : Int} (hR : Raise X E i P F) (hk : i.natAbs = k1) (hN : 1 ≤ N) (hX : X % 2 = 1) :
    (0 ≤ i → cmpM ⟨false, (X ^ N) ^ k1, E * (N : Int) * (k1 : Int)⟩ ⟨false, (1 + BB * P) ^ N, (F - 64) * (N : Int)⟩ ≠ 0) ∧ (i < 0 → cmpM ⟨false, 1, 0⟩ ⟨false, (X ^ N) ^ k1 * (1 + BB * P) ^ N, E * (N : Int) * (k1 : Int) + (F - 64) * (N : Int)⟩ ≠ 0) := by
  have o1 : (X ^ N) ^ k1 % 2 = 1 := pow_odd (pow_odd hX N) k1
  have o2 : (1 + BB * P) ^ N % 2 = 1 := pow_odd (by have hBB : BB = 18446744073709551616 := rfl
                                                    rw [hBB]; omega) N
  have hs : (F - 64) * (N : Int) = F * (N : Int) - 64 * (N : Int) := Int.sub_mul _ _ _
  refine ⟨fun h hc => ?_, fun h hc => ?_⟩
  · have he := cmpM_odd o1 o2 hc
    obtain rfl : i = (k1 : Int) := by omega
    have e2 : F * (N : Int) = E * (N : Int) * (k1 : Int) := by rw [hR.1, Int.mul_assoc, Int.mul_comm (k1 : Int), ← Int.mul_assoc]
    omega
  · have o3 : (X ^ N) ^ k1 * (1 + BB * P) ^ N % 2 = 1 := by rw [Nat.mul_mod, o1, o2]
    have he := cmpM_odd (by decide) o3 hc
    obtain rfl : i = -(k1 : Int) := by omega
    have e2 : F * (N : Int) = -(E * (N : Int) * (k1 : Int)) := by rw [hR.1, Int.mul_neg, Int.neg_mul, Int.mul_assoc E (k1 : Int), Int.mul_comm (k1 : Int), ← Int.mul_assoc]
    omega
/-- Something is told, whatever is asked. -/
theorem PowR.total {X : Nat} {E i : Int} (hX : X % 2 = 1) : ∃ ok P F, PowR X E i ((1 : Nat) : Int) ok P F := by
  have e1 : ((1 : Nat) : Int).toNat = 1 := rfl
  by_cases h0 : i = 0
  · exact ⟨true, 1, 0, .inl ⟨h0, rfl, rfl, rfl⟩⟩
  by_cases hr : ∃ P F, Raise X E i P F
  · obtain ⟨P, F, hr⟩ := hr
    by_cases hb : isBrk P F = true
    · exact ⟨true, P, F, .inr (.inl ⟨h0, rfl, hb, hr.odd hX, X, E, by rw [e1, Nat.pow_one], Int.mul_one E, hr⟩)⟩
    · refine ⟨false, 0, 0, .inr (.inr ⟨h0, rfl, rfl, rfl, fun r f P' F' a b c => ?_⟩)⟩
      rw [e1, Nat.pow_one] at a
      rw [show ((1 : Nat) : Int) = 1 from rfl, Int.mul_one] at b
      subst a; subst b
      obtain ⟨rfl, rfl⟩ := hr.uniq c
      simpa using hb
  · refine ⟨false, 0, 0, .inr (.inr ⟨h0, rfl, rfl, rfl, fun r f P' F' a b c => ?_⟩)⟩
    rw [e1, Nat.pow_one] at a
    rw [show ((1 : Nat) : Int) = 1 from rfl, Int.mul_one] at b
    subst a; subst b
    exact absurd ⟨P', F', c⟩ hr
end Go.Proofs.YtabdmnjdmnnejaaDoor
