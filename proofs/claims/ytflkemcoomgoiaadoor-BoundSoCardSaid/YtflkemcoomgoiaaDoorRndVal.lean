/- What is rounded, by values. Conditions: none. -/
import Derived.Test.YtflkemcoomgoiaaDoorRndH
import Derived.Test.YtflkemcoomgoiaaDoorRatG
namespace Go.Proofs.YtflkemcoomgoiaaDoor
set_option maxRecDepth 100000
open Go.RowKit
set_option linter.unusedVariables false

def hb (h : Bool) : Nat := if h then 1 else 0
/-- Twice the whole number of units, and the half: by the value. -/
theorem parts_val {M q : Nat} {E u : Int} {h b : Bool} (hp : partsP M E u = (q, h, b)) :
    ((2 * q + hb h : Nat) : Rat) ≤ (M : Rat) * pw E * pw (1 - u) ∧ (M : Rat) * pw E * pw (1 - u) < ((2 * q + hb h : Nat) : Rat) + 1 ∧ (b = false → (M : Rat) * pw E * pw (1 - u) = ((2 * q + hb h : Nat) : Rat)) ∧ (b = true → ((2 * q + hb h : Nat) : Rat) < (M : Rat) * pw E * pw (1 - u)) := by
  rw [Rat.mul_assoc, ← pw_add]
  unfold partsP at hp
  by_cases hle : u ≤ E
  · rw [if_pos hle] at hp
    injection hp with z1 z2; injection z2 with z2 z3
    subst z2 z3
    have e1 : E + (1 - u) = (((E - u).toNat + 1 : Nat) : Int) := by omega
    have e2 : (M : Rat) * pw (E + (1 - u)) = ((2 * q + hb false : Nat) : Rat) := by
      rw [e1, pw_nat, ← z1, ← Rat.natCast_mul]
      congr 1
      rw [Nat.pow_succ, show hb false = 0 from rfl]
      generalize 2 ^ (E - u).toNat = p
      rw [← Nat.mul_assoc]; omega
    rw [e2]
    exact ⟨Rat.le_refl, by grind, fun _ => rfl, fun h => by cases h⟩
  · rw [if_neg hle] at hp
    injection hp with z1 z2; injection z2 with z2 z3
    obtain ⟨s, hs⟩ : ∃ s : Nat, (u - E).toNat = s + 1 := ⟨(u - E).toNat - 1, by omega⟩
    rw [hs, show s + 1 - 1 = s from rfl] at z2 z3
    rw [hs, Nat.pow_succ, ← Nat.div_div_eq_div_mul] at z1
    have hT : 2 * q + hb h = M / 2 ^ s := by
      rw [← z1, ← z2]
      unfold hb
      have := Nat.mod_two_eq_zero_or_one (M / 2 ^ s)
      generalize M / 2 ^ s = y at *
      by_cases hy : y % 2 = 1
      · rw [decide_eq_true hy, if_pos rfl]; omega
      · rw [decide_eq_false hy, if_neg (by decide)]; omega
    have e1 : E + (1 - u) = -(s : Int) := by omega
    have hp2 := Nat.two_pow_pos s
    have hpw := pw_pos (-(s : Int))
    have hu : pw (-(s : Int)) * ((2 ^ s : Nat) : Rat) = 1 := by rw [← pw_nat]; exact pw_neg (s : Int)
    have hM := Nat.div_add_mod M (2 ^ s)
    have hr := Nat.mod_lt M hp2
    have hMq : (M : Rat) * pw (-(s : Int)) = ((M / 2 ^ s : Nat) : Rat) + ((M % 2 ^ s : Nat) : Rat) * pw (-(s : Int)) := by
      have : (M : Rat) = ((2 ^ s : Nat) : Rat) * ((M / 2 ^ s : Nat) : Rat) + ((M % 2 ^ s : Nat) : Rat) := by
        rw [← Rat.natCast_mul, ← Rat.natCast_add, hM]
      conv => lhs; rw [this]
      grind
    rw [e1, hMq, hT]
    have hrq : ((M % 2 ^ s : Nat) : Rat) * pw (-(s : Int)) < 1 := by
      have := Rat.mul_lt_mul_of_pos_right (Rat.natCast_lt_natCast.2 hr) hpw
      rw [Rat.mul_comm ((2 ^ s : Nat) : Rat), hu] at this
      exact this
    have hr0 : 0 ≤ ((M % 2 ^ s : Nat) : Rat) * pw (-(s : Int)) := Rat.mul_nonneg Rat.natCast_nonneg (Rat.le_of_lt hpw)
    refine ⟨by grind, by grind, fun hb0 => ?_, fun hb1 => ?_⟩
    · have h0 : M % 2 ^ s = 0 := by
        rw [hb0] at z3
        have := of_decide_eq_false z3
        omega
      rw [h0]
      have : ((0 : Nat) : Rat) * pw (-(s : Int)) = 0 := Rat.zero_mul _
      grind
    · have h1 : 0 < M % 2 ^ s := by
        rw [hb1] at z3
        have := of_decide_eq_true z3
        omega
      have : 0 < ((M % 2 ^ s : Nat) : Rat) * pw (-(s : Int)) := Rat.mul_pos (Rat.natCast_pos.2 h1) hpw
      grind
theorem top_ge {n : Bool} {M : Nat} {E t : Int} (h : pw t ≤ (M : Rat) * pw E) : t ≤ topD ⟨n, M, E⟩ ∧ M ≠ 0 := by
  have h0 : M ≠ 0 := by
    intro h'
    rw [h'] at h
    have := pw_pos t
    have : ((0 : Nat) : Rat) * pw E = 0 := Rat.zero_mul _
    grind
  have a2 : (M : Rat) < ((2 ^ bitN M : Nat) : Rat) := Rat.natCast_lt_natCast.2 (bitN_lt M)
  have b2 := Rat.mul_lt_mul_of_pos_right a2 (pw_pos E)
  rw [← pw_nat, ← pw_add] at b2
  refine ⟨?_, h0⟩
  unfold topD
  dsimp only
  rcases Int.lt_or_le ((bitN M : Int) - 1 + E) t with c | c
  · have := pw_mono (show ((bitN M : Nat) : Int) + E ≤ t by omega)
    exfalso; grind
  · exact c
theorem top_lt {n : Bool} {M : Nat} {E t : Int} (h0 : M ≠ 0) (h : (M : Rat) * pw E < pw t) : topD ⟨n, M, E⟩ < t := by
  have a1 : ((2 ^ (bitN M - 1) : Nat) : Rat) ≤ (M : Rat) := Rat.natCast_le_natCast.2 (lt_bitN.1 (by have := bitN_pos h0; omega))
  have b1 := Rat.mul_le_mul_of_nonneg_right a1 (Rat.le_of_lt (pw_pos E))
  rw [← pw_nat, ← pw_add] at b1
  have hb := bitN_pos h0
  unfold topD
  dsimp only
  rcases Int.lt_or_le ((bitN M : Int) - 1 + E) t with c | c
  · exact c
  · have := pw_mono (show t ≤ ((bitN M - 1 : Nat) : Int) + E by omega)
    exfalso; grind
/-- The top by the value. -/
theorem top_val {n : Bool} {M : Nat} {E t : Int} (h1 : pw t ≤ (M : Rat) * pw E) (h2 : (M : Rat) * pw E < pw (t + 1)) : topD ⟨n, M, E⟩ = t := by
  have h0 : M ≠ 0 := by
    intro h
    rw [h] at h1
    have := pw_pos t
    have : ((0 : Nat) : Rat) * pw E = 0 := Rat.zero_mul _
    grind
  have a1 : ((2 ^ (bitN M - 1) : Nat) : Rat) ≤ (M : Rat) := Rat.natCast_le_natCast.2 (lt_bitN.1 (by have := bitN_pos h0; omega))
  have a2 : (M : Rat) < ((2 ^ bitN M : Nat) : Rat) := Rat.natCast_lt_natCast.2 (bitN_lt M)
  have hp := pw_pos E
  have b1 := Rat.mul_le_mul_of_nonneg_right a1 (Rat.le_of_lt hp)
  have b2 := Rat.mul_lt_mul_of_pos_right a2 hp
  rw [← pw_nat, ← pw_add] at b1 b2
  have hb := bitN_pos h0
  unfold topD
  dsimp only
  have c1 : ¬ ((bitN M : Int) - 1 + E + 1 ≤ t) := fun h => by
    have := pw_mono (show ((bitN M : Nat) : Int) + E ≤ t by omega)
    grind
  have c2 : ¬ (t + 1 ≤ (bitN M : Int) - 1 + E) := fun h => by
    have := pw_mono (show t + 1 ≤ ((bitN M - 1 : Nat) : Int) + E by omega)
    grind
  omega
end Go.Proofs.YtflkemcoomgoiaaDoor
