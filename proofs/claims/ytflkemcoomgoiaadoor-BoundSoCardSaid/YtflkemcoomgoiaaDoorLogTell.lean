/- What the document tells of a logarithm, plainly. Conditions: none. -/
import Derived.Test.YtflkemcoomgoiaaDoorValG
namespace Go.Proofs.YtflkemcoomgoiaaDoor
set_option maxRecDepth 100000
set_option linter.unusedVariables false

/-- The document's number of units of a logarithm of M * 2^E, at a scale. -/
def refLogU (M : Nat) (m : Nat) : Nat := refAt (M - 2 ^ (bitN M - 1)) (M + 2 ^ (bitN M - 1)) (2 ^ m) (m / 3 + 2)
def refTwoU (m : Nat) : Nat := refAt 1 3 (2 ^ m) (m / 3 + 2)
theorem refLog_near {M m : Nat} {E t : Int} (h : M ≠ 0) (ht : topD ⟨false, M, E⟩ = t) :
    LnIn ((M : Rat) * pw E)
      (2 * (refLogU M m : Rat) * pw (-(m : Int)) + (t : Rat) * (2 * (refTwoU m : Rat)) * pw (-(m : Int)) - 16 * ((t.natAbs : Nat) : Rat) * pw (-(m : Int)) - 16 * pw (-(m : Int)))
      (2 * (refLogU M m : Rat) * pw (-(m : Int)) + (t : Rat) * (2 * (refTwoU m : Rat)) * pw (-(m : Int)) + 16 * ((t.natAbs : Nat) : Rat) * pw (-(m : Int)) + 16 * pw (-(m : Int))) := by
  obtain ⟨h1, h2⟩ := topn_le h
  have hP := Nat.two_pow_pos (bitN M - 1)
  have hb : bitN M ≠ 0 := fun e => by have := bitN_lt M; rw [e] at this; omega
  have hPE : ((2 ^ (bitN M - 1) : Nat) : Rat) * pw E = pw t := by
    rw [← pw_nat, ← pw_add, ← ht]
    congr 1
    unfold topD
    dsimp only
    omega
  unfold refLogU
  generalize 2 ^ (bitN M - 1) = P at *
  have hPp := rq_nat_pos hP
  obtain ⟨ip, ic⟩ := rq_inv_pos hPp
  have eN : ((M - P : Nat) : Rat) = (M : Rat) - (P : Rat) := by
    have : ((M - P + P : Nat) : Rat) = (M : Rat) := by congr 1; omega
    rw [Rat.natCast_add] at this
    grind
  have k := ln_of_ref (A := M - P) (B := M + P) (m := m) (r := (M : Rat) * (P : Rat)⁻¹) (by omega) (by omega) (by
    rw [eN, Rat.natCast_add]
    have e : (M : Rat) * (P : Rat)⁻¹ * ((M : Rat) + (P : Rat) - ((M : Rat) - (P : Rat))) = (M : Rat) * 2 * ((P : Rat)⁻¹ * (P : Rat)) := by grind
    rw [e, ic]; grind)
  have kp := ln_pw (ln_two_ref m) t
  have kk := k.mul kp
  have ev : (M : Rat) * (P : Rat)⁻¹ * pw t = (M : Rat) * pw E := by
    rw [← hPE]
    have e : (M : Rat) * (P : Rat)⁻¹ * ((P : Rat) * pw E) = (P : Rat)⁻¹ * (P : Rat) * ((M : Rat) * pw E) := by grind
    rw [e, ic, Rat.one_mul]
  rw [ev] at kk
  have c8 : ∀ x : Nat, ((x + 8 : Nat) : Rat) = (x : Rat) + 8 := fun x => by rw [Rat.natCast_add]; rfl
  rw [c8, c8] at kk
  have u0 := pw_pos (-(m : Int))
  unfold refTwoU
  generalize ((refAt (M - P) (M + P) (2 ^ m) (m / 3 + 2) : Nat) : Rat) = R1 at *
  generalize ((refAt 1 3 (2 ^ m) (m / 3 + 2) : Nat) : Rat) = R2 at *
  have n0 := rq_nat_nonneg t.natAbs
  by_cases hneg : t < 0
  · rw [if_pos hneg, if_pos hneg] at kk
    have hna : ((t.natAbs : Nat) : Rat) = -(t : Rat) := by
      have : ((t.natAbs : Nat) : Int) = -t := by omega
      have h2 : (((t.natAbs : Nat) : Int) : Rat) = ((-t : Int) : Rat) := by rw [this]
      rw [Rat.intCast_neg] at h2
      exact h2
    have n1 : 0 ≤ ((t.natAbs : Nat) : Rat) * pw (-(m : Int)) := Rat.mul_nonneg n0 (Rat.le_of_lt u0)
    rw [hna] at kk n1 ⊢
    generalize pw (-(m : Int)) = u at *
    refine kk.wide ?_ ?_ <;> grind
  · rw [if_neg hneg, if_neg hneg] at kk
    have hna : ((t.natAbs : Nat) : Rat) = (t : Rat) := by
      have : ((t.natAbs : Nat) : Int) = t := by omega
      have h2 : (((t.natAbs : Nat) : Int) : Rat) = (t : Rat) := by rw [this]
      exact h2
    have n1 : 0 ≤ ((t.natAbs : Nat) : Rat) * pw (-(m : Int)) := Rat.mul_nonneg n0 (Rat.le_of_lt u0)
    rw [hna] at kk n1 ⊢
    generalize pw (-(m : Int)) = u at *
    refine kk.wide ?_ ?_ <;> grind
/-- Held by what is told, with the document's room. -/
theorem log_tells {M m : Nat} {E t : Int} {l h r off : Rat} (h0 : M ≠ 0) (ht : topD ⟨false, M, E⟩ = t) (k : LnIn ((M : Rat) * pw E) l h)
    (hr : r = 2 * (refLogU M m : Rat) * pw (-(m : Int)) + (t : Rat) * (2 * (refTwoU m : Rat)) * pw (-(m : Int))) (ho : off = ((1048576 * (2 * t.natAbs + 4) : Nat) : Rat) * pw (-(m : Int))) : l ≤ r + off ∧ r + -off ≤ h := by
  have kk := refLog_near (m := m) h0 ht
  have a := k.le kk Rat.le_refl
  have b := kk.le k Rat.le_refl
  have u0 := pw_pos (-(m : Int))
  have n0 := rq_nat_nonneg t.natAbs
  have n1 : 0 ≤ ((t.natAbs : Nat) : Rat) * pw (-(m : Int)) := Rat.mul_nonneg n0 (Rat.le_of_lt u0)
  have c : ((1048576 * (2 * t.natAbs + 4) : Nat) : Rat) = 1048576 * (2 * ((t.natAbs : Nat) : Rat) + 4) := by
    rw [Rat.natCast_mul, Rat.natCast_add, Rat.natCast_mul]; rfl
  rw [c] at ho
  subst hr
  subst ho
  generalize pw (-(m : Int)) = u at *
  generalize ((t.natAbs : Nat) : Rat) = n at *
  generalize (refLogU M m : Rat) = R1 at *
  generalize (refTwoU m : Rat) = R2 at *
  constructor <;> grind
end Go.Proofs.YtflkemcoomgoiaaDoor
