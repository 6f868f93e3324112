/- What the program tells of atanh holds what the document reckons. Conditions: none. -/
import Derived.Test.YtecgimdgmilcbaaDoorAtLaw
namespace Go.Proofs.YtecgimdgmilcbaaDoor
set_option maxRecDepth 100000
set_option linter.unusedVariables false

theorem pow_eighth {x : Rat} (h0 : 0 ≤ x) (h1 : 3 * x ≤ 1) : ∀ k, 0 ≤ x ^ (2 * k + 1) ∧ ((8 ^ k : Nat) : Rat) * x ^ (2 * k + 1) ≤ 1
  | 0 => by
    have e : x ^ (2 * 0 + 1) = x := by rw [Rat.pow_succ]; simp
    rw [e]
    refine ⟨h0, ?_⟩
    have : ((8 ^ 0 : Nat) : Rat) = 1 := rfl
    rw [this]
    grind
  | k + 1 => by
    obtain ⟨p0, p1⟩ := pow_eighth h0 h1 k
    have h9 := sq_third h0 h1
    have e : x ^ (2 * (k + 1) + 1) = x ^ (2 * k + 1) * (x * x) := by
      rw [show 2 * (k + 1) + 1 = 2 * k + 1 + 1 + 1 by omega, Rat.pow_succ, Rat.pow_succ, Rat.mul_assoc]
    have e8 : ((8 ^ (k + 1) : Nat) : Rat) = ((8 ^ k : Nat) : Rat) * 8 := by rw [Nat.pow_succ, Rat.natCast_mul]; rfl
    have q0 : 0 ≤ x * x := Rat.mul_nonneg h0 h0
    rw [e, e8]
    have c0 : (0 : Rat) ≤ ((8 ^ k : Nat) : Rat) := rq_nat_nonneg _
    generalize x ^ (2 * k + 1) = p at *
    generalize ((8 ^ k : Nat) : Rat) = c at *
    generalize x * x = y at *
    refine ⟨Rat.mul_nonneg p0 q0, ?_⟩
    have e2 : c * 8 * (p * y) = (c * p) * (8 * y) := by grind
    have h8 : 8 * y ≤ 1 := by grind
    have g1 : (c * p) * (8 * y) ≤ (c * p) * 1 := Rat.mul_le_mul_of_nonneg_left h8 (Rat.mul_nonneg c0 p0)
    rw [e2]
    grind

theorem at_holds {A B s L H : Nat} (h : AtOk A B s L H) (hB : 0 < B) (h3 : 3 * A ≤ B) :
    L * 2 ^ 80 ≤ refAt A B (2 ^ (s + 80)) ((s + 80) / 3 + 2) + 1048576 ∧ refAt A B (2 ^ (s + 80)) ((s + 80) / 3 + 2) ≤ H * 2 ^ 80 := by
  obtain ⟨x, hx⟩ : ∃ x : Rat, x * (B : Rat) = (A : Rat) := ⟨(A : Rat) * (B : Rat)⁻¹, by
    rw [Rat.mul_assoc, Rat.inv_mul_cancel _ (by have := rq_nat_pos hB; grind), Rat.mul_one]⟩
  have hBp := rq_nat_pos hB
  have h0 : 0 ≤ x := rq_cancel hBp (by rw [hx]; simp; exact rq_nat_nonneg _)
  have h1 : 3 * x ≤ 1 := by
    refine rq_cancel hBp ?_
    rw [Rat.mul_assoc, hx]
    have : ((3 * A : Nat) : Rat) ≤ (B : Rat) := Rat.natCast_le_natCast.2 h3
    rw [Rat.natCast_mul] at this
    rw [Rat.one_mul]
    exact this
  have hT : 0 < 2 ^ (s + 80) := Nat.two_pow_pos _
  obtain ⟨M, hM⟩ : ∃ M, (s + 80) / 3 + 2 = M := ⟨_, rfl⟩
  rw [hM]
  have r1 := refAt_le (M := M) hT hB hx h0
  have r2 := refAt_ge (M := M) hT hB hx h0 h1
  have t1 := atA_tail h0 h1 (M + 1) s
  obtain ⟨p0, p1⟩ := pow_eighth h0 h1 (M + 1)
  have l1 := h.lo x hx h0
  have l2 := h.hi x hx h0 h1 (M + 1)
  have hTS : ((2 ^ (s + 80) : Nat) : Rat) = ((2 ^ s : Nat) : Rat) * ((2 ^ 80 : Nat) : Rat) := by rw [Nat.pow_add, Rat.natCast_mul]
  have hT8 : ((2 ^ (s + 80) : Nat) : Rat) ≤ ((8 ^ (M + 1) : Nat) : Rat) := Rat.natCast_le_natCast.2 (by
    rw [show (8 : Nat) = 2 ^ 3 from rfl, ← Nat.pow_mul]; exact Nat.pow_le_pow_right (by omega) (by omega))
  have g1 : ((2 ^ (s + 80) : Nat) : Rat) * x ^ (2 * (M + 1) + 1) ≤ 1 := Rat.le_trans (Rat.mul_le_mul_of_nonneg_right hT8 p0) p1
  have k0 : (0 : Rat) ≤ ((2 ^ 80 : Nat) : Rat) := rq_nat_nonneg _
  have T0 : (0 : Rat) ≤ ((2 ^ (s + 80) : Nat) : Rat) := rq_nat_nonneg _
  have a1 := Rat.mul_le_mul_of_nonneg_right l1 k0
  have a2 := Rat.mul_le_mul_of_nonneg_right l2 k0
  have a3 := Rat.mul_le_mul_of_nonneg_left t1 T0
  generalize refAt A B (2 ^ (s + 80)) M = R at *
  constructor
  · refine Rat.natCast_le_natCast.1 ?_
    rw [Rat.natCast_mul, Rat.natCast_add]
    have e1 : ((2 ^ s : Nat) : Rat) * atA x s * ((2 ^ 80 : Nat) : Rat) = ((2 ^ (s + 80) : Nat) : Rat) * atA x s := by rw [hTS]; grind
    rw [e1] at a1
    have e5 : ((1048576 : Nat) : Rat) = 1048576 := rfl
    rw [e5]
    clear hTS hT8 e1 a2 l1 l2 hx h1 h0 hBp r1 e5 k0 T0 p0 p1 t1
    generalize ((2 ^ (s + 80) : Nat) : Rat) = T at *
    generalize x ^ (2 * (M + 1) + 1) = p at *
    generalize atA x s = u at *
    generalize atA x (M + 1) = v at *
    generalize ((2 ^ 80 : Nat) : Rat) = E at *
    have e6 : T * (v + 2 * p) = T * v + 2 * (T * p) := by grind
    rw [e6] at a3
    generalize T * p = tp at *
    generalize T * v = tv at *
    generalize T * u = tu at *
    generalize (L : Rat) * E = le at *
    grind
  · refine Rat.natCast_le_natCast.1 ?_
    rw [Rat.natCast_mul]
    have e1 : ((2 ^ s : Nat) : Rat) * atA x (M + 1) * ((2 ^ 80 : Nat) : Rat) = ((2 ^ (s + 80) : Nat) : Rat) * atA x (M + 1) := by rw [hTS]; grind
    rw [e1] at a2
    exact Rat.le_trans r1 a2
end Go.Proofs.YtecgimdgmilcbaaDoor
