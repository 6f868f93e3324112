/- exp of a fraction at most 1, plainly: its series, what the program's loop tells of it. Conditions: none. -/
import Derived.Test.YtecgimdgmilcbaaDoorAtLaw
namespace Go.Proofs.YtecgimdgmilcbaaDoor
set_option maxRecDepth 100000
set_option linter.unusedVariables false

/-- The k-th term of exp's series. -/
def exT (x : Rat) : Nat → Rat
  | 0 => 1
  | k + 1 => exT x k * x * ((k + 1 : Nat) : Rat)⁻¹
/-- The first K terms. -/
def exA (x : Rat) : Nat → Rat
  | 0 => 0
  | K + 1 => exA x K + exT x K
theorem exT_succ (x : Rat) (k : Nat) : exT x (k + 1) = exT x k * x * ((k + 1 : Nat) : Rat)⁻¹ := rfl
theorem exA_succ (x : Rat) (K : Nat) : exA x (K + 1) = exA x K + exT x K := rfl
/-- The program's terms and sums. -/
def exP (X : Pr) (S : Nat) : Nat → Pr
  | 0 => ⟨S, S⟩
  | k + 1 => ((exP X S k).times X S).by (k + 1)
def exS (X : Pr) (S : Nat) : Nat → Pr
  | 0 => ⟨S, S⟩
  | k + 1 => (exS X S k).plus (exP X S (k + 1))
theorem exP_succ (X : Pr) (S k : Nat) : exP X S (k + 1) = ((exP X S k).times X S).by (k + 1) := rfl
theorem exS_succ (X : Pr) (S k : Nat) : exS X S (k + 1) = (exS X S k).plus (exP X S (k + 1)) := rfl

section
variable {X : Pr} {S : Nat} {x : Rat}
theorem exT_nonneg (h0 : 0 ≤ x) : ∀ k, 0 ≤ exT x k
  | 0 => by show (0 : Rat) ≤ 1; decide
  | k + 1 => by
    rw [exT_succ]
    exact Rat.mul_nonneg (Rat.mul_nonneg (exT_nonneg h0 k) h0) (Rat.le_of_lt (Rat.inv_pos.2 (rq_nat_pos (Nat.succ_pos k))))
theorem exP_lo (hS : 0 < S) (h : (X.lo : Rat) ≤ S * x) : ∀ k, ((exP X S k).lo : Rat) ≤ S * exT x k
  | 0 => by
    show (S : Rat) ≤ S * 1
    rw [Rat.mul_one]; exact Rat.le_refl
  | k + 1 => by
    rw [exP_succ, exT_succ]
    exact by_lo (Nat.succ_pos k) (times_lo hS (exP_lo hS h k) h)
theorem exP_hi (hS : 0 < S) (h0 : 0 ≤ x) (h : S * x ≤ (X.hi : Rat)) : ∀ k, S * exT x k ≤ ((exP X S k).hi : Rat)
  | 0 => by
    show (S : Rat) * 1 ≤ S
    rw [Rat.mul_one]; exact Rat.le_refl
  | k + 1 => by
    rw [exP_succ, exT_succ]
    exact by_hi (Nat.succ_pos k) (times_hi hS (exT_nonneg h0 k) h0 (exP_hi hS h0 h k) h)
theorem exS_lo (hS : 0 < S) (h : (X.lo : Rat) ≤ S * x) : ∀ k, ((exS X S k).lo : Rat) ≤ S * exA x (k + 1)
  | 0 => by
    have e : exA x (0 + 1) = 1 := by rw [exA_succ]; exact Rat.zero_add 1
    rw [e, Rat.mul_one]
    exact Rat.le_refl
  | k + 1 => by
    rw [exS_succ, exA_succ, Rat.mul_add]
    show (((exS X S k).lo + (exP X S (k + 1)).lo : Nat) : Rat) ≤ _
    rw [Rat.natCast_add]
    have h1 := exS_lo hS h k
    have h2 := exP_lo hS h (k + 1)
    generalize (S : Rat) * exA x (k + 1) = a at *
    generalize (S : Rat) * exT x (k + 1) = b at *
    grind
theorem exS_hi (hS : 0 < S) (h0 : 0 ≤ x) (h : S * x ≤ (X.hi : Rat)) : ∀ k, S * exA x (k + 1) ≤ ((exS X S k).hi : Rat)
  | 0 => by
    have e : exA x (0 + 1) = 1 := by rw [exA_succ]; exact Rat.zero_add 1
    rw [e, Rat.mul_one]
    exact Rat.le_refl
  | k + 1 => by
    rw [exS_succ, exA_succ, Rat.mul_add]
    show _ ≤ (((exS X S k).hi + (exP X S (k + 1)).hi : Nat) : Rat)
    rw [Rat.natCast_add]
    have h1 := exS_hi hS h0 h k
    have h2 := exP_hi hS h0 h (k + 1)
    generalize (S : Rat) * exA x (k + 1) = a at *
    generalize (S : Rat) * exT x (k + 1) = b at *
    grind
theorem exP_le (hX : X.lo ≤ X.hi) : ∀ k, (exP X S k).lo ≤ (exP X S k).hi
  | 0 => Nat.le_refl _
  | k + 1 => by rw [exP_succ]; exact by_le (times_le (exP_le hX k) hX)
theorem exS_le (hX : X.lo ≤ X.hi) : ∀ k, (exS X S k).lo ≤ (exS X S k).hi
  | 0 => Nat.le_refl _
  | k + 1 => by rw [exS_succ]; exact Nat.add_le_add (exS_le hX k) (exP_le hX (k + 1))
/-- A term is at most the one ahead by its number. -/
theorem exP_down (hS : 0 < S) (hX : X.hi ≤ S) (k : Nat) : (exP X S (k + 1)).hi ≤ cdiv (exP X S k).hi (k + 1) := by
  rw [exP_succ]
  show cdiv (cdiv ((exP X S k).hi * X.hi) S) (k + 1) ≤ _
  have h1 : cdiv ((exP X S k).hi * X.hi) S ≤ (exP X S k).hi := cdiv_le_of hS (Nat.mul_le_mul_left _ hX)
  refine cdiv_le_of (Nat.succ_pos k) (Nat.le_trans h1 ?_)
  exact cdiv_ge _ (Nat.succ_pos k)
theorem exP_small (hS : 0 < S) (hX : X.hi ≤ S) : ∀ k, (exP X S k).hi ≤ S
  | 0 => Nat.le_refl _
  | k + 1 => Nat.le_trans (exP_down hS hX k) (cdiv_le_of (Nat.succ_pos k) (Nat.le_trans (exP_small hS hX k) (Nat.le_mul_of_pos_right _ (Nat.succ_pos k))))
theorem exS_small (hS : 0 < S) (hX : X.hi ≤ S) : ∀ k, (exS X S k).hi ≤ (k + 1) * S
  | 0 => by rw [Nat.zero_add, Nat.one_mul]; exact Nat.le_refl _
  | k + 1 => by
    rw [exS_succ, Nat.add_mul (k + 1) 1, Nat.one_mul]
    exact Nat.add_le_add (exS_small hS hX k) (exP_small hS hX (k + 1))
/-- How fast the terms fall. -/
theorem exP_rounds {s : Nat} (hX : X.hi ≤ 2 ^ s) : ∀ k, k ≤ s → (exP X (2 ^ s) (k + 1)).hi ≤ 2 ^ (s - k)
  | 0, _ => exP_small (Nat.two_pow_pos s) hX 1
  | k + 1, hk => by
    refine Nat.le_trans (exP_down (Nat.two_pow_pos s) hX (k + 1)) (cdiv_le_of (Nat.succ_pos _) (Nat.le_trans (exP_rounds hX k (by omega)) ?_))
    have e : s - k = s - (k + 1) + 1 := by omega
    rw [e, Nat.pow_succ]
    exact Nat.mul_le_mul_left _ (by omega)
theorem exP_end {s k : Nat} (hX : X.hi ≤ 2 ^ s) (h : 1 < (exP X (2 ^ s) (k + 1)).hi) : k + 1 ≤ s := by
  rcases Nat.lt_or_ge k s with h1 | h1
  · exact h1
  · exfalso
    have h2 : ∀ j, (exP X (2 ^ s) (s + 1 + j)).hi ≤ 1 := by
      intro j
      induction j with
      | zero => have := exP_rounds hX s (Nat.le_refl s); rwa [Nat.sub_self] at this
      | succ j ih => exact Nat.le_trans (exP_down (Nat.two_pow_pos s) hX (s + 1 + j)) (cdiv_le_of (Nat.succ_pos _) (Nat.le_trans ih (by omega)))
    have h3 := h2 (k - s)
    rw [show s + 1 + (k - s) = k + 1 by omega] at h3
    omega
theorem times_thin {p X : Pr} {d : Nat} (hS : 0 < S) (he : X.lo = X.hi) (hX : X.hi ≤ S) (h : p.hi ≤ p.lo + d) : (p.times X S).hi ≤ (p.times X S).lo + (d + 1) := by
  show cdiv (p.hi * X.hi) S ≤ p.lo * X.lo / S + (d + 1)
  rw [he]
  refine cdiv_le_of hS ?_
  have h1 : p.hi * X.hi ≤ p.lo * X.hi + d * S := by
    refine Nat.le_trans (Nat.mul_le_mul_right _ h) ?_
    rw [Nat.add_mul]
    exact Nat.add_le_add_left (Nat.mul_le_mul_left _ hX) _
  have h2 : p.lo * X.hi < (p.lo * X.hi / S + 1) * S := by have := Nat.lt_mul_div_succ (p.lo * X.hi) hS; rwa [Nat.mul_comm S] at this
  rw [Nat.add_mul] at h2 ⊢
  rw [Nat.add_mul d 1]
  omega
theorem by_thin2 {p : Pr} (h : p.hi ≤ p.lo + 3) : (p.by 2).hi ≤ (p.by 2).lo + 2 := cdiv_le_of (by omega) (by show p.hi ≤ (p.lo / 2 + 2) * 2; omega)
theorem exP_thin (hS : 0 < S) (he : X.lo = X.hi) (hX : X.hi ≤ S) : ∀ k, (exP X S k).hi ≤ (exP X S k).lo + 2
  | 0 => by show S ≤ S + 2; omega
  | 1 => by
    have h1 := times_thin (p := ⟨S, S⟩) (d := 0) hS he hX (Nat.le_refl _)
    rw [exP_succ]
    refine cdiv_le_of (by omega) ?_
    show _ ≤ (_ / 1 + 2) * 1
    rw [Nat.div_one, Nat.mul_one]
    exact Nat.le_trans h1 (Nat.add_le_add_left (by omega) _)
  | k + 2 => by
    have h1 := times_thin (p := exP X S (k + 1)) hS he hX (exP_thin hS he hX (k + 1))
    rw [exP_succ]
    by_cases h0 : k = 0
    · subst h0; exact by_thin2 h1
    · exact by_thin (by omega) h1
theorem exS_thin (hS : 0 < S) (he : X.lo = X.hi) (hX : X.hi ≤ S) : ∀ k, (exS X S k).hi ≤ (exS X S k).lo + 2 * k
  | 0 => Nat.le_refl _
  | k + 1 => by
    have h1 := exS_thin hS he hX k
    have h2 := exP_thin hS he hX (k + 1)
    rw [exS_succ]
    show (exS X S k).hi + (exP X S (k + 1)).hi ≤ (exS X S k).lo + (exP X S (k + 1)).lo + 2 * (k + 1)
    omega
end
end Go.Proofs.YtecgimdgmilcbaaDoor
