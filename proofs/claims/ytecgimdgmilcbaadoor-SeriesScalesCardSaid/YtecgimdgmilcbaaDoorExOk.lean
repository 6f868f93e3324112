/- What the program and the document tell of exp, plainly. Conditions: none. -/
import Derived.Test.YtecgimdgmilcbaaDoorExTail
import Derived.Test.YtecgimdgmilcbaaDoorBaseL
namespace Go.Proofs.YtecgimdgmilcbaaDoor
set_option maxRecDepth 100000
set_option linter.unusedVariables false

/-- What is told of exp between A and B, divided by 2^s, at the scale s. -/
structure ExOk (A B s L H : Nat) : Prop where
  le : L ≤ H
  wide : A = B → H ≤ L + (4 * s + 64)
  lo : ∀ x : Rat, ((2 ^ s : Nat) : Rat) * x = (A : Rat) → 0 ≤ x → (L : Rat) ≤ ((2 ^ s : Nat) : Rat) * exA x (s + 2)
  hi : ∀ x : Rat, ((2 ^ s : Nat) : Rat) * x = (B : Rat) → 0 ≤ x → x ≤ 1 → ∀ K, ((2 ^ s : Nat) : Rat) * exA x K ≤ (H : Rat)
  short : H ≤ (s + 4) * 2 ^ s

theorem exS_ok {A B s k : Nat} (hs : 8 ≤ s) (hAB : A ≤ B) (hB : B ≤ 2 ^ s) (hk : k ≤ s) (hend : (exP ⟨A, B⟩ (2 ^ s) (k + 1)).hi ≤ 1) :
    ExOk A B s ((exS ⟨A, B⟩ (2 ^ s) (k + 1)).rest (exP ⟨A, B⟩ (2 ^ s) (k + 1))).lo ((exS ⟨A, B⟩ (2 ^ s) (k + 1)).rest (exP ⟨A, B⟩ (2 ^ s) (k + 1))).hi := by
  have hS : 0 < 2 ^ s := Nat.two_pow_pos s
  have h8 : 256 ≤ 2 ^ s := by have := Nat.pow_le_pow_right (n := 2) (by omega) hs; omega
  have h1 := exS_le (X := ⟨A, B⟩) (S := 2 ^ s) hAB (k + 1)
  refine ⟨?_, ?_, ?_, ?_, ?_⟩
  · simp only [Pr.rest]; omega
  · intro e
    have := exS_thin (X := ⟨A, B⟩) (S := 2 ^ s) hS e hB (k + 1)
    simp only [Pr.rest]
    omega
  · intro x hx h0
    have a := exS_lo (X := ⟨A, B⟩) (S := 2 ^ s) (x := x) hS (by rw [hx]; exact Rat.le_refl) (k + 1)
    obtain ⟨j, hj⟩ : ∃ j, s + 2 = k + 1 + 1 + j := ⟨s - k, by omega⟩
    have b := Rat.mul_le_mul_of_nonneg_left (exA_mono h0 (m := k + 1 + 1) j) (rq_nat_nonneg (2 ^ s))
    rw [hj]
    exact Rat.le_trans a b
  · intro x hx h0 h1 K
    have a := exS_hi (X := ⟨A, B⟩) (S := 2 ^ s) (x := x) hS h0 (by rw [hx]; exact Rat.le_refl) (k + 1)
    have b := exP_hi (X := ⟨A, B⟩) (S := 2 ^ s) (x := x) hS h0 (by rw [hx]; exact Rat.le_refl) (k + 1)
    have c := Rat.mul_le_mul_of_nonneg_left (exA_bound h0 h1 (k := k + 1) (by omega) K) (rq_nat_nonneg (2 ^ s))
    have d : (0 : Rat) ≤ ((exP ⟨A, B⟩ (2 ^ s) (k + 1)).hi : Rat) := rq_nat_nonneg _
    simp only [Pr.rest, Rat.natCast_add]
    rw [Rat.mul_add] at c
    generalize ((2 ^ s : Nat) : Rat) * exA x (k + 1 + 1) = p at *
    generalize ((2 ^ s : Nat) : Rat) * exT x (k + 1) = q at *
    generalize ((2 ^ s : Nat) : Rat) * exA x K = r at *
    generalize ((exP ⟨A, B⟩ (2 ^ s) (k + 1)).hi : Rat) = t at *
    generalize ((exS ⟨A, B⟩ (2 ^ s) (k + 1)).hi : Rat) = u at *
    grind
  · have := exS_small (X := ⟨A, B⟩) (S := 2 ^ s) hS hB (k + 1)
    simp only [Pr.rest]
    have h2 : (k + 1 + 1) * 2 ^ s ≤ (s + 2) * 2 ^ s := Nat.mul_le_mul_right _ (by omega)
    have h3 : (s + 4) * 2 ^ s = (s + 2) * 2 ^ s + 2 * 2 ^ s := by rw [← Nat.add_mul]
    omega

/-! ### the document's -/
/-- j + 1 terms from the m-th on, without their common power. -/
def exG (x : Rat) : Nat → Nat → Rat
  | _, 0 => 1
  | m, j + 1 => 1 + x * ((m + 1 : Nat) : Rat)⁻¹ * exG x (m + 1) j
theorem exG_zero (x : Rat) (m : Nat) : exG x m 0 = 1 := by unfold exG; rfl
theorem exG_succ (x : Rat) (m j : Nat) : exG x m (j + 1) = 1 + x * ((m + 1 : Nat) : Rat)⁻¹ * exG x (m + 1) j := by rw [exG]
theorem exA_add (x : Rat) : ∀ (j m : Nat), exA x (m + 1 + j) = exA x m + exT x m * exG x m j
  | 0, m => by rw [exG_zero, Rat.mul_one]; rfl
  | j + 1, m => by
    have h := exA_add x j (m + 1)
    rw [show m + 1 + (j + 1) = m + 1 + 1 + j by omega, h, exG_succ, exA_succ, exT_succ]
    grind
theorem exG_nonneg {x : Rat} (h0 : 0 ≤ x) : ∀ (j m : Nat), 0 ≤ exG x m j
  | 0, m => by rw [exG_zero]; decide
  | j + 1, m => by
    rw [exG_succ]
    have h1 := Rat.mul_nonneg (Rat.mul_nonneg h0 (rq_inv_nonneg (m + 1))) (exG_nonneg h0 j (m + 1))
    have h2 : (0 : Rat) ≤ 1 := by decide
    exact Rat.add_nonneg h2 h1
def rexH (R a N : Nat) : Nat → Nat
  | 0 => R
  | j + 1 => R + rexH R a N j * a / R / (N - j)
theorem rexH_succ (R a N j : Nat) : rexH R a N (j + 1) = R + rexH R a N j * a / R / (N - j) := rfl
theorem rexH_size {R a N : Nat} (hR : 0 < R) (h : a ≤ R) : ∀ j, rexH R a N j ≤ (j + 1) * R
  | 0 => by rw [Nat.zero_add, Nat.one_mul]; exact Nat.le_refl _
  | j + 1 => by
    have h1 := rexH_size (N := N) hR h j
    have h2 : rexH R a N j * a / R ≤ rexH R a N j := Nat.div_le_of_le_mul (by rw [Nat.mul_comm R]; exact Nat.mul_le_mul_left _ h)
    have h3 := Nat.div_le_self (rexH R a N j * a / R) (N - j)
    rw [rexH_succ, Nat.add_mul (j + 1), Nat.one_mul]
    omega
section
variable {R a N : Nat} {x : Rat}
theorem div2_le (hR : 0 < R) (hx : (a : Rat) = R * x) (u n : Nat) (hn : 0 < n) : ((u * a / R / n : Nat) : Rat) ≤ u * x * ((n : Nat) : Rat)⁻¹ := by
  have hi := rq_inv n hn
  refine rq_cancel (rq_nat_pos hn) (Rat.le_trans (rq_div_le _ _) ?_)
  rw [Rat.mul_assoc, hi, Rat.mul_one]
  refine rq_cancel (rq_nat_pos hR) (Rat.le_trans (rq_div_le _ _) ?_)
  rw [Rat.natCast_mul, hx]
  have e : (u : Rat) * (R * x) = u * x * R := by grind
  rw [e]; exact Rat.le_refl
theorem div2_ge (hR : 0 < R) (hx : (a : Rat) = R * x) (u n : Nat) (hn : 0 < n) : u * x * ((n : Nat) : Rat)⁻¹ ≤ ((u * a / R / n : Nat) : Rat) + 2 := by
  have hi := rq_inv n hn
  have hp := rq_nat_pos hn
  have h1 : u * x ≤ ((u * a / R : Nat) : Rat) + 1 := by
    refine rq_cancel (rq_nat_pos hR) ?_
    have := rq_lt_div (u * a) hR
    rw [Rat.natCast_mul, hx] at this
    have e : (u : Rat) * (R * x) = u * x * R := by grind
    rw [e] at this
    grind
  have h2 := rq_lt_div (u * a / R) hn
  refine rq_cancel hp ?_
  rw [Rat.mul_assoc, hi, Rat.mul_one]
  have h3 : (1 : Rat) ≤ (n : Rat) := Rat.natCast_le_natCast.2 hn
  generalize ((u * a / R / n : Nat) : Rat) = z at *
  generalize ((u * a / R : Nat) : Rat) = y at *
  generalize (u : Rat) * x = w at *
  grind
theorem rexH_le (hR : 0 < R) (hx : (a : Rat) = R * x) (h0 : 0 ≤ x) : ∀ j, j ≤ N → (rexH R a N j : Rat) ≤ R * exG x (N - j) j
  | 0, _ => by rw [exG_zero, Rat.mul_one]; exact Rat.le_refl
  | j + 1, hj => by
    have ih := rexH_le hR hx h0 j (by omega)
    have h1 := div2_le hR hx (rexH R a N j) (N - j) (by omega)
    rw [rexH_succ, exG_succ, show N - (j + 1) + 1 = N - j by omega, Rat.natCast_add]
    have h2 := Rat.mul_le_mul_of_nonneg_right ih (Rat.mul_nonneg h0 (rq_inv_nonneg (N - j)))
    generalize ((rexH R a N j * a / R / (N - j) : Nat) : Rat) = z at *
    generalize ((rexH R a N j : Nat) : Rat) = u at *
    generalize ((N - j : Nat) : Rat)⁻¹ = i at *
    grind
theorem rexH_ge (hR : 0 < R) (hx : (a : Rat) = R * x) (h0 : 0 ≤ x) (h1 : x ≤ 1) : ∀ j, j ≤ N → R * exG x (N - j) j ≤ (rexH R a N j : Rat) + 2 * (j : Rat)
  | 0, _ => by
    rw [exG_zero, Rat.mul_one, show ((0 : Nat) : Rat) = 0 from rfl, Rat.mul_zero, Rat.add_zero]; exact Rat.le_refl
  | j + 1, hj => by
    have ih := rexH_ge hR hx h0 h1 j (by omega)
    have h3 := div2_ge hR hx (rexH R a N j) (N - j) (by omega)
    rw [rexH_succ, exG_succ, show N - (j + 1) + 1 = N - j by omega, Rat.natCast_add]
    have hi0 := rq_inv_nonneg (N - j)
    have hi1 : x * ((N - j : Nat) : Rat)⁻¹ ≤ 1 := by
      have hp := rq_nat_pos (n := N - j) (by omega)
      have := rq_inv (N - j) (by omega)
      refine rq_cancel hp ?_
      rw [Rat.mul_assoc, this, Rat.mul_one, Rat.one_mul]
      exact Rat.le_trans h1 (Rat.natCast_le_natCast.2 (show 1 ≤ N - j by omega))
    have hi2 := Rat.mul_nonneg h0 hi0
    have h2 := Rat.mul_le_mul_of_nonneg_right ih hi2
    have hj0 : (0 : Rat) ≤ (j : Rat) := rq_nat_nonneg j
    have h5 := Rat.mul_le_mul_of_nonneg_left hi1 (show (0 : Rat) ≤ 2 * (j : Rat) by grind)
    have e1 : ((j + 1 : Nat) : Rat) = (j : Rat) + 1 := by rw [Rat.natCast_add]; rfl
    rw [e1]
    generalize ((rexH R a N j * a / R / (N - j) : Nat) : Rat) = z at *
    generalize ((rexH R a N j : Nat) : Rat) = u at *
    generalize ((N - j : Nat) : Rat)⁻¹ = i at *
    generalize (j : Rat) = jj at *
    clear ih
    have e2 : (u + 2 * jj) * (x * i) = u * x * i + 2 * jj * (x * i) := by grind
    rw [e2] at h2
    have e3 : R * exG x (N - j) j * (x * i) = R * (x * i * exG x (N - j) j) := by grind
    rw [e3] at h2
    rw [Rat.mul_add, Rat.mul_one]
    generalize R * (x * i * exG x (N - j) j) = p at *
    generalize u * x * i = q at *
    grind
end
/-- How the document counts terms. -/
def exB : Nat → Nat
  | 0 => 0
  | n + 1 => exB n + bitN (n + 1) - 1
def fac : Nat → Nat
  | 0 => 1
  | n + 1 => fac n * (n + 1)
theorem bitN_ge2 {n : Nat} (h : 2 ≤ n) : 2 ≤ bitN n := by
  rcases Nat.lt_or_ge (bitN n) 2 with h1 | h1
  · have := bitN_lt n
    have h2 : 2 ^ bitN n ≤ 2 ^ 1 := Nat.pow_le_pow_right (by omega) (by omega)
    omega
  · exact h1
theorem exB_one : exB 1 = 0 := by
  show 0 + bitN (0 + 1) - 1 = 0
  rw [bitN_one]
theorem exB_succ {n : Nat} (h : 1 ≤ n) : exB (n + 1) + 1 = exB n + bitN (n + 1) := by
  have := bitN_ge2 (n := n + 1) (by omega)
  show exB n + bitN (n + 1) - 1 + 1 = _
  omega
theorem exB_ge : ∀ n, n ≤ exB (n + 1)
  | 0 => Nat.zero_le _
  | n + 1 => by
    have h1 := exB_ge n
    have h2 := exB_succ (n := n + 1) (by omega)
    have := bitN_ge2 (n := n + 1 + 1) (by omega)
    omega
theorem exB_fac : ∀ n, 2 ^ exB (n + 1) ≤ fac (n + 1)
  | 0 => by rw [exB_one]; exact Nat.le_refl _
  | n + 1 => by
    have h1 := exB_fac n
    have h2 := exB_succ (n := n + 1) (by omega)
    have hb := bitN_ge2 (n := n + 1 + 1) (by omega)
    have h3 : 2 ^ (bitN (n + 1 + 1) - 1) ≤ n + 1 + 1 := by
      rcases Nat.lt_or_ge (n + 1 + 1) (2 ^ (bitN (n + 1 + 1) - 1)) with h | h
      · have := bitN_le.2 h; omega
      · exact h
    rw [show exB (n + 1 + 1) = exB (n + 1) + (bitN (n + 1 + 1) - 1) by omega, Nat.pow_add]
    exact Nat.mul_le_mul h1 h3
theorem exT_fac {x : Rat} : ∀ n, exT x n * ((fac n : Nat) : Rat) = x ^ n
  | 0 => by rw [Rat.pow_zero, show exT x 0 = 1 from rfl, Rat.one_mul]; rfl
  | n + 1 => by
    have h1 := exT_fac (x := x) n
    have hi := rq_inv (n + 1) (by omega)
    rw [exT_succ, Rat.pow_succ, ← h1]
    show exT x n * x * ((n + 1 : Nat) : Rat)⁻¹ * ((fac n * (n + 1) : Nat) : Rat) = _
    rw [Rat.natCast_mul]
    generalize exT x n = t at *
    generalize ((fac n : Nat) : Rat) = f at *
    have e : t * x * ((n + 1 : Nat) : Rat)⁻¹ * (f * ((n + 1 : Nat) : Rat)) = t * x * f * (((n + 1 : Nat) : Rat)⁻¹ * ((n + 1 : Nat) : Rat)) := by grind
    rw [e, hi, Rat.mul_one]
    grind
theorem exT_tiny {x : Rat} (h0 : 0 ≤ x) (h1 : x ≤ 1) {n m : Nat} (hm : m ≤ exB (n + 1)) : ((2 ^ m : Nat) : Rat) * exT x (n + 1) ≤ 1 := by
  have h2 := exT_fac (x := x) (n + 1)
  have h3 : ((2 ^ m : Nat) : Rat) ≤ ((fac (n + 1) : Nat) : Rat) := Rat.natCast_le_natCast.2 (Nat.le_trans (Nat.pow_le_pow_right (by omega) hm) (exB_fac n))
  have h4 := Rat.mul_le_mul_of_nonneg_right h3 (exT_nonneg h0 (n + 1))
  have h5 := rq_pow_le_one h0 h1 (n + 1)
  rw [Rat.mul_comm ((fac (n + 1) : Nat) : Rat), h2] at h4
  exact Rat.le_trans h4 h5
/-- What the document tells of exp. -/
def refExp (a R N : Nat) : Nat := rexH R a N N
theorem ex_of {A s : Nat} : ∃ x : Rat, ((2 ^ s : Nat) : Rat) * x = (A : Rat) ∧ 0 ≤ x ∧ (A ≤ 2 ^ s → x ≤ 1) := by
  have hp := rq_nat_pos (Nat.two_pow_pos s)
  have hi := rq_inv (2 ^ s) (Nat.two_pow_pos s)
  have e : ((2 ^ s : Nat) : Rat) * ((A : Rat) * ((2 ^ s : Nat) : Rat)⁻¹) = (A : Rat) := by
    have : ((2 ^ s : Nat) : Rat) * ((A : Rat) * ((2 ^ s : Nat) : Rat)⁻¹) = A * (((2 ^ s : Nat) : Rat)⁻¹ * ((2 ^ s : Nat) : Rat)) := by grind
    rw [this, hi, Rat.mul_one]
  refine ⟨(A : Rat) * ((2 ^ s : Nat) : Rat)⁻¹, e, Rat.mul_nonneg (rq_nat_nonneg A) (rq_inv_nonneg _), fun h => ?_⟩
  refine rq_cancel hp ?_
  rw [Rat.mul_comm, e, Rat.one_mul]
  exact Rat.natCast_le_natCast.2 h
theorem refExp_le {a R N : Nat} {x : Rat} (hR : 0 < R) (hx : (a : Rat) = R * x) (h0 : 0 ≤ x) : ((refExp a R N : Nat) : Rat) ≤ R * exA x (N + 1) := by
  have h1 := rexH_le (N := N) hR hx h0 N (Nat.le_refl _)
  have h2 := exA_add x N 0
  rw [Nat.sub_self] at h1
  rw [show 0 + 1 + N = N + 1 by omega, show exA x 0 = 0 from rfl, show exT x 0 = 1 from rfl, Rat.zero_add, Rat.one_mul] at h2
  rw [h2]; exact h1
theorem refExp_ge {a R N : Nat} {x : Rat} (hR : 0 < R) (hx : (a : Rat) = R * x) (h0 : 0 ≤ x) (h1 : x ≤ 1) : R * exA x (N + 1) ≤ ((refExp a R N : Nat) : Rat) + 2 * (N : Rat) := by
  have h3 := rexH_ge (N := N) hR hx h0 h1 N (Nat.le_refl _)
  have h2 := exA_add x N 0
  rw [Nat.sub_self] at h3
  rw [show 0 + 1 + N = N + 1 by omega, show exA x 0 = 0 from rfl, show exT x 0 = 1 from rfl, Rat.zero_add, Rat.one_mul] at h2
  rw [h2]; exact h3
theorem ex_low {A B s L H n : Nat} (h : ExOk A B s L H) (hA : A ≤ 2 ^ s) (hn : s + 80 ≤ exB (n + 1)) (hN : n ≤ 1000) : L * 2 ^ 80 ≤ refExp (A * 2 ^ 80) (2 ^ (s + 80)) (n + 1) + 1048576 := by
  obtain ⟨x, hx, h0, h1⟩ := ex_of (A := A) (s := s)
  replace h1 := h1 hA
  have hR : 0 < 2 ^ (s + 80) := Nat.two_pow_pos _
  have hTS : ((2 ^ (s + 80) : Nat) : Rat) = ((2 ^ s : Nat) : Rat) * ((2 ^ 80 : Nat) : Rat) := by rw [Nat.pow_add, Rat.natCast_mul]
  have hx2 : ((A * 2 ^ 80 : Nat) : Rat) = ((2 ^ (s + 80) : Nat) : Rat) * x := by
    rw [hTS, Rat.natCast_mul, ← hx]
    generalize ((2 ^ s : Nat) : Rat) = p
    generalize ((2 ^ 80 : Nat) : Rat) = q
    grind
  have a1 := h.lo x hx h0
  have a2 := refExp_ge (N := n + 1) hR hx2 h0 h1
  have a3 := exA_bound h0 h1 (k := n + 1) (by omega) (s + 2)
  have a4 := exT_tiny h0 h1 hn
  have k0 : (0 : Rat) ≤ ((2 ^ 80 : Nat) : Rat) := rq_nat_nonneg _
  have b1 := Rat.mul_le_mul_of_nonneg_right a1 k0
  have b3 := Rat.mul_le_mul_of_nonneg_left a3 (rq_nat_nonneg (2 ^ (s + 80)))
  have c1 : ((n + 1 : Nat) : Rat) ≤ ((1001 : Nat) : Rat) := Rat.natCast_le_natCast.2 (by omega)
  refine Rat.natCast_le_natCast.1 ?_
  rw [Rat.natCast_mul, Rat.natCast_add]
  have e1 : ((2 ^ s : Nat) : Rat) * exA x (s + 2) * ((2 ^ 80 : Nat) : Rat) = ((2 ^ (s + 80) : Nat) : Rat) * exA x (s + 2) := by
    rw [hTS]
    generalize ((2 ^ s : Nat) : Rat) = p
    generalize ((2 ^ 80 : Nat) : Rat) = q
    grind
  rw [e1] at b1
  have e5 : ((1048576 : Nat) : Rat) = 1048576 := rfl
  have e6 : ((1001 : Nat) : Rat) = 1001 := rfl
  rw [e5]
  rw [e6] at c1
  rw [Rat.mul_add] at b3
  clear hTS hx2 a1 a3 hx h1 h0 e1 e5 e6 k0
  generalize ((2 ^ (s + 80) : Nat) : Rat) * exA x (s + 2) = p at *
  generalize ((2 ^ (s + 80) : Nat) : Rat) * exT x (n + 1) = q at *
  generalize ((2 ^ (s + 80) : Nat) : Rat) * exA x (n + 1 + 1) = r at *
  generalize ((refExp (A * 2 ^ 80) (2 ^ (s + 80)) (n + 1) : Nat) : Rat) = u at *
  generalize (L : Rat) * ((2 ^ 80 : Nat) : Rat) = v at *
  generalize ((n + 1 : Nat) : Rat) = m at *
  grind
theorem ex_high {A B s L H n : Nat} (h : ExOk A B s L H) (hB : B ≤ 2 ^ s) : refExp (B * 2 ^ 80) (2 ^ (s + 80)) n ≤ H * 2 ^ 80 := by
  obtain ⟨x, hx, h0, h1⟩ := ex_of (A := B) (s := s)
  replace h1 := h1 hB
  have hR : 0 < 2 ^ (s + 80) := Nat.two_pow_pos _
  have hTS : ((2 ^ (s + 80) : Nat) : Rat) = ((2 ^ s : Nat) : Rat) * ((2 ^ 80 : Nat) : Rat) := by rw [Nat.pow_add, Rat.natCast_mul]
  have hx2 : ((B * 2 ^ 80 : Nat) : Rat) = ((2 ^ (s + 80) : Nat) : Rat) * x := by
    rw [hTS, Rat.natCast_mul, ← hx]
    generalize ((2 ^ s : Nat) : Rat) = p
    generalize ((2 ^ 80 : Nat) : Rat) = q
    grind
  have a1 := h.hi x hx h0 h1 (n + 1)
  have a2 := refExp_le (N := n) hR hx2 h0
  have k0 : (0 : Rat) ≤ ((2 ^ 80 : Nat) : Rat) := rq_nat_nonneg _
  have b1 := Rat.mul_le_mul_of_nonneg_right a1 k0
  refine Rat.natCast_le_natCast.1 ?_
  rw [Rat.natCast_mul]
  have e1 : ((2 ^ s : Nat) : Rat) * exA x (n + 1) * ((2 ^ 80 : Nat) : Rat) = ((2 ^ (s + 80) : Nat) : Rat) * exA x (n + 1) := by
    rw [hTS]
    generalize ((2 ^ s : Nat) : Rat) = p
    generalize ((2 ^ 80 : Nat) : Rat) = q
    grind
  rw [e1] at b1
  exact Rat.le_trans a2 b1
end Go.Proofs.YtecgimdgmilcbaaDoor
