/- exp's series of a sum, plainly. Conditions: none. -/
import Derived.Test.YtecgimdgmilcbaaDoorExTail
namespace Go.Proofs.YtecgimdgmilcbaaDoor
set_option maxRecDepth 100000
set_option linter.unusedVariables false

theorem rq_cancel_eq {a b c : Rat} (hc : 0 < c) (h : c * a = c * b) : a = b := by
  rw [Rat.mul_comm c a, Rat.mul_comm c b] at h
  exact Rat.le_antisymm (rq_cancel hc (by rw [h]; exact Rat.le_refl)) (rq_cancel hc (by rw [h]; exact Rat.le_refl))

/-! ### sums -/
def sumN (f : Nat → Rat) : Nat → Rat
  | 0 => 0
  | n + 1 => sumN f n + f n
theorem sumN_succ (f : Nat → Rat) (n : Nat) : sumN f (n + 1) = sumN f n + f n := rfl
theorem sumN_congr {f g : Nat → Rat} : ∀ {n : Nat}, (∀ i, i < n → f i = g i) → sumN f n = sumN g n
  | 0, _ => rfl
  | n + 1, h => by rw [sumN_succ, sumN_succ, sumN_congr (fun i hi => h i (by omega)), h n (by omega)]
theorem sumN_add (f g : Nat → Rat) : ∀ n, sumN (fun i => f i + g i) n = sumN f n + sumN g n
  | 0 => by show (0 : Rat) = 0 + 0; grind
  | n + 1 => by rw [sumN_succ, sumN_succ, sumN_succ, sumN_add f g n]; grind
theorem sumN_mul (c : Rat) (f : Nat → Rat) : ∀ n, sumN (fun i => c * f i) n = c * sumN f n
  | 0 => by show (0 : Rat) = c * 0; grind
  | n + 1 => by rw [sumN_succ, sumN_succ, sumN_mul c f n]; grind
theorem sumN_left (f : Nat → Rat) : ∀ n, sumN f (n + 1) = f 0 + sumN (fun i => f (i + 1)) n
  | 0 => by show 0 + f 0 = f 0 + 0; grind
  | n + 1 => by
    rw [sumN_succ, sumN_left f n, sumN_succ (fun i => f (i + 1)) n]
    generalize f 0 = a
    generalize sumN (fun i => f (i + 1)) n = b
    generalize f (n + 1) = c
    grind
theorem sumN_le {f g : Nat → Rat} : ∀ {n : Nat}, (∀ i, i < n → f i ≤ g i) → sumN f n ≤ sumN g n
  | 0, _ => Rat.le_refl
  | n + 1, h => by
    have h1 := sumN_le (n := n) (fun i hi => h i (by omega))
    have h2 := h n (by omega)
    rw [sumN_succ, sumN_succ]
    generalize sumN f n = a at *
    generalize sumN g n = b at *
    grind
theorem sumN_grow {f : Nat → Rat} (h : ∀ i, 0 ≤ f i) (m : Nat) : ∀ j, sumN f m ≤ sumN f (m + j)
  | 0 => Rat.le_refl
  | j + 1 => by
    have h1 := sumN_grow h m j
    have h2 := h (m + j)
    rw [show m + (j + 1) = m + j + 1 by omega, sumN_succ]
    generalize sumN f (m + j) = a at *
    generalize sumN f m = b at *
    grind
theorem exA_sum (x : Rat) : ∀ n, exA x n = sumN (exT x) n
  | 0 => rfl
  | n + 1 => by rw [exA_succ, sumN_succ, exA_sum x n]

/-! ### the binomial theorem -/
theorem exT_up (x : Rat) (k : Nat) : ((k + 1 : Nat) : Rat) * exT x (k + 1) = x * exT x k := by
  have hi := rq_inv (k + 1) (by omega)
  rw [exT_succ]
  generalize exT x k = t
  have e : ((k + 1 : Nat) : Rat) * (t * x * ((k + 1 : Nat) : Rat)⁻¹) = x * t * (((k + 1 : Nat) : Rat)⁻¹ * ((k + 1 : Nat) : Rat)) := by grind
  rw [e, hi, Rat.mul_one]
theorem exT_conv (x y : Rat) : ∀ n, exT (x + y) n = sumN (fun i => exT x i * exT y (n - i)) (n + 1)
  | 0 => by show (1 : Rat) = 0 + 1 * 1; grind
  | n + 1 => by
    have ih := exT_conv x y n
    have hp := rq_nat_pos (n := n + 1) (by omega)
    have h1 := exT_up (x + y) n
    rw [ih] at h1
    -- n + 1 times the sum, in two
    have h2 : ((n + 1 : Nat) : Rat) * sumN (fun i => exT x i * exT y (n + 1 - i)) (n + 1 + 1) = (x + y) * sumN (fun i => exT x i * exT y (n - i)) (n + 1) := by
      rw [← sumN_mul]
      have e1 : sumN (fun i => ((n + 1 : Nat) : Rat) * (exT x i * exT y (n + 1 - i))) (n + 1 + 1) = sumN (fun i => ((i : Nat) : Rat) * (exT x i * exT y (n + 1 - i)) + ((n + 1 - i : Nat) : Rat) * (exT x i * exT y (n + 1 - i))) (n + 1 + 1) := sumN_congr (fun i hi => by
        have : ((n + 1 : Nat) : Rat) = ((i : Nat) : Rat) + ((n + 1 - i : Nat) : Rat) := by rw [← Rat.natCast_add]; congr 1; omega
        rw [this, Rat.add_mul])
      rw [e1, sumN_add]
      have e2 : sumN (fun i => ((i : Nat) : Rat) * (exT x i * exT y (n + 1 - i))) (n + 1 + 1) = x * sumN (fun i => exT x i * exT y (n - i)) (n + 1) := by
        rw [sumN_left, ← sumN_mul]
        have z : ((0 : Nat) : Rat) * (exT x 0 * exT y (n + 1 - 0)) = 0 := Rat.zero_mul _
        rw [z, Rat.zero_add]
        refine sumN_congr (fun i hi => ?_)
        have := exT_up x i
        rw [show n + 1 - (i + 1) = n - i by omega]
        generalize exT x (i + 1) = a at *
        generalize exT y (n - i) = b at *
        rw [← Rat.mul_assoc, this, Rat.mul_assoc]
      have e3 : sumN (fun i => ((n + 1 - i : Nat) : Rat) * (exT x i * exT y (n + 1 - i))) (n + 1 + 1) = y * sumN (fun i => exT x i * exT y (n - i)) (n + 1) := by
        rw [sumN_succ, ← sumN_mul, Nat.sub_self]
        have z : ((0 : Nat) : Rat) * (exT x (n + 1) * exT y 0) = 0 := Rat.zero_mul _
        rw [z, Rat.add_zero]
        refine sumN_congr (fun i hi => ?_)
        have := exT_up y (n - i)
        rw [show n - i + 1 = n + 1 - i by omega] at this
        generalize exT y (n + 1 - i) = a at *
        generalize exT x i = b at *
        have e : ((n + 1 - i : Nat) : Rat) * (b * a) = b * (((n + 1 - i : Nat) : Rat) * a) := by
          generalize ((n + 1 - i : Nat) : Rat) = q
          grind
        rw [e, this]
        generalize exT y (n - i) = c
        grind
      rw [e2, e3, Rat.add_mul]
    rw [← h1] at h2
    exact (rq_cancel_eq hp h2).symm
theorem exA_conv (x y : Rat) : ∀ n, exA (x + y) n = sumN (fun i => exT x i * exA y (n - i)) n
  | 0 => rfl
  | n + 1 => by
    have h2 : sumN (fun i => exT x i * exA y (n + 1 - i)) (n + 1) = sumN (fun i => exT x i * exA y (n - i) + exT x i * exT y (n - i)) (n + 1) := sumN_congr (fun i hi => by
      rw [show n + 1 - i = n - i + 1 by omega, exA_succ, Rat.mul_add])
    have z : exT x n * exA y (n - n) = 0 := by rw [Nat.sub_self]; exact Rat.mul_zero _
    rw [exA_succ, exA_conv x y n, exT_conv x y n, h2, sumN_add, sumN_succ (fun i => exT x i * exA y (n - i)) n, z, Rat.add_zero]
section
variable {x y : Rat}
theorem exA_nonneg (h0 : 0 ≤ x) (K : Nat) : 0 ≤ exA x K := by
  have := exA_mono h0 (m := 0) K
  rw [Nat.zero_add] at this
  exact this
theorem exA_up (h0 : 0 ≤ x) {m n : Nat} (h : m ≤ n) : exA x m ≤ exA x n := by
  obtain ⟨j, rfl⟩ := Nat.le.dest h
  exact exA_mono h0 j
theorem exA_ge_one (h0 : 0 ≤ x) (K : Nat) : 1 ≤ exA x (K + 1) := by
  have h := exA_up h0 (show 1 ≤ K + 1 by omega)
  have e : exA x 1 = 1 := by rw [exA_succ]; exact Rat.zero_add 1
  rwa [e] at h
theorem exA_le_mul (h0 : 0 ≤ x) (h1 : 0 ≤ y) (n : Nat) : exA (x + y) n ≤ exA x n * exA y n := by
  rw [exA_conv, exA_sum x n, Rat.mul_comm, ← sumN_mul]
  refine sumN_le (fun i hi => ?_)
  rw [Rat.mul_comm]
  exact Rat.mul_le_mul_of_nonneg_right (exA_up h1 (by omega)) (exT_nonneg h0 i)
theorem exA_mul_le (h0 : 0 ≤ x) (h1 : 0 ≤ y) (m n : Nat) : exA x m * exA y n ≤ exA (x + y) (m + n) := by
  rw [exA_conv, exA_sum x m, Rat.mul_comm, ← sumN_mul]
  refine Rat.le_trans ?_ (sumN_grow (fun i => Rat.mul_nonneg (exT_nonneg h0 i) (exA_nonneg h1 _)) m n)
  refine sumN_le (fun i hi => ?_)
  rw [Rat.mul_comm]
  exact Rat.mul_le_mul_of_nonneg_left (exA_up h1 (by omega)) (exT_nonneg h0 i)
end
end Go.Proofs.YtecgimdgmilcbaaDoor
