/- planimeterref13.Log by its contract. Conditions: the numbers are short. -/
import Derived.Test.YthmaoohjhnpamaaGreatDoorLRef2
namespace Go.Proofs.YthmaoohjhnpamaaGreatDoor
set_option maxRecDepth 100000
open Go.RowKit Go.ChangeShapes Go.WideShapes
set_option linter.unusedVariables false

theorem refAt_bits {A B m : Nat} (hAB : A ≤ B) (hm : m ≤ 9080) : bitN (refAt A B (2 ^ m) (m / 3 + 2)) ≤ m + 14 := by
  have hT0 : 0 < 2 ^ m := Nat.two_pow_pos _
  have r1 : A * 2 ^ m / B ≤ 2 ^ m := Nat.div_le_of_le_mul (Nat.mul_le_mul_right _ hAB)
  have r2 : ∀ r, r ≤ 2 ^ m → refH (2 ^ m) (r * r / 2 ^ m) (m / 3 + 2) (m / 3 + 2 + 1) * r / 2 ^ m ≤ 8192 * 2 ^ m := fun r hr => by
    have q0 : r * r / 2 ^ m ≤ 2 ^ m := Nat.div_le_of_le_mul (Nat.mul_le_mul hr hr)
    have q1 := refH_size (M := m / 3 + 2) hT0 q0 (m / 3 + 2 + 1)
    refine Nat.le_trans (Nat.div_le_of_le_mul ?_) (Nat.le_trans q1 (Nat.mul_le_mul_right _ (by omega)))
    rw [Nat.mul_comm]; exact Nat.mul_le_mul_right _ hr
  unfold refAt
  exact Nat.le_trans (bitN_le_pow (r2 _ r1)) (by omega)

end Go.Proofs.YthmaoohjhnpamaaGreatDoor
