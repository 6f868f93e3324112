/- ratio.against by its contract. Conditions: the numbers are short; math/bits' table stands in its variable. -/
import Derived.Test.YtflkemcoomgoiaaDoorRat2
import Derived.Deep.RegionHeld3
import Derived.Deep.CutBlock
namespace Go.Proofs.YtflkemcoomgoiaaDoor
set_option maxRecDepth 100000
open Go.RowKit Go.ChangeShapes Go.WideShapes

/-- One against a product, where the tops tell. -/
theorem against_tops {A B : Nat} {Ea Eb : Int} (hA : A ≠ 0) (hB : B ≠ 0) :
    (0 < topD ⟨false, A, Ea⟩ + topD ⟨false, B, Eb⟩ → cmpM ⟨false, 1, 0⟩ ⟨false, A * B, Ea + Eb⟩ = -1) ∧ (topD ⟨false, A, Ea⟩ + topD ⟨false, B, Eb⟩ < -1 → cmpM ⟨false, 1, 0⟩ ⟨false, A * B, Ea + Eb⟩ = 1) := by
  have h1 := bitN_mul_le A B
  have h2 := bitN_mul_ge hA hB
  have hAB : A * B ≠ 0 := Nat.mul_ne_zero hA hB
  have pA := bitN_pos hA; have pB := bitN_pos hB
  unfold topD
  simp only
  refine ⟨fun h => ?_, fun h => ?_⟩
  · rw [cmpM_tops (a := ⟨false, 1, 0⟩) (b := ⟨false, A * B, Ea + Eb⟩) (by simp) hAB (by simp only [bitN_one]; omega)]
    simp only [bitN_one]
    unfold cmpI
    rw [if_pos (by omega)]
  · rw [cmpM_tops (a := ⟨false, 1, 0⟩) (b := ⟨false, A * B, Ea + Eb⟩) (by simp) hAB (by simp only [bitN_one]; omega)]
    simp only [bitN_one]
    unfold cmpI
    rw [if_neg (by omega), if_pos (by omega)]
theorem bareD_odd {neg : Bool} {M : Nat} {E : Int} (h : M % 2 = 1) (h1 : -2147483648 ≤ E) (h2 : E ≤ 2147483648) : bareD ⟨neg, M, E⟩ = ⟨neg, M, E⟩ := by
  rw [bareD_pos (show (⟨neg, M, E⟩ : Dn).m ≠ 0 by simp only; omega)]
  simp only [low2_odd h, Nat.pow_zero, Nat.div_one]
  unfold cutE
  congr 1
  omega

end Go.Proofs.YtflkemcoomgoiaaDoor
