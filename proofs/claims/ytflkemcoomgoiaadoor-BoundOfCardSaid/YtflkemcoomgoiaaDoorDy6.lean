/- dyad.Add by its contract: what addQ tells. Conditions: the numbers are short; math/bits' table stands in its variable. -/
import Derived.Test.YtflkemcoomgoiaaDoorDyLaw2
import Derived.Test.YtflkemcoomgoiaaDoorBlk
import Derived.Deep.CutBlock
import Derived.Deep.RegionHeld3
namespace Go.Proofs.YtflkemcoomgoiaaDoor
set_option maxRecDepth 100000
open Go.RowKit Go.ChangeShapes Go.WideShapes

theorem bitN_sum {a b k : Nat} (ha : bitN a ≤ k) (hb : bitN b ≤ k) : bitN (a + b) ≤ k + 1 := by
  rw [bitN_le] at *
  rw [Nat.pow_succ]; omega
theorem bareD_odd' {neg : Bool} {M : Nat} {E : Int} (h : M % 2 = 1) (h1 : -2147483648 ≤ E) (h2 : E ≤ 2147483648) : bareD ⟨neg, M, E⟩ = ⟨neg, M, E⟩ := by
  rw [bareD_pos (show (⟨neg, M, E⟩ : Dn).m ≠ 0 by simp only; omega)]
  simp only [low2_odd h, Nat.pow_zero, Nat.div_one]
  unfold cutE
  congr 1; omega

end Go.Proofs.YtflkemcoomgoiaaDoor
