/- round.To at one and beside one. Conditions: math/bits' table stands in its variable. -/
import Derived.Test.YtflkemcoomgoiaaDoorFl6
namespace Go.Proofs.YtflkemcoomgoiaaDoor
set_option maxRecDepth 100000
open Go.RowKit Go.ChangeShapes Go.WideShapes

theorem bitN_at {n k : Nat} (h1 : 2 ^ k ≤ n) (h2 : n < 2 ^ (k + 1)) : bitN n = k + 1 := by
  have a := lt_bitN.2 h1
  have b := bitN_le.2 h2
  omega
theorem bareD_at {n : Bool} {M m k : Nat} {E : Int} (h : M = 2 ^ k * (2 * m + 1)) (h1 : -2147483648 ≤ E) (h2 : E ≤ 2147483648) : bareD ⟨n, M, E⟩ = ⟨n, 2 * m + 1, E + k⟩ := by
  have h0 : M ≠ 0 := by rw [h]; exact Nat.mul_ne_zero (Nat.ne_of_gt (Nat.pow_pos (by omega))) (by omega)
  rw [bareD_pos (show (⟨n, M, E⟩ : Dn).m ≠ 0 from h0)]
  simp only
  rw [low2_uniq h, odd_eq h, show cutE E = E by unfold cutE; omega]
theorem makeQ_at {n : Bool} {M m k : Nat} {E : Int} (h : M = 2 ^ k * (2 * m + 1)) (h1 : -1073741824 ≤ E) (h2 : E + k ≤ 1073741824) : makeQ ⟨n, M, E⟩ = (n, 2 * m + 1, E + k, 0) := by
  unfold makeQ
  rw [bareD_at h (by omega) (by omega)]
  simp only
  rw [if_pos (by unfold fitsE; rw [decide_eq_true (by omega), decide_eq_true (by omega)]; rfl)]

theorem b1 : bitN 1 = 0 + 1 := bitN_at (by decide) (by decide)
theorem b52 : bitN 4503599627370497 = 52 + 1 := bitN_at (by decide) (by decide)
theorem b53 : bitN 9007199254740991 = 52 + 1 := bitN_at (by decide) (by decide)
theorem b54 : bitN 18014398509481983 = 53 + 1 := bitN_at (by decide) (by decide)
theorem t1 (n : Bool) : topD ⟨n, 1, 0⟩ = 0 := by unfold topD; simp only [b1]; rfl
theorem t52 (n : Bool) : topD ⟨n, 4503599627370497, -52⟩ = 0 := by unfold topD; simp only [b52]; rfl
theorem t53 (n : Bool) : topD ⟨n, 9007199254740991, -53⟩ = -1 := by unfold topD; simp only [b53]; rfl
theorem t54 (n : Bool) : topD ⟨n, 18014398509481983, -54⟩ = -1 := by unfold topD; simp only [b54]; rfl
theorem x1 (n : Bool) : exactB n 1 0 = (signedB 4607182418800017408 n, true) := by unfold exactB; rw [t1]; cases n <;> rfl
theorem x52 (n : Bool) : exactB n 4503599627370497 (-52) = (signedB 4607182418800017409 n, true) := by unfold exactB; rw [t52]; cases n <;> rfl
theorem x53 (n : Bool) : exactB n 9007199254740991 (-53) = (signedB 4607182418800017407 n, true) := by unfold exactB; rw [t53]; cases n <;> rfl

theorem dir_cases {dir : Int} (d0 : 0 ≤ dir) (d3 : dir ≤ 3) : dir = 0 ∨ dir = 1 ∨ dir = 2 ∨ dir = 3 := by omega

/-- The size just above one, where rounded. -/
def moreB (dir : Int) (neg : Bool) : Nat := if upB dir neg then 4607182418800017409 else 4607182418800017408
def lessB (dir : Int) (neg : Bool) : Nat := if decide (dir = 0) || upB dir neg then 4607182418800017408 else 4607182418800017407

theorem whole1 {dir : Int} {n : Bool} (d0 : 0 ≤ dir) (d3 : dir ≤ 3) : wholeP n 1 0 true dir (-52) = (if upB dir n then 4503599627370497 else 4503599627370496, true) := by
  rcases dir_cases d0 d3 with rfl | rfl | rfl | rfl <;> cases n <;> rfl
theorem whole54 {dir : Int} {n : Bool} (d0 : 0 ≤ dir) (d3 : dir ≤ 3) : wholeP n 18014398509481983 (-54) true dir (-53) = (if decide (dir = 0) || upB dir n then 9007199254740992 else 9007199254740991, true) := by
  rcases dir_cases d0 d3 with rfl | rfl | rfl | rfl <;> cases n <;> rfl
end Go.Proofs.YtflkemcoomgoiaaDoor
