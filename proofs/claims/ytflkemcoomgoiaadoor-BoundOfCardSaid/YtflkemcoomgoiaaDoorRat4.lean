/- ratio.Cmp by its contract. Conditions: the numbers are short; math/bits' table stands in its variable. -/
import Derived.Test.YtflkemcoomgoiaaDoorRat3
namespace Go.Proofs.YtflkemcoomgoiaaDoor
set_option maxRecDepth 100000
open Go.RowKit Go.ChangeShapes Go.WideShapes

theorem odd_pow {a : Nat} (h : a % 2 = 1) : ∀ k, a ^ k % 2 = 1
  | 0 => by rw [Nat.pow_zero]
  | k + 1 => by rw [Nat.pow_succ, Nat.mul_mod, odd_pow h k, h]


end Go.Proofs.YtflkemcoomgoiaaDoor
