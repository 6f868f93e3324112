/- planimeterref01.Shr by its contract. Conditions: the number is short. -/
import Derived.Test.YthmaoohjhnpamaaDoorRefB
namespace Go.Proofs.YthmaoohjhnpamaaDoor
set_option maxRecDepth 100000
open Go.RowKit Go.ChangeShapes Go.WideShapes

theorem shr_bit (A t : Nat) : 2 * (A / 2 ^ (t + 1)) + A / 2 ^ t % 2 = A / 2 ^ t := by
  rw [Nat.pow_succ, ← Nat.div_div_eq_div_mul]
  omega
theorem mod_bit (A t : Nat) : decide (A % 2 ^ (t + 1) ≠ 0) = (decide (A % 2 ^ t ≠ 0) || decide (A / 2 ^ t % 2 = 1)) := by
  rw [Nat.pow_succ, Nat.mod_mul]
  have hp : 0 < 2 ^ t := Nat.pow_pos (by omega)
  rcases Nat.mod_two_eq_zero_or_one (A / 2 ^ t) with h | h
  · rw [h, Nat.mul_zero, Nat.add_zero, decide_eq_false (p := (0 : Nat) = 1) (by omega), Bool.or_false]
  · rw [h, Nat.mul_one, decide_eq_true (p := (1 : Nat) = 1) rfl, Bool.or_true]
    exact decide_eq_true (by omega)

/-- What the document's Shr leaves. -/
def RShr (w : World) (A n : Nat) (e : Ending) (w' : World) : Prop :=
  ∃ v, e = .returned (.tuple #[v, .bool (decide (A % 2 ^ n ≠ 0))]) ∧ RdD w' v (digs DD (A / 2 ^ n)) ∧ Below w.heap.size w w'

end Go.Proofs.YthmaoohjhnpamaaDoor
