/- quo.Up and quo.Gcd by their contracts. Conditions: the lists are short, the limbs are limbs, math/bits' table stands in its variable. -/
import Derived.Test.YtnoelffaccekjaaDoorQuo15
namespace Go.Proofs.YtnoelffaccekjaaDoor
open Go.RowKit

/-- What quo.Up tells. -/
def upR (A B : Nat) : Nat × Int := if B = 0 then (0, 1) else (A / B + (if A % B = 0 then 0 else 1), 0)

theorem digs_mono {a b : Nat} (h : a ≤ b) : (digs BB a).length ≤ (digs BB b).length :=
  (digs_length_le BB_two _ _).2 (Nat.lt_of_le_of_lt h ((digs_length_le BB_two _ _).1 (Nat.le_refl _)))
theorem div_len {A B k : Nat} (h : (digs BB A).length ≤ k) : (digs BB (A / B)).length ≤ k :=
  (digs_length_le BB_two _ _).2 (Nat.lt_of_le_of_lt (Nat.div_le_self _ _) ((digs_length_le BB_two _ _).1 h))

/-- A slice reads as one list alone. -/
theorem RdN.inj {w : World} {v : Value} {l m : List Nat} (h : RdN w v l) (k : RdN w v m) : l = m := by
  obtain ⟨a, c, rfl, -, -, -, h5⟩ := h.view
  obtain ⟨a', c', e, -, -, -, k5⟩ := k.view
  injection e with e1 e2 e3
  subst e1
  apply List.ext_getElem e2
  intro i h1 h2
  obtain ⟨g, off, ea, -, hc⟩ := h5 i h1
  obtain ⟨g', off', ea', -, hc'⟩ := k5 i h2
  rw [ea] at ea'
  injection ea' with ea'
  injection ea' with e1 e4
  subst e1 e4
  rw [hc, List.getElem?_eq_getElem h1, List.getElem?_eq_getElem h2] at hc'
  injection hc' with hc'
  simp at hc'
  omega

/-- The number that a slice reads as. -/
noncomputable def numOf (w : World) (v : Value) : Nat := Classical.epsilon (fun y => RdN w v (digs BB y))
theorem numOf_eq {w : World} {v : Value} {y : Nat} (h : RdN w v (digs BB y)) : numOf w v = y :=
  digs_inj BB_two ((Classical.epsilon_spec (p := fun y => RdN w v (digs BB y)) ⟨y, h⟩).inj h)

end Go.Proofs.YtnoelffaccekjaaDoor
