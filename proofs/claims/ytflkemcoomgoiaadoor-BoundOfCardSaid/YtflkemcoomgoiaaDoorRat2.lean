/- ratio.power, multiplied by their contracts. Conditions: the numbers are short; math/bits' table stands in its variable. -/
import Derived.Test.YtflkemcoomgoiaaDoorRat1
namespace Go.Proofs.YtflkemcoomgoiaaDoor
set_option maxRecDepth 100000
open Go.RowKit Go.ChangeShapes Go.WideShapes

theorem one64 (l : List Nat) : ∀ u ∈ l.map L64, u.oneCell' = true := by
  intro u hu
  obtain ⟨x, -, rfl⟩ := List.mem_map.1 hu
  rfl

end Go.Proofs.YtflkemcoomgoiaaDoor
