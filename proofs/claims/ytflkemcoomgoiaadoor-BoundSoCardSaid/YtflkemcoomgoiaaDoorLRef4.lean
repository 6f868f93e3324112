/- planimeterlaw13.Thin, Holds by their contracts. Conditions: the numbers are of a middle size. -/
import Derived.Test.YtflkemcoomgoiaaDoorLRefG
import Derived.Test.YtflkemcoomgoiaaDoorLog6
import Derived.Deep.CutBlock
namespace Go.Proofs.YtflkemcoomgoiaaDoor
set_option maxRecDepth 100000
open Go.RowKit Go.ChangeShapes Go.WideShapes
set_option linter.unusedVariables false

theorem cells46 {w : World} {b : Nat} {x0 x1 x2 x3 x4 x5 : Value} (h : Blk w b #[x0, x1, x2, x3, x4, x5]) : w.cell? ⟨b, 0, none⟩ = some x0 ∧ w.cell? ⟨b, 1, none⟩ = some x1 ∧ w.cell? ⟨b, 2, none⟩ = some x2 ∧ w.cell? ⟨b, 3, none⟩ = some x3 ∧ w.cell? ⟨b, 4, none⟩ = some x4 ∧ w.cell? ⟨b, 5, none⟩ = some x5 :=
  ⟨h.open6.1, h.open6.2.1, h.open6.2.2.1, h.open6.2.2.2.1, h.open6.2.2.2.2.1, h.open6.2.2.2.2.2.1⟩

end Go.Proofs.YtflkemcoomgoiaaDoor
