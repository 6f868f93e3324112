/- What chapter 10's laws share: alive(). Conditions: math/bits' table stands in its variable. -/
import Derived.Test.YtflkemcoomgoiaaDoorRat4
namespace Go.Proofs.YtflkemcoomgoiaaDoor
set_option maxRecDepth 100000
open Go.RowKit Go.ChangeShapes Go.WideShapes

theorem bare_2 : bareD ⟨false, 2, 0⟩ = ⟨false, 1, 1⟩ := rfl
theorem bare_1 : bareD ⟨false, 1, 1⟩ = ⟨false, 1, 1⟩ := rfl
theorem bare_10 : bareD ⟨false, 1, 0⟩ = ⟨false, 1, 0⟩ := rfl
theorem bare_0 : bareD ⟨false, 0, 0⟩ = ⟨false, 0, 0⟩ := rfl
theorem bare_1000 : bareD ⟨false, 1000, 0⟩ = ⟨false, 125, 3⟩ := rfl
theorem bare_125 : bareD ⟨false, 125, 3⟩ = ⟨false, 125, 3⟩ := rfl
theorem alive_cmp : cmpM ⟨false, 1, 10⟩ ⟨false, 125, 3⟩ = 1 := by decide

end Go.Proofs.YtflkemcoomgoiaaDoor
