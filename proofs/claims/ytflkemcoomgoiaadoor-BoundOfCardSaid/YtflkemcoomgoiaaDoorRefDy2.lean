/- planimeterref05.Fits, Top, Sign, Same, To by their contracts. Conditions: the numbers are short. -/
import Derived.Test.YtflkemcoomgoiaaDoorRefDy1
import Derived.Test.YtflkemcoomgoiaaDoorRefA
namespace Go.Proofs.YtflkemcoomgoiaaDoor
set_option maxRecDepth 100000
open Go.RowKit Go.ChangeShapes Go.WideShapes

theorem RdD.slice {w : World} {v : Value} {l : List Nat} (h : RdD w v l) : ∃ a, ∃ m k : Nat, v = .slice a m k := by
  obtain ⟨a, k, h2, -⟩ := h.view
  exact ⟨a, _, k, h2⟩

end Go.Proofs.YtflkemcoomgoiaaDoor
