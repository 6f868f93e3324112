/- ratio.size, under, Fits, Pow, power by their contracts. Conditions: the number is short; math/bits' table stands in its variable. -/
import Derived.Test.YtflkemcoomgoiaaDoorDy5
namespace Go.Proofs.YtflkemcoomgoiaaDoor
set_option maxRecDepth 100000
open Go.RowKit Go.ChangeShapes Go.WideShapes

theorem below_right {w w' : World} (h : Below w.heap.size w w') (o : Obj) : Below w.heap.size w (w'.alloc o) := h.alloc h.size o

end Go.Proofs.YtflkemcoomgoiaaDoor
