/- planimeterref05.To by its contract. Conditions: the number is short. -/
import Derived.Test.YtflkemcoomgoiaaDoorRefDy2
import Derived.Test.YtflkemcoomgoiaaDoorDy4
import Derived.Deep.RegionHeld3
import Derived.Deep.CutBlock
namespace Go.Proofs.YtflkemcoomgoiaaDoor
set_option maxRecDepth 100000
open Go.RowKit Go.ChangeShapes Go.WideShapes

end Go.Proofs.YtflkemcoomgoiaaDoor
