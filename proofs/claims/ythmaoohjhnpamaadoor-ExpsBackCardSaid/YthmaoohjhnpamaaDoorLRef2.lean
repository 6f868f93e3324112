/- planimeterref05.Add, Cmp by values; planimeterref13.Two, Off; chapter 13's of, minus. Conditions: the numbers are of a middle size. -/
import Derived.Test.YthmaoohjhnpamaaDoorLRef1
import Derived.Test.YthmaoohjhnpamaaDoorLogTell
namespace Go.Proofs.YthmaoohjhnpamaaDoor
set_option maxRecDepth 100000
open Go.RowKit Go.ChangeShapes Go.WideShapes
set_option linter.unusedVariables false

end Go.Proofs.YthmaoohjhnpamaaDoor
