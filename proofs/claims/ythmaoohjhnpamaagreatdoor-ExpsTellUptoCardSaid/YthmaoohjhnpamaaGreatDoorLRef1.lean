/- planimeterref13.Right by its contract. Conditions: the numbers are short. -/
import Derived.Test.YthmaoohjhnpamaaGreatDoorLogB
import Derived.Test.YthmaoohjhnpamaaGreatDoorRefE
namespace Go.Proofs.YthmaoohjhnpamaaGreatDoor
set_option maxRecDepth 100000
open Go.RowKit Go.ChangeShapes Go.WideShapes
set_option linter.unusedVariables false

end Go.Proofs.YthmaoohjhnpamaaGreatDoor
