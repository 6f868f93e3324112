/- quo.long by its contract: the walk. Conditions: the lists are short, the limbs are limbs, the divisor has two limbs at least and is bare, the dividend isn't shorter. -/
import Derived.Test.YtegpfmfobeigfaaDoorQuoC
import Derived.Deep.CutBlock
namespace Go.Proofs.YtegpfmfobeigfaaDoor
set_option maxRecDepth 100000
open Go.RowKit

end Go.Proofs.YtegpfmfobeigfaaDoor
