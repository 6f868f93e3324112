/- planimeterref21.Result by its contract. Conditions: the class and the direction are such. -/
import Derived.Test.YtflkemcoomgoiaaDoorBd3
namespace Go.Proofs.YtflkemcoomgoiaaDoor
set_option maxRecDepth 100000
open Go.RowKit

set_option maxHeartbeats 4000000 in
theorem RRes_n {w : World} {cls dir : Int} {neg : Bool} (c1 : 1 ≤ cls) (c4 : cls ≤ 4) (d0 : 0 ≤ dir) (d3 : dir ≤ 3) :
    Calls Tryd.prog 13 #[.int .i64 cls, .bool neg, .int .i64 dir] w (fun e w' => e = .returned (.tuple #[L64 (resB cls neg dir).1, .int .i64 (resB cls neg dir).2.1]) ∧ w' = w) := by
  rcases (show cls = 1 ∨ cls = 2 ∨ cls = 3 ∨ cls = 4 by omega) with rfl | rfl | rfl | rfl
  all_goals rcases dir_cases d0 d3 with rfl | rfl | rfl | rfl
  all_goals cases neg
  all_goals
    go_enter Tryd.func13, Tryd.ntmps13
    go_wp2
    all_goals
      go_ret2
      exact ⟨rfl, rfl⟩
end Go.Proofs.YtflkemcoomgoiaaDoor
