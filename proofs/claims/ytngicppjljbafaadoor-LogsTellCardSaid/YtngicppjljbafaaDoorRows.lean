/-
  NARROWER THAN 'FOR EVERY INPUT', by the rows' own cells (each row's printed sentence says how): LogsNear: laid · LogsTell: laid · LogsRules: laid · LogsPowers: laid.
  DERIVED. THE GIVEN ROWS OF THIS SEAT. 4 by the template 'for every input the law returns true; each argument reads behind the call as it read before'; 0 by the template 'total and deterministic' (their statements: YtngicppjljbafaaDoorTotals.lean).
  GIVEN WITH THE SEED: the statements are not yours to turn. If you find one false, say at which input.
  Laid BY PROGRAM, IN A SANDBOX (cutbox-rows.mjs): the forced cells as the released guide's own fill.sh prints them over the translation 28a6d754121f1fea… (all of the seat's roots in one cut). By AI agents, Wed Nov 11 2026. No macro, syntax, notation, axiom, sorry.
-/
import Derived.Test.YtngicppjljbafaaDoorChecked
import GoSem.Claim
import GoSem.ClaimJoined
import GoSem.ClaimMapViews
import Derived.JoinedTies
import Derived.KernelRfl
namespace Go.Proofs.YtngicppjljbafaaDoor
/- THE CELL 'sum', in the pinned program and in every row, IS THE sha256 OF THE DUMP (.gsa) THAT YtngicppjljbafaaDoorProg.lean LOADS. Nothing in Lean hashes anything: it is a label: what it is worth is what the hold of that sum in a sandbox is worth. -/
noncomputable def Tryd.pinned : Pinned := { name := "ytngicppjljbafaadoor", sum := "28a6d754121f1fead814f6b83f29eea9d95295c334c1d4775ae71c1beea0d66d", checked := Tryd.checked }
namespace Rows
def none {H : Type} : Left H := { results := [], args := [] }

/- WHAT THE LISTED PACKAGE-LEVEL VARIABLES READ AS WHEN THE CALL BEGINS. Each datum BY PROGRAM (the guide's laid-datum.mjs) off the statement by which the dump's own 'gosem.cut.vars' lays the variable. In a bare row this is a premise. The card (YtngicppjljbafaaDoorCards.lean) ties it to the program's text. -/
def laid_math_bits_deBruijn64tab {H : Type} : DataW H := .agg [.lit (.int .u8 0), .lit (.int .u8 1), .lit (.int .u8 56), .lit (.int .u8 2), .lit (.int .u8 57), .lit (.int .u8 49), .lit (.int .u8 28), .lit (.int .u8 3), .lit (.int .u8 61), .lit (.int .u8 58), .lit (.int .u8 42), .lit (.int .u8 50), .lit (.int .u8 38), .lit (.int .u8 29), .lit (.int .u8 17), .lit (.int .u8 4), .lit (.int .u8 62), .lit (.int .u8 47), .lit (.int .u8 59), .lit (.int .u8 36), .lit (.int .u8 45), .lit (.int .u8 43), .lit (.int .u8 51), .lit (.int .u8 22), .lit (.int .u8 53), .lit (.int .u8 39), .lit (.int .u8 33), .lit (.int .u8 30), .lit (.int .u8 24), .lit (.int .u8 18), .lit (.int .u8 12), .lit (.int .u8 5), .lit (.int .u8 63), .lit (.int .u8 55), .lit (.int .u8 48), .lit (.int .u8 27), .lit (.int .u8 60), .lit (.int .u8 41), .lit (.int .u8 37), .lit (.int .u8 16), .lit (.int .u8 46), .lit (.int .u8 35), .lit (.int .u8 44), .lit (.int .u8 21), .lit (.int .u8 52), .lit (.int .u8 32), .lit (.int .u8 23), .lit (.int .u8 11), .lit (.int .u8 54), .lit (.int .u8 26), .lit (.int .u8 40), .lit (.int .u8 15), .lit (.int .u8 34), .lit (.int .u8 20), .lit (.int .u8 31), .lit (.int .u8 10), .lit (.int .u8 25), .lit (.int .u8 14), .lit (.int .u8 19), .lit (.int .u8 9), .lit (.int .u8 13), .lit (.int .u8 8), .lit (.int .u8 7), .lit (.int .u8 6)]

/-- 'planimeterlaw13.LogsNear': WHATEVER THE INPUT: true; the input reads as it did. -/
def logsNearSpec : ChangeSpec := { name := "logsNear", fn := fun _ => fun
  | [d] => { results := [.lit (.bool true)], args := [d] }
  | _ => none }
def logsNearRow : OpenClaim := { program := "ytngicppjljbafaadoor", sum := "28a6d754121f1fead814f6b83f29eea9d95295c334c1d4775ae71c1beea0d66d", func := "planimeter/planimeterlaw13.LogsNear", spec := "logsNear", inPlace := ["math/bits.Add64", "math/bits.Sub64"], unfollowed := true, recurses := true, named := ["math/bits.deBruijn64tab", "math/bits.divideError", "math/bits.overflowError"], apart := false, laid := [("math/bits.deBruijn64tab", laid_math_bits_deBruijn64tab)] }
def LogsNearSaid : Prop := logsNearRow.holds Tryd.pinned (OpenSpec.ofChange logsNearSpec)

/-- ITS FALSE NEIGHBOUR: 'it returns false'. Refute it at one input. -/
def logsNearWrong : ChangeSpec := { name := "logsNear", fn := fun _ => fun
  | [d] => { results := [.lit (.bool false)], args := [d] }
  | _ => none }
def LogsNearWrongFalsely : Prop := logsNearRow.holds Tryd.pinned (OpenSpec.ofChange logsNearWrong)

/-- 'planimeterlaw13.LogsTell': WHATEVER THE INPUT: true; the input reads as it did. -/
def logsTellSpec : ChangeSpec := { name := "logsTell", fn := fun _ => fun
  | [d1, d2] => { results := [.lit (.bool true)], args := [d1, d2] }
  | _ => none }
def logsTellRow : OpenClaim := { program := "ytngicppjljbafaadoor", sum := "28a6d754121f1fead814f6b83f29eea9d95295c334c1d4775ae71c1beea0d66d", func := "planimeter/planimeterlaw13.LogsTell", spec := "logsTell", inPlace := ["math/bits.Add64", "math/bits.Sub64"], unfollowed := true, recurses := true, named := ["math/bits.deBruijn64tab", "math/bits.divideError", "math/bits.overflowError"], apart := false, laid := [("math/bits.deBruijn64tab", laid_math_bits_deBruijn64tab)] }
def LogsTellSaid : Prop := logsTellRow.holds Tryd.pinned (OpenSpec.ofChange logsTellSpec)

/-- ITS FALSE NEIGHBOUR: 'it returns false'. Refute it at one input. -/
def logsTellWrong : ChangeSpec := { name := "logsTell", fn := fun _ => fun
  | [d1, d2] => { results := [.lit (.bool false)], args := [d1, d2] }
  | _ => none }
def LogsTellWrongFalsely : Prop := logsTellRow.holds Tryd.pinned (OpenSpec.ofChange logsTellWrong)

/-- 'planimeterlaw13.LogsRules': WHATEVER THE INPUT: true; the input reads as it did. -/
def logsRulesSpec : ChangeSpec := { name := "logsRules", fn := fun _ => fun
  | [d1, d2, d3, d4, d5] => { results := [.lit (.bool true)], args := [d1, d2, d3, d4, d5] }
  | _ => none }
def logsRulesRow : OpenClaim := { program := "ytngicppjljbafaadoor", sum := "28a6d754121f1fead814f6b83f29eea9d95295c334c1d4775ae71c1beea0d66d", func := "planimeter/planimeterlaw13.LogsRules", spec := "logsRules", inPlace := ["math/bits.Add64", "math/bits.Sub64"], unfollowed := true, recurses := true, named := ["math/bits.deBruijn64tab", "math/bits.divideError", "math/bits.overflowError"], apart := false, laid := [("math/bits.deBruijn64tab", laid_math_bits_deBruijn64tab)] }
def LogsRulesSaid : Prop := logsRulesRow.holds Tryd.pinned (OpenSpec.ofChange logsRulesSpec)

/-- ITS FALSE NEIGHBOUR: 'it returns false'. Refute it at one input. -/
def logsRulesWrong : ChangeSpec := { name := "logsRules", fn := fun _ => fun
  | [d1, d2, d3, d4, d5] => { results := [.lit (.bool false)], args := [d1, d2, d3, d4, d5] }
  | _ => none }
def LogsRulesWrongFalsely : Prop := logsRulesRow.holds Tryd.pinned (OpenSpec.ofChange logsRulesWrong)

/-- 'planimeterlaw13.LogsPowers': WHATEVER THE INPUT: true; the input reads as it did. -/
def logsPowersSpec : ChangeSpec := { name := "logsPowers", fn := fun _ => fun
  | [d1, d2] => { results := [.lit (.bool true)], args := [d1, d2] }
  | _ => none }
def logsPowersRow : OpenClaim := { program := "ytngicppjljbafaadoor", sum := "28a6d754121f1fead814f6b83f29eea9d95295c334c1d4775ae71c1beea0d66d", func := "planimeter/planimeterlaw13.LogsPowers", spec := "logsPowers", inPlace := ["math/bits.Add64", "math/bits.Sub64"], unfollowed := true, recurses := true, named := ["math/bits.deBruijn64tab", "math/bits.divideError", "math/bits.overflowError"], apart := false, laid := [("math/bits.deBruijn64tab", laid_math_bits_deBruijn64tab)] }
def LogsPowersSaid : Prop := logsPowersRow.holds Tryd.pinned (OpenSpec.ofChange logsPowersSpec)

/-- ITS FALSE NEIGHBOUR: 'it returns false'. Refute it at one input. -/
def logsPowersWrong : ChangeSpec := { name := "logsPowers", fn := fun _ => fun
  | [d1, d2] => { results := [.lit (.bool false)], args := [d1, d2] }
  | _ => none }
def LogsPowersWrongFalsely : Prop := logsPowersRow.holds Tryd.pinned (OpenSpec.ofChange logsPowersWrong)

/- THE SECOND FORM. 'bulk': how many values and letters a reading holds, each counted each time it is reached (what is shared counts as often as it is met; a slice's spare places count too). A statement '..UptoSaid' is the law's where the arguments, and the package variables that the reading takes, are together of bulk at most 1048576: NARROWER than '..Said'. Prove '..Said' where nothing that the law and all that it calls make is longer than what came in: it says more and counts as full. Else prove '..UptoSaid'. A law counts once. -/
mutual
def uptoBulk {H : Type} : DataW H → Nat
  | .lit (.string bytes) => bytes.length + 1
  | .lit _ => 1
  | .nil => 1
  | .ptr d => uptoBulk d + 1
  | .slice elems spare => uptoBulkAll elems + uptoBulkAll spare + 1
  | .agg parts => uptoBulkAll parts + 1
  | .iface _ d => uptoBulk d + 1
  | .map entries => uptoBulkEntries entries + 1
  | .held _ => 1
def uptoBulkAll {H : Type} : List (DataW H) → Nat
  | [] => 0
  | d :: r => uptoBulk d + uptoBulkAll r
def uptoBulkEntries {H : Type} : List (Lit × DataW H) → Nat
  | [] => 0
  | x :: r => uptoBulkEntry x + uptoBulkEntries r
def uptoBulkEntry {H : Type} : Lit × DataW H → Nat
  | (.string bytes, d) => bytes.length + uptoBulk d + 1
  | (_, d) => uptoBulk d + 1
 end
def uptoSmall : (H : Type) → List (DataW H) → Bool := fun _ ds => decide (uptoBulkAll ds ≤ 1048576)
def OpenSpec.upto (s : _root_.Go.ChangeSpec) : _root_.Go.OpenSpec := { _root_.Go.OpenSpec.ofChange s with cond := some uptoSmall }

/-- 'planimeterlaw13.LogsNear', WHERE WHAT IT READS IS OF BULK AT MOST 1048576: true; the input reads as it did. -/
def logsNearUptoRow : OpenClaim := { program := "ytngicppjljbafaadoor", sum := "28a6d754121f1fead814f6b83f29eea9d95295c334c1d4775ae71c1beea0d66d", func := "planimeter/planimeterlaw13.LogsNear", spec := "logsNear", inPlace := ["math/bits.Add64", "math/bits.Sub64"], unfollowed := true, recurses := true, named := ["math/bits.deBruijn64tab", "math/bits.divideError", "math/bits.overflowError"], apart := false, laid := [("math/bits.deBruijn64tab", laid_math_bits_deBruijn64tab)], narrowed := true }
def LogsNearUptoSaid : Prop := logsNearUptoRow.holds Tryd.pinned (OpenSpec.upto logsNearSpec)

/-- 'planimeterlaw13.LogsTell', WHERE WHAT IT READS IS OF BULK AT MOST 1048576: true; the input reads as it did. -/
def logsTellUptoRow : OpenClaim := { program := "ytngicppjljbafaadoor", sum := "28a6d754121f1fead814f6b83f29eea9d95295c334c1d4775ae71c1beea0d66d", func := "planimeter/planimeterlaw13.LogsTell", spec := "logsTell", inPlace := ["math/bits.Add64", "math/bits.Sub64"], unfollowed := true, recurses := true, named := ["math/bits.deBruijn64tab", "math/bits.divideError", "math/bits.overflowError"], apart := false, laid := [("math/bits.deBruijn64tab", laid_math_bits_deBruijn64tab)], narrowed := true }
def LogsTellUptoSaid : Prop := logsTellUptoRow.holds Tryd.pinned (OpenSpec.upto logsTellSpec)

/-- 'planimeterlaw13.LogsRules', WHERE WHAT IT READS IS OF BULK AT MOST 1048576: true; the input reads as it did. -/
def logsRulesUptoRow : OpenClaim := { program := "ytngicppjljbafaadoor", sum := "28a6d754121f1fead814f6b83f29eea9d95295c334c1d4775ae71c1beea0d66d", func := "planimeter/planimeterlaw13.LogsRules", spec := "logsRules", inPlace := ["math/bits.Add64", "math/bits.Sub64"], unfollowed := true, recurses := true, named := ["math/bits.deBruijn64tab", "math/bits.divideError", "math/bits.overflowError"], apart := false, laid := [("math/bits.deBruijn64tab", laid_math_bits_deBruijn64tab)], narrowed := true }
def LogsRulesUptoSaid : Prop := logsRulesUptoRow.holds Tryd.pinned (OpenSpec.upto logsRulesSpec)

/-- 'planimeterlaw13.LogsPowers', WHERE WHAT IT READS IS OF BULK AT MOST 1048576: true; the input reads as it did. -/
def logsPowersUptoRow : OpenClaim := { program := "ytngicppjljbafaadoor", sum := "28a6d754121f1fead814f6b83f29eea9d95295c334c1d4775ae71c1beea0d66d", func := "planimeter/planimeterlaw13.LogsPowers", spec := "logsPowers", inPlace := ["math/bits.Add64", "math/bits.Sub64"], unfollowed := true, recurses := true, named := ["math/bits.deBruijn64tab", "math/bits.divideError", "math/bits.overflowError"], apart := false, laid := [("math/bits.deBruijn64tab", laid_math_bits_deBruijn64tab)], narrowed := true }
def LogsPowersUptoSaid : Prop := logsPowersUptoRow.holds Tryd.pinned (OpenSpec.upto logsPowersSpec)

end Rows
end Go.Proofs.YtngicppjljbafaaDoor
