/-
  NARROWER THAN 'FOR EVERY INPUT', by the rows' own cells (each row's printed sentence says how): RatioPows: laid · RatioCmps: laid · RatioTurned: laid · RatioRules: laid.
  DERIVED. THE GIVEN ROWS OF THIS SEAT. 4 by the template 'for every input the law returns true; each argument reads behind the call as it read before'; 0 by the template 'total and deterministic' (their statements: YtegpfmfobeigfaaDoorTotals.lean).
  GIVEN WITH THE SEED: the statements are not yours to turn. If you find one false, say at which input.
  Laid BY PROGRAM, IN A SANDBOX (cutbox-rows.mjs): the forced cells as the released guide's own fill.sh prints them over the translation 96ed496af97e04b1… (all of the seat's roots in one cut). By AI agents, Wed Nov 11 2026. No macro, syntax, notation, axiom, sorry.
-/
import Derived.Test.YtegpfmfobeigfaaDoorChecked
import GoSem.Claim
import GoSem.ClaimJoined
import GoSem.ClaimMapViews
import Derived.JoinedTies
import Derived.KernelRfl
namespace Go.Proofs.YtegpfmfobeigfaaDoor
/- THE CELL 'sum', in the pinned program and in every row, IS THE sha256 OF THE DUMP (.gsa) THAT YtegpfmfobeigfaaDoorProg.lean LOADS. Nothing in Lean hashes anything: it is a label: what it is worth is what the hold of that sum in a sandbox is worth. -/
noncomputable def Tryd.pinned : Pinned := { name := "ytegpfmfobeigfaadoor", sum := "96ed496af97e04b171633108087e5b937f64a287d1c1e4994d86fe92aeb219a3", checked := Tryd.checked }
namespace Rows
def none {H : Type} : Left H := { results := [], args := [] }

/- WHAT THE LISTED PACKAGE-LEVEL VARIABLES READ AS WHEN THE CALL BEGINS. Each datum BY PROGRAM (the guide's laid-datum.mjs) off the statement by which the dump's own 'gosem.cut.vars' lays the variable. In a bare row this is a premise. The card (YtegpfmfobeigfaaDoorCards.lean) ties it to the program's text. -/
def laid_math_bits_deBruijn64tab {H : Type} : DataW H := .agg [.lit (.int .u8 0), .lit (.int .u8 1), .lit (.int .u8 56), .lit (.int .u8 2), .lit (.int .u8 57), .lit (.int .u8 49), .lit (.int .u8 28), .lit (.int .u8 3), .lit (.int .u8 61), .lit (.int .u8 58), .lit (.int .u8 42), .lit (.int .u8 50), .lit (.int .u8 38), .lit (.int .u8 29), .lit (.int .u8 17), .lit (.int .u8 4), .lit (.int .u8 62), .lit (.int .u8 47), .lit (.int .u8 59), .lit (.int .u8 36), .lit (.int .u8 45), .lit (.int .u8 43), .lit (.int .u8 51), .lit (.int .u8 22), .lit (.int .u8 53), .lit (.int .u8 39), .lit (.int .u8 33), .lit (.int .u8 30), .lit (.int .u8 24), .lit (.int .u8 18), .lit (.int .u8 12), .lit (.int .u8 5), .lit (.int .u8 63), .lit (.int .u8 55), .lit (.int .u8 48), .lit (.int .u8 27), .lit (.int .u8 60), .lit (.int .u8 41), .lit (.int .u8 37), .lit (.int .u8 16), .lit (.int .u8 46), .lit (.int .u8 35), .lit (.int .u8 44), .lit (.int .u8 21), .lit (.int .u8 52), .lit (.int .u8 32), .lit (.int .u8 23), .lit (.int .u8 11), .lit (.int .u8 54), .lit (.int .u8 26), .lit (.int .u8 40), .lit (.int .u8 15), .lit (.int .u8 34), .lit (.int .u8 20), .lit (.int .u8 31), .lit (.int .u8 10), .lit (.int .u8 25), .lit (.int .u8 14), .lit (.int .u8 19), .lit (.int .u8 9), .lit (.int .u8 13), .lit (.int .u8 8), .lit (.int .u8 7), .lit (.int .u8 6)]

/-- 'planimeterlaw10.RatioPows': WHATEVER THE INPUT: true; the input reads as it did. -/
def ratioPowsSpec : ChangeSpec := { name := "ratioPows", fn := fun _ => fun
  | [d1, d2] => { results := [.lit (.bool true)], args := [d1, d2] }
  | _ => none }
def ratioPowsRow : OpenClaim := { program := "ytegpfmfobeigfaadoor", sum := "96ed496af97e04b171633108087e5b937f64a287d1c1e4994d86fe92aeb219a3", func := "planimeter/planimeterlaw10.RatioPows", spec := "ratioPows", inPlace := ["math/bits.Add64"], unfollowed := true, recurses := true, named := ["math/bits.deBruijn64tab"], apart := false, laid := [("math/bits.deBruijn64tab", laid_math_bits_deBruijn64tab)] }
def RatioPowsSaid : Prop := ratioPowsRow.holds Tryd.pinned (OpenSpec.ofChange ratioPowsSpec)

/-- ITS FALSE NEIGHBOUR: 'it returns false'. Refute it at one input. -/
def ratioPowsWrong : ChangeSpec := { name := "ratioPows", fn := fun _ => fun
  | [d1, d2] => { results := [.lit (.bool false)], args := [d1, d2] }
  | _ => none }
def RatioPowsWrongFalsely : Prop := ratioPowsRow.holds Tryd.pinned (OpenSpec.ofChange ratioPowsWrong)

/-- 'planimeterlaw10.RatioCmps': WHATEVER THE INPUT: true; the input reads as it did. -/
def ratioCmpsSpec : ChangeSpec := { name := "ratioCmps", fn := fun _ => fun
  | [d1, d2, d3, d4] => { results := [.lit (.bool true)], args := [d1, d2, d3, d4] }
  | _ => none }
def ratioCmpsRow : OpenClaim := { program := "ytegpfmfobeigfaadoor", sum := "96ed496af97e04b171633108087e5b937f64a287d1c1e4994d86fe92aeb219a3", func := "planimeter/planimeterlaw10.RatioCmps", spec := "ratioCmps", inPlace := ["math/bits.Add64"], unfollowed := true, recurses := true, named := ["math/bits.deBruijn64tab"], apart := false, laid := [("math/bits.deBruijn64tab", laid_math_bits_deBruijn64tab)] }
def RatioCmpsSaid : Prop := ratioCmpsRow.holds Tryd.pinned (OpenSpec.ofChange ratioCmpsSpec)

/-- ITS FALSE NEIGHBOUR: 'it returns false'. Refute it at one input. -/
def ratioCmpsWrong : ChangeSpec := { name := "ratioCmps", fn := fun _ => fun
  | [d1, d2, d3, d4] => { results := [.lit (.bool false)], args := [d1, d2, d3, d4] }
  | _ => none }
def RatioCmpsWrongFalsely : Prop := ratioCmpsRow.holds Tryd.pinned (OpenSpec.ofChange ratioCmpsWrong)

/-- 'planimeterlaw10.RatioTurned': WHATEVER THE INPUT: true; the input reads as it did. -/
def ratioTurnedSpec : ChangeSpec := { name := "ratioTurned", fn := fun _ => fun
  | [d1, d2, d3, d4, d5, d6] => { results := [.lit (.bool true)], args := [d1, d2, d3, d4, d5, d6] }
  | _ => none }
def ratioTurnedRow : OpenClaim := { program := "ytegpfmfobeigfaadoor", sum := "96ed496af97e04b171633108087e5b937f64a287d1c1e4994d86fe92aeb219a3", func := "planimeter/planimeterlaw10.RatioTurned", spec := "ratioTurned", inPlace := ["math/bits.Add64"], unfollowed := true, recurses := true, named := ["math/bits.deBruijn64tab"], apart := false, laid := [("math/bits.deBruijn64tab", laid_math_bits_deBruijn64tab)] }
def RatioTurnedSaid : Prop := ratioTurnedRow.holds Tryd.pinned (OpenSpec.ofChange ratioTurnedSpec)

/-- ITS FALSE NEIGHBOUR: 'it returns false'. Refute it at one input. -/
def ratioTurnedWrong : ChangeSpec := { name := "ratioTurned", fn := fun _ => fun
  | [d1, d2, d3, d4, d5, d6] => { results := [.lit (.bool false)], args := [d1, d2, d3, d4, d5, d6] }
  | _ => none }
def RatioTurnedWrongFalsely : Prop := ratioTurnedRow.holds Tryd.pinned (OpenSpec.ofChange ratioTurnedWrong)

/-- 'planimeterlaw10.RatioRules': WHATEVER THE INPUT: true; the input reads as it did. -/
def ratioRulesSpec : ChangeSpec := { name := "ratioRules", fn := fun _ => fun
  | [d1, d2, d3, d4, d5, d6] => { results := [.lit (.bool true)], args := [d1, d2, d3, d4, d5, d6] }
  | _ => none }
def ratioRulesRow : OpenClaim := { program := "ytegpfmfobeigfaadoor", sum := "96ed496af97e04b171633108087e5b937f64a287d1c1e4994d86fe92aeb219a3", func := "planimeter/planimeterlaw10.RatioRules", spec := "ratioRules", inPlace := ["math/bits.Add64", "math/bits.Sub64"], unfollowed := true, recurses := true, named := ["math/bits.deBruijn64tab"], apart := false, laid := [("math/bits.deBruijn64tab", laid_math_bits_deBruijn64tab)] }
def RatioRulesSaid : Prop := ratioRulesRow.holds Tryd.pinned (OpenSpec.ofChange ratioRulesSpec)

/-- ITS FALSE NEIGHBOUR: 'it returns false'. Refute it at one input. -/
def ratioRulesWrong : ChangeSpec := { name := "ratioRules", fn := fun _ => fun
  | [d1, d2, d3, d4, d5, d6] => { results := [.lit (.bool false)], args := [d1, d2, d3, d4, d5, d6] }
  | _ => none }
def RatioRulesWrongFalsely : Prop := ratioRulesRow.holds Tryd.pinned (OpenSpec.ofChange ratioRulesWrong)

/- THE SECOND FORM. 'bulk': how many values and letters a reading holds, each counted each time it is reached (what is shared counts as often as it is met; a slice's spare places count too). A statement '..UptoSaid' is the law's where the arguments, and the package variables that the reading takes, are together of bulk at most 1048576: NARROWER than '..Said'. Prove '..Said' where nothing that the law and all that it calls make is longer than what came in: it says more and counts as full. Else prove '..UptoSaid'. A law counts once. -/
mutual
def uptoBulk {H : Type} : DataW H → Nat
  | .lit (.string bytes) => bytes.length + 1
  | .lit _ => 1
  | .nil => 1
  | .ptr d => uptoBulk d + 1
  | .slice elems spare => uptoBulkAll elems + uptoBulkAll spare + 1
  | .agg parts => uptoBulkAll parts + 1
  | .iface _ d => uptoBulk d + 1
  | .map entries => uptoBulkEntries entries + 1
  | .held _ => 1
def uptoBulkAll {H : Type} : List (DataW H) → Nat
  | [] => 0
  | d :: r => uptoBulk d + uptoBulkAll r
def uptoBulkEntries {H : Type} : List (Lit × DataW H) → Nat
  | [] => 0
  | x :: r => uptoBulkEntry x + uptoBulkEntries r
def uptoBulkEntry {H : Type} : Lit × DataW H → Nat
  | (.string bytes, d) => bytes.length + uptoBulk d + 1
  | (_, d) => uptoBulk d + 1
 end
def uptoSmall : (H : Type) → List (DataW H) → Bool := fun _ ds => decide (uptoBulkAll ds ≤ 1048576)
def OpenSpec.upto (s : _root_.Go.ChangeSpec) : _root_.Go.OpenSpec := { _root_.Go.OpenSpec.ofChange s with cond := some uptoSmall }

/-- 'planimeterlaw10.RatioPows', WHERE WHAT IT READS IS OF BULK AT MOST 1048576: true; the input reads as it did. -/
def ratioPowsUptoRow : OpenClaim := { program := "ytegpfmfobeigfaadoor", sum := "96ed496af97e04b171633108087e5b937f64a287d1c1e4994d86fe92aeb219a3", func := "planimeter/planimeterlaw10.RatioPows", spec := "ratioPows", inPlace := ["math/bits.Add64"], unfollowed := true, recurses := true, named := ["math/bits.deBruijn64tab"], apart := false, laid := [("math/bits.deBruijn64tab", laid_math_bits_deBruijn64tab)], narrowed := true }
def RatioPowsUptoSaid : Prop := ratioPowsUptoRow.holds Tryd.pinned (OpenSpec.upto ratioPowsSpec)

/-- 'planimeterlaw10.RatioCmps', WHERE WHAT IT READS IS OF BULK AT MOST 1048576: true; the input reads as it did. -/
def ratioCmpsUptoRow : OpenClaim := { program := "ytegpfmfobeigfaadoor", sum := "96ed496af97e04b171633108087e5b937f64a287d1c1e4994d86fe92aeb219a3", func := "planimeter/planimeterlaw10.RatioCmps", spec := "ratioCmps", inPlace := ["math/bits.Add64"], unfollowed := true, recurses := true, named := ["math/bits.deBruijn64tab"], apart := false, laid := [("math/bits.deBruijn64tab", laid_math_bits_deBruijn64tab)], narrowed := true }
def RatioCmpsUptoSaid : Prop := ratioCmpsUptoRow.holds Tryd.pinned (OpenSpec.upto ratioCmpsSpec)

/-- 'planimeterlaw10.RatioTurned', WHERE WHAT IT READS IS OF BULK AT MOST 1048576: true; the input reads as it did. -/
def ratioTurnedUptoRow : OpenClaim := { program := "ytegpfmfobeigfaadoor", sum := "96ed496af97e04b171633108087e5b937f64a287d1c1e4994d86fe92aeb219a3", func := "planimeter/planimeterlaw10.RatioTurned", spec := "ratioTurned", inPlace := ["math/bits.Add64"], unfollowed := true, recurses := true, named := ["math/bits.deBruijn64tab"], apart := false, laid := [("math/bits.deBruijn64tab", laid_math_bits_deBruijn64tab)], narrowed := true }
def RatioTurnedUptoSaid : Prop := ratioTurnedUptoRow.holds Tryd.pinned (OpenSpec.upto ratioTurnedSpec)

/-- 'planimeterlaw10.RatioRules', WHERE WHAT IT READS IS OF BULK AT MOST 1048576: true; the input reads as it did. -/
def ratioRulesUptoRow : OpenClaim := { program := "ytegpfmfobeigfaadoor", sum := "96ed496af97e04b171633108087e5b937f64a287d1c1e4994d86fe92aeb219a3", func := "planimeter/planimeterlaw10.RatioRules", spec := "ratioRules", inPlace := ["math/bits.Add64", "math/bits.Sub64"], unfollowed := true, recurses := true, named := ["math/bits.deBruijn64tab"], apart := false, laid := [("math/bits.deBruijn64tab", laid_math_bits_deBruijn64tab)], narrowed := true }
def RatioRulesUptoSaid : Prop := ratioRulesUptoRow.holds Tryd.pinned (OpenSpec.upto ratioRulesSpec)

end Rows
end Go.Proofs.YtegpfmfobeigfaaDoor
