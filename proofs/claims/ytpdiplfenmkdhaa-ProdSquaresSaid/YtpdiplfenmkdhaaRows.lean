/-
  No cell of these rows narrows 'for every input' (looked for: loops, veiled, ifaces, maps, wideKeys, modest, calm, conditions, laid).
  DERIVED. THE GIVEN ROWS OF THIS SEAT. 4 by the template 'for every input the law returns true; each argument reads behind the call as it read before'; 0 by the template 'total and deterministic' (their statements: YtpdiplfenmkdhaaTotals.lean).
  GIVEN WITH THE SEED: the statements are not yours to turn. If you find one false, say at which input.
  Laid BY PROGRAM, IN A SANDBOX (cutbox-rows.mjs): the forced cells as the released guide's own fill.sh prints them over the translation ea7f53dc8345f4e3… (all of the seat's roots in one cut). By AI agents, Wed Nov 11 2026. No macro, syntax, notation, axiom, sorry.
-/
import Derived.Test.YtpdiplfenmkdhaaChecked
import GoSem.Claim
import GoSem.ClaimJoined
import GoSem.ClaimMapViews
import Derived.JoinedTies
import Derived.KernelRfl
namespace Go.Proofs.Ytpdiplfenmkdhaa
/- THE CELL 'sum', in the pinned program and in every row, IS THE sha256 OF THE DUMP (.gsa) THAT YtpdiplfenmkdhaaProg.lean LOADS. Nothing in Lean hashes anything: it is a label: what it is worth is what the hold of that sum in a sandbox is worth. -/
noncomputable def Try.pinned : Pinned := { name := "ytpdiplfenmkdhaa", sum := "ea7f53dc8345f4e3b3c087527320a5187272b160524bfc7e1d96ad933e0c0dae", checked := Try.checked }
namespace Rows
def none {H : Type} : Left H := { results := [], args := [] }

/-- 'planimeterlaw02.ProdPows': WHATEVER THE INPUT: true; the input reads as it did. -/
def prodPowsSpec : ChangeSpec := { name := "prodPows", fn := fun _ => fun
  | [d1, d2] => { results := [.lit (.bool true)], args := [d1, d2] }
  | _ => none }
def prodPowsRow : OpenClaim := { program := "ytpdiplfenmkdhaa", sum := "ea7f53dc8345f4e3b3c087527320a5187272b160524bfc7e1d96ad933e0c0dae", func := "planimeter/planimeterlaw02.ProdPows", spec := "prodPows", inPlace := ["math/bits.Add64"], apart := false }
def ProdPowsSaid : Prop := prodPowsRow.holds Try.pinned (OpenSpec.ofChange prodPowsSpec)

/-- ITS FALSE NEIGHBOUR: 'it returns false'. Refute it at one input. -/
def prodPowsWrong : ChangeSpec := { name := "prodPows", fn := fun _ => fun
  | [d1, d2] => { results := [.lit (.bool false)], args := [d1, d2] }
  | _ => none }
def ProdPowsWrongFalsely : Prop := prodPowsRow.holds Try.pinned (OpenSpec.ofChange prodPowsWrong)

/-- 'planimeterlaw02.ProdMuls': WHATEVER THE INPUT: true; the input reads as it did. -/
def prodMulsSpec : ChangeSpec := { name := "prodMuls", fn := fun _ => fun
  | [d1, d2, d3] => { results := [.lit (.bool true)], args := [d1, d2, d3] }
  | _ => none }
def prodMulsRow : OpenClaim := { program := "ytpdiplfenmkdhaa", sum := "ea7f53dc8345f4e3b3c087527320a5187272b160524bfc7e1d96ad933e0c0dae", func := "planimeter/planimeterlaw02.ProdMuls", spec := "prodMuls", inPlace := ["math/bits.Add64"], apart := false }
def ProdMulsSaid : Prop := prodMulsRow.holds Try.pinned (OpenSpec.ofChange prodMulsSpec)

/-- ITS FALSE NEIGHBOUR: 'it returns false'. Refute it at one input. -/
def prodMulsWrong : ChangeSpec := { name := "prodMuls", fn := fun _ => fun
  | [d1, d2, d3] => { results := [.lit (.bool false)], args := [d1, d2, d3] }
  | _ => none }
def ProdMulsWrongFalsely : Prop := prodMulsRow.holds Try.pinned (OpenSpec.ofChange prodMulsWrong)

/-- 'planimeterlaw02.ProdSquares': WHATEVER THE INPUT: true; the input reads as it did. -/
def prodSquaresSpec : ChangeSpec := { name := "prodSquares", fn := fun _ => fun
  | [d1, d2, d3, d4] => { results := [.lit (.bool true)], args := [d1, d2, d3, d4] }
  | _ => none }
def prodSquaresRow : OpenClaim := { program := "ytpdiplfenmkdhaa", sum := "ea7f53dc8345f4e3b3c087527320a5187272b160524bfc7e1d96ad933e0c0dae", func := "planimeter/planimeterlaw02.ProdSquares", spec := "prodSquares", inPlace := ["math/bits.Add64"], unfollowed := true, recurses := true, apart := false }
def ProdSquaresSaid : Prop := prodSquaresRow.holds Try.pinned (OpenSpec.ofChange prodSquaresSpec)

/-- ITS FALSE NEIGHBOUR: 'it returns false'. Refute it at one input. -/
def prodSquaresWrong : ChangeSpec := { name := "prodSquares", fn := fun _ => fun
  | [d1, d2, d3, d4] => { results := [.lit (.bool false)], args := [d1, d2, d3, d4] }
  | _ => none }
def ProdSquaresWrongFalsely : Prop := prodSquaresRow.holds Try.pinned (OpenSpec.ofChange prodSquaresWrong)

/-- 'planimeterlaw02.ProdRules': WHATEVER THE INPUT: true; the input reads as it did. -/
def prodRulesSpec : ChangeSpec := { name := "prodRules", fn := fun _ => fun
  | [d1, d2, d3, d4, d5] => { results := [.lit (.bool true)], args := [d1, d2, d3, d4, d5] }
  | _ => none }
def prodRulesRow : OpenClaim := { program := "ytpdiplfenmkdhaa", sum := "ea7f53dc8345f4e3b3c087527320a5187272b160524bfc7e1d96ad933e0c0dae", func := "planimeter/planimeterlaw02.ProdRules", spec := "prodRules", inPlace := ["math/bits.Add64"], unfollowed := true, recurses := true, apart := false }
def ProdRulesSaid : Prop := prodRulesRow.holds Try.pinned (OpenSpec.ofChange prodRulesSpec)

/-- ITS FALSE NEIGHBOUR: 'it returns false'. Refute it at one input. -/
def prodRulesWrong : ChangeSpec := { name := "prodRules", fn := fun _ => fun
  | [d1, d2, d3, d4, d5] => { results := [.lit (.bool false)], args := [d1, d2, d3, d4, d5] }
  | _ => none }
def ProdRulesWrongFalsely : Prop := prodRulesRow.holds Try.pinned (OpenSpec.ofChange prodRulesWrong)

/- THE SECOND FORM. 'bulk': how many values and letters a reading holds, each counted each time it is reached (what is shared counts as often as it is met; a slice's spare places count too). A statement '..UptoSaid' is the law's where the arguments, and the package variables that the reading takes, are together of bulk at most 1048576: NARROWER than '..Said'. Prove '..Said' where nothing that the law and all that it calls make is longer than what came in: it says more and counts as full. Else prove '..UptoSaid'. A law counts once. -/
mutual
def uptoBulk {H : Type} : DataW H → Nat
  | .lit (.string bytes) => bytes.length + 1
  | .lit _ => 1
  | .nil => 1
  | .ptr d => uptoBulk d + 1
  | .slice elems spare => uptoBulkAll elems + uptoBulkAll spare + 1
  | .agg parts => uptoBulkAll parts + 1
  | .iface _ d => uptoBulk d + 1
  | .map entries => uptoBulkEntries entries + 1
  | .held _ => 1
def uptoBulkAll {H : Type} : List (DataW H) → Nat
  | [] => 0
  | d :: r => uptoBulk d + uptoBulkAll r
def uptoBulkEntries {H : Type} : List (Lit × DataW H) → Nat
  | [] => 0
  | x :: r => uptoBulkEntry x + uptoBulkEntries r
def uptoBulkEntry {H : Type} : Lit × DataW H → Nat
  | (.string bytes, d) => bytes.length + uptoBulk d + 1
  | (_, d) => uptoBulk d + 1
 end
def uptoSmall : (H : Type) → List (DataW H) → Bool := fun _ ds => decide (uptoBulkAll ds ≤ 1048576)
def OpenSpec.upto (s : _root_.Go.ChangeSpec) : _root_.Go.OpenSpec := { _root_.Go.OpenSpec.ofChange s with cond := some uptoSmall }

/-- 'planimeterlaw02.ProdPows', WHERE WHAT IT READS IS OF BULK AT MOST 1048576: true; the input reads as it did. -/
def prodPowsUptoRow : OpenClaim := { program := "ytpdiplfenmkdhaa", sum := "ea7f53dc8345f4e3b3c087527320a5187272b160524bfc7e1d96ad933e0c0dae", func := "planimeter/planimeterlaw02.ProdPows", spec := "prodPows", inPlace := ["math/bits.Add64"], apart := false, narrowed := true }
def ProdPowsUptoSaid : Prop := prodPowsUptoRow.holds Try.pinned (OpenSpec.upto prodPowsSpec)

/-- 'planimeterlaw02.ProdMuls', WHERE WHAT IT READS IS OF BULK AT MOST 1048576: true; the input reads as it did. -/
def prodMulsUptoRow : OpenClaim := { program := "ytpdiplfenmkdhaa", sum := "ea7f53dc8345f4e3b3c087527320a5187272b160524bfc7e1d96ad933e0c0dae", func := "planimeter/planimeterlaw02.ProdMuls", spec := "prodMuls", inPlace := ["math/bits.Add64"], apart := false, narrowed := true }
def ProdMulsUptoSaid : Prop := prodMulsUptoRow.holds Try.pinned (OpenSpec.upto prodMulsSpec)

/-- 'planimeterlaw02.ProdSquares', WHERE WHAT IT READS IS OF BULK AT MOST 1048576: true; the input reads as it did. -/
def prodSquaresUptoRow : OpenClaim := { program := "ytpdiplfenmkdhaa", sum := "ea7f53dc8345f4e3b3c087527320a5187272b160524bfc7e1d96ad933e0c0dae", func := "planimeter/planimeterlaw02.ProdSquares", spec := "prodSquares", inPlace := ["math/bits.Add64"], unfollowed := true, recurses := true, apart := false, narrowed := true }
def ProdSquaresUptoSaid : Prop := prodSquaresUptoRow.holds Try.pinned (OpenSpec.upto prodSquaresSpec)

/-- 'planimeterlaw02.ProdRules', WHERE WHAT IT READS IS OF BULK AT MOST 1048576: true; the input reads as it did. -/
def prodRulesUptoRow : OpenClaim := { program := "ytpdiplfenmkdhaa", sum := "ea7f53dc8345f4e3b3c087527320a5187272b160524bfc7e1d96ad933e0c0dae", func := "planimeter/planimeterlaw02.ProdRules", spec := "prodRules", inPlace := ["math/bits.Add64"], unfollowed := true, recurses := true, apart := false, narrowed := true }
def ProdRulesUptoSaid : Prop := prodRulesUptoRow.holds Try.pinned (OpenSpec.upto prodRulesSpec)

end Rows
end Go.Proofs.Ytpdiplfenmkdhaa
