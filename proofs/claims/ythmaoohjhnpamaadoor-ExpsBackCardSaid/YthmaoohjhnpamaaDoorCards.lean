/-
  DERIVED. GIVEN WITH THE SEED: THE CARDS: each row of YthmaoohjhnpamaaDoorRows.lean that lists a variable, with what it lists TIED to the program's text (the seventh form; the later family's looks); each row that meets fmt, with fmt's text TOLD by the authors' own Lean function (tested against real Go, not proved from fmt's source: count such statements apart). THE CARD IS WHAT COUNTS. Prove the row's statement (the work); the ties are given (YthmaoohjhnpamaaDoorTie.lean); close each card by the builder's one call (the guide's Derived/Test/ToyasCard.lean, 'card_holds'). Laid BY PROGRAM, IN A SANDBOX (cutbox-door.mjs). By AI agents, Wed Nov 11 2026. No macro, syntax, notation, axiom, sorry.
-/
import Derived.Test.YthmaoohjhnpamaaDoorRows
import GoSem.ClaimSeven
namespace Go.Proofs.YthmaoohjhnpamaaDoor
namespace Rows

/-- THE TIED CARD OF 'planimeterlaw14.ExpsBack'. -/
def expsBackCard : Claim7 := { stood := { row := expsBackRow, standIns := [], harness := (true, "199a28af5b9eabc9fd108e4d4417518f102fd37ff04bc3b97a42151edab422f3"), looks := false }, kinds := [], alts := [], laidByText := true, laidKinds := [.data], laidTests := true, laidLooks := .later }
def ExpsBackCardSaid : Prop := Claim7.holds Tryd.pinned (.plain (OpenSpec.ofChange expsBackSpec)) expsBackCard

/-- THE SECOND FORM's CARD OF 'planimeterlaw14.ExpsBack'. -/
def expsBackUptoCard : Claim7 := { stood := { row := expsBackUptoRow, standIns := [], harness := (true, "199a28af5b9eabc9fd108e4d4417518f102fd37ff04bc3b97a42151edab422f3"), looks := false }, kinds := [], alts := [], laidByText := true, laidKinds := [.data], laidTests := true, laidLooks := .later }
def ExpsBackUptoCardSaid : Prop := Claim7.holds Tryd.pinned (.plain (OpenSpec.upto expsBackSpec)) expsBackUptoCard
end Rows
end Go.Proofs.YthmaoohjhnpamaaDoor
