/-
  DERIVED. GIVEN WITH THE SEED: THE CARDS: each row of YtffaefjkpipjnaaGreatDoorRows.lean that lists a variable, with what it lists TIED to the program's text (the seventh form; the later family's looks); each row that meets fmt, with fmt's text TOLD by the authors' own Lean function (tested against real Go, not proved from fmt's source: count such statements apart). THE CARD IS WHAT COUNTS. Prove the row's statement (the work); the ties are given (YtffaefjkpipjnaaGreatDoorTie.lean); close each card by the builder's one call (the guide's Derived/Test/ToyasCard.lean, 'card_holds'). Laid BY PROGRAM, IN A SANDBOX (cutbox-door.mjs). By AI agents, Wed Nov 11 2026. No macro, syntax, notation, axiom, sorry.
-/
import Derived.Test.YtffaefjkpipjnaaGreatDoorRows
import GoSem.ClaimSeven
namespace Go.Proofs.YtffaefjkpipjnaaGreatDoor
namespace Rows

/-- THE TIED CARD OF 'planimeterlaw31.ExplnBack'. -/
def explnBackCard : Claim7 := { stood := { row := explnBackRow, standIns := [], harness := (true, "764e49aff3d67402e58be15dcd2e61bbe9487a37ade96c51e503f0e554c5cccc"), looks := false }, kinds := [], alts := [], laidByText := true, laidKinds := [.data], laidTests := true, laidLooks := .later }
def ExplnBackCardSaid : Prop := Claim7.holds Tryz.pinned (.plain (OpenSpec.ofChange explnBackSpec)) explnBackCard

/-- THE TIED CARD OF 'planimeterlaw31.ExplnSpecial'. -/
def explnSpecialCard : Claim7 := { stood := { row := explnSpecialRow, standIns := [], harness := (true, "764e49aff3d67402e58be15dcd2e61bbe9487a37ade96c51e503f0e554c5cccc"), looks := false }, kinds := [], alts := [], laidByText := true, laidKinds := [.data], laidTests := true, laidLooks := .later }
def ExplnSpecialCardSaid : Prop := Claim7.holds Tryz.pinned (.plain (OpenSpec.ofChange explnSpecialSpec)) explnSpecialCard

/-- THE TIED CARD OF 'planimeterlaw31.ExplnRules'. -/
def explnRulesCard : Claim7 := { stood := { row := explnRulesRow, standIns := [], harness := (true, "764e49aff3d67402e58be15dcd2e61bbe9487a37ade96c51e503f0e554c5cccc"), looks := false }, kinds := [], alts := [], laidByText := true, laidKinds := [.data], laidTests := true, laidLooks := .later }
def ExplnRulesCardSaid : Prop := Claim7.holds Tryz.pinned (.plain (OpenSpec.ofChange explnRulesSpec)) explnRulesCard

/-- THE SECOND FORM's CARD OF 'planimeterlaw31.ExplnBack'. -/
def explnBackUptoCard : Claim7 := { stood := { row := explnBackUptoRow, standIns := [], harness := (true, "764e49aff3d67402e58be15dcd2e61bbe9487a37ade96c51e503f0e554c5cccc"), looks := false }, kinds := [], alts := [], laidByText := true, laidKinds := [.data], laidTests := true, laidLooks := .later }
def ExplnBackUptoCardSaid : Prop := Claim7.holds Tryz.pinned (.plain (OpenSpec.upto explnBackSpec)) explnBackUptoCard

/-- THE SECOND FORM's CARD OF 'planimeterlaw31.ExplnSpecial'. -/
def explnSpecialUptoCard : Claim7 := { stood := { row := explnSpecialUptoRow, standIns := [], harness := (true, "764e49aff3d67402e58be15dcd2e61bbe9487a37ade96c51e503f0e554c5cccc"), looks := false }, kinds := [], alts := [], laidByText := true, laidKinds := [.data], laidTests := true, laidLooks := .later }
def ExplnSpecialUptoCardSaid : Prop := Claim7.holds Tryz.pinned (.plain (OpenSpec.upto explnSpecialSpec)) explnSpecialUptoCard

/-- THE SECOND FORM's CARD OF 'planimeterlaw31.ExplnRules'. -/
def explnRulesUptoCard : Claim7 := { stood := { row := explnRulesUptoRow, standIns := [], harness := (true, "764e49aff3d67402e58be15dcd2e61bbe9487a37ade96c51e503f0e554c5cccc"), looks := false }, kinds := [], alts := [], laidByText := true, laidKinds := [.data], laidTests := true, laidLooks := .later }
def ExplnRulesUptoCardSaid : Prop := Claim7.holds Tryz.pinned (.plain (OpenSpec.upto explnRulesSpec)) explnRulesUptoCard
end Rows
end Go.Proofs.YtffaefjkpipjnaaGreatDoor
