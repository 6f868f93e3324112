/-
  DERIVED. GIVEN WITH THE SEED: THE CARDS: each row of YtflkemcoomgoiaaDoorRows.lean that lists a variable, with what it lists TIED to the program's text (the seventh form; the later family's looks); each row that meets fmt, with fmt's text TOLD by the authors' own Lean function (tested against real Go, not proved from fmt's source: count such statements apart). THE CARD IS WHAT COUNTS. Prove the row's statement (the work); the ties are given (YtflkemcoomgoiaaDoorTie.lean); close each card by the builder's one call (the guide's Derived/Test/ToyasCard.lean, 'card_holds'). Laid BY PROGRAM, IN A SANDBOX (cutbox-door.mjs). By AI agents, Wed Nov 11 2026. No macro, syntax, notation, axiom, sorry.
-/
import Derived.Test.YtflkemcoomgoiaaDoorRows
import GoSem.ClaimSeven
namespace Go.Proofs.YtflkemcoomgoiaaDoor
namespace Rows

/-- THE TIED CARD OF 'planimeterlaw21.BoundOf'. -/
def boundOfCard : Claim7 := { stood := { row := boundOfRow, standIns := [], harness := (true, "10918332b32a986489ce35a94191b26aa29ac6d7fa8ae2c47b2589176260848c"), looks := false }, kinds := [], alts := [], laidByText := true, laidKinds := [.data], laidTests := true, laidLooks := .later }
def BoundOfCardSaid : Prop := Claim7.holds Tryd.pinned (.plain (OpenSpec.ofChange boundOfSpec)) boundOfCard

/-- THE TIED CARD OF 'planimeterlaw21.BoundTells'. -/
def boundTellsCard : Claim7 := { stood := { row := boundTellsRow, standIns := [], harness := (true, "10918332b32a986489ce35a94191b26aa29ac6d7fa8ae2c47b2589176260848c"), looks := false }, kinds := [], alts := [], laidByText := true, laidKinds := [.data], laidTests := true, laidLooks := .later }
def BoundTellsCardSaid : Prop := Claim7.holds Tryd.pinned (.plain (OpenSpec.ofChange boundTellsSpec)) boundTellsCard

/-- THE TIED CARD OF 'planimeterlaw21.BoundSo'. -/
def boundSoCard : Claim7 := { stood := { row := boundSoRow, standIns := [], harness := (true, "10918332b32a986489ce35a94191b26aa29ac6d7fa8ae2c47b2589176260848c"), looks := false }, kinds := [], alts := [], laidByText := true, laidKinds := [.data], laidTests := true, laidLooks := .later }
def BoundSoCardSaid : Prop := Claim7.holds Tryd.pinned (.plain (OpenSpec.ofChange boundSoSpec)) boundSoCard

/-- THE SECOND FORM's CARD OF 'planimeterlaw21.BoundOf'. -/
def boundOfUptoCard : Claim7 := { stood := { row := boundOfUptoRow, standIns := [], harness := (true, "10918332b32a986489ce35a94191b26aa29ac6d7fa8ae2c47b2589176260848c"), looks := false }, kinds := [], alts := [], laidByText := true, laidKinds := [.data], laidTests := true, laidLooks := .later }
def BoundOfUptoCardSaid : Prop := Claim7.holds Tryd.pinned (.plain (OpenSpec.upto boundOfSpec)) boundOfUptoCard

/-- THE SECOND FORM's CARD OF 'planimeterlaw21.BoundTells'. -/
def boundTellsUptoCard : Claim7 := { stood := { row := boundTellsUptoRow, standIns := [], harness := (true, "10918332b32a986489ce35a94191b26aa29ac6d7fa8ae2c47b2589176260848c"), looks := false }, kinds := [], alts := [], laidByText := true, laidKinds := [.data], laidTests := true, laidLooks := .later }
def BoundTellsUptoCardSaid : Prop := Claim7.holds Tryd.pinned (.plain (OpenSpec.upto boundTellsSpec)) boundTellsUptoCard

/-- THE SECOND FORM's CARD OF 'planimeterlaw21.BoundSo'. -/
def boundSoUptoCard : Claim7 := { stood := { row := boundSoUptoRow, standIns := [], harness := (true, "10918332b32a986489ce35a94191b26aa29ac6d7fa8ae2c47b2589176260848c"), looks := false }, kinds := [], alts := [], laidByText := true, laidKinds := [.data], laidTests := true, laidLooks := .later }
def BoundSoUptoCardSaid : Prop := Claim7.holds Tryd.pinned (.plain (OpenSpec.upto boundSoSpec)) boundSoUptoCard
end Rows
end Go.Proofs.YtflkemcoomgoiaaDoor
