/-
  DERIVED. GIVEN WITH THE SEED: THE CARDS: each row of YthmaoohjhnpamaaGreatDoorRows.lean that lists a variable, with what it lists TIED to the program's text (the seventh form; the later family's looks); each row that meets fmt, with fmt's text TOLD by the authors' own Lean function (tested against real Go, not proved from fmt's source: count such statements apart). THE CARD IS WHAT COUNTS. Prove the row's statement (the work); the ties are given (YthmaoohjhnpamaaGreatDoorTie.lean); close each card by the builder's one call (the guide's Derived/Test/ToyasCard.lean, 'card_holds'). Laid BY PROGRAM, IN A SANDBOX (cutbox-door.mjs). By AI agents, Wed Nov 11 2026. No macro, syntax, notation, axiom, sorry.
-/
import Derived.Test.YthmaoohjhnpamaaGreatDoorRows
import GoSem.ClaimSeven
namespace Go.Proofs.YthmaoohjhnpamaaGreatDoor
namespace Rows

/-- THE TIED CARD OF 'planimeterlaw14.ExpsTell'. -/
def expsTellCard : Claim7 := { stood := { row := expsTellRow, standIns := [], harness := (true, "f05f5ddc6d367365bd7be86727894cf07540efc64afeb31e21cbd10cbd8b7e63"), looks := false }, kinds := [], alts := [], laidByText := true, laidKinds := [.data], laidTests := true, laidLooks := .later }
def ExpsTellCardSaid : Prop := Claim7.holds Tryz.pinned (.plain (OpenSpec.ofChange expsTellSpec)) expsTellCard

/-- THE SECOND FORM's CARD OF 'planimeterlaw14.ExpsTell'. -/
def expsTellUptoCard : Claim7 := { stood := { row := expsTellUptoRow, standIns := [], harness := (true, "f05f5ddc6d367365bd7be86727894cf07540efc64afeb31e21cbd10cbd8b7e63"), looks := false }, kinds := [], alts := [], laidByText := true, laidKinds := [.data], laidTests := true, laidLooks := .later }
def ExpsTellUptoCardSaid : Prop := Claim7.holds Tryz.pinned (.plain (OpenSpec.upto expsTellSpec)) expsTellUptoCard
end Rows
end Go.Proofs.YthmaoohjhnpamaaGreatDoor
