/-
  DERIVED. GIVEN WITH THE SEED: THE CARDS: each row of YtnoelffaccekjaaDoorRows.lean that lists a variable, with what it lists TIED to the program's text (the seventh form; the later family's looks); each row that meets fmt, with fmt's text TOLD by the authors' own Lean function (tested against real Go, not proved from fmt's source: count such statements apart). THE CARD IS WHAT COUNTS. Prove the row's statement (the work); the ties are given (YtnoelffaccekjaaDoorTie.lean); close each card by the builder's one call (the guide's Derived/Test/ToyasCard.lean, 'card_holds'). Laid BY PROGRAM, IN A SANDBOX (cutbox-door.mjs). By AI agents, Wed Nov 11 2026. No macro, syntax, notation, axiom, sorry.
-/
import Derived.Test.YtnoelffaccekjaaDoorRows
import GoSem.ClaimSeven
namespace Go.Proofs.YtnoelffaccekjaaDoor
namespace Rows

/-- THE TIED CARD OF 'planimeterlaw04.RootFinds'. -/
def rootFindsCard : Claim7 := { stood := { row := rootFindsRow, standIns := [], harness := (true, "e6f2a4cd8cb83ffd5fe78659ca117180de8a11d021f406a7f0650df01c99c6a8"), looks := false }, kinds := [], alts := [], laidByText := true, laidKinds := [.data], laidTests := true, laidLooks := .later }
def RootFindsCardSaid : Prop := Claim7.holds Tryd.pinned (.plain (OpenSpec.ofChange rootFindsSpec)) rootFindsCard

/-- THE TIED CARD OF 'planimeterlaw04.RootPowers'. -/
def rootPowersCard : Claim7 := { stood := { row := rootPowersRow, standIns := [], harness := (true, "e6f2a4cd8cb83ffd5fe78659ca117180de8a11d021f406a7f0650df01c99c6a8"), looks := false }, kinds := [], alts := [], laidByText := true, laidKinds := [.data], laidTests := true, laidLooks := .later }
def RootPowersCardSaid : Prop := Claim7.holds Tryd.pinned (.plain (OpenSpec.ofChange rootPowersSpec)) rootPowersCard

/-- THE TIED CARD OF 'planimeterlaw04.RootNest'. -/
def rootNestCard : Claim7 := { stood := { row := rootNestRow, standIns := [], harness := (true, "e6f2a4cd8cb83ffd5fe78659ca117180de8a11d021f406a7f0650df01c99c6a8"), looks := false }, kinds := [], alts := [], laidByText := true, laidKinds := [.data], laidTests := true, laidLooks := .later }
def RootNestCardSaid : Prop := Claim7.holds Tryd.pinned (.plain (OpenSpec.ofChange rootNestSpec)) rootNestCard

/-- THE TIED CARD OF 'planimeterlaw04.RootHalves'. -/
def rootHalvesCard : Claim7 := { stood := { row := rootHalvesRow, standIns := [], harness := (true, "e6f2a4cd8cb83ffd5fe78659ca117180de8a11d021f406a7f0650df01c99c6a8"), looks := false }, kinds := [], alts := [], laidByText := true, laidKinds := [.data], laidTests := true, laidLooks := .later }
def RootHalvesCardSaid : Prop := Claim7.holds Tryd.pinned (.plain (OpenSpec.ofChange rootHalvesSpec)) rootHalvesCard

/-- THE SECOND FORM's CARD OF 'planimeterlaw04.RootFinds'. -/
def rootFindsUptoCard : Claim7 := { stood := { row := rootFindsUptoRow, standIns := [], harness := (true, "e6f2a4cd8cb83ffd5fe78659ca117180de8a11d021f406a7f0650df01c99c6a8"), looks := false }, kinds := [], alts := [], laidByText := true, laidKinds := [.data], laidTests := true, laidLooks := .later }
def RootFindsUptoCardSaid : Prop := Claim7.holds Tryd.pinned (.plain (OpenSpec.upto rootFindsSpec)) rootFindsUptoCard

/-- THE SECOND FORM's CARD OF 'planimeterlaw04.RootPowers'. -/
def rootPowersUptoCard : Claim7 := { stood := { row := rootPowersUptoRow, standIns := [], harness := (true, "e6f2a4cd8cb83ffd5fe78659ca117180de8a11d021f406a7f0650df01c99c6a8"), looks := false }, kinds := [], alts := [], laidByText := true, laidKinds := [.data], laidTests := true, laidLooks := .later }
def RootPowersUptoCardSaid : Prop := Claim7.holds Tryd.pinned (.plain (OpenSpec.upto rootPowersSpec)) rootPowersUptoCard

/-- THE SECOND FORM's CARD OF 'planimeterlaw04.RootNest'. -/
def rootNestUptoCard : Claim7 := { stood := { row := rootNestUptoRow, standIns := [], harness := (true, "e6f2a4cd8cb83ffd5fe78659ca117180de8a11d021f406a7f0650df01c99c6a8"), looks := false }, kinds := [], alts := [], laidByText := true, laidKinds := [.data], laidTests := true, laidLooks := .later }
def RootNestUptoCardSaid : Prop := Claim7.holds Tryd.pinned (.plain (OpenSpec.upto rootNestSpec)) rootNestUptoCard

/-- THE SECOND FORM's CARD OF 'planimeterlaw04.RootHalves'. -/
def rootHalvesUptoCard : Claim7 := { stood := { row := rootHalvesUptoRow, standIns := [], harness := (true, "e6f2a4cd8cb83ffd5fe78659ca117180de8a11d021f406a7f0650df01c99c6a8"), looks := false }, kinds := [], alts := [], laidByText := true, laidKinds := [.data], laidTests := true, laidLooks := .later }
def RootHalvesUptoCardSaid : Prop := Claim7.holds Tryd.pinned (.plain (OpenSpec.upto rootHalvesSpec)) rootHalvesUptoCard
end Rows
end Go.Proofs.YtnoelffaccekjaaDoor
