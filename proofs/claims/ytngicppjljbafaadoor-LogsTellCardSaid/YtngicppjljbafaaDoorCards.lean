/-
  DERIVED. GIVEN WITH THE SEED: THE CARDS: each row of YtngicppjljbafaaDoorRows.lean that lists a variable, with what it lists TIED to the program's text (the seventh form; the later family's looks); each row that meets fmt, with fmt's text TOLD by the authors' own Lean function (tested against real Go, not proved from fmt's source: count such statements apart). THE CARD IS WHAT COUNTS. Prove the row's statement (the work); the ties are given (YtngicppjljbafaaDoorTie.lean); close each card by the builder's one call (the guide's Derived/Test/ToyasCard.lean, 'card_holds'). Laid BY PROGRAM, IN A SANDBOX (cutbox-door.mjs). By AI agents, Wed Nov 11 2026. No macro, syntax, notation, axiom, sorry.
-/
import Derived.Test.YtngicppjljbafaaDoorRows
import GoSem.ClaimSeven
namespace Go.Proofs.YtngicppjljbafaaDoor
namespace Rows

/-- THE TIED CARD OF 'planimeterlaw13.LogsNear'. -/
def logsNearCard : Claim7 := { stood := { row := logsNearRow, standIns := [], harness := (true, "78970338bf90f4eb8a0338bc20ad6aef3888c314aecb28edbfd4b8c7f2c3f8b8"), looks := false }, kinds := [], alts := [], laidByText := true, laidKinds := [.data], laidTests := true, laidLooks := .later }
def LogsNearCardSaid : Prop := Claim7.holds Tryd.pinned (.plain (OpenSpec.ofChange logsNearSpec)) logsNearCard

/-- THE TIED CARD OF 'planimeterlaw13.LogsTell'. -/
def logsTellCard : Claim7 := { stood := { row := logsTellRow, standIns := [], harness := (true, "78970338bf90f4eb8a0338bc20ad6aef3888c314aecb28edbfd4b8c7f2c3f8b8"), looks := false }, kinds := [], alts := [], laidByText := true, laidKinds := [.data], laidTests := true, laidLooks := .later }
def LogsTellCardSaid : Prop := Claim7.holds Tryd.pinned (.plain (OpenSpec.ofChange logsTellSpec)) logsTellCard

/-- THE TIED CARD OF 'planimeterlaw13.LogsRules'. -/
def logsRulesCard : Claim7 := { stood := { row := logsRulesRow, standIns := [], harness := (true, "78970338bf90f4eb8a0338bc20ad6aef3888c314aecb28edbfd4b8c7f2c3f8b8"), looks := false }, kinds := [], alts := [], laidByText := true, laidKinds := [.data], laidTests := true, laidLooks := .later }
def LogsRulesCardSaid : Prop := Claim7.holds Tryd.pinned (.plain (OpenSpec.ofChange logsRulesSpec)) logsRulesCard

/-- THE TIED CARD OF 'planimeterlaw13.LogsPowers'. -/
def logsPowersCard : Claim7 := { stood := { row := logsPowersRow, standIns := [], harness := (true, "78970338bf90f4eb8a0338bc20ad6aef3888c314aecb28edbfd4b8c7f2c3f8b8"), looks := false }, kinds := [], alts := [], laidByText := true, laidKinds := [.data], laidTests := true, laidLooks := .later }
def LogsPowersCardSaid : Prop := Claim7.holds Tryd.pinned (.plain (OpenSpec.ofChange logsPowersSpec)) logsPowersCard

/-- THE SECOND FORM's CARD OF 'planimeterlaw13.LogsNear'. -/
def logsNearUptoCard : Claim7 := { stood := { row := logsNearUptoRow, standIns := [], harness := (true, "78970338bf90f4eb8a0338bc20ad6aef3888c314aecb28edbfd4b8c7f2c3f8b8"), looks := false }, kinds := [], alts := [], laidByText := true, laidKinds := [.data], laidTests := true, laidLooks := .later }
def LogsNearUptoCardSaid : Prop := Claim7.holds Tryd.pinned (.plain (OpenSpec.upto logsNearSpec)) logsNearUptoCard

/-- THE SECOND FORM's CARD OF 'planimeterlaw13.LogsTell'. -/
def logsTellUptoCard : Claim7 := { stood := { row := logsTellUptoRow, standIns := [], harness := (true, "78970338bf90f4eb8a0338bc20ad6aef3888c314aecb28edbfd4b8c7f2c3f8b8"), looks := false }, kinds := [], alts := [], laidByText := true, laidKinds := [.data], laidTests := true, laidLooks := .later }
def LogsTellUptoCardSaid : Prop := Claim7.holds Tryd.pinned (.plain (OpenSpec.upto logsTellSpec)) logsTellUptoCard

/-- THE SECOND FORM's CARD OF 'planimeterlaw13.LogsRules'. -/
def logsRulesUptoCard : Claim7 := { stood := { row := logsRulesUptoRow, standIns := [], harness := (true, "78970338bf90f4eb8a0338bc20ad6aef3888c314aecb28edbfd4b8c7f2c3f8b8"), looks := false }, kinds := [], alts := [], laidByText := true, laidKinds := [.data], laidTests := true, laidLooks := .later }
def LogsRulesUptoCardSaid : Prop := Claim7.holds Tryd.pinned (.plain (OpenSpec.upto logsRulesSpec)) logsRulesUptoCard

/-- THE SECOND FORM's CARD OF 'planimeterlaw13.LogsPowers'. -/
def logsPowersUptoCard : Claim7 := { stood := { row := logsPowersUptoRow, standIns := [], harness := (true, "78970338bf90f4eb8a0338bc20ad6aef3888c314aecb28edbfd4b8c7f2c3f8b8"), looks := false }, kinds := [], alts := [], laidByText := true, laidKinds := [.data], laidTests := true, laidLooks := .later }
def LogsPowersUptoCardSaid : Prop := Claim7.holds Tryd.pinned (.plain (OpenSpec.upto logsPowersSpec)) logsPowersUptoCard
end Rows
end Go.Proofs.YtngicppjljbafaaDoor
