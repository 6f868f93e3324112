/-
  DERIVED. GIVEN WITH THE SEED: THE CARDS: each row of YtecgimdgmilcbaaDoorRows.lean that lists a variable, with what it lists TIED to the program's text (the seventh form; the later family's looks); each row that meets fmt, with fmt's text TOLD by the authors' own Lean function (tested against real Go, not proved from fmt's source: count such statements apart). THE CARD IS WHAT COUNTS. Prove the row's statement (the work); the ties are given (YtecgimdgmilcbaaDoorTie.lean); close each card by the builder's one call (the guide's Derived/Test/ToyasCard.lean, 'card_holds'). Laid BY PROGRAM, IN A SANDBOX (cutbox-door.mjs). By AI agents, Wed Nov 11 2026. No macro, syntax, notation, axiom, sorry.
-/
import Derived.Test.YtecgimdgmilcbaaDoorRows
import GoSem.ClaimSeven
namespace Go.Proofs.YtecgimdgmilcbaaDoor
namespace Rows

/-- THE TIED CARD OF 'planimeterlaw12.SeriesAtanh'. -/
def seriesAtanhCard : Claim7 := { stood := { row := seriesAtanhRow, standIns := [], harness := (true, "e97bbaaee81822b42932941eda0fdfdb2024e95b8b84bb7cfa7de7e1f01d5deb"), looks := false }, kinds := [], alts := [], laidByText := true, laidKinds := [.data], laidTests := true, laidLooks := .later }
def SeriesAtanhCardSaid : Prop := Claim7.holds Tryd.pinned (.plain (OpenSpec.ofChange seriesAtanhSpec)) seriesAtanhCard

/-- THE TIED CARD OF 'planimeterlaw12.SeriesAdds'. -/
def seriesAddsCard : Claim7 := { stood := { row := seriesAddsRow, standIns := [], harness := (true, "e97bbaaee81822b42932941eda0fdfdb2024e95b8b84bb7cfa7de7e1f01d5deb"), looks := false }, kinds := [], alts := [], laidByText := true, laidKinds := [.data], laidTests := true, laidLooks := .later }
def SeriesAddsCardSaid : Prop := Claim7.holds Tryd.pinned (.plain (OpenSpec.ofChange seriesAddsSpec)) seriesAddsCard

/-- THE TIED CARD OF 'planimeterlaw12.SeriesExp'. -/
def seriesExpCard : Claim7 := { stood := { row := seriesExpRow, standIns := [], harness := (true, "e97bbaaee81822b42932941eda0fdfdb2024e95b8b84bb7cfa7de7e1f01d5deb"), looks := false }, kinds := [], alts := [], laidByText := true, laidKinds := [.data], laidTests := true, laidLooks := .later }
def SeriesExpCardSaid : Prop := Claim7.holds Tryd.pinned (.plain (OpenSpec.ofChange seriesExpSpec)) seriesExpCard

/-- THE TIED CARD OF 'planimeterlaw12.SeriesScales'. -/
def seriesScalesCard : Claim7 := { stood := { row := seriesScalesRow, standIns := [], harness := (true, "e97bbaaee81822b42932941eda0fdfdb2024e95b8b84bb7cfa7de7e1f01d5deb"), looks := false }, kinds := [], alts := [], laidByText := true, laidKinds := [.data], laidTests := true, laidLooks := .later }
def SeriesScalesCardSaid : Prop := Claim7.holds Tryd.pinned (.plain (OpenSpec.ofChange seriesScalesSpec)) seriesScalesCard

/-- THE SECOND FORM's CARD OF 'planimeterlaw12.SeriesAtanh'. -/
def seriesAtanhUptoCard : Claim7 := { stood := { row := seriesAtanhUptoRow, standIns := [], harness := (true, "e97bbaaee81822b42932941eda0fdfdb2024e95b8b84bb7cfa7de7e1f01d5deb"), looks := false }, kinds := [], alts := [], laidByText := true, laidKinds := [.data], laidTests := true, laidLooks := .later }
def SeriesAtanhUptoCardSaid : Prop := Claim7.holds Tryd.pinned (.plain (OpenSpec.upto seriesAtanhSpec)) seriesAtanhUptoCard

/-- THE SECOND FORM's CARD OF 'planimeterlaw12.SeriesAdds'. -/
def seriesAddsUptoCard : Claim7 := { stood := { row := seriesAddsUptoRow, standIns := [], harness := (true, "e97bbaaee81822b42932941eda0fdfdb2024e95b8b84bb7cfa7de7e1f01d5deb"), looks := false }, kinds := [], alts := [], laidByText := true, laidKinds := [.data], laidTests := true, laidLooks := .later }
def SeriesAddsUptoCardSaid : Prop := Claim7.holds Tryd.pinned (.plain (OpenSpec.upto seriesAddsSpec)) seriesAddsUptoCard

/-- THE SECOND FORM's CARD OF 'planimeterlaw12.SeriesExp'. -/
def seriesExpUptoCard : Claim7 := { stood := { row := seriesExpUptoRow, standIns := [], harness := (true, "e97bbaaee81822b42932941eda0fdfdb2024e95b8b84bb7cfa7de7e1f01d5deb"), looks := false }, kinds := [], alts := [], laidByText := true, laidKinds := [.data], laidTests := true, laidLooks := .later }
def SeriesExpUptoCardSaid : Prop := Claim7.holds Tryd.pinned (.plain (OpenSpec.upto seriesExpSpec)) seriesExpUptoCard

/-- THE SECOND FORM's CARD OF 'planimeterlaw12.SeriesScales'. -/
def seriesScalesUptoCard : Claim7 := { stood := { row := seriesScalesUptoRow, standIns := [], harness := (true, "e97bbaaee81822b42932941eda0fdfdb2024e95b8b84bb7cfa7de7e1f01d5deb"), looks := false }, kinds := [], alts := [], laidByText := true, laidKinds := [.data], laidTests := true, laidLooks := .later }
def SeriesScalesUptoCardSaid : Prop := Claim7.holds Tryd.pinned (.plain (OpenSpec.upto seriesScalesSpec)) seriesScalesUptoCard
end Rows
end Go.Proofs.YtecgimdgmilcbaaDoor
