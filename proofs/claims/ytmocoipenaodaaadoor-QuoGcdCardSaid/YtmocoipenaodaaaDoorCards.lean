/-
  DERIVED. GIVEN WITH THE SEED: THE CARDS: each row of YtmocoipenaodaaaDoorRows.lean that lists a variable, with what it lists TIED to the program's text (the seventh form; the later family's looks); each row that meets fmt, with fmt's text TOLD by the authors' own Lean function (tested against real Go, not proved from fmt's source: count such statements apart). THE CARD IS WHAT COUNTS. Prove the row's statement (the work); the ties are given (YtmocoipenaodaaaDoorTie.lean); close each card by the builder's one call (the guide's Derived/Test/ToyasCard.lean, 'card_holds'). Laid BY PROGRAM, IN A SANDBOX (cutbox-door.mjs). By AI agents, Wed Nov 11 2026. No macro, syntax, notation, axiom, sorry.
-/
import Derived.Test.YtmocoipenaodaaaDoorRows
import GoSem.ClaimSeven
namespace Go.Proofs.YtmocoipenaodaaaDoor
namespace Rows

/-- THE TIED CARD OF 'planimeterlaw03.QuoDivs'. -/
def quoDivsCard : Claim7 := { stood := { row := quoDivsRow, standIns := [], harness := (true, "85949427e90b41ad82f10500ffd79be0a1bc2bf2995498b2ab9159a9e9fa5ed3"), looks := false }, kinds := [], alts := [], laidByText := true, laidKinds := [.data], laidTests := true, laidLooks := .later }
def QuoDivsCardSaid : Prop := Claim7.holds Tryd.pinned (.plain (OpenSpec.ofChange quoDivsSpec)) quoDivsCard

/-- THE TIED CARD OF 'planimeterlaw03.QuoSteps'. -/
def quoStepsCard : Claim7 := { stood := { row := quoStepsRow, standIns := [], harness := (true, "85949427e90b41ad82f10500ffd79be0a1bc2bf2995498b2ab9159a9e9fa5ed3"), looks := false }, kinds := [], alts := [], laidByText := true, laidKinds := [.data], laidTests := true, laidLooks := .later }
def QuoStepsCardSaid : Prop := Claim7.holds Tryd.pinned (.plain (OpenSpec.ofChange quoStepsSpec)) quoStepsCard

/-- THE TIED CARD OF 'planimeterlaw03.QuoGcd'. -/
def quoGcdCard : Claim7 := { stood := { row := quoGcdRow, standIns := [], harness := (true, "85949427e90b41ad82f10500ffd79be0a1bc2bf2995498b2ab9159a9e9fa5ed3"), looks := false }, kinds := [], alts := [], laidByText := true, laidKinds := [.data], laidTests := true, laidLooks := .later }
def QuoGcdCardSaid : Prop := Claim7.holds Tryd.pinned (.plain (OpenSpec.ofChange quoGcdSpec)) quoGcdCard

/-- THE TIED CARD OF 'planimeterlaw03.QuoBack'. -/
def quoBackCard : Claim7 := { stood := { row := quoBackRow, standIns := [], harness := (true, "85949427e90b41ad82f10500ffd79be0a1bc2bf2995498b2ab9159a9e9fa5ed3"), looks := false }, kinds := [], alts := [], laidByText := true, laidKinds := [.data], laidTests := true, laidLooks := .later }
def QuoBackCardSaid : Prop := Claim7.holds Tryd.pinned (.plain (OpenSpec.ofChange quoBackSpec)) quoBackCard

/-- THE SECOND FORM's CARD OF 'planimeterlaw03.QuoDivs'. -/
def quoDivsUptoCard : Claim7 := { stood := { row := quoDivsUptoRow, standIns := [], harness := (true, "85949427e90b41ad82f10500ffd79be0a1bc2bf2995498b2ab9159a9e9fa5ed3"), looks := false }, kinds := [], alts := [], laidByText := true, laidKinds := [.data], laidTests := true, laidLooks := .later }
def QuoDivsUptoCardSaid : Prop := Claim7.holds Tryd.pinned (.plain (OpenSpec.upto quoDivsSpec)) quoDivsUptoCard

/-- THE SECOND FORM's CARD OF 'planimeterlaw03.QuoSteps'. -/
def quoStepsUptoCard : Claim7 := { stood := { row := quoStepsUptoRow, standIns := [], harness := (true, "85949427e90b41ad82f10500ffd79be0a1bc2bf2995498b2ab9159a9e9fa5ed3"), looks := false }, kinds := [], alts := [], laidByText := true, laidKinds := [.data], laidTests := true, laidLooks := .later }
def QuoStepsUptoCardSaid : Prop := Claim7.holds Tryd.pinned (.plain (OpenSpec.upto quoStepsSpec)) quoStepsUptoCard

/-- THE SECOND FORM's CARD OF 'planimeterlaw03.QuoGcd'. -/
def quoGcdUptoCard : Claim7 := { stood := { row := quoGcdUptoRow, standIns := [], harness := (true, "85949427e90b41ad82f10500ffd79be0a1bc2bf2995498b2ab9159a9e9fa5ed3"), looks := false }, kinds := [], alts := [], laidByText := true, laidKinds := [.data], laidTests := true, laidLooks := .later }
def QuoGcdUptoCardSaid : Prop := Claim7.holds Tryd.pinned (.plain (OpenSpec.upto quoGcdSpec)) quoGcdUptoCard

/-- THE SECOND FORM's CARD OF 'planimeterlaw03.QuoBack'. -/
def quoBackUptoCard : Claim7 := { stood := { row := quoBackUptoRow, standIns := [], harness := (true, "85949427e90b41ad82f10500ffd79be0a1bc2bf2995498b2ab9159a9e9fa5ed3"), looks := false }, kinds := [], alts := [], laidByText := true, laidKinds := [.data], laidTests := true, laidLooks := .later }
def QuoBackUptoCardSaid : Prop := Claim7.holds Tryd.pinned (.plain (OpenSpec.upto quoBackSpec)) quoBackUptoCard
end Rows
end Go.Proofs.YtmocoipenaodaaaDoor
