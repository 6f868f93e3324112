/-
  DERIVED. GIVEN WITH THE SEED: THE CARDS: each row of YtegpfmfobeigfaaDoorRows.lean that lists a variable, with what it lists TIED to the program's text (the seventh form; the later family's looks); each row that meets fmt, with fmt's text TOLD by the authors' own Lean function (tested against real Go, not proved from fmt's source: count such statements apart). THE CARD IS WHAT COUNTS. Prove the row's statement (the work); the ties are given (YtegpfmfobeigfaaDoorTie.lean); close each card by the builder's one call (the guide's Derived/Test/ToyasCard.lean, 'card_holds'). Laid BY PROGRAM, IN A SANDBOX (cutbox-door.mjs). By AI agents, Wed Nov 11 2026. No macro, syntax, notation, axiom, sorry.
-/
import Derived.Test.YtegpfmfobeigfaaDoorRows
import GoSem.ClaimSeven
namespace Go.Proofs.YtegpfmfobeigfaaDoor
namespace Rows

/-- THE TIED CARD OF 'planimeterlaw10.RatioPows'. -/
def ratioPowsCard : Claim7 := { stood := { row := ratioPowsRow, standIns := [], harness := (true, "121c55b6b3699f035516b2b01986c0a57439d100b7fb4a0464a0917b55595b89"), looks := false }, kinds := [], alts := [], laidByText := true, laidKinds := [.data], laidTests := true, laidLooks := .later }
def RatioPowsCardSaid : Prop := Claim7.holds Tryd.pinned (.plain (OpenSpec.ofChange ratioPowsSpec)) ratioPowsCard

/-- THE TIED CARD OF 'planimeterlaw10.RatioCmps'. -/
def ratioCmpsCard : Claim7 := { stood := { row := ratioCmpsRow, standIns := [], harness := (true, "121c55b6b3699f035516b2b01986c0a57439d100b7fb4a0464a0917b55595b89"), looks := false }, kinds := [], alts := [], laidByText := true, laidKinds := [.data], laidTests := true, laidLooks := .later }
def RatioCmpsCardSaid : Prop := Claim7.holds Tryd.pinned (.plain (OpenSpec.ofChange ratioCmpsSpec)) ratioCmpsCard

/-- THE TIED CARD OF 'planimeterlaw10.RatioTurned'. -/
def ratioTurnedCard : Claim7 := { stood := { row := ratioTurnedRow, standIns := [], harness := (true, "121c55b6b3699f035516b2b01986c0a57439d100b7fb4a0464a0917b55595b89"), looks := false }, kinds := [], alts := [], laidByText := true, laidKinds := [.data], laidTests := true, laidLooks := .later }
def RatioTurnedCardSaid : Prop := Claim7.holds Tryd.pinned (.plain (OpenSpec.ofChange ratioTurnedSpec)) ratioTurnedCard

/-- THE TIED CARD OF 'planimeterlaw10.RatioRules'. -/
def ratioRulesCard : Claim7 := { stood := { row := ratioRulesRow, standIns := [], harness := (true, "121c55b6b3699f035516b2b01986c0a57439d100b7fb4a0464a0917b55595b89"), looks := false }, kinds := [], alts := [], laidByText := true, laidKinds := [.data], laidTests := true, laidLooks := .later }
def RatioRulesCardSaid : Prop := Claim7.holds Tryd.pinned (.plain (OpenSpec.ofChange ratioRulesSpec)) ratioRulesCard

/-- THE SECOND FORM's CARD OF 'planimeterlaw10.RatioPows'. -/
def ratioPowsUptoCard : Claim7 := { stood := { row := ratioPowsUptoRow, standIns := [], harness := (true, "121c55b6b3699f035516b2b01986c0a57439d100b7fb4a0464a0917b55595b89"), looks := false }, kinds := [], alts := [], laidByText := true, laidKinds := [.data], laidTests := true, laidLooks := .later }
def RatioPowsUptoCardSaid : Prop := Claim7.holds Tryd.pinned (.plain (OpenSpec.upto ratioPowsSpec)) ratioPowsUptoCard

/-- THE SECOND FORM's CARD OF 'planimeterlaw10.RatioCmps'. -/
def ratioCmpsUptoCard : Claim7 := { stood := { row := ratioCmpsUptoRow, standIns := [], harness := (true, "121c55b6b3699f035516b2b01986c0a57439d100b7fb4a0464a0917b55595b89"), looks := false }, kinds := [], alts := [], laidByText := true, laidKinds := [.data], laidTests := true, laidLooks := .later }
def RatioCmpsUptoCardSaid : Prop := Claim7.holds Tryd.pinned (.plain (OpenSpec.upto ratioCmpsSpec)) ratioCmpsUptoCard

/-- THE SECOND FORM's CARD OF 'planimeterlaw10.RatioTurned'. -/
def ratioTurnedUptoCard : Claim7 := { stood := { row := ratioTurnedUptoRow, standIns := [], harness := (true, "121c55b6b3699f035516b2b01986c0a57439d100b7fb4a0464a0917b55595b89"), looks := false }, kinds := [], alts := [], laidByText := true, laidKinds := [.data], laidTests := true, laidLooks := .later }
def RatioTurnedUptoCardSaid : Prop := Claim7.holds Tryd.pinned (.plain (OpenSpec.upto ratioTurnedSpec)) ratioTurnedUptoCard

/-- THE SECOND FORM's CARD OF 'planimeterlaw10.RatioRules'. -/
def ratioRulesUptoCard : Claim7 := { stood := { row := ratioRulesUptoRow, standIns := [], harness := (true, "121c55b6b3699f035516b2b01986c0a57439d100b7fb4a0464a0917b55595b89"), looks := false }, kinds := [], alts := [], laidByText := true, laidKinds := [.data], laidTests := true, laidLooks := .later }
def RatioRulesUptoCardSaid : Prop := Claim7.holds Tryd.pinned (.plain (OpenSpec.upto ratioRulesSpec)) ratioRulesUptoCard
end Rows
end Go.Proofs.YtegpfmfobeigfaaDoor
