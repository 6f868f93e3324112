/-
  DERIVED. GIVEN WITH THE SEED: THE CARDS: each row of YtabdmnjdmnnejaaDoorRows.lean that lists a variable, with what it lists TIED to the program's text (the seventh form; the later family's looks); each row that meets fmt, with fmt's text TOLD by the authors' own Lean function (tested against real Go, not proved from fmt's source: count such statements apart). THE CARD IS WHAT COUNTS. Prove the row's statement (the work); the ties are given (YtabdmnjdmnnejaaDoorTie.lean); close each card by the builder's one call (the guide's Derived/Test/ToyasCard.lean, 'card_holds'). Laid BY PROGRAM, IN A SANDBOX (cutbox-door.mjs). By AI agents, Wed Nov 11 2026. No macro, syntax, notation, axiom, sorry.
-/
import Derived.Test.YtabdmnjdmnnejaaDoorRows
import GoSem.ClaimSeven
namespace Go.Proofs.YtabdmnjdmnnejaaDoor
namespace Rows

/-- THE TIED CARD OF 'planimeterlaw11.ExactTells'. -/
def exactTellsCard : Claim7 := { stood := { row := exactTellsRow, standIns := [], harness := (true, "754f43043d682469b51419a495757ae09333e67347f70d77785187047009ea7b"), looks := false }, kinds := [], alts := [], laidByText := true, laidKinds := [.data], laidTests := true, laidLooks := .later }
def ExactTellsCardSaid : Prop := Claim7.holds Tryd.pinned (.plain (OpenSpec.ofChange exactTellsSpec)) exactTellsCard

/-- THE TIED CARD OF 'planimeterlaw11.ExactOnce'. -/
def exactOnceCard : Claim7 := { stood := { row := exactOnceRow, standIns := [], harness := (true, "754f43043d682469b51419a495757ae09333e67347f70d77785187047009ea7b"), looks := false }, kinds := [], alts := [], laidByText := true, laidKinds := [.data], laidTests := true, laidLooks := .later }
def ExactOnceCardSaid : Prop := Claim7.holds Tryd.pinned (.plain (OpenSpec.ofChange exactOnceSpec)) exactOnceCard

/-- THE TIED CARD OF 'planimeterlaw11.ExactTerms'. -/
def exactTermsCard : Claim7 := { stood := { row := exactTermsRow, standIns := [], harness := (true, "754f43043d682469b51419a495757ae09333e67347f70d77785187047009ea7b"), looks := false }, kinds := [], alts := [], laidByText := true, laidKinds := [.data], laidTests := true, laidLooks := .later }
def ExactTermsCardSaid : Prop := Claim7.holds Tryd.pinned (.plain (OpenSpec.ofChange exactTermsSpec)) exactTermsCard

/-- THE TIED CARD OF 'planimeterlaw11.ExactSo'. -/
def exactSoCard : Claim7 := { stood := { row := exactSoRow, standIns := [], harness := (true, "754f43043d682469b51419a495757ae09333e67347f70d77785187047009ea7b"), looks := false }, kinds := [], alts := [], laidByText := true, laidKinds := [.data], laidTests := true, laidLooks := .later }
def ExactSoCardSaid : Prop := Claim7.holds Tryd.pinned (.plain (OpenSpec.ofChange exactSoSpec)) exactSoCard

/-- THE SECOND FORM's CARD OF 'planimeterlaw11.ExactTells'. -/
def exactTellsUptoCard : Claim7 := { stood := { row := exactTellsUptoRow, standIns := [], harness := (true, "754f43043d682469b51419a495757ae09333e67347f70d77785187047009ea7b"), looks := false }, kinds := [], alts := [], laidByText := true, laidKinds := [.data], laidTests := true, laidLooks := .later }
def ExactTellsUptoCardSaid : Prop := Claim7.holds Tryd.pinned (.plain (OpenSpec.upto exactTellsSpec)) exactTellsUptoCard

/-- THE SECOND FORM's CARD OF 'planimeterlaw11.ExactOnce'. -/
def exactOnceUptoCard : Claim7 := { stood := { row := exactOnceUptoRow, standIns := [], harness := (true, "754f43043d682469b51419a495757ae09333e67347f70d77785187047009ea7b"), looks := false }, kinds := [], alts := [], laidByText := true, laidKinds := [.data], laidTests := true, laidLooks := .later }
def ExactOnceUptoCardSaid : Prop := Claim7.holds Tryd.pinned (.plain (OpenSpec.upto exactOnceSpec)) exactOnceUptoCard

/-- THE SECOND FORM's CARD OF 'planimeterlaw11.ExactTerms'. -/
def exactTermsUptoCard : Claim7 := { stood := { row := exactTermsUptoRow, standIns := [], harness := (true, "754f43043d682469b51419a495757ae09333e67347f70d77785187047009ea7b"), looks := false }, kinds := [], alts := [], laidByText := true, laidKinds := [.data], laidTests := true, laidLooks := .later }
def ExactTermsUptoCardSaid : Prop := Claim7.holds Tryd.pinned (.plain (OpenSpec.upto exactTermsSpec)) exactTermsUptoCard

/-- THE SECOND FORM's CARD OF 'planimeterlaw11.ExactSo'. -/
def exactSoUptoCard : Claim7 := { stood := { row := exactSoUptoRow, standIns := [], harness := (true, "754f43043d682469b51419a495757ae09333e67347f70d77785187047009ea7b"), looks := false }, kinds := [], alts := [], laidByText := true, laidKinds := [.data], laidTests := true, laidLooks := .later }
def ExactSoUptoCardSaid : Prop := Claim7.holds Tryd.pinned (.plain (OpenSpec.upto exactSoSpec)) exactSoUptoCard
end Rows
end Go.Proofs.YtabdmnjdmnnejaaDoor
