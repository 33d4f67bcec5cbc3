/-
  DERIVED. GIVEN WITH THE SEED: THE CARDS: each row of YteaijdgnagkllaaGreatDoorRows.lean that lists a variable, with what it lists TIED to the program's text (the seventh form; the later family's looks); each row that meets fmt, with fmt's text TOLD by the authors' own Lean function (tested against real Go, not proved from fmt's source: count such statements apart). THE CARD IS WHAT COUNTS. Prove the row's statement (the work); the ties are given (YteaijdgnagkllaaGreatDoorTie.lean); close each card by the builder's one call (the guide's Derived/Test/ToyasCard.lean, 'card_holds'). Laid BY PROGRAM, IN A SANDBOX (cutbox-door.mjs). By AI agents, Wed Nov 11 2026. No macro, syntax, notation, axiom, sorry.
-/
import Derived.Test.YteaijdgnagkllaaGreatDoorRows
import GoSem.ClaimSeven
namespace Go.Proofs.YteaijdgnagkllaaGreatDoor
namespace Rows

/-- THE TIED CARD OF 'proctorlaw13.OuterNew'. -/
def outerNewCard : Claim7 := { stood := { row := outerNewRow, standIns := [], harness := (true, "e712158c840f9932205f3b927613a1150780fc974e60d8500f8b60fc6b6ff488"), looks := true }, kinds := [], alts := [], laidByText := true, laidKinds := [.data, .data, .data, .data, .pinned, .pinned], laidTests := true, laidLooks := .later }
def OuterNewCardSaid : Prop := Claim7.holds Tryz.pinned (.plain (OpenSpec.ofChange outerNewSpec)) outerNewCard

/-- THE TIED CARD OF 'proctorlaw13.OuterDefines'. -/
def outerDefinesCard : Claim7 := { stood := { row := outerDefinesRow, standIns := [], harness := (true, "e712158c840f9932205f3b927613a1150780fc974e60d8500f8b60fc6b6ff488"), looks := true }, kinds := [], alts := [], laidByText := true, laidKinds := [.data, .data, .data, .data, .pinned, .pinned], laidTests := true, laidLooks := .later }
def OuterDefinesCardSaid : Prop := Claim7.holds Tryz.pinned (.plain (OpenSpec.ofChange outerDefinesSpec)) outerDefinesCard

/-- THE TIED CARD OF 'proctorlaw13.OuterControls'. -/
def outerControlsCard : Claim7 := { stood := { row := outerControlsRow, standIns := [], harness := (true, "e712158c840f9932205f3b927613a1150780fc974e60d8500f8b60fc6b6ff488"), looks := true }, kinds := [], alts := [], laidByText := true, laidKinds := [.data, .data, .data, .data, .pinned, .pinned], laidTests := true, laidLooks := .later }
def OuterControlsCardSaid : Prop := Claim7.holds Tryz.pinned (.plain (OpenSpec.ofChange outerControlsSpec)) outerControlsCard

/-- THE TIED CARD OF 'proctorlaw13.OuterQuotes'. -/
def outerQuotesCard : Claim7 := { stood := { row := outerQuotesRow, standIns := [], harness := (true, "e712158c840f9932205f3b927613a1150780fc974e60d8500f8b60fc6b6ff488"), looks := true }, kinds := [], alts := [], laidByText := true, laidKinds := [.data, .data, .data, .data, .pinned, .pinned], laidTests := true, laidLooks := .later }
def OuterQuotesCardSaid : Prop := Claim7.holds Tryz.pinned (.plain (OpenSpec.ofChange outerQuotesSpec)) outerQuotesCard

/-- THE SECOND FORM's CARD OF 'proctorlaw13.OuterNew'. -/
def outerNewUptoCard : Claim7 := { stood := { row := outerNewUptoRow, standIns := [], harness := (true, "e712158c840f9932205f3b927613a1150780fc974e60d8500f8b60fc6b6ff488"), looks := true }, kinds := [], alts := [], laidByText := true, laidKinds := [.data, .data, .data, .data, .pinned, .pinned], laidTests := true, laidLooks := .later }
def OuterNewUptoCardSaid : Prop := Claim7.holds Tryz.pinned (.plain (OpenSpec.upto outerNewSpec)) outerNewUptoCard

/-- THE SECOND FORM's CARD OF 'proctorlaw13.OuterDefines'. -/
def outerDefinesUptoCard : Claim7 := { stood := { row := outerDefinesUptoRow, standIns := [], harness := (true, "e712158c840f9932205f3b927613a1150780fc974e60d8500f8b60fc6b6ff488"), looks := true }, kinds := [], alts := [], laidByText := true, laidKinds := [.data, .data, .data, .data, .pinned, .pinned], laidTests := true, laidLooks := .later }
def OuterDefinesUptoCardSaid : Prop := Claim7.holds Tryz.pinned (.plain (OpenSpec.upto outerDefinesSpec)) outerDefinesUptoCard

/-- THE SECOND FORM's CARD OF 'proctorlaw13.OuterControls'. -/
def outerControlsUptoCard : Claim7 := { stood := { row := outerControlsUptoRow, standIns := [], harness := (true, "e712158c840f9932205f3b927613a1150780fc974e60d8500f8b60fc6b6ff488"), looks := true }, kinds := [], alts := [], laidByText := true, laidKinds := [.data, .data, .data, .data, .pinned, .pinned], laidTests := true, laidLooks := .later }
def OuterControlsUptoCardSaid : Prop := Claim7.holds Tryz.pinned (.plain (OpenSpec.upto outerControlsSpec)) outerControlsUptoCard

/-- THE SECOND FORM's CARD OF 'proctorlaw13.OuterQuotes'. -/
def outerQuotesUptoCard : Claim7 := { stood := { row := outerQuotesUptoRow, standIns := [], harness := (true, "e712158c840f9932205f3b927613a1150780fc974e60d8500f8b60fc6b6ff488"), looks := true }, kinds := [], alts := [], laidByText := true, laidKinds := [.data, .data, .data, .data, .pinned, .pinned], laidTests := true, laidLooks := .later }
def OuterQuotesUptoCardSaid : Prop := Claim7.holds Tryz.pinned (.plain (OpenSpec.upto outerQuotesSpec)) outerQuotesUptoCard
end Rows
end Go.Proofs.YteaijdgnagkllaaGreatDoor
