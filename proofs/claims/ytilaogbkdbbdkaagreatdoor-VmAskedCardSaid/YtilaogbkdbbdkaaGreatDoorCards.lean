/-
  DERIVED. GIVEN WITH THE SEED: THE CARDS: each row of YtilaogbkdbbdkaaGreatDoorRows.lean that lists a variable, with what it lists TIED to the program's text (the seventh form; the later family's looks); each row that meets fmt, with fmt's text TOLD by the authors' own Lean function (tested against real Go, not proved from fmt's source: count such statements apart). THE CARD IS WHAT COUNTS. Prove the row's statement (the work); the ties are given (YtilaogbkdbbdkaaGreatDoorTie.lean); close each card by the builder's one call (the guide's Derived/Test/ToyasCard.lean, 'card_holds'). Laid BY PROGRAM, IN A SANDBOX (cutbox-door.mjs). By AI agents, Wed Nov 11 2026. No macro, syntax, notation, axiom, sorry.
-/
import Derived.Test.YtilaogbkdbbdkaaGreatDoorRows
import GoSem.ClaimSeven
namespace Go.Proofs.YtilaogbkdbbdkaaGreatDoor
namespace Rows

/-- THE TIED CARD OF 'proctorlaw11.VmAsked'. -/
def vmAskedCard : Claim7 := { stood := { row := vmAskedRow, standIns := [], harness := (true, "06f610bf6b1a8d8881c3856e2003fd5521a8c6b6fa1f7ad87655a21827167f8d"), looks := true }, kinds := [], alts := [], laidByText := true, laidKinds := [.data, .data, .data, .data, .pinned, .pinned], laidTests := true, laidLooks := .later }
def VmAskedCardSaid : Prop := Claim7.holds Tryz.pinned (.plain (OpenSpec.ofChange vmAskedSpec)) vmAskedCard

/-- THE TIED CARD OF 'proctorlaw11.VmWords'. -/
def vmWordsCard : Claim7 := { stood := { row := vmWordsRow, standIns := [], harness := (true, "06f610bf6b1a8d8881c3856e2003fd5521a8c6b6fa1f7ad87655a21827167f8d"), looks := true }, kinds := [], alts := [], laidByText := true, laidKinds := [.data, .data, .data, .data, .pinned, .pinned], laidTests := true, laidLooks := .later }
def VmWordsCardSaid : Prop := Claim7.holds Tryz.pinned (.plain (OpenSpec.ofChange vmWordsSpec)) vmWordsCard

/-- THE SECOND FORM's CARD OF 'proctorlaw11.VmAsked'. -/
def vmAskedUptoCard : Claim7 := { stood := { row := vmAskedUptoRow, standIns := [], harness := (true, "06f610bf6b1a8d8881c3856e2003fd5521a8c6b6fa1f7ad87655a21827167f8d"), looks := true }, kinds := [], alts := [], laidByText := true, laidKinds := [.data, .data, .data, .data, .pinned, .pinned], laidTests := true, laidLooks := .later }
def VmAskedUptoCardSaid : Prop := Claim7.holds Tryz.pinned (.plain (OpenSpec.upto vmAskedSpec)) vmAskedUptoCard

/-- THE SECOND FORM's CARD OF 'proctorlaw11.VmWords'. -/
def vmWordsUptoCard : Claim7 := { stood := { row := vmWordsUptoRow, standIns := [], harness := (true, "06f610bf6b1a8d8881c3856e2003fd5521a8c6b6fa1f7ad87655a21827167f8d"), looks := true }, kinds := [], alts := [], laidByText := true, laidKinds := [.data, .data, .data, .data, .pinned, .pinned], laidTests := true, laidLooks := .later }
def VmWordsUptoCardSaid : Prop := Claim7.holds Tryz.pinned (.plain (OpenSpec.upto vmWordsSpec)) vmWordsUptoCard
end Rows
end Go.Proofs.YtilaogbkdbbdkaaGreatDoor
