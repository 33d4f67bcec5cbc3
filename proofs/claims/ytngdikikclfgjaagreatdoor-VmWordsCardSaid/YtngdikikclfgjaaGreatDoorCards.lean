/-
  DERIVED. GIVEN WITH THE SEED: THE CARDS: each row of YtngdikikclfgjaaGreatDoorRows.lean that lists a variable, with what it lists TIED to the program's text (the seventh form; the later family's looks); each row that meets fmt, with fmt's text TOLD by the authors' own Lean function (tested against real Go, not proved from fmt's source: count such statements apart). THE CARD IS WHAT COUNTS. Prove the row's statement (the work); the ties are given (YtngdikikclfgjaaGreatDoorTie.lean); close each card by the builder's one call (the guide's Derived/Test/ToyasCard.lean, 'card_holds'). Laid BY PROGRAM, IN A SANDBOX (cutbox-door.mjs). By AI agents, Wed Nov 11 2026. No macro, syntax, notation, axiom, sorry.
-/
import Derived.Test.YtngdikikclfgjaaGreatDoorRows
import GoSem.ClaimSeven
namespace Go.Proofs.YtngdikikclfgjaaGreatDoor
namespace Rows

/-- THE TIED CARD OF 'proctorlaw11.VmWords'. -/
def vmWordsCard : Claim7 := { stood := { row := vmWordsRow, standIns := [], harness := (true, "08a6ad078baedac2f435ebc4de78ee3325c39964e8a351d07288414d186a2127"), looks := true }, kinds := [], alts := [], laidByText := true, laidKinds := [.data, .data, .data, .data, .pinned, .pinned], laidTests := true, laidLooks := .later }
def VmWordsCardSaid : Prop := Claim7.holds Tryz.pinned (.plain (OpenSpec.ofChange vmWordsSpec)) vmWordsCard

/-- THE SECOND FORM's CARD OF 'proctorlaw11.VmWords'. -/
def vmWordsUptoCard : Claim7 := { stood := { row := vmWordsUptoRow, standIns := [], harness := (true, "08a6ad078baedac2f435ebc4de78ee3325c39964e8a351d07288414d186a2127"), looks := true }, kinds := [], alts := [], laidByText := true, laidKinds := [.data, .data, .data, .data, .pinned, .pinned], laidTests := true, laidLooks := .later }
def VmWordsUptoCardSaid : Prop := Claim7.holds Tryz.pinned (.plain (OpenSpec.upto vmWordsSpec)) vmWordsUptoCard
end Rows
end Go.Proofs.YtngdikikclfgjaaGreatDoor
