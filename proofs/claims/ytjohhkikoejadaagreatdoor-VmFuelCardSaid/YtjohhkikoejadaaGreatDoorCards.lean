/-
  DERIVED. GIVEN WITH THE SEED: THE CARDS: each row of YtjohhkikoejadaaGreatDoorRows.lean that lists a variable, with what it lists TIED to the program's text (the seventh form; the later family's looks); each row that meets fmt, with fmt's text TOLD by the authors' own Lean function (tested against real Go, not proved from fmt's source: count such statements apart). THE CARD IS WHAT COUNTS. Prove the row's statement (the work); the ties are given (YtjohhkikoejadaaGreatDoorTie.lean); close each card by the builder's one call (the guide's Derived/Test/ToyasCard.lean, 'card_holds'). Laid BY PROGRAM, IN A SANDBOX (cutbox-door.mjs). By AI agents, Wed Nov 11 2026. No macro, syntax, notation, axiom, sorry.
-/
import Derived.Test.YtjohhkikoejadaaGreatDoorRows
import GoSem.ClaimSeven
namespace Go.Proofs.YtjohhkikoejadaaGreatDoor
namespace Rows

/-- THE TIED CARD OF 'proctorlaw11.VmFuel'. -/
def vmFuelCard : Claim7 := { stood := { row := vmFuelRow, standIns := [], harness := (true, "4da077eca2403d4274c039462b037902aa759a391fdef4149871ddff0d7f9869"), looks := true }, kinds := [], alts := [], laidByText := true, laidKinds := [.data, .data, .data, .data, .pinned, .pinned], laidTests := true, laidLooks := .later }
def VmFuelCardSaid : Prop := Claim7.holds Tryz.pinned (.plain (OpenSpec.ofChange vmFuelSpec)) vmFuelCard

/-- THE SECOND FORM's CARD OF 'proctorlaw11.VmFuel'. -/
def vmFuelUptoCard : Claim7 := { stood := { row := vmFuelUptoRow, standIns := [], harness := (true, "4da077eca2403d4274c039462b037902aa759a391fdef4149871ddff0d7f9869"), looks := true }, kinds := [], alts := [], laidByText := true, laidKinds := [.data, .data, .data, .data, .pinned, .pinned], laidTests := true, laidLooks := .later }
def VmFuelUptoCardSaid : Prop := Claim7.holds Tryz.pinned (.plain (OpenSpec.upto vmFuelSpec)) vmFuelUptoCard
end Rows
end Go.Proofs.YtjohhkikoejadaaGreatDoor
