/-
  DERIVED. GIVEN WITH THE SEED: THE CARDS: each row of YtanpbphgmnjdeabDoorRows.lean that lists a variable, with what it lists TIED to the program's text (the seventh form; the later family's looks); each row that meets fmt, with fmt's text TOLD by the authors' own Lean function (tested against real Go, not proved from fmt's source: count such statements apart). THE CARD IS WHAT COUNTS. Prove the row's statement (the work); the ties are given (YtanpbphgmnjdeabDoorTie.lean); close each card by the builder's one call (the guide's Derived/Test/ToyasCard.lean, 'card_holds'). Laid BY PROGRAM, IN A SANDBOX (cutbox-door.mjs). By AI agents, Wed Nov 11 2026. No macro, syntax, notation, axiom, sorry.
-/
import Derived.Test.YtanpbphgmnjdeabDoorRows
import GoSem.ClaimSeven
namespace Go.Proofs.YtanpbphgmnjdeabDoor
namespace Rows

/-- THE TIED CARD OF 'proctorlaw5.NumberWidths'. -/
def numberWidthsCard : Claim7 := { stood := { row := numberWidthsRow, standIns := [], harness := (true, "dd7a0db8b2c56375011357cf741af42fb415ab85f67aa8503a5c59e07918c4eb"), looks := false }, kinds := [], alts := [], laidByText := true, laidKinds := [.data, .data, .data, .data, .pinned, .pinned], laidTests := true, laidLooks := .later }
def NumberWidthsCardSaid : Prop := Claim7.holds Tryd.pinned (.plain (OpenSpec.ofChange numberWidthsSpec)) numberWidthsCard

/-- THE SECOND FORM's CARD OF 'proctorlaw5.NumberWidths'. -/
def numberWidthsUptoCard : Claim7 := { stood := { row := numberWidthsUptoRow, standIns := [], harness := (true, "dd7a0db8b2c56375011357cf741af42fb415ab85f67aa8503a5c59e07918c4eb"), looks := false }, kinds := [], alts := [], laidByText := true, laidKinds := [.data, .data, .data, .data, .pinned, .pinned], laidTests := true, laidLooks := .later }
def NumberWidthsUptoCardSaid : Prop := Claim7.holds Tryd.pinned (.plain (OpenSpec.upto numberWidthsSpec)) numberWidthsUptoCard
end Rows
end Go.Proofs.YtanpbphgmnjdeabDoor
