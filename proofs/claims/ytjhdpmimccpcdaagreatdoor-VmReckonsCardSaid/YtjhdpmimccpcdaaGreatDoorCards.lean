/-
  DERIVED. GIVEN WITH THE SEED: THE CARDS: each row of YtjhdpmimccpcdaaGreatDoorRows.lean that lists a variable, with what it lists TIED to the program's text (the seventh form; the later family's looks); each row that meets fmt, with fmt's text TOLD by the authors' own Lean function (tested against real Go, not proved from fmt's source: count such statements apart). THE CARD IS WHAT COUNTS. Prove the row's statement (the work); the ties are given (YtjhdpmimccpcdaaGreatDoorTie.lean); close each card by the builder's one call (the guide's Derived/Test/ToyasCard.lean, 'card_holds'). Laid BY PROGRAM, IN A SANDBOX (cutbox-door.mjs). By AI agents, Wed Nov 11 2026. No macro, syntax, notation, axiom, sorry.
-/
import Derived.Test.YtjhdpmimccpcdaaGreatDoorRows
import GoSem.ClaimSeven
namespace Go.Proofs.YtjhdpmimccpcdaaGreatDoor
namespace Rows

/-- THE TIED CARD OF 'proctorlaw11.VmNew'. -/
def vmNewCard : Claim7 := { stood := { row := vmNewRow, standIns := [], harness := (true, "129513f6f408d1dec2d589b64e2389df8832d4f6b5fe8dde89cca1851078aec7"), looks := true }, kinds := [], alts := [], laidByText := true, laidKinds := [.data, .data, .data, .data, .pinned, .pinned], laidTests := true, laidLooks := .later }
def VmNewCardSaid : Prop := Claim7.holds Tryz.pinned (.plain (OpenSpec.ofChange vmNewSpec)) vmNewCard

/-- THE TIED CARD OF 'proctorlaw11.VmFuel'. -/
def vmFuelCard : Claim7 := { stood := { row := vmFuelRow, standIns := [], harness := (true, "129513f6f408d1dec2d589b64e2389df8832d4f6b5fe8dde89cca1851078aec7"), looks := true }, kinds := [], alts := [], laidByText := true, laidKinds := [.data, .data, .data, .data, .pinned, .pinned], laidTests := true, laidLooks := .later }
def VmFuelCardSaid : Prop := Claim7.holds Tryz.pinned (.plain (OpenSpec.ofChange vmFuelSpec)) vmFuelCard

/-- THE TIED CARD OF 'proctorlaw11.VmAsked'. -/
def vmAskedCard : Claim7 := { stood := { row := vmAskedRow, standIns := [], harness := (true, "129513f6f408d1dec2d589b64e2389df8832d4f6b5fe8dde89cca1851078aec7"), looks := true }, kinds := [], alts := [], laidByText := true, laidKinds := [.data, .data, .data, .data, .pinned, .pinned], laidTests := true, laidLooks := .later }
def VmAskedCardSaid : Prop := Claim7.holds Tryz.pinned (.plain (OpenSpec.ofChange vmAskedSpec)) vmAskedCard

/-- THE TIED CARD OF 'proctorlaw11.VmReckons'. -/
def vmReckonsCard : Claim7 := { stood := { row := vmReckonsRow, standIns := [], harness := (true, "129513f6f408d1dec2d589b64e2389df8832d4f6b5fe8dde89cca1851078aec7"), looks := true }, kinds := [], alts := [], laidByText := true, laidKinds := [.data, .data, .data, .data, .pinned, .pinned], laidTests := true, laidLooks := .later }
def VmReckonsCardSaid : Prop := Claim7.holds Tryz.pinned (.plain (OpenSpec.ofChange vmReckonsSpec)) vmReckonsCard

/-- THE TIED CARD OF 'proctorlaw11.VmLoops'. -/
def vmLoopsCard : Claim7 := { stood := { row := vmLoopsRow, standIns := [], harness := (true, "129513f6f408d1dec2d589b64e2389df8832d4f6b5fe8dde89cca1851078aec7"), looks := true }, kinds := [], alts := [], laidByText := true, laidKinds := [.data, .data, .data, .data, .pinned, .pinned], laidTests := true, laidLooks := .later }
def VmLoopsCardSaid : Prop := Claim7.holds Tryz.pinned (.plain (OpenSpec.ofChange vmLoopsSpec)) vmLoopsCard

/-- THE TIED CARD OF 'proctorlaw11.VmSealed'. -/
def vmSealedCard : Claim7 := { stood := { row := vmSealedRow, standIns := [], harness := (true, "129513f6f408d1dec2d589b64e2389df8832d4f6b5fe8dde89cca1851078aec7"), looks := true }, kinds := [], alts := [], laidByText := true, laidKinds := [.data, .data, .data, .data, .pinned, .pinned], laidTests := true, laidLooks := .later }
def VmSealedCardSaid : Prop := Claim7.holds Tryz.pinned (.plain (OpenSpec.ofChange vmSealedSpec)) vmSealedCard

/-- THE TIED CARD OF 'proctorlaw11.VmWords'. -/
def vmWordsCard : Claim7 := { stood := { row := vmWordsRow, standIns := [], harness := (true, "129513f6f408d1dec2d589b64e2389df8832d4f6b5fe8dde89cca1851078aec7"), looks := true }, kinds := [], alts := [], laidByText := true, laidKinds := [.data, .data, .data, .data, .pinned, .pinned], laidTests := true, laidLooks := .later }
def VmWordsCardSaid : Prop := Claim7.holds Tryz.pinned (.plain (OpenSpec.ofChange vmWordsSpec)) vmWordsCard

/-- THE SECOND FORM's CARD OF 'proctorlaw11.VmNew'. -/
def vmNewUptoCard : Claim7 := { stood := { row := vmNewUptoRow, standIns := [], harness := (true, "129513f6f408d1dec2d589b64e2389df8832d4f6b5fe8dde89cca1851078aec7"), looks := true }, kinds := [], alts := [], laidByText := true, laidKinds := [.data, .data, .data, .data, .pinned, .pinned], laidTests := true, laidLooks := .later }
def VmNewUptoCardSaid : Prop := Claim7.holds Tryz.pinned (.plain (OpenSpec.upto vmNewSpec)) vmNewUptoCard

/-- THE SECOND FORM's CARD OF 'proctorlaw11.VmFuel'. -/
def vmFuelUptoCard : Claim7 := { stood := { row := vmFuelUptoRow, standIns := [], harness := (true, "129513f6f408d1dec2d589b64e2389df8832d4f6b5fe8dde89cca1851078aec7"), looks := true }, kinds := [], alts := [], laidByText := true, laidKinds := [.data, .data, .data, .data, .pinned, .pinned], laidTests := true, laidLooks := .later }
def VmFuelUptoCardSaid : Prop := Claim7.holds Tryz.pinned (.plain (OpenSpec.upto vmFuelSpec)) vmFuelUptoCard

/-- THE SECOND FORM's CARD OF 'proctorlaw11.VmAsked'. -/
def vmAskedUptoCard : Claim7 := { stood := { row := vmAskedUptoRow, standIns := [], harness := (true, "129513f6f408d1dec2d589b64e2389df8832d4f6b5fe8dde89cca1851078aec7"), looks := true }, kinds := [], alts := [], laidByText := true, laidKinds := [.data, .data, .data, .data, .pinned, .pinned], laidTests := true, laidLooks := .later }
def VmAskedUptoCardSaid : Prop := Claim7.holds Tryz.pinned (.plain (OpenSpec.upto vmAskedSpec)) vmAskedUptoCard

/-- THE SECOND FORM's CARD OF 'proctorlaw11.VmReckons'. -/
def vmReckonsUptoCard : Claim7 := { stood := { row := vmReckonsUptoRow, standIns := [], harness := (true, "129513f6f408d1dec2d589b64e2389df8832d4f6b5fe8dde89cca1851078aec7"), looks := true }, kinds := [], alts := [], laidByText := true, laidKinds := [.data, .data, .data, .data, .pinned, .pinned], laidTests := true, laidLooks := .later }
def VmReckonsUptoCardSaid : Prop := Claim7.holds Tryz.pinned (.plain (OpenSpec.upto vmReckonsSpec)) vmReckonsUptoCard

/-- THE SECOND FORM's CARD OF 'proctorlaw11.VmLoops'. -/
def vmLoopsUptoCard : Claim7 := { stood := { row := vmLoopsUptoRow, standIns := [], harness := (true, "129513f6f408d1dec2d589b64e2389df8832d4f6b5fe8dde89cca1851078aec7"), looks := true }, kinds := [], alts := [], laidByText := true, laidKinds := [.data, .data, .data, .data, .pinned, .pinned], laidTests := true, laidLooks := .later }
def VmLoopsUptoCardSaid : Prop := Claim7.holds Tryz.pinned (.plain (OpenSpec.upto vmLoopsSpec)) vmLoopsUptoCard

/-- THE SECOND FORM's CARD OF 'proctorlaw11.VmSealed'. -/
def vmSealedUptoCard : Claim7 := { stood := { row := vmSealedUptoRow, standIns := [], harness := (true, "129513f6f408d1dec2d589b64e2389df8832d4f6b5fe8dde89cca1851078aec7"), looks := true }, kinds := [], alts := [], laidByText := true, laidKinds := [.data, .data, .data, .data, .pinned, .pinned], laidTests := true, laidLooks := .later }
def VmSealedUptoCardSaid : Prop := Claim7.holds Tryz.pinned (.plain (OpenSpec.upto vmSealedSpec)) vmSealedUptoCard

/-- THE SECOND FORM's CARD OF 'proctorlaw11.VmWords'. -/
def vmWordsUptoCard : Claim7 := { stood := { row := vmWordsUptoRow, standIns := [], harness := (true, "129513f6f408d1dec2d589b64e2389df8832d4f6b5fe8dde89cca1851078aec7"), looks := true }, kinds := [], alts := [], laidByText := true, laidKinds := [.data, .data, .data, .data, .pinned, .pinned], laidTests := true, laidLooks := .later }
def VmWordsUptoCardSaid : Prop := Claim7.holds Tryz.pinned (.plain (OpenSpec.upto vmWordsSpec)) vmWordsUptoCard
end Rows
end Go.Proofs.YtjhdpmimccpcdaaGreatDoor
