/-
  DERIVED. GIVEN WITH THE SEED: THE CARDS: each row of YthejfkkmcbdlhaaGreatDoorRows.lean that lists a variable, with what it lists TIED to the program's text (the seventh form; the later family's looks); each row that meets fmt, with fmt's text TOLD by the authors' own Lean function (tested against real Go, not proved from fmt's source: count such statements apart). THE CARD IS WHAT COUNTS. Prove the row's statement (the work); the ties are given (YthejfkkmcbdlhaaGreatDoorTie.lean); close each card by the builder's one call (the guide's Derived/Test/ToyasCard.lean, 'card_holds'). Laid BY PROGRAM, IN A SANDBOX (cutbox-door.mjs). By AI agents, Wed Nov 11 2026. No macro, syntax, notation, axiom, sorry.
-/
import Derived.Test.YthejfkkmcbdlhaaGreatDoorRows
import GoSem.ClaimSeven
namespace Go.Proofs.YthejfkkmcbdlhaaGreatDoor
namespace Rows

/-- THE TIED CARD OF 'proctorlaw19.LookWords'. -/
def lookWordsCard : Claim7 := { stood := { row := lookWordsRow, standIns := [], harness := (true, "3baf75d4ab234a8c5de138ba45ba29d6ab780b2cb273b4c53f8ce46c0d3046b8"), looks := false }, kinds := [], alts := [], laidByText := true, laidKinds := [.data, .listed, .data, .data, .pinned], laidTests := true, laidLooks := .later }
def LookWordsCardSaid : Prop := Claim7.holds Tryz.pinned (.plain (OpenSpec.ofChange lookWordsSpec)) lookWordsCard

/-- THE TIED CARD OF 'proctorlaw19.LookLess'. -/
def lookLessCard : Claim7 := { stood := { row := lookLessRow, standIns := [], harness := (true, "3baf75d4ab234a8c5de138ba45ba29d6ab780b2cb273b4c53f8ce46c0d3046b8"), looks := false }, kinds := [], alts := [], laidByText := true, laidKinds := [.data, .listed, .data, .data, .pinned], laidTests := true, laidLooks := .later }
def LookLessCardSaid : Prop := Claim7.holds Tryz.pinned (.plain (OpenSpec.ofChange lookLessSpec)) lookLessCard

/-- THE TIED CARD OF 'proctorlaw19.LookShadows'. -/
def lookShadowsCard : Claim7 := { stood := { row := lookShadowsRow, standIns := [], harness := (true, "3baf75d4ab234a8c5de138ba45ba29d6ab780b2cb273b4c53f8ce46c0d3046b8"), looks := false }, kinds := [], alts := [], laidByText := true, laidKinds := [.data, .listed, .data, .data, .pinned], laidTests := true, laidLooks := .later }
def LookShadowsCardSaid : Prop := Claim7.holds Tryz.pinned (.plain (OpenSpec.ofChange lookShadowsSpec)) lookShadowsCard

/-- THE TIED CARD OF 'proctorlaw19.LookComposes'. -/
def lookComposesCard : Claim7 := { stood := { row := lookComposesRow, standIns := [], harness := (true, "3baf75d4ab234a8c5de138ba45ba29d6ab780b2cb273b4c53f8ce46c0d3046b8"), looks := false }, kinds := [], alts := [], laidByText := true, laidKinds := [.data, .listed, .data, .data, .pinned], laidTests := true, laidLooks := .later }
def LookComposesCardSaid : Prop := Claim7.holds Tryz.pinned (.plain (OpenSpec.ofChange lookComposesSpec)) lookComposesCard

/-- THE SECOND FORM's CARD OF 'proctorlaw19.LookWords'. -/
def lookWordsUptoCard : Claim7 := { stood := { row := lookWordsUptoRow, standIns := [], harness := (true, "3baf75d4ab234a8c5de138ba45ba29d6ab780b2cb273b4c53f8ce46c0d3046b8"), looks := false }, kinds := [], alts := [], laidByText := true, laidKinds := [.data, .listed, .data, .data, .pinned], laidTests := true, laidLooks := .later }
def LookWordsUptoCardSaid : Prop := Claim7.holds Tryz.pinned (.plain (OpenSpec.upto lookWordsSpec)) lookWordsUptoCard

/-- THE SECOND FORM's CARD OF 'proctorlaw19.LookLess'. -/
def lookLessUptoCard : Claim7 := { stood := { row := lookLessUptoRow, standIns := [], harness := (true, "3baf75d4ab234a8c5de138ba45ba29d6ab780b2cb273b4c53f8ce46c0d3046b8"), looks := false }, kinds := [], alts := [], laidByText := true, laidKinds := [.data, .listed, .data, .data, .pinned], laidTests := true, laidLooks := .later }
def LookLessUptoCardSaid : Prop := Claim7.holds Tryz.pinned (.plain (OpenSpec.upto lookLessSpec)) lookLessUptoCard

/-- THE SECOND FORM's CARD OF 'proctorlaw19.LookShadows'. -/
def lookShadowsUptoCard : Claim7 := { stood := { row := lookShadowsUptoRow, standIns := [], harness := (true, "3baf75d4ab234a8c5de138ba45ba29d6ab780b2cb273b4c53f8ce46c0d3046b8"), looks := false }, kinds := [], alts := [], laidByText := true, laidKinds := [.data, .listed, .data, .data, .pinned], laidTests := true, laidLooks := .later }
def LookShadowsUptoCardSaid : Prop := Claim7.holds Tryz.pinned (.plain (OpenSpec.upto lookShadowsSpec)) lookShadowsUptoCard

/-- THE SECOND FORM's CARD OF 'proctorlaw19.LookComposes'. -/
def lookComposesUptoCard : Claim7 := { stood := { row := lookComposesUptoRow, standIns := [], harness := (true, "3baf75d4ab234a8c5de138ba45ba29d6ab780b2cb273b4c53f8ce46c0d3046b8"), looks := false }, kinds := [], alts := [], laidByText := true, laidKinds := [.data, .listed, .data, .data, .pinned], laidTests := true, laidLooks := .later }
def LookComposesUptoCardSaid : Prop := Claim7.holds Tryz.pinned (.plain (OpenSpec.upto lookComposesSpec)) lookComposesUptoCard
end Rows
end Go.Proofs.YthejfkkmcbdlhaaGreatDoor
