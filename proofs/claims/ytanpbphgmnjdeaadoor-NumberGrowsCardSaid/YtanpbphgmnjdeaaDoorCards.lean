/-
  DERIVED. GIVEN WITH THE SEED: THE CARDS: each row of YtanpbphgmnjdeaaDoorRows.lean that lists a variable, with what it lists TIED to the program's text (the seventh form; the later family's looks); each row that meets fmt, with fmt's text TOLD by the authors' own Lean function (tested against real Go, not proved from fmt's source: count such statements apart). THE CARD IS WHAT COUNTS. Prove the row's statement (the work); the ties are given (YtanpbphgmnjdeaaDoorTie.lean); close each card by the builder's one call (the guide's Derived/Test/ToyasCard.lean, 'card_holds'). Laid BY PROGRAM, IN A SANDBOX (cutbox-door.mjs). By AI agents, Wed Nov 11 2026. No macro, syntax, notation, axiom, sorry.
-/
import Derived.Test.YtanpbphgmnjdeaaDoorRows
import GoSem.ClaimSeven
namespace Go.Proofs.YtanpbphgmnjdeaaDoor
namespace Rows

/-- THE TIED CARD OF 'proctorlaw7.CodePacks'. -/
def codePacksCard : Claim7 := { stood := { row := codePacksRow, standIns := [], harness := (true, "5995cc83bfeee523f69607b6ccf9b83f9909311d41a26a09031160dfbd3cd71e"), looks := false }, kinds := [], alts := [], laidByText := true, laidKinds := [.data, .data, .pinned], laidTests := true, laidLooks := .later }
def CodePacksCardSaid : Prop := Claim7.holds Tryd.pinned (.plain (OpenSpec.ofChange codePacksSpec)) codePacksCard

/-- THE TIED CARD OF 'proctorlaw7.CodeNames'. -/
def codeNamesCard : Claim7 := { stood := { row := codeNamesRow, standIns := [], harness := (true, "5995cc83bfeee523f69607b6ccf9b83f9909311d41a26a09031160dfbd3cd71e"), looks := false }, kinds := [], alts := [], laidByText := true, laidKinds := [.data, .data, .pinned], laidTests := true, laidLooks := .later }
def CodeNamesCardSaid : Prop := Claim7.holds Tryd.pinned (.plain (OpenSpec.ofChange codeNamesSpec)) codeNamesCard

/-- THE TIED CARD OF 'proctorlaw7.CodeBack'. -/
def codeBackCard : Claim7 := { stood := { row := codeBackRow, standIns := [], harness := (true, "5995cc83bfeee523f69607b6ccf9b83f9909311d41a26a09031160dfbd3cd71e"), looks := false }, kinds := [], alts := [], laidByText := true, laidKinds := [.data, .data, .pinned], laidTests := true, laidLooks := .later }
def CodeBackCardSaid : Prop := Claim7.holds Tryd.pinned (.plain (OpenSpec.ofChange codeBackSpec)) codeBackCard

/-- THE TIED CARD OF 'proctorlaw7.CodeFetches'. -/
def codeFetchesCard : Claim7 := { stood := { row := codeFetchesRow, standIns := [], harness := (true, "5995cc83bfeee523f69607b6ccf9b83f9909311d41a26a09031160dfbd3cd71e"), looks := false }, kinds := [], alts := [], laidByText := true, laidKinds := [.data, .data, .pinned], laidTests := true, laidLooks := .later }
def CodeFetchesCardSaid : Prop := Claim7.holds Tryd.pinned (.plain (OpenSpec.ofChange codeFetchesSpec)) codeFetchesCard

/-- THE TIED CARD OF 'proctorlaw7.CodeLists'. -/
def codeListsCard : Claim7 := { stood := { row := codeListsRow, standIns := [], harness := (true, "5995cc83bfeee523f69607b6ccf9b83f9909311d41a26a09031160dfbd3cd71e"), looks := false }, kinds := [], alts := [], laidByText := true, laidKinds := [.data, .data, .data, .data, .data, .pinned], laidTests := true, laidLooks := .later }
def CodeListsCardSaid : Prop := Claim7.holds Tryd.pinned (.plain (OpenSpec.ofChange codeListsSpec)) codeListsCard

/-- THE TIED CARD OF 'proctorlaw7.CodeLines'. -/
def codeLinesCard : Claim7 := { stood := { row := codeLinesRow, standIns := [], harness := (true, "5995cc83bfeee523f69607b6ccf9b83f9909311d41a26a09031160dfbd3cd71e"), looks := false }, kinds := [], alts := [], laidByText := true, laidKinds := [.data, .data, .data, .data, .data, .pinned], laidTests := true, laidLooks := .later }
def CodeLinesCardSaid : Prop := Claim7.holds Tryd.pinned (.plain (OpenSpec.ofChange codeLinesSpec)) codeLinesCard

/-- THE TIED CARD OF 'proctorlaw5.NumberParses'. -/
def numberParsesCard : Claim7 := { stood := { row := numberParsesRow, standIns := [], harness := (true, "5995cc83bfeee523f69607b6ccf9b83f9909311d41a26a09031160dfbd3cd71e"), looks := false }, kinds := [], alts := [], laidByText := true, laidKinds := [.data, .data, .data, .data, .pinned, .pinned], laidTests := true, laidLooks := .later }
def NumberParsesCardSaid : Prop := Claim7.holds Tryd.pinned (.plain (OpenSpec.ofChange numberParsesSpec)) numberParsesCard

/-- THE TIED CARD OF 'proctorlaw5.NumberPrints'. -/
def numberPrintsCard : Claim7 := { stood := { row := numberPrintsRow, standIns := [], harness := (true, "5995cc83bfeee523f69607b6ccf9b83f9909311d41a26a09031160dfbd3cd71e"), looks := false }, kinds := [], alts := [], laidByText := true, laidKinds := [.data, .data, .data, .data, .pinned, .pinned], laidTests := true, laidLooks := .later }
def NumberPrintsCardSaid : Prop := Claim7.holds Tryd.pinned (.plain (OpenSpec.ofChange numberPrintsSpec)) numberPrintsCard

/-- THE TIED CARD OF 'proctorlaw5.NumberBack'. -/
def numberBackCard : Claim7 := { stood := { row := numberBackRow, standIns := [], harness := (true, "5995cc83bfeee523f69607b6ccf9b83f9909311d41a26a09031160dfbd3cd71e"), looks := false }, kinds := [], alts := [], laidByText := true, laidKinds := [.data, .data, .data, .data, .pinned, .pinned], laidTests := true, laidLooks := .later }
def NumberBackCardSaid : Prop := Claim7.holds Tryd.pinned (.plain (OpenSpec.ofChange numberBackSpec)) numberBackCard

/-- THE TIED CARD OF 'proctorlaw5.NumberGrows'. -/
def numberGrowsCard : Claim7 := { stood := { row := numberGrowsRow, standIns := [], harness := (true, "5995cc83bfeee523f69607b6ccf9b83f9909311d41a26a09031160dfbd3cd71e"), looks := false }, kinds := [], alts := [], laidByText := true, laidKinds := [.data, .data, .data, .data, .pinned, .pinned], laidTests := true, laidLooks := .later }
def NumberGrowsCardSaid : Prop := Claim7.holds Tryd.pinned (.plain (OpenSpec.ofChange numberGrowsSpec)) numberGrowsCard

/-- THE TIED CARD OF 'proctorlaw5.NumberLetters'. -/
def numberLettersCard : Claim7 := { stood := { row := numberLettersRow, standIns := [], harness := (true, "5995cc83bfeee523f69607b6ccf9b83f9909311d41a26a09031160dfbd3cd71e"), looks := false }, kinds := [], alts := [], laidByText := true, laidKinds := [.data, .data, .data, .data, .pinned, .pinned], laidTests := true, laidLooks := .later }
def NumberLettersCardSaid : Prop := Claim7.holds Tryd.pinned (.plain (OpenSpec.ofChange numberLettersSpec)) numberLettersCard

/-- THE TIED CARD OF 'proctorlaw5.NumberOrder'. -/
def numberOrderCard : Claim7 := { stood := { row := numberOrderRow, standIns := [], harness := (true, "5995cc83bfeee523f69607b6ccf9b83f9909311d41a26a09031160dfbd3cd71e"), looks := false }, kinds := [], alts := [], laidByText := true, laidKinds := [.data, .data, .data, .data, .pinned, .pinned], laidTests := true, laidLooks := .later }
def NumberOrderCardSaid : Prop := Claim7.holds Tryd.pinned (.plain (OpenSpec.ofChange numberOrderSpec)) numberOrderCard

/-- THE SECOND FORM's CARD OF 'proctorlaw7.CodePacks'. -/
def codePacksUptoCard : Claim7 := { stood := { row := codePacksUptoRow, standIns := [], harness := (true, "5995cc83bfeee523f69607b6ccf9b83f9909311d41a26a09031160dfbd3cd71e"), looks := false }, kinds := [], alts := [], laidByText := true, laidKinds := [.data, .data, .pinned], laidTests := true, laidLooks := .later }
def CodePacksUptoCardSaid : Prop := Claim7.holds Tryd.pinned (.plain (OpenSpec.upto codePacksSpec)) codePacksUptoCard

/-- THE SECOND FORM's CARD OF 'proctorlaw7.CodeNames'. -/
def codeNamesUptoCard : Claim7 := { stood := { row := codeNamesUptoRow, standIns := [], harness := (true, "5995cc83bfeee523f69607b6ccf9b83f9909311d41a26a09031160dfbd3cd71e"), looks := false }, kinds := [], alts := [], laidByText := true, laidKinds := [.data, .data, .pinned], laidTests := true, laidLooks := .later }
def CodeNamesUptoCardSaid : Prop := Claim7.holds Tryd.pinned (.plain (OpenSpec.upto codeNamesSpec)) codeNamesUptoCard

/-- THE SECOND FORM's CARD OF 'proctorlaw7.CodeBack'. -/
def codeBackUptoCard : Claim7 := { stood := { row := codeBackUptoRow, standIns := [], harness := (true, "5995cc83bfeee523f69607b6ccf9b83f9909311d41a26a09031160dfbd3cd71e"), looks := false }, kinds := [], alts := [], laidByText := true, laidKinds := [.data, .data, .pinned], laidTests := true, laidLooks := .later }
def CodeBackUptoCardSaid : Prop := Claim7.holds Tryd.pinned (.plain (OpenSpec.upto codeBackSpec)) codeBackUptoCard

/-- THE SECOND FORM's CARD OF 'proctorlaw7.CodeFetches'. -/
def codeFetchesUptoCard : Claim7 := { stood := { row := codeFetchesUptoRow, standIns := [], harness := (true, "5995cc83bfeee523f69607b6ccf9b83f9909311d41a26a09031160dfbd3cd71e"), looks := false }, kinds := [], alts := [], laidByText := true, laidKinds := [.data, .data, .pinned], laidTests := true, laidLooks := .later }
def CodeFetchesUptoCardSaid : Prop := Claim7.holds Tryd.pinned (.plain (OpenSpec.upto codeFetchesSpec)) codeFetchesUptoCard

/-- THE SECOND FORM's CARD OF 'proctorlaw7.CodeLists'. -/
def codeListsUptoCard : Claim7 := { stood := { row := codeListsUptoRow, standIns := [], harness := (true, "5995cc83bfeee523f69607b6ccf9b83f9909311d41a26a09031160dfbd3cd71e"), looks := false }, kinds := [], alts := [], laidByText := true, laidKinds := [.data, .data, .data, .data, .data, .pinned], laidTests := true, laidLooks := .later }
def CodeListsUptoCardSaid : Prop := Claim7.holds Tryd.pinned (.plain (OpenSpec.upto codeListsSpec)) codeListsUptoCard

/-- THE SECOND FORM's CARD OF 'proctorlaw7.CodeLines'. -/
def codeLinesUptoCard : Claim7 := { stood := { row := codeLinesUptoRow, standIns := [], harness := (true, "5995cc83bfeee523f69607b6ccf9b83f9909311d41a26a09031160dfbd3cd71e"), looks := false }, kinds := [], alts := [], laidByText := true, laidKinds := [.data, .data, .data, .data, .data, .pinned], laidTests := true, laidLooks := .later }
def CodeLinesUptoCardSaid : Prop := Claim7.holds Tryd.pinned (.plain (OpenSpec.upto codeLinesSpec)) codeLinesUptoCard

/-- THE SECOND FORM's CARD OF 'proctorlaw5.NumberParses'. -/
def numberParsesUptoCard : Claim7 := { stood := { row := numberParsesUptoRow, standIns := [], harness := (true, "5995cc83bfeee523f69607b6ccf9b83f9909311d41a26a09031160dfbd3cd71e"), looks := false }, kinds := [], alts := [], laidByText := true, laidKinds := [.data, .data, .data, .data, .pinned, .pinned], laidTests := true, laidLooks := .later }
def NumberParsesUptoCardSaid : Prop := Claim7.holds Tryd.pinned (.plain (OpenSpec.upto numberParsesSpec)) numberParsesUptoCard

/-- THE SECOND FORM's CARD OF 'proctorlaw5.NumberPrints'. -/
def numberPrintsUptoCard : Claim7 := { stood := { row := numberPrintsUptoRow, standIns := [], harness := (true, "5995cc83bfeee523f69607b6ccf9b83f9909311d41a26a09031160dfbd3cd71e"), looks := false }, kinds := [], alts := [], laidByText := true, laidKinds := [.data, .data, .data, .data, .pinned, .pinned], laidTests := true, laidLooks := .later }
def NumberPrintsUptoCardSaid : Prop := Claim7.holds Tryd.pinned (.plain (OpenSpec.upto numberPrintsSpec)) numberPrintsUptoCard

/-- THE SECOND FORM's CARD OF 'proctorlaw5.NumberBack'. -/
def numberBackUptoCard : Claim7 := { stood := { row := numberBackUptoRow, standIns := [], harness := (true, "5995cc83bfeee523f69607b6ccf9b83f9909311d41a26a09031160dfbd3cd71e"), looks := false }, kinds := [], alts := [], laidByText := true, laidKinds := [.data, .data, .data, .data, .pinned, .pinned], laidTests := true, laidLooks := .later }
def NumberBackUptoCardSaid : Prop := Claim7.holds Tryd.pinned (.plain (OpenSpec.upto numberBackSpec)) numberBackUptoCard

/-- THE SECOND FORM's CARD OF 'proctorlaw5.NumberGrows'. -/
def numberGrowsUptoCard : Claim7 := { stood := { row := numberGrowsUptoRow, standIns := [], harness := (true, "5995cc83bfeee523f69607b6ccf9b83f9909311d41a26a09031160dfbd3cd71e"), looks := false }, kinds := [], alts := [], laidByText := true, laidKinds := [.data, .data, .data, .data, .pinned, .pinned], laidTests := true, laidLooks := .later }
def NumberGrowsUptoCardSaid : Prop := Claim7.holds Tryd.pinned (.plain (OpenSpec.upto numberGrowsSpec)) numberGrowsUptoCard

/-- THE SECOND FORM's CARD OF 'proctorlaw5.NumberLetters'. -/
def numberLettersUptoCard : Claim7 := { stood := { row := numberLettersUptoRow, standIns := [], harness := (true, "5995cc83bfeee523f69607b6ccf9b83f9909311d41a26a09031160dfbd3cd71e"), looks := false }, kinds := [], alts := [], laidByText := true, laidKinds := [.data, .data, .data, .data, .pinned, .pinned], laidTests := true, laidLooks := .later }
def NumberLettersUptoCardSaid : Prop := Claim7.holds Tryd.pinned (.plain (OpenSpec.upto numberLettersSpec)) numberLettersUptoCard

/-- THE SECOND FORM's CARD OF 'proctorlaw5.NumberOrder'. -/
def numberOrderUptoCard : Claim7 := { stood := { row := numberOrderUptoRow, standIns := [], harness := (true, "5995cc83bfeee523f69607b6ccf9b83f9909311d41a26a09031160dfbd3cd71e"), looks := false }, kinds := [], alts := [], laidByText := true, laidKinds := [.data, .data, .data, .data, .pinned, .pinned], laidTests := true, laidLooks := .later }
def NumberOrderUptoCardSaid : Prop := Claim7.holds Tryd.pinned (.plain (OpenSpec.upto numberOrderSpec)) numberOrderUptoCard
end Rows
end Go.Proofs.YtanpbphgmnjdeaaDoor
