/- The law VmWords: what the card says of the program, in closed form. No condition. -/
import Derived.Test.YtngdikikclfgjaaGreatDoorZ23
namespace Go.Proofs.YtngdikikclfgjaaGreatDoor.vmWords
open Go.ChangeShapes Go.WideShapes Go.ChangeAt Go.RowKit LawF
set_option linter.unusedVariables false
set_option linter.unusedSimpArgs false
theorem textual:Rows.vmWordsRow.wfByText (OpenSpec.ofChange Rows.vmWordsSpec)=true:=by kernel_rfl
theorem mains:Tryz.pinned.checked.prog.mainIs=some (Rows.vmWordsCard.stood.harness.1,Rows.vmWordsCard.stood.harness.2.toList):=by kernel_rfl
theorem looked:Rows.vmWordsCard.stood.looks=Tryz.pinned.checked.prog.looks []:=by kernel_rfl
theorem goesNot:false=Rows.vmWordsRow.goesBy Tryz.pinned.checked.prog:=by kernel_rfl
end Go.Proofs.YtngdikikclfgjaaGreatDoor.vmWords
