/- The law OuterDefines: what the card says of the program, in closed form. No condition. -/
import Derived.Test.YteaijdgnagkllaaGreatDoorZd37
namespace Go.Proofs.YteaijdgnagkllaaGreatDoor.outerDefines
open Go.ChangeShapes Go.WideShapes Go.ChangeAt Go.RowKit LawF
set_option linter.unusedVariables false
set_option linter.unusedSimpArgs false
theorem textual:Rows.outerDefinesRow.wfByText (OpenSpec.ofChange Rows.outerDefinesSpec)=true:=by kernel_rfl
theorem mains:Tryz.pinned.checked.prog.mainIs=some (Rows.outerDefinesCard.stood.harness.1,Rows.outerDefinesCard.stood.harness.2.toList):=by kernel_rfl
theorem looked:Rows.outerDefinesCard.stood.looks=Tryz.pinned.checked.prog.looks []:=by kernel_rfl
theorem goesNot:false=Rows.outerDefinesRow.goesBy Tryz.pinned.checked.prog:=by kernel_rfl
end Go.Proofs.YteaijdgnagkllaaGreatDoor.outerDefines
