/- The law OuterNew: what the card says of the program, in closed form. No condition. -/
import Derived.Test.YteaijdgnagkllaaGreatDoorZ37
namespace Go.Proofs.YteaijdgnagkllaaGreatDoor.outerNew
open Go.ChangeShapes Go.WideShapes Go.ChangeAt Go.RowKit LawF
set_option linter.unusedVariables false
set_option linter.unusedSimpArgs false
theorem textual:Rows.outerNewRow.wfByText (OpenSpec.ofChange Rows.outerNewSpec)=true:=by kernel_rfl
theorem mains:Tryz.pinned.checked.prog.mainIs=some (Rows.outerNewCard.stood.harness.1,Rows.outerNewCard.stood.harness.2.toList):=by kernel_rfl
theorem looked:Rows.outerNewCard.stood.looks=Tryz.pinned.checked.prog.looks []:=by kernel_rfl
theorem goesNot:false=Rows.outerNewRow.goesBy Tryz.pinned.checked.prog:=by kernel_rfl
end Go.Proofs.YteaijdgnagkllaaGreatDoor.outerNew
