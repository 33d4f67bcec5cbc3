/- The law VmAsked: what the card says of the program, in closed form. No condition. -/
import Derived.Test.YtilaogbkdbbdkaaGreatDoorZ14
namespace Go.Proofs.YtilaogbkdbbdkaaGreatDoor.vmAsked
open Go.ChangeShapes Go.WideShapes Go.ChangeAt Go.RowKit LawF
set_option linter.unusedVariables false
theorem textual:Rows.vmAskedRow.wfByText (OpenSpec.ofChange Rows.vmAskedSpec)=true:=by kernel_rfl
theorem mains:Tryz.pinned.checked.prog.mainIs=some (Rows.vmAskedCard.stood.harness.1,Rows.vmAskedCard.stood.harness.2.toList):=by kernel_rfl
theorem looked:Rows.vmAskedCard.stood.looks=Tryz.pinned.checked.prog.looks []:=by kernel_rfl
theorem goesNot:false=Rows.vmAskedRow.goesBy Tryz.pinned.checked.prog:=by kernel_rfl
end Go.Proofs.YtilaogbkdbbdkaaGreatDoor.vmAsked
