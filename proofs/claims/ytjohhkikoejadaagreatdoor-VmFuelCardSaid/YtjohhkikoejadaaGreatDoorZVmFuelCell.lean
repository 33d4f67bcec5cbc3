/- The law VmFuel: what the card says of the program, in closed form. No condition. -/
import Derived.Test.YtjohhkikoejadaaGreatDoorZ29
namespace Go.Proofs.YtjohhkikoejadaaGreatDoor.vmFuel
open Go.ChangeShapes Go.WideShapes Go.ChangeAt Go.RowKit LawF
set_option linter.unusedVariables false
theorem textual:Rows.vmFuelRow.wfByText (OpenSpec.ofChange Rows.vmFuelSpec) =true:=by kernel_rfl
theorem mains:Tryz.pinned.checked.prog.mainIs=some (Rows.vmFuelCard.stood.harness.1,Rows.vmFuelCard.stood.harness.2.toList):=by kernel_rfl
theorem looked:Rows.vmFuelCard.stood.looks=Tryz.pinned.checked.prog.looks []:=by kernel_rfl
theorem goesNot:false=Rows.vmFuelRow.goesBy Tryz.pinned.checked.prog:=by kernel_rfl
end Go.Proofs.YtjohhkikoejadaaGreatDoor.vmFuel
