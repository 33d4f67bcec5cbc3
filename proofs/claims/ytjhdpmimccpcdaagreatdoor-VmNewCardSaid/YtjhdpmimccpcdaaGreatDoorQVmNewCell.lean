/- The law VmNew: what the card says of the program, in closed form. No condition. -/
import Derived.Test.YtjhdpmimccpcdaaGreatDoorQVTabs
namespace Go.Proofs.YtjhdpmimccpcdaaGreatDoor.vmNew
open Go.ChangeShapes Go.WideShapes Go.ChangeAt Go.RowKit LawF
set_option linter.unusedVariables false
theorem textual : Rows.vmNewRow.wfByText (OpenSpec.ofChange Rows.vmNewSpec) = true := by kernel_rfl
theorem mains : Tryz.pinned.checked.prog.mainIs = some (Rows.vmNewCard.stood.harness.1, Rows.vmNewCard.stood.harness.2.toList) := by kernel_rfl
theorem looked : Rows.vmNewCard.stood.looks = Tryz.pinned.checked.prog.looks [] := by kernel_rfl
theorem goesNot : false = Rows.vmNewRow.goesBy Tryz.pinned.checked.prog := by kernel_rfl
end Go.Proofs.YtjhdpmimccpcdaaGreatDoor.vmNew
