/- The law VmLoops: what the card says of the program, in closed form. No condition. -/
import Derived.Test.YtjhdpmimccpcdaaGreatDoorQVTabs
namespace Go.Proofs.YtjhdpmimccpcdaaGreatDoor.vmLoops
open Go.ChangeShapes Go.WideShapes Go.ChangeAt Go.RowKit LawF
set_option linter.unusedVariables false
theorem textual : Rows.vmLoopsRow.wfByText (OpenSpec.ofChange Rows.vmLoopsSpec) = true := by kernel_rfl
theorem mains : Tryz.pinned.checked.prog.mainIs = some (Rows.vmLoopsCard.stood.harness.1, Rows.vmLoopsCard.stood.harness.2.toList) := by kernel_rfl
theorem looked : Rows.vmLoopsCard.stood.looks = Tryz.pinned.checked.prog.looks [] := by kernel_rfl
theorem goesNot : false = Rows.vmLoopsRow.goesBy Tryz.pinned.checked.prog := by kernel_rfl
end Go.Proofs.YtjhdpmimccpcdaaGreatDoor.vmLoops
