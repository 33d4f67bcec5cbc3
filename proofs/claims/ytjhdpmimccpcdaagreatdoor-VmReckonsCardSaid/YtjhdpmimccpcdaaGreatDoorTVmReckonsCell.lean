/- The law VmReckons: what the card says of the program, in closed form. No condition. -/
import Derived.Test.YtjhdpmimccpcdaaGreatDoorTVTabs
namespace Go.Proofs.YtjhdpmimccpcdaaGreatDoor.vmReckons
open Go.ChangeShapes Go.WideShapes Go.ChangeAt Go.RowKit LawF
set_option linter.unusedVariables false
theorem textual : Rows.vmReckonsRow.wfByText (OpenSpec.ofChange Rows.vmReckonsSpec) = true := by kernel_rfl
theorem mains : Tryz.pinned.checked.prog.mainIs = some (Rows.vmReckonsCard.stood.harness.1, Rows.vmReckonsCard.stood.harness.2.toList) := by kernel_rfl
theorem looked : Rows.vmReckonsCard.stood.looks = Tryz.pinned.checked.prog.looks [] := by kernel_rfl
theorem goesNot : false = Rows.vmReckonsRow.goesBy Tryz.pinned.checked.prog := by kernel_rfl
end Go.Proofs.YtjhdpmimccpcdaaGreatDoor.vmReckons
