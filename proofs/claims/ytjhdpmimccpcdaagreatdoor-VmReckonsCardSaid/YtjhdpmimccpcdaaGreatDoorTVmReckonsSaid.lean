/- The law VmReckons: the row, of its walk. No condition. -/
import Derived.Test.YtjhdpmimccpcdaaGreatDoorTVmReckonsLift
import Derived.Test.YtjhdpmimccpcdaaGreatDoorTVmReckonsFacts
namespace Go.Proofs.YtjhdpmimccpcdaaGreatDoor.vmReckons
open Go.ChangeShapes Go.WideShapes Go.ChangeAt Go.RowKit LawF
set_option linter.unusedVariables false
theorem said : Rows.VmReckonsSaid :=
  OpenClaim.holds_of_cond 6 Tryz.f6 rfl rfl rfl rfl rfl rfl rfl ⟨rfl, rfl, rfl, rfl, rfl⟩ rfl rfl rfl rfl rfl (by kernel_rfl) Tryz.func6 closed
    (of_decide_eq_true (by kernel_rfl)) (by unfold Func.isWrapper; first | (rw [if_pos (by decide +kernel)]; kernel_rfl) | (rw [if_neg (by decide +kernel)]; exact ⟨rfl, rfl⟩))
    (fun os started H enc _ F => by rw [OpenClaim.pre_eq_preRow]; exact lifted os started H enc F)
end Go.Proofs.YtjhdpmimccpcdaaGreatDoor.vmReckons
