/- The law VmAsked: the row, of its walk. No condition. -/
import Derived.Test.YtilaogbkdbbdkaaGreatDoorZVmAskedLift
import Derived.Test.YtilaogbkdbbdkaaGreatDoorZVmAskedFacts
namespace Go.Proofs.YtilaogbkdbbdkaaGreatDoor.vmAsked
open Go.ChangeShapes Go.WideShapes Go.ChangeAt Go.RowKit LawF
set_option linter.unusedVariables false
theorem said:Rows.VmAskedSaid:=
 OpenClaim.holds_of_cond 3 Tryz.f3 rfl rfl rfl rfl rfl rfl rfl ⟨rfl,rfl,rfl,rfl,rfl⟩ rfl rfl rfl rfl rfl (by kernel_rfl) Tryz.func3 closed
  (of_decide_eq_true (by kernel_rfl)) (by unfold Func.isWrapper;first| (rw[if_pos (by decide +kernel)];kernel_rfl) | (rw[if_neg (by decide +kernel)];exact⟨rfl,rfl⟩))
  (λos started H enc _ F=>by rw[OpenClaim.pre_eq_preRow];exact lifted os started H enc F)
end Go.Proofs.YtilaogbkdbbdkaaGreatDoor.vmAsked
