/- The law OuterNew: the row, of its walk. No condition. -/
import Derived.Test.YteaijdgnagkllaaGreatDoorZOuterNewLift
import Derived.Test.YteaijdgnagkllaaGreatDoorZOuterNewFacts
namespace Go.Proofs.YteaijdgnagkllaaGreatDoor.outerNew
open Go.ChangeShapes Go.WideShapes Go.ChangeAt Go.RowKit LawF
set_option linter.unusedVariables false
set_option linter.unusedSimpArgs false
theorem said:Rows.OuterNewSaid:=
 OpenClaim.holds_of_cond 3 Tryz.f3 rfl rfl rfl rfl rfl rfl rfl ⟨rfl,rfl,rfl,rfl,rfl⟩ rfl rfl rfl rfl rfl (by kernel_rfl) Tryz.func3 closed
  (of_decide_eq_true (by kernel_rfl)) (by unfold Func.isWrapper;first| (rw[if_pos (by decide +kernel)];kernel_rfl) | (rw[if_neg (by decide +kernel)];exact⟨rfl,rfl⟩))
  (λos started H enc _ F=>by rw[OpenClaim.pre_eq_preRow];exact lifted os started H enc F)
end Go.Proofs.YteaijdgnagkllaaGreatDoor.outerNew
