/- The law OuterDefines: the row, of its walk. No condition. -/
import Derived.Test.YteaijdgnagkllaaGreatDoorZdOuterDefinesLift
import Derived.Test.YteaijdgnagkllaaGreatDoorZdOuterDefinesFacts
namespace Go.Proofs.YteaijdgnagkllaaGreatDoor.outerDefines
open Go.ChangeShapes Go.WideShapes Go.ChangeAt Go.RowKit LawF
set_option linter.unusedVariables false
set_option linter.unusedSimpArgs false
theorem said:Rows.OuterDefinesSaid:=
 OpenClaim.holds_of_cond 4 Tryz.f4 rfl rfl rfl rfl rfl rfl rfl ⟨rfl,rfl,rfl,rfl,rfl⟩ rfl rfl rfl rfl rfl (by kernel_rfl) Tryz.func4 closed
  (of_decide_eq_true (by kernel_rfl)) (by unfold Func.isWrapper;first| (rw[if_pos (by decide +kernel)];kernel_rfl) | (rw[if_neg (by decide +kernel)];exact⟨rfl,rfl⟩))
  (λos started H enc _ F=>by rw[OpenClaim.pre_eq_preRow];exact lifted os started H enc F)
end Go.Proofs.YteaijdgnagkllaaGreatDoor.outerDefines
