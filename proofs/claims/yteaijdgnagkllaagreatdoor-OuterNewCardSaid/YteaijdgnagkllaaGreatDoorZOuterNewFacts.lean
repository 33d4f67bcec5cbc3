/- The law OuterNew: what the row says of the program, in closed form, fact by fact. No condition. -/
import Derived.Test.YteaijdgnagkllaaGreatDoorZ37
namespace Go.Proofs.YteaijdgnagkllaaGreatDoor.outerNew
set_option maxHeartbeats 8000000
open Go.ChangeShapes Go.WideShapes Go.ChangeAt Go.RowKit LawF
theorem band{a b:Bool}(h1:a=true)(h2:b=true): (a&&b)=true:=by rw[h1,h2];rfl
theorem closed:joinedFacts Tryz.pinned.checked.prog 3 Tryz.f3 (OpenSpec.ofChange Rows.outerNewSpec).bare Rows.outerNewRow=true:=by
 unfold joinedFacts
 iterate 40 (first|refine band ?_ ?_|skip)
 all_goals as_aux_lemma=>kernel_rfl
end Go.Proofs.YteaijdgnagkllaaGreatDoor.outerNew
