/- The law OuterDefines: what the row says of the program, in closed form, fact by fact. No condition. -/
import Derived.Test.YteaijdgnagkllaaGreatDoorZd37
namespace Go.Proofs.YteaijdgnagkllaaGreatDoor.outerDefines
set_option maxHeartbeats 8000000
open Go.ChangeShapes Go.WideShapes Go.ChangeAt Go.RowKit LawF
theorem band{a b:Bool}(h1:a=true)(h2:b=true): (a&&b)=true:=by rw[h1,h2];rfl
theorem closed:joinedFacts Tryz.pinned.checked.prog 4 Tryz.f4 (OpenSpec.ofChange Rows.outerDefinesSpec).bare Rows.outerDefinesRow=true:=by
 unfold joinedFacts
 iterate 40 (first|refine band ?_ ?_|skip)
 all_goals as_aux_lemma=>kernel_rfl
end Go.Proofs.YteaijdgnagkllaaGreatDoor.outerDefines
