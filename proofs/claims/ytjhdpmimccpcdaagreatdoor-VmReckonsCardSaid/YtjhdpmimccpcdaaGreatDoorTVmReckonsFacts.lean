/- The law VmReckons: what the row says of the program, in closed form, fact by fact. No condition. -/
import Derived.Test.YtjhdpmimccpcdaaGreatDoorTVTabs
namespace Go.Proofs.YtjhdpmimccpcdaaGreatDoor.vmReckons
open Go.ChangeShapes Go.WideShapes Go.ChangeAt Go.RowKit LawF
theorem band {a b : Bool} (h1 : a = true) (h2 : b = true) : (a && b) = true := by rw [h1, h2]; rfl
set_option maxHeartbeats 8000000 in
theorem closed : joinedFacts Tryz.pinned.checked.prog 6 Tryz.f6 (OpenSpec.ofChange Rows.vmReckonsSpec).bare Rows.vmReckonsRow = true := by
  unfold joinedFacts
  iterate 40 (first | refine band ?_ ?_ | skip)
  all_goals as_aux_lemma => kernel_rfl
end Go.Proofs.YtjhdpmimccpcdaaGreatDoor.vmReckons
