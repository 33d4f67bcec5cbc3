/- What a call leaves that makes nothing. No condition. -/
import Derived.Test.YtanpbphgmnjdeabDoorMem
namespace Go.Proofs.YtanpbphgmnjdeabDoor
set_option linter.unusedVariables false
/-- it answers v, and the world is as it was -/
def Same (v : Value) (w : World) (e : Ending) (w' : World) : Prop := e = .returned v ∧ w' = w
end Go.Proofs.YtanpbphgmnjdeabDoor
