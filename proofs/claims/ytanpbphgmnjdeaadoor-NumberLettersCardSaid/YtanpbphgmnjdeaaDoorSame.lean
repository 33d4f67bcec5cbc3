/- What a call leaves that makes nothing. No condition. -/
import Derived.Test.YtanpbphgmnjdeaaDoorMem
namespace Go.Proofs.YtanpbphgmnjdeaaDoor
set_option linter.unusedVariables false
/-- it answers v, and the world is as it was -/
def Same (v : Value) (w : World) (e : Ending) (w' : World) : Prop := e = .returned v ∧ w' = w
end Go.Proofs.YtanpbphgmnjdeaaDoor
