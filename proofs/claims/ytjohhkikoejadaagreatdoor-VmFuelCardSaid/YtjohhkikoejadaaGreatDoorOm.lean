/- Small goals that pay themselves. No condition. -/
import Derived.KernelRfl
import Derived.Test.YtjohhkikoejadaaGreatDoorProg
namespace Go.Proofs.YtjohhkikoejadaaGreatDoor
theorem oM{p:Prop}(h:p:=by omega):p:=h
theorem kR{p:Prop}(h:p:=by kernel_rfl):p:=h
end Go.Proofs.YtjohhkikoejadaaGreatDoor
