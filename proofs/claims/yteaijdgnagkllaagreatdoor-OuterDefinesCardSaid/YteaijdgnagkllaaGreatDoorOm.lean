/- Small goals that pay themselves. No condition. -/
import Derived.KernelRfl
import Derived.Lib.Hide
import Derived.WalkKit
import Derived.Test.YteaijdgnagkllaaGreatDoorProg
namespace Go.Proofs.YteaijdgnagkllaaGreatDoor
theorem oM{p:Prop}(h:p:=by omega):p:=h
theorem kR{p:Prop}(h:p:=by kernel_rfl):p:=h
theorem mo{P:Program}{f:FuncId}{a:Array Value}{w:World}{E:Ending}{R:World->Prop}{Q:Ending->World->Prop}(h:Calls P f a w (fun e w'=>e=E∧R w'))(k:∀w',R w'->Q E w'):Calls P f a w Q:=h.mono fun _ w' h=>h.1▸k w' h.2
end Go.Proofs.YteaijdgnagkllaaGreatDoor
