/- The law VmNew, walked. No condition but that the arguments are cells. Printed by gen_vnew.py. -/
import Derived.Test.YtjohhkikoejadaaGreatDoorZ02
import Derived.Test.YtjohhkikoejadaaGreatDoorZ45
import Derived.Deep.DeepCutAuto
import Derived.Deep.RegionWith
namespace Go.Proofs.YtjohhkikoejadaaGreatDoor
set_option linter.unusedVariables false
set_option linter.unusedSimpArgs false
set_option maxRecDepth 100000
open Go.RowKit Go.Lib Go.Deep
namespace Vm
theorem NM(s:Setup) : (x41 s).S=s.ri:=by
 obtain⟨f1,f2,f3,f4,f5,f6,f7,f8⟩:=je (s.ret.take 8) ((s.data.take 16).foldl St.onD (st0 s.i3 (x32 s)))
 obtain⟨g1,g2,g3,g4,g5,g6,g7,g8⟩:=gJ (s.data.take 16) (st0 s.i3 (x32 s))
 show(((s.ret.take 8).foldl St.onR ((s.data.take 16).foldl St.onD (st0 s.i3 (x32 s)))).R).setCell 0 16448 s.base=_
 rw[f7,g7]
 rfl
theorem Jk(s:Setup) :s.ri.Ok∧cJ s.ri:=by
 obtain⟨h1,h2⟩:=lr s
 unfold Setup.ri
 rw[rq h2]
 exact⟨cV h1 _ _ (by rw[aJ];have:=h2.fY;omega),iC h2 _ _⟩
section
variable {w W:World}{F:Nat->Prop}{a:Mw}{b:Bc}{r:Rc}{x:Rw}{t:Mt}{c:Vc}
end
end Vm
end Go.Proofs.YtjohhkikoejadaaGreatDoor
