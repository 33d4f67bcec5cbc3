/- The law VmNew, walked. No condition but that the arguments are cells. Printed by gen_vnew.py. -/
import Derived.Test.YtngdikikclfgjaaGreatDoorZ44
namespace Go.Proofs.YtngdikikclfgjaaGreatDoor
set_option linter.unusedVariables false
set_option linter.unusedSimpArgs false
set_option maxRecDepth 100000
open Go.RowKit Go.Lib Go.Deep
namespace Vm
theorem x41_S(s:Setup): (x41 s).S=s.ri:=by
 obtain⟨f1,f2,f3,f4,f5,f6,f7,f8⟩:=onR_fold (s.ret.take 8) ((s.data.take 16).foldl St.onD (st0 s.i3 (x32 s)))
 obtain⟨g1,g2,g3,g4,g5,g6,g7,g8⟩:=onD_fold (s.data.take 16) (st0 s.i3 (x32 s))
 show(((s.ret.take 8).foldl St.onR ((s.data.take 16).foldl St.onD (st0 s.i3 (x32 s)))).R).setCell 0 16448 s.base=_
 rw[f7,g7]
 rfl
theorem made_pair{w W:World}{s:Setup}{m:Sl}(hb:Below w.heap.size w W)(hs:SetIn W s m):Calls Tryz.prog 5 #[.agg (setupC s m)] W (λe w'=> ∃(a:Mw) (b:Bc) (r:Rc),e = .returned (.pointer b.gB)∧b.gW=r.gW∧On Nob w (AllA (mL (endC a b r (x41 s)) s.mt)) w'):=by
 refine(b_made hs).mono ?_
 rintro e w1 ⟨B,⟨a,b,r,hW,rfl,rfl⟩,hon⟩
 exact⟨a,b,r,rfl,hW,On.rebase hb hon⟩
section
variable {w W:World}{F:Nat->Prop}{a:Mw}{b:Bc}{r:Rc}{x:Rw}{t:Mt}{c:Vc}
theorem pair_doc(h:On F w (AllA (mL (endC a b r x) t)) W):On F w (DocA r r.gS a.v2 x) W:=h.tail.tail.tail.tail.tail.tail.tail.tail.tail.tail.tail
end
end Vm
end Go.Proofs.YtngdikikclfgjaaGreatDoor
