/- Chapter 11: the parts of VParts leave all but the stacks and cells of the image as it was, and do not look at their fuel. No condition. Printed by gen_vnear.py. -/
import Derived.Test.YteaijdgnagkllaaGreatDoorZdVKeep
import Derived.Test.YteaijdgnagkllaaGreatDoorZdVGoes
namespace Go.Proofs.YteaijdgnagkllaaGreatDoor
set_option linter.unusedVariables false
set_option linter.unusedSimpArgs false
set_option maxHeartbeats 8000000
set_option maxRecDepth 100000
open Go.RowKit Go.Lib
namespace Vm
theorem At8.near{S S':Img}{D:Dc}{fr en:Nat}(h:At8 S D fr en)(ha:Alike S S')(hS:S'.Ok):At8 S' D fr en:=by
 refine h.next hS ?_ ha rfl
 have hb: ∀n,S'.beg n=S.beg n:=λn=>ha.beg n
 have e1:D.fr S'=D.fr S:=by unfold Dc.fr;rw[hb]
 have e2:D.lim S'=D.lim S:=by unfold Dc.lim;rw[hb]
 exact⟨h.ok.rg,by rw[e1];exact h.ok.lo,by rw[e2];exact h.ok.hi,by rw[e1,e2];exact h.ok.l,by rw[e2,hb];exact h.ok.al,by rw[e2,hb];exact h.ok.room⟩
theorem Wk.near{c:Vc}{src:Value}{s s':Mt}(h:Wk c src s)(n:Near s s'):Wk c src s':=by
 have hS:=n.ok h.dcs.at8.img
 refine⟨⟨by rw[n.hs];exact h.dcs.h,by rw[n.ls];exact h.dcs.l,?_⟩,by rw[n.hk];exact h.hk,by rw[n.lk];exact h.lk,?_,h.ws,h.tab,?_,by rw[n.fa];exact h.v1,by rw[n.us];exact h.v2,by rw[n.hd];exact h.v3⟩
 ·have e:dS s'=dS s:=by unfold dS;rw[n.hs,n.ls]
  rw[e]
  exact h.dcs.at8.near n.al hS
 ·have e:dK s'=dK s:=by unfold dK;rw[n.hk,n.lk]
  rw[e]
  exact h.kat.near n.al hS
 ·rcases h.src with h| ⟨gs,L,h⟩
  ·exact .inl h
  ·exact .inr ⟨gs,L,h.at_,by rw[n.ext];exact h.rest,by rw[n.ext];exact h.sz,by rw[n.ext];exact h.le⟩
theorem near_quo(k:Nat)(f:Bool)(a b:Int)(x:Rn)(s:Mt):Near s (quoP k f a b x s).1.s:=by
 unfold quoP
 split<;>exact Near.refl s
theorem near_parts(i:Inst)(q:Rn->Mt->Rs)(hq:parts i=some q)(x:Rn)(s:Mt):Near s (q x s).s:=by
 obtain⟨op,arg,lit,cells⟩:=i
 unfold parts at hq
 simp only at hq
 revert hq
 apply eli
 ·intro _
  exact near_back x s
 apply eli
 ·intro _
  exact near_laysR _ _ _ _
 apply eli
 ·intro _
  exact near_pushR _ _
 apply eli
 ·intro _
  exact Near.refl s
 apply eli
 ·intro _
  exact near_lays _ _ _
 apply eli
 ·intro _
  exact(near_lays _ _ _).trans (near_pushR _ _)
 apply eli
 ·intro h7
  dsimp only
  split
  ·exact near_lays _ _ _
  ·exact(near_lays _ _ _).trans (near_pushR _ _)
 apply eli
 ·intro _
  exact near_turn _ _ _ _ _
 apply eli
 ·intro _
  exact(near_lays _ _ _).trans (near_turn _ _ _ _ _)
 apply eli
 ·intro _
  exact near_cutR _ _
 apply eli
 ·intro _
  exact(near_lays _ _ _).trans (near_pushR _ _)
 apply eli
 ·intro _
  exact(near_pushR _ _).trans (near_lays _ _ _)
 apply eli
 ·intro _
  exact Near.refl s
 iterate 10 (apply eli;·intro _;exact near_laysR _ _ _ _)
 apply eli
 ·intro _
  exact near_lays _ _ _
 apply eli
 ·intro _
  exact near_lays _ _ _
 apply eli
 ·intro _
  exact(near_cutR _ _).trans (near_lays _ _ _)
 apply eli
 ·intro _
  exact near_lays _ _ _
 iterate 4 (apply eli;·intro _;exact near_laysR _ _ _ _)
 iterate 5 (apply eli;·intro _;exact near_laid _ _ _ (near_quo _ _ _ _ _ _))
 apply eli
 ·intro _
  exact near_laysR _ _ _ _
 apply eli
 ·intro _
  exact near_laysR _ _ _ _
 iterate 3 (apply eli;·intro _;exact near_laid _ _ _ (near_quo _ _ _ _ _ _))
 apply eli
 ·intro _
  exact near_laid _ _ _ (Near.refl s)
 apply eli
 ·intro _
  exact near_laid _ _ _ (near_setCell s _ _ _)
 iterate 19 (apply eli;·intro _;exact near_laysR _ _ _ _)
 intro hq
 cases hq
end Vm
end Go.Proofs.YteaijdgnagkllaaGreatDoor
