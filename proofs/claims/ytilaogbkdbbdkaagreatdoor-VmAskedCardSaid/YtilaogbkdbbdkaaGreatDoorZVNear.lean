/- Chapter 11. No condition. -/
import Derived.Test.YtilaogbkdbbdkaaGreatDoorZ25
import Derived.Test.YtilaogbkdbbdkaaGreatDoorZ30
namespace Go.Proofs.YtilaogbkdbbdkaaGreatDoor
set_option linter.unusedVariables false
set_option linter.unusedSimpArgs false
set_option maxHeartbeats 8000000
set_option maxRecDepth 100000
open Go.RowKit Go.Lib
namespace Vm
theorem At8.dH{S S':Img}{D:Dc}{fr en:Nat}(h:At8 S D fr en)(ha:Alike S S')(hS:S'.Ok):At8 S' D fr en:=by
 refine h.next hS ?_ ha rfl
 have hb: ∀n,S'.beg n=S.beg n:=λn=>ha.beg n
 have e1:D.fr S'=D.fr S:=by unfold Dc.fr;rw[hb]
 have e2:D.lim S'=D.lim S:=by unfold Dc.lim;rw[hb]
 exact⟨h.ok.rg,by rw[e1];exact h.ok.lo,by rw[e2];exact h.ok.hi,by rw[e1,e2];exact h.ok.l,by rw[e2,hb];exact h.ok.al,by rw[e2,hb];exact h.ok.room⟩
theorem Wk.dH{c:Vc}{src:Value}{s s':Mt}(h:Wk c src s)(n:dz s s'):Wk c src s':=by
 have hS:=n.ok h.dcs.at8.img
 refine⟨⟨by rw[n.hs];exact h.dcs.h,by rw[n.ls];exact h.dcs.l,?_⟩,by rw[n.hk];exact h.hk,by rw[n.lk];exact h.lk,?_,h.ws,h.tab,?_,by rw[n.fa];exact h.v1,by rw[n.us];exact h.v2,by rw[n.hd];exact h.v3⟩
 ·have e:dS s'=dS s:=by unfold dS;rw[n.hs,n.ls]
  rw[e]
  exact h.dcs.at8.dH n.al hS
 ·have e:dK s'=dK s:=by unfold dK;rw[n.hk,n.lk]
  rw[e]
  exact h.kat.dH n.al hS
 ·rcases h.src with h| ⟨gs,L,h⟩
  ·exact .inl h
  ·exact .inr ⟨gs,L,h.at_,by rw[n.ext];exact h.rest,by rw[n.ext];exact h.sz,by rw[n.ext];exact h.le⟩
theorem ym(k:Nat)(f:Bool)(a b:Int)(x:Rn)(s:Mt):dz s (ei k f a b x s).1.s:=by
 unfold ei
 split<;>exact dz.refl s
theorem rj(i:aq)(q:Rn->Mt->Rs)(hq:parts i=some q)(x:Rn)(s:Mt):dz s (q x s).s:=by
 obtain⟨op,arg,lit,cells⟩:=i
 unfold parts at hq
 simp only at hq
 revert hq
 apply eli
 ·intro _
  exact oG x s
 apply eli
 ·intro _
  exact fQ _ _ _ _
 apply eli
 ·intro _
  exact dW _ _
 apply eli
 ·intro _
  exact dz.refl s
 apply eli
 ·intro _
  exact aW _ _ _
 apply eli
 ·intro _
  exact(aW _ _ _).trans (dW _ _)
 apply eli
 ·intro h7
  dsimp only
  split
  ·exact aW _ _ _
  ·exact(aW _ _ _).trans (dW _ _)
 apply eli
 ·intro _
  exact vd _ _ _ _ _
 apply eli
 ·intro _
  exact(aW _ _ _).trans (vd _ _ _ _ _)
 apply eli
 ·intro _
  exact lN _ _
 apply eli
 ·intro _
  exact(aW _ _ _).trans (dW _ _)
 apply eli
 ·intro _
  exact(dW _ _).trans (aW _ _ _)
 apply eli
 ·intro _
  exact dz.refl s
 iterate 10 (apply eli;·intro _;exact fQ _ _ _ _)
 apply eli
 ·intro _
  exact aW _ _ _
 apply eli
 ·intro _
  exact aW _ _ _
 apply eli
 ·intro _
  exact(lN _ _).trans (aW _ _ _)
 apply eli
 ·intro _
  exact aW _ _ _
 iterate 4 (apply eli;·intro _;exact fQ _ _ _ _)
 iterate 5 (apply eli;·intro _;exact l7 _ _ _ (ym _ _ _ _ _ _))
 apply eli
 ·intro _
  exact fQ _ _ _ _
 apply eli
 ·intro _
  exact fQ _ _ _ _
 iterate 3 (apply eli;·intro _;exact l7 _ _ _ (ym _ _ _ _ _ _))
 apply eli
 ·intro _
  exact l7 _ _ _ (dz.refl s)
 apply eli
 ·intro _
  exact l7 _ _ _ (j9 s _ _ _)
 iterate 19 (apply eli;·intro _;exact fQ _ _ _ _)
 intro hq
 cases hq
theorem yF(k:Nat)(f:Mt->Bool)(a b:Mt->Int)(hf: ∀s l,f (s.sn l)=f s)(ha: ∀s l,a (s.sn l)=a s)(hb: ∀s l,b (s.sn l)=b s):cF (λx s=>ei k (f s) (a s) (b s) x s):=by
 intro x s n l
 show ei k (f (s.sn l)) (a (s.sn l)) (b (s.sn l)) (x.up n) (s.sn l)= ((ei k (f s) (a s) (b s) x s).1.up n l,(ei k (f s) (a s) (b s) x s).2)
 rw[hf,ha,hb]
 unfold ei
 split<;>rfl
theorem AZ(i:aq)(q:Rn->Mt->Rs)(hq:parts i=some q):Flat q:=by
 obtain⟨op,arg,lit,cells⟩:=i
 unfold parts at hq
 simp only at hq
 revert hq
 apply eli
 ·intro _
  exact oE
 apply eli
 ·intro _
  exact eZ _ _ (λ_ _ _ _=>rfl)
 apply eli
 ·intro h3
  intro x s k l
  first
   | rfl
   | (show(⟨_,_,((s.sn l).ak _ _).2⟩:Rs)=_;rw[bo];rfl)
   | (show(⟨_,_,(((s.sn l).ak _ _).2).az _⟩:Rs)=_;rw[bo];rfl)
   | fail
 apply eli
 ·intro h4
  intro x s k l
  first
   | rfl
   | (show(⟨_,_,((s.sn l).ak _ _).2⟩:Rs)=_;rw[bo];rfl)
   | (show(⟨_,_,(((s.sn l).ak _ _).2).az _⟩:Rs)=_;rw[bo];rfl)
   | fail
 apply eli
 ·intro h5
  intro x s k l
  dsimp only
  have e:ar (s.sn l) 1 0=ar s 1 0:=rfl
  rw[bo,e]
  by_cases h:ar s 1 0=0
  ·simp only[if_pos h];rfl
  ·simp only[if_neg h];rfl
 apply eli
 ·intro h6
  intro x s k l
  first
   | rfl
   | (show(⟨_,_,((s.sn l).ak _ _).2⟩:Rs)=_;rw[bo];rfl)
   | (show(⟨_,_,(((s.sn l).ak _ _).2).az _⟩:Rs)=_;rw[bo];rfl)
   | fail
 apply eli
 ·intro h7
  intro x s k l
  dsimp only
  have e0:ar (s.sn l) 2 0=ar s 2 0:=rfl
  have e1:ar (s.sn l) 2 1=ar s 2 1:=rfl
  rw[bo,e0,e1]
  by_cases h:ar s 2 0=ar s 2 1
  ·simp only[if_pos h];rfl
  ·simp only[if_neg h];rfl
 apply eli
 ·intro _
  exact ur _ _ _ (λs=>s) (λ_ _ _ _=>rfl) (λ_ _ _ _=>rfl) (λ_ _=>rfl)
 apply eli
 ·intro _
  exact ur _ _ _ (λs=>(s.ak 1 []).2) (λ_ _ _ _=>rfl) (λ_ _ _ _=>rfl) (λ_ _=>by rw[bo])
 apply eli
 ·intro TK
  intro x s k l
  first
   | rfl
   | (show(⟨_,_,((s.sn l).ak _ _).2⟩:Rs)=_;rw[bo];rfl)
   | (show(⟨_,_,(((s.sn l).ak _ _).2).az _⟩:Rs)=_;rw[bo];rfl)
   | fail
 apply eli
 ·intro YL
  intro x s k l
  first
   | rfl
   | (show(⟨_,_,((s.sn l).ak _ _).2⟩:Rs)=_;rw[bo];rfl)
   | (show(⟨_,_,(((s.sn l).ak _ _).2).az _⟩:Rs)=_;rw[bo];rfl)
   | fail
 apply eli
 ·intro h16
  intro x s k l
  first
   | rfl
   | (show(⟨_,_,((s.sn l).ak _ _).2⟩:Rs)=_;rw[bo];rfl)
   | (show(⟨_,_,(((s.sn l).ak _ _).2).az _⟩:Rs)=_;rw[bo];rfl)
   | fail
 apply eli
 ·intro h20
  intro x s k l
  first
   | rfl
   | (show(⟨_,_,((s.sn l).ak _ _).2⟩:Rs)=_;rw[bo];rfl)
   | (show(⟨_,_,(((s.sn l).ak _ _).2).az _⟩:Rs)=_;rw[bo];rfl)
   | fail
 iterate 10 (apply eli;·intro _;exact eZ _ _ (λ_ _ _ _=>rfl))
 apply eli
 ·intro h11
  intro x s k l
  first
   | rfl
   | (show(⟨_,_,((s.sn l).ak _ _).2⟩:Rs)=_;rw[bo];rfl)
   | (show(⟨_,_,(((s.sn l).ak _ _).2).az _⟩:Rs)=_;rw[bo];rfl)
   | fail
 apply eli
 ·intro YQ
  intro x s k l
  first
   | rfl
   | (show(⟨_,_,((s.sn l).ak _ _).2⟩:Rs)=_;rw[bo];rfl)
   | (show(⟨_,_,(((s.sn l).ak _ _).2).az _⟩:Rs)=_;rw[bo];rfl)
   | fail
 apply eli
 ·intro h14
  intro x s k l
  have e: (s.sn l).eu ((s.sn l).r-1)= (s.eu (s.r-1)).sn l:=rfl
  dsimp only
  rw[e,bo]
  rfl
 apply eli
 ·intro h15
  intro x s k l
  first
   | rfl
   | (show(⟨_,_,((s.sn l).ak _ _).2⟩:Rs)=_;rw[bo];rfl)
   | (show(⟨_,_,(((s.sn l).ak _ _).2).az _⟩:Rs)=_;rw[bo];rfl)
   | fail
 iterate 4 (apply eli;·intro _;exact eZ _ _ (λ_ _ _ _=>rfl))
 iterate 5 (apply eli;·intro _;exact cF.laid (yF _ _ _ _ (λ_ _=>rfl) (λ_ _=>rfl) (λ_ _=>rfl)) _)
 apply eli
 ·intro _
  exact eZ _ _ (λ_ _ _ _=>rfl)
 apply eli
 ·intro _
  exact eZ _ _ (λ_ _ _ _=>rfl)
 iterate 3 (apply eli;·intro _;exact cF.laid (yF _ _ _ _ (λ_ _=>rfl) (λ_ _=>rfl) (λ_ _=>rfl)) _)
 apply eli
 ·intro _
  exact cF.laid (λx s k l=>rfl) _
 apply eli
 ·intro _
  exact cF.laid (λx s k l=>rfl) _
 iterate 19 (apply eli;·intro _;exact eZ _ _ (λ_ _ _ _=>rfl))
 intro hq
 cases hq
