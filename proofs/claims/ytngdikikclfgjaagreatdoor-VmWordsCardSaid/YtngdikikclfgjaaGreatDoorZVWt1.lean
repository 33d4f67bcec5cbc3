/- Chapter 11: the operations that VmWords runs, as a table. No condition but those written. -/
import Derived.Test.YtngdikikclfgjaaGreatDoorZ42
import Derived.Test.YtngdikikclfgjaaGreatDoorZ29
namespace Go.Proofs.YtngdikikclfgjaaGreatDoor
set_option linter.unusedVariables false
set_option linter.unusedSimpArgs false
set_option maxRecDepth 100000
open Go.RowKit Go.Lib
namespace Vm
structure KOk(K:Kn):Prop where
 dcs: ∀c src s,K c src s->Dcs c src s
 near: ∀c src s s',K c src s->Near s s'->K c src s'
 dict: ∀c src s S' D',K c src s->S'.Ok->D'.Ok S'->Alike s.S S'->D'.rg=3->K c src (s.onDict S' D')
def commaP(x:Rn)(s:Mt):Rs×List Int:=(⟨(dS s).commaF s.S,x,s.onDict ((dS s).commaS s.S (ar s 1 0)) ((dS s).commaD s.S)⟩,[])
def createdP(arg:Int)(x:Rn)(s:Mt):Rs:=if arg=0 then back { x with next:=arg } (s.lays 0 [wrap64 (x.pc+16)]).2 else⟨0,{ x with next:=arg },(s.lays 0 [wrap64 (x.pc+16)]).2⟩
def wordTab(cr:Rn->Mt->Rs)(i:Inst):Option (Rn->Mt->Rs):=
 if i.op=85 then some cr
 else if i.op=74 then some (λx s=>Rs.laid 1 (commaP x s))
 else if i.op=18 then some doesP
 else if i.op=17 then some (createdP i.arg)
 else parts i
theorem Dcs.near{c:Vc}{src:Value}{s s':Mt}(h:Dcs c src s)(n:Near s s'):Dcs c src s':=by
 have e:dS s'=dS s:=by unfold dS;rw[n.hs,n.ls]
 refine⟨by rw[n.hs];exact h.h,by rw[n.ls];exact h.l,?_⟩
 rw[e]
 exact h.at8.near n.al (n.ok h.at8.img)
theorem Dcs.dict{c:Vc}{src:Value}{s:Mt}{S':Img}{D':Dc}(h:Dcs c src s)(hS:S'.Ok)(hD:D'.Ok S')(ha:Alike s.S S')(hr:D'.rg=3):Dcs c src (s.onDict S' D'):=by
 have hd:dS (s.onDict S' D')=D':=by
  obtain⟨rg,hh,ll⟩:=D'
  simp only at hr
  subst hr
  unfold dS Mt.onDict
  simp
 refine⟨?_,?_,?_⟩
 ·show 0<=(D'.h:Int);omega
 ·show 0<=(D'.l:Int);omega
 ·rw[hd]
  exact h.at8.next hS hD ha hr
def KwN:Kn:=λc src s=>Dcs c src s∧src = .pointer none
def KwS:Kn:=λc src s=>Dcs c src s∧∃gs L,Srcd c src s gs L
theorem kwN_ok:KOk KwN:=⟨λ_ _ _ h=>h.1,λ_ _ _ _ h n=>⟨h.1.near n,h.2⟩,λ_ _ _ _ _ h hS hD ha hr=>⟨h.1.dict hS hD ha hr,h.2⟩⟩
theorem kwS_ok:KOk KwS:=by
 refine⟨λ_ _ _ h=>h.1,λc src s s' h n=>⟨h.1.near n,?_⟩,λc src s S' D' h hS hD ha hr=>⟨h.1.dict hS hD ha hr,?_⟩⟩
 ·obtain⟨gs,L,h⟩:=h.2
  exact⟨gs,L,h.at_,by rw[n.ext];exact h.rest,by rw[n.ext];exact h.sz,by rw[n.ext];exact h.le⟩
 ·obtain⟨gs,L,h⟩:=h.2
  exact⟨gs,L,h.at_,h.rest,h.sz,h.le⟩
theorem doesG_weak{P Q:Kn}(h: ∀c src s,Q c src s->P c src s){i:Inst}{q:Rn->Mt->Rs}(hq:DoesG P i q):DoesG Q i q:=λc g x src s w F hp=>hq c g x src s w F (h c src s hp)
theorem givesG_weak{P Q:Kn}(h: ∀c src s,Q c src s->P c src s){f:FuncId}{pre:Nat->Array Value}{i:Inst}{q:Rn->Mt->Rs×List Int}(hq:GivesG P f pre i q):GivesG Q f pre i q:=λc g x src s ba w F hp=>hq c g x src s ba w F (h c src s hp)
theorem partG_weak{P Q:Kn}(h: ∀c src s,Q c src s->P c src s){f:FuncId}{i:Inst}{q:Rn->Mt->Rs}(hq:PartG P f i q):PartG Q f i q:=λc g x src s ba w F hp=>hq c g x src s ba w F (h c src s hp)
theorem ondict_ok{s:Mt}(hs:s.Ok)(S':Img)(D':Dc): (s.onDict S' D').Ok:=⟨hs.pd,hs.pr,hs.d,hs.r,hs.du,hs.dv,hs.ru,hs.rv⟩
theorem near_told(s:Mt)(x:Rn)(op:Int):Near s (s.told x op):=by
 unfold Mt.told
 split
 ·exact⟨Alike.refl _,id,rfl,rfl,rfl,rfl,rfl,rfl,rfl,rfl,rfl⟩
 ·exact Near.refl s
structure Sm(s t:Mt):Prop where
 pd:t.pd=s.pd
 pr:t.pr=s.pr
 d:t.d=s.d
 r:t.r=s.r
 tells:t.tells=s.tells
 seen:t.seen=s.seen
theorem Sm.refl(s:Mt):Sm s s:=⟨rfl,rfl,rfl,rfl,rfl,rfl⟩
theorem Sm.dict{s t:Mt}(h:Sm s t)(S':Img)(D':Dc):Sm s (t.onDict S' D'):=⟨h.pd,h.pr,h.d,h.r,h.tells,h.seen⟩
theorem Sm.read{s t:Mt}(h:Sm s t)(k:Nat):Sm s (t.readTo k):=⟨h.pd,h.pr,h.d,h.r,h.tells,h.seen⟩
theorem Sm.ok{s t:Mt}(h:Sm s t)(hs:s.Ok):t.Ok:=
 ⟨by rw[h.pd];exact hs.pd,by rw[h.pr];exact hs.pr,by rw[h.pd,h.d];exact hs.d,by rw[h.pr,h.r];exact hs.r,by rw[h.pd];exact hs.du,by rw[h.pd];exact hs.dv,by rw[h.pr];exact hs.ru,by rw[h.pr];exact hs.rv⟩
theorem near_doneW(x:Rn)(s:Mt):Near s (doneQ x s).s:=by
 unfold doneQ
 split
 ·exact Near.refl s
 ·split
  ·exact Near.refl s
  ·split
   ·exact Near.refl s
   ·exact near_setCell s _ _ _
theorem back_keepsW{x:Rn}{s:Mt}(hs:s.Ok)(hx:x.Ok): (back x s).s.Ok∧(back x s).x.Ok∧(back x s).s.tells=s.tells∧(back x s).x.left=x.left∧(back x s).s.seen=s.seen:=by
 unfold back
 split
 ·exact⟨hs,hx,rfl,rfl,rfl⟩
 ·exact⟨⟨hs.pd,hs.pr,hs.d,by have:=hs.r;show s.r-1<=s.pr.rm;omega,hs.du,hs.dv,hs.ru,hs.rv⟩,⟨hx.base,hx.base2,stopv_v64 _ _ _ _,hx.pc,hx.left,hx.left2⟩,rfl,rfl,rfl⟩
section
variable {K:Kn}{cr:Rn->Mt->Rs}
theorem keepsW_does(hK:KOk K)(arg lit cells:Int):KeepsG K ⟨18,arg,lit,cells⟩ doesP:=by
 intro c src x s hp hs hx hv1 hv2 ha
 have k1:=done_ok hs x
 have kx:=done_x x s
 have kn:=near_doneW x s
 have kt: (doneQ x s).s.tells=s.tells∧(doneQ x s).s.seen=s.seen:=by
  unfold doneQ
  split
  ·exact⟨rfl,rfl⟩
  ·split
   ·exact⟨rfl,rfl⟩
   ·split<;>exact⟨rfl,rfl⟩
 have hw:=hK.near _ _ _ _ hp kn
 unfold doesP
 split
 ·generalize (doneQ x s).s=s2 at *
  obtain⟨a1,a2,a3,a4,a5⟩:=back_keepsW k1 hx
  exact⟨a1,a2,a3.trans kt.1,by rw[a4];exact Int.le_refl _,a5.trans kt.2,hK.near _ _ _ _ hw (near_back x s2)⟩
 ·exact⟨k1,by rw[kx];exact hx,kt.1,by rw[kx];exact Int.le_refl _,kt.2,hw⟩
theorem keepsW_created(hK:KOk K)(arg lit cells:Int):KeepsG K ⟨17,arg,lit,cells⟩ (createdP arg):=by
 intro c src x s hp hs hx hv1 hv2 ha
 have h1: (s.lays 0 [wrap64 (x.pc+16)]).2.Ok:=lays_ok hs (Nat.zero_le _) (lays_len ha dd 0 1 dd dd)
 obtain⟨h2,h3,_⟩:=lays_same s 0 [wrap64 (x.pc+16)]
 have hx2: ({ x with next:=arg }:Rn).Ok:=⟨hx.base,hx.base2,hv1,hx.pc,hx.left,hx.left2⟩
 have hw:=hK.near _ _ _ _ hp (near_lays s 0 [wrap64 (x.pc+16)])
 unfold createdP
 split
 ·obtain⟨k1,k2,k3,k4,k5⟩:=back_keepsW h1 hx2
  exact⟨k1,k2,k3.trans h2,by rw[k4];exact Int.le_refl _,k5.trans h3,hK.near _ _ _ _ hw (near_back _ _)⟩
 ·exact⟨h1,hx2,h2,Int.le_refl _,h3,hw⟩
theorem mildW_comma(hK:KOk K):MildG K commaP 0:=λc src x s hp hs hx=>
 have hd:=(hK.dcs _ _ _ hp).at8
 ⟨ondict_ok hs _ _,rfl,rfl,Nat.le_refl _,(λv hv=>by cases hv),hx,Int.le_refl _,rfl,rfl,hK.dict _ _ _ _ _ hp (Dc.ok_comma hd.img hd.ok _).1 (Dc.ok_comma hd.img hd.ok _).2 (Dc.alike_comma _ _ _) (by unfold Dc.commaD;split<;>rfl)⟩
theorem word_ok(hK:KOk K)(hc: ∀arg lit cells,DoesG K ⟨85,arg,lit,cells⟩ cr∧KeepsG K ⟨85,arg,lit,cells⟩ cr)(i:Inst)(q:Rn->Mt->Rs)(hq:wordTab cr i=some q):DoesG K i q∧KeepsG K i q:=by
 obtain⟨op,arg,lit,cells⟩:=i
 unfold wordTab at hq
 simp only at hq
 revert hq
 apply eli
 ·rintro rfl
  exact hc arg lit cells
 apply eli
 ·rintro rfl
  have hm:=mildW_comma hK
  have hl:LaysG K ⟨74,arg,lit,cells⟩ commaP:=laysG_of (m:=0) 1 dd dd (by dsimp only;decide) hm
  exact⟨does3_lists K _ _ dd dd (givesG_weak hK.dcs (y_comma arg lit cells)) hl,keepsG_laid hK.near dd hl hm⟩
 apply eli
 ·rintro rfl
  exact⟨does_controlG K _ _ dd (partG_weak hK.dcs (ctl_does arg lit cells)),keepsW_does hK arg lit cells⟩
 apply eli
 ·rintro rfl
  exact⟨(does_control _ _ dd (ctl_created arg lit cells)).toG K,keepsW_created hK arg lit cells⟩
 intro hq
 exact parts_okG K hK.near _ q hq
theorem tab_word(hK:KOk K)(hc: ∀arg lit cells,DoesG K ⟨85,arg,lit,cells⟩ cr∧KeepsG K ⟨85,arg,lit,cells⟩ cr)(B:Nat)(hB:B<=1000000000):
 TabOk (wordTab cr) (λn c src s=>K c src s∧s.seen.length+n<=B) (λn c src s=>K c src s∧s.seen.length+n+1<=B) (λc src s=>K c src s∧s.seen.length<=B) where
 ok:=λn i q h=>⟨λc g x src s w F hp=>(word_ok hK hc i q h).1 c g x src s w F hp.1,λc src x s hp hs hx h1 h2 ha=>by
  have k:=(word_ok hK hc i q h).2 c src x s hp.1 hs hx h1 h2 ha
  exact⟨k.1,k.2.1,k.2.2.1,k.2.2.2.1,k.2.2.2.2.2,by rw[k.2.2.2.2.1];exact hp.2⟩⟩
 push:=λn c src s l h=>⟨hK.near _ _ _ _ h.1 (near_pushR s l),h.2⟩
 told:=λn c src s x op h=>by
  have h1:=told_seen s x op
  have h2:=h.2
  exact⟨hK.near _ _ _ _ h.1 (near_told s x op),by omega⟩
 len:=λn c src s h=>by have h2:=h.2;omega
 pr:=λ_ _ _ _ h=>⟨h.1,by have h2:=h.2;omega⟩
 qr:=λ_ _ _ _ h=>⟨h.1,by have h2:=h.2;omega⟩
end
theorem crN_ok(arg lit cells:Int):DoesG KwN ⟨85,arg,lit,cells⟩ createN∧KeepsG KwN ⟨85,arg,lit,cells⟩ createN:=
 ⟨doesG_weak (λ_ _ _ h=>h.2) (does_create_none arg lit cells),λc src x s hp hs hx hv1 hv2 ha=>⟨hs,hx,rfl,Int.le_refl _,rfl,hp⟩⟩
theorem create_src:CreateOk KwS createQ:=by
 intro c g x src s w F hp hs hx hb
 obtain⟨hd,gs,L,hr⟩:=hp
 by_cases hn:x.left<exC s.ext
 ·have e:createQ x s= ⟨13,x,s⟩:=by unfold createQ;rw[if_pos hn]
  rw[e]
  exact v_create_far hb hx hr hn
 ·exact v_create_near hb hx hd hr hn
theorem exC_pos{e:Ext}(hs:e.text.size<=60000)(hl:e.at_<=e.text.size):0<=exC e:=by
 have h:=(ex_bounds hs hl).1
 unfold exC
 split<;>omega
theorem crS1_srcd{c:Vc}{src:Value}{s:Mt}{gs:Nat}{L:List Asr}(h:Srcd c src s gs L):Srcd c src (crS1 s) gs L:=⟨h.at_,h.rest,h.sz,(ex_bounds h.sz h.le).2.1⟩
theorem crS_srcd{c:Vc}{src:Value}{s:Mt}{gs:Nat}{L:List Asr}(h:Srcd c src s gs L)(S':Img)(D':Dc):Srcd c src (s.onDict S' D') gs L:=⟨h.at_,h.rest,h.sz,h.le⟩
theorem keepsW_create(arg lit cells:Int):KeepsG KwS ⟨85,arg,lit,cells⟩ createQ:=by
 intro c src x s hp hs hx hv1 hv2 ha
 obtain⟨hd,gs,L,hr⟩:=hp
 have h0:=exC_pos hr.sz hr.le
 have hl1:=hx.left
 have hl2:=hx.left2
 have d1:=crS1_ok hd
 have d2:=crS2_ok d1
 have d3:=crS3_ok d2 17
 have d4:=crS3_ok d3 0
 have r1:=crS1_srcd hr
 have r2:Srcd c src (crS2 (crS1 s)) gs L:=crS_srcd r1 _ _
 have r3:Srcd c src (crS3 17 (crS2 (crS1 s))) gs L:=crS_srcd r2 _ _
 have r4:Srcd c src (crS3 0 (crS3 17 (crS2 (crS1 s)))) gs L:=crS_srcd r3 _ _
 have m1:Sm s (crS1 s):=((Sm.refl s).read _).dict _ _
 have m2:Sm s (crS2 (crS1 s)):=m1.dict _ _
 have m3:Sm s (crS3 17 (crS2 (crS1 s))):=m2.dict _ _
 have m4:Sm s (crS3 0 (crS3 17 (crS2 (crS1 s)))):=m3.dict _ _
 have hQ: ∀(f:Int) (x1:Rn) (t:Mt),x1.Ok->x1.left<=x.left->Sm s t->Dcs c src t->Srcd c src t gs L->∀q:Rs,q= ⟨f,x1,t⟩ ->q.s.Ok∧q.x.Ok∧q.s.tells=s.tells∧q.x.left<=x.left∧q.s.seen=s.seen∧KwS c src q.s:=by
  rintro f x1 t h1 h2 h3 h4 h5 q rfl
  exact⟨h3.ok hs,h1,h3.tells,h2,h3.seen,h4,gs,L,h5⟩
 by_cases hn:x.left<exC s.ext
 ·exact hQ 13 x s hx (Int.le_refl _) (Sm.refl s) hd hr _ (by unfold createQ;rw[if_pos hn])
 have hx1: ({ x with left:=x.left-exC s.ext }:Rn).Ok:=⟨hx.base,hx.base2,hx.next,hx.pc,by show 0<=x.left-exC s.ext;omega,by show x.left-exC s.ext<=1000000;omega⟩
 have hle: ({ x with left:=x.left-exC s.ext }:Rn).left<=x.left:=by show x.left-exC s.ext<=x.left;omega
 by_cases h1: (dS s).createF s.S (exW s.ext).data.toList≠0
 ·exact hQ _ _ _ hx1 hle m1 d1 r1 _ (by unfold createQ;rw[if_neg hn];simp only;rw[if_pos h1])
 by_cases h2: (dS (crS2 (crS1 s))).commaF (crS2 (crS1 s)).S≠0
 ·exact hQ _ _ _ hx1 hle m3 d3 r3 _ (by unfold createQ;rw[if_neg hn];simp only;rw[if_neg h1,if_pos h2])
 ·exact hQ _ _ _ hx1 hle m4 d4 r4 _ (by unfold createQ;rw[if_neg hn];simp only;rw[if_neg h1,if_neg h2])
theorem crS_ok(arg lit cells:Int):DoesG KwS ⟨85,arg,lit,cells⟩ createQ∧KeepsG KwS ⟨85,arg,lit,cells⟩ createQ:=⟨does_create KwS arg lit cells createQ create_src,keepsW_create arg lit cells⟩
end Vm
end Go.Proofs.YtngdikikclfgjaaGreatDoor
