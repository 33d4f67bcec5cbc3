/- Chapter 11: parts that may pay, put out, turn the wordlist: what they leave. No condition. -/
import Derived.Test.YteaijdgnagkllaaGreatDoorZdVNear
import Derived.Test.YteaijdgnagkllaaGreatDoorZd36
namespace Go.Proofs.YteaijdgnagkllaaGreatDoor
set_option linter.unusedVariables false
set_option linter.unusedSimpArgs false
set_option maxHeartbeats 8000000
set_option maxRecDepth 100000
open Go.RowKit Go.Lib
namespace Vm
def WkN:Kn:=λc src s=>Wk c src s∧src = .pointer none
theorem WkN.near{c:Vc}{src:Value}{s s':Mt}(h:WkN c src s)(n:Near s s'):WkN c src s':=⟨h.1.near n,h.2⟩
theorem Wk.setT{c:Vc}{src:Value}{s:Mt}(h:Wk c src s)(T:Caps.Tab):Wk c src { s with T:=T }:=by
 refine⟨⟨h.dcs.h,h.dcs.l,h.dcs.at8⟩,h.hk,h.lk,h.kat,h.ws,h.tab,?_,h.v1,h.v2,h.v3⟩
 rcases h.src with h| ⟨gs,L,h⟩
 ·exact .inl h
 ·exact .inr ⟨gs,L,h.at_,h.rest,h.sz,h.le⟩
theorem WkN.setT{c:Vc}{src:Value}{s:Mt}(h:WkN c src s)(T:Caps.Tab):WkN c src { s with T:=T }:=⟨h.1.setT T,h.2⟩
theorem WkN.outS{c:Vc}{src:Value}{s:Mt}(h:WkN c src s)(x:Rn)(t:ByteArray):WkN c src (s.outS x t):=h.setT _
theorem setT_ok{s:Mt}(hs:s.Ok)(T:Caps.Tab): ({ s with T:=T }:Mt).Ok:=⟨hs.pd,hs.pr,hs.d,hs.r,hs.du,hs.dv,hs.ru,hs.rv⟩
def MildG(P:Kn)(q:Rn->Mt->Rs×List Int)(m:Nat):Prop:= ∀c src x s,P c src s->s.Ok->x.Ok->(q x s).1.s.Ok∧(q x s).1.s.d=s.d∧(q x s).1.s.pd=s.pd∧(q x s).2.length<=m∧(∀v∈(q x s).2,V64 v)∧(q x s).1.x.Ok∧(q x s).1.x.left<=x.left∧(q x s).1.s.tells=s.tells∧(q x s).1.s.seen=s.seen∧P c src (q x s).1.s
def KeepsG(P:Kn)(i:Inst)(q:Rn->Mt->Rs):Prop:= ∀c src x s,P c src s->s.Ok->x.Ok->V64 i.arg->V64 i.lit->Asked i x s->(q x s).s.Ok∧(q x s).x.Ok∧(q x s).s.tells=s.tells∧(q x s).x.left<=x.left∧(q x s).s.seen=s.seen∧P c src (q x s).s
theorem laysG_of{P:Kn}{i:Inst}{q:Rn->Mt->Rs×List Int}{m:Nat}(n:Nat)(hn: (Code.wants i.op).1=n)(hm: (Code.wants i.op).2=m)(h26:i.op≠26)(h:MildG P q m):LaysG P i q:=by
 intro c src x s hp hs hx ha hf
 obtain⟨h1,h2,h3,h4,h5,_⟩:=h c src x s hp hs hx
 refine⟨h1,h2,?_,h5⟩
 have h6:=ha.room
 have h7:=ha.tk
 rw[if_neg (by rintro⟨h,_⟩;exact h26 h)]at h6
 rw[h3]
 omega
theorem keepsG_laid{P:Kn}(hP: ∀c src s s',P c src s->Near s s'->P c src s'){i:Inst}{q:Rn->Mt->Rs×List Int}{n m:Nat}(hn: (Code.wants i.op).1=n)(hl:LaysG P i q)(hm:MildG P q m):KeepsG P i (λx s=>Rs.laid n (q x s)):=by
 intro c src x s hp hs hx hv1 hv2 ha
 obtain⟨h1,h2,h3,h4,h5,h6,h7,h8,h9,h10⟩:=hm c src x s hp hs hx
 have h11:=ha.tk
 have hl':=hl c src x s hp hs hx ha
 unfold Rs.laid
 by_cases hf: (q x s).1.f=0
 ·simp only[if_pos hf]
  obtain⟨_,_,k3,_⟩:=hl' hf
  have e: (Code.wants i.op).1.toNat=n:=by omega
  rw[e]at k3
  refine⟨lays_ok h1 (by rw[h2];omega) (by rw[h2];exact k3),h6,?_,h7,?_,hP _ _ _ _ h10 (near_lays _ _ _)⟩
  ·show(((q x s).1.s).lays n _).2.tells=_
   rw[(lays_same _ n _).1,h8]
  ·show(((q x s).1.s).lays n _).2.seen=_
   rw[(lays_same _ n _).2.1,h9]
 ·simp only[if_neg hf]
  exact⟨h1,h6,h8,h7,h9,h10⟩
theorem parts_okG(P:Kn)(hP: ∀c src s s',P c src s->Near s s'->P c src s')(i:Inst)(q:Rn->Mt->Rs)(hq:parts i=some q):DoesG P i q∧KeepsG P i q:=by
 obtain⟨h1,h2⟩:=parts_ok i q hq
 refine⟨h1.toG P,λc src x s hp hs hx hv1 hv2 ha=> ?_⟩
 obtain⟨k1,k2,k3,k4,k5⟩:=h2 x s hs hx hv1 hv2 ha
 exact⟨k1,k2,k3,by rw[k4];exact Int.le_refl _,k5,hP _ _ _ _ hp (near_parts i q hq x s)⟩
def KeepsT(P Q:Kn)(i:Inst)(q:Rn->Mt->Rs):Prop:= ∀c src x s,P c src s->s.Ok->x.Ok->V64 i.arg->V64 i.lit->Asked i x s->(q x s).s.Ok∧(q x s).x.Ok∧(q x s).s.tells=s.tells∧(q x s).x.left<=x.left∧Q c src (q x s).s
structure TabOk(tab:Inst->Option (Rn->Mt->Rs))(P Q:Nat->Kn)(R:Kn):Prop where
 ok: ∀n i q,tab i=some q->DoesG (P (n+1)) i q∧KeepsT (P (n+1)) (Q n) i q
 push: ∀n c src s l,P n c src s->P n c src (s.pushR l)
 told: ∀n c src s x op,Q n c src s->P n c src (s.told x op)
 len: ∀n c src s,Q n c src s->s.seen.length<1000000000
 pr: ∀n c src s,P n c src s->R c src s
 qr: ∀n c src s,Q n c src s->R c src s
def stepT(tab:Inst->Option (Rn->Mt->Rs))(x:Rn)(s:Mt):Option Rs:=
 if x.left=0 then some ⟨13,x,s⟩
 else if(s.S.fetch x.mode x.pc).2≠0 then some ⟨(s.S.fetch x.mode x.pc).2,{ x with left:=x.left-1 },s⟩
 else
  let i:=(s.S.fetch x.mode x.pc).1
  let x2:={ x with left:=x.left-1,next:=wrap64 (x.pc+8*i.cells) }
  if asks i x2 s≠0 then some ⟨asks i x2 s,x2,s⟩
  else(tab i).map λq=>if(q x2 s).f≠0 then q x2 s else⟨0,{ (q x2 s).x with pc:=(q x2 s).x.next },(q x2 s).s.told (q x2 s).x i.op⟩
def goesT(tab:Inst->Option (Rn->Mt->Rs)):Nat->Rn->Mt->Option Rs
 | 0,_,_=>none
 | n+1,x,s=>
   match stepT tab x s with
   | none=>none
   | some q=>if q.f≠0 then some q else if q.x.over then some q else goesT tab n q.x q.s
section
variable {tab:Inst->Option (Rn->Mt->Rs)}{P Q:Nat->Kn}{R:Kn}
theorem goesT_ok(ht:TabOk tab P Q R)(c:Vc)(src:Value): ∀(n:Nat) (x:Rn) (s:Mt) (q:Rs),P n c src s->s.Ok->x.Ok->goesT tab n x s=some q->q.s.Ok∧(0<=q.x.left∧q.x.left<=x.left)∧q.s.tells=s.tells∧R c src q.s
 | 0,_,_,_,_,_,_,h=>by cases h
 | n+1,x,s,q,hp0,hs,hx,h=>by
   unfold goesT at h
   have h1:=hx.left
   have h2:=hx.left2
   have hst: ∀r,stepT tab x s=some r->r.s.Ok∧(0<=r.x.left∧r.x.left<=x.left)∧r.s.tells=s.tells∧R c src r.s∧(r.f=0->r.x.Ok∧P n c src r.s):=by
    intro r hr
    unfold stepT at hr
    by_cases hl:x.left=0
    ·rw[if_pos hl]at hr
     obtain rfl:=Option.some.inj hr
     exact⟨hs,⟨h1,Int.le_refl _⟩,rfl,ht.pr _ _ _ _ hp0,λh=>by cases h⟩
    rw[if_neg hl]at hr
    by_cases hf: (s.S.fetch x.mode x.pc).2≠0
    ·rw[if_pos hf]at hr
     obtain rfl:=Option.some.inj hr
     exact⟨hs,⟨by show 0<=x.left-1;omega,by show x.left-1<=x.left;omega⟩,rfl,ht.pr _ _ _ _ hp0,λh=>absurd h hf⟩
    rw[if_neg hf]at hr
    have hx2: ({ x with left:=x.left-1,next:=wrap64 (x.pc+8* (s.S.fetch x.mode x.pc).1.cells) }:Rn).Ok:=
     ⟨hx.base,hx.base2,wrap_v64 _,hx.pc,by show 0<=x.left-1;omega,by show x.left-1<=1000000;omega⟩
    simp only at hr
    have hfv:=fetch_v64 s.S x.mode x.pc
    generalize (s.S.fetch x.mode x.pc).1=i at *
    have hl2: ({ x with left:=x.left-1,next:=wrap64 (x.pc+8*i.cells) }:Rn).left=x.left-1:=rfl
    generalize ({ x with left:=x.left-1,next:=wrap64 (x.pc+8*i.cells) }:Rn)=x2 at *
    by_cases ha:asks i x2 s≠0
    ·rw[if_pos ha]at hr
     obtain rfl:=Option.some.inj hr
     exact⟨hs,⟨by show 0<=x2.left;omega,by show x2.left<=x.left;omega⟩,rfl,ht.pr _ _ _ _ hp0,λh=>absurd h ha⟩
    rw[if_neg ha]at hr
    rcases hp:tab i with _|T
    ·rw[hp]at hr;cases hr
    rw[hp]at hr
    obtain⟨_,hke⟩:=ht.ok n i T hp
    obtain⟨hs3,hx3,ht3,hl3,hw3⟩:=hke c src x2 s hp0 hs hx2 hfv.1 hfv.2.1 (Asked.of (by simpa using ha))
    simp only[Option.map_some]at hr
    generalize T x2 s=Z at *
    by_cases hZ:Z.f≠0
    ·rw[if_pos hZ]at hr
     obtain rfl:=Option.some.inj hr
     exact⟨hs3,⟨by have:=hx3.left;omega,by omega⟩,ht3,ht.qr _ _ _ _ hw3,λh=>absurd h hZ⟩
    rw[if_neg hZ]at hr
    obtain rfl:=Option.some.inj hr
    have hw4:=ht.told _ _ _ _ Z.x i.op hw3
    refine⟨told_ok hs3 _ _,⟨by have:=hx3.left;show 0<=Z.x.left;omega,by show Z.x.left<=x.left;omega⟩,?_,ht.pr _ _ _ _ hw4,λ_=>⟨⟨hx3.base,hx3.base2,hx3.next,hx3.next,hx3.left,hx3.left2⟩,hw4⟩⟩
    show(Z.s.told Z.x i.op).tells=s.tells
    unfold Mt.told
    split<;>exact ht3
   rcases hr:stepT tab x s with _|r
   ·rw[hr]at h;cases h
   rw[hr]at h
   obtain⟨a1,a2,a3,aw,a4⟩:=hst r hr
   simp only at h
   by_cases hf:r.f≠0
   ·rw[if_pos hf]at h
    obtain rfl:=Option.some.inj h
    exact⟨a1,a2,a3,aw⟩
   rw[if_neg hf]at h
   by_cases ho:r.x.over=true
   ·rw[if_pos ho]at h
    obtain rfl:=Option.some.inj h
    exact⟨a1,a2,a3,aw⟩
   rw[if_neg ho]at h
   obtain⟨b1,b2⟩:=a4 (by simpa using hf)
   obtain⟨c1,c2,c3,c4⟩:=goesT_ok ht c src n r.x r.s q b2 a1 b1 h
   exact⟨c1,⟨c2.1,by omega⟩,c3.trans a3,c4⟩
end
theorem KCode.cell{S:Img}{a rg:Nat}{cs:List Int}(h:KCode S a cs)(hrg:rg=1∨rg=3)(hlo:S.beg rg<=a)(hhi:a+8*cs.length<=S.beg (rg+1))(m:Int)(hm:0<=m∧m<=2)(i:Nat)(v:Int)(hv:cs[i]? = some v):S.cellF m ((a:Int) +8* (i:Int)) false=0∧S.cellV m ((a:Int) +8* (i:Int))=v:=by
 have hi:i<cs.length:=(List.getElem?_eq_some_iff.1 hv).1
 have h3:=h.al
 rw[show(a:Int) +8* (i:Int)= ((a+8*i:Nat):Int)by omega]
 have hr:S.region ((a+8*i:Nat):Int)=rg:=S.region_eq oM (by rcases hrg with rfl|rfl<;>omega) (by rcases hrg with rfl|rfl<;>omega) oM oM
 have hrow:S.rowOk m ((a+8*i:Nat):Int) 8 false=true:=by
  unfold Img.rowOk Img.lets Img.may
  rw[hr]
  have h4:decide (((8:Nat):Int)<=(S.beg (rg+1):Int) - ((a+8*i:Nat):Int))=true:=decide_eq_true oM
  rw[h4]
  rcases(show m=0∨m=1∨m=2 by omega)with rfl|rfl|rfl<;>rcases hrg with rfl|rfl<;>cases S.cl<;>simp
 have hF:S.cellF m ((a+8*i:Nat):Int) false=0:=by
  unfold Img.cellF
  rw[if_neg oM,if_pos hrow]
 refine⟨hF,?_⟩
 unfold Img.cellV
 rw[if_pos hF]
 exact h.at_ i v hv
theorem KCode.fetch{S:Img}{a rg:Nat}{cs:List Int}(h:KCode S a cs)(hrg:rg=1∨rg=3)(hlo:S.beg rg<=a)(hhi:a+8*cs.length<=S.beg (rg+1))(m:Int)(hm:0<=m∧m<=2)(i:Nat)(v op arg:Int)(hv:cs[i]? = some v)(hu:Code.unpack v= (op,arg,true))(h2:op≠2)(h19:op≠19):S.fetch m ((a:Int) +8* (i:Int))= (⟨op,arg,0,1⟩,0):=by
 obtain⟨h3,h4⟩:=h.cell hrg hlo hhi m hm i v hv
 unfold Img.fetch
 rw[if_neg (by rw[h3];decide),h4,hu,if_neg (by simp),if_neg h2,if_neg h19]
section
variable {tab:Inst->Option (Rn->Mt->Rs)}{x:Rn}{s:Mt}
theorem stepT_op{i:Inst}{q:Rn->Mt->Rs}(hl:x.left≠0)(hf:s.S.fetch x.mode x.pc= (i,0))(hp:tab i=some q)(n:Int)(hn:wrap64 (x.pc+8*i.cells)=n)
 (ha:asks i { x with left:=x.left-1,next:=n } s=0) (x2:Rn) (s2:Mt) (hq:q { x with left:=x.left-1,next:=n } s= ⟨0,x2,s2⟩) (ht:s2.tells=false):
 stepT tab x s=some ⟨0,{ x2 with pc:=x2.next },s2⟩:=by
 unfold stepT
 rw[if_neg hl,hf,if_neg (by simp)]
 simp only
 rw[hn,if_neg (by rw[ha];decide),hp,Option.map_some,hq]
 simp only
 rw[if_neg (by decide)]
 unfold Mt.told
 rw[ht]
 rfl
theorem goesT_on{n:Nat}{x2:Rn}{s2:Mt}(h:stepT tab x s=some ⟨0,x2,s2⟩)(ho:x2.over=false):goesT tab (n+1) x s=goesT tab n x2 s2:=by
 rw[goesT,h]
 simp only
 rw[if_neg (by decide),if_neg (by rw[ho];decide)]
theorem goesT_over{n:Nat}{x2:Rn}{s2:Mt}(h:stepT tab x s=some ⟨0,x2,s2⟩)(ho:x2.over=true):goesT tab (n+1) x s=some ⟨0,x2,s2⟩:=by
 rw[goesT,h]
 simp only
 rw[if_neg (by decide),if_pos ho]
end
theorem step_exit3{tab:Inst->Option (Rn->Mt->Rs)}(hb: ∀arg lit cells,tab ⟨1,arg,lit,cells⟩=some back){s:Mt}{ds:List Int}(h:Rep3 s ds [0]){m left pc:Int}(hl:0<left)(hp:0<=pc∧pc<=1000000)(nx:Int)(hf:s.S.fetch m pc= (⟨1,0,0,1⟩,0))(ht:s.tells=false):
 stepT tab ⟨m,left,pc,nx,false,false,0⟩ s=some ⟨0,⟨m,left-1,0,0,true,false,0⟩,s.cutR 0⟩ ∧Rep3 (s.cutR 0) ds []:=by
 have w1:Code.wants 1= (0,0):=by decide
 have ha:asks ⟨1,0,0,1⟩ ⟨m,left-1,pc,pc+8,false,false,0⟩ s=0:=h.asked _ _ rfl (by show(Code.wants 1).1<=_;rw[w1];show(0:Int)<=_;omega) (by decide) (by have:=h.dle;show(ds.length:Int) - (Code.wants 1).1+ (Code.wants 1).2<=37;rw[w1];show(ds.length:Int) -0+0<=37;omega) (by show(1:Int)<=1-0;omega) (by show(1:Int) -1+0<=37;omega)
 have hr:s.rtop 0=0:=h.rtop 0 0 (by simp) rfl
 have hq:back ⟨m,left-1,pc,pc+8,false,false,0⟩ s= ⟨0,⟨m,left-1,pc,0,true,false,0⟩,s.cutR 0⟩:=by
  unfold back
  rw[if_neg (by rw[h.r];simp),hr]
  unfold Mt.cutR
  rw[h.r]
  rfl
 have hst:=stepT_op (tab:=tab) (x:=⟨m,left,pc,nx,false,false,0⟩) (i:=⟨1,0,0,1⟩) (by dsimp only;omega) hf (hb 0 0 1) (pc+8) (by dsimp only;unfold wrap64;omega) ha _ _ hq ht
 exact⟨hst,h.cutR 0 (by simp)⟩
theorem img13_fits:Fits 16384 64 2656 296 296:=⟨by omega,by omega,by omega,by omega,by omega,by omega,by omega,by omega,by omega,by omega,by omega,by omega,by omega,by omega⟩
theorem img13_ok:img13.Ok:=newImg_ok img13_fits
def stu13:Dc:=⟨3,16456,0⟩
theorem ker13_ok:ker0.Ok img13:=⟨.inl rfl,by decide,by decide,.inl rfl,by decide,by decide⟩
theorem grows_ker:Grows (img13,ker0) []:=⟨img13_ok,ker13_ok,rfl,rfl,.nil,by decide⟩
def fineB(x:KW):Bool:=Dc.nameB x.name&&x.cells.all λv=>decide (-9223372036854775808<=v) &&decide (v<=9223372036854775807)
theorem fine_of{x:KW}(h:fineB x=true):KwFine x:=by
 unfold fineB at h
 simp only[Bool.and_eq_true,List.all_eq_true,decide_eq_true_eq]at h
 exact⟨h.1,h.2⟩
theorem kernel_fine: ∀x∈kernelW,KwFine x:=λx hx=>fine_of (List.all_eq_true.1 (by decide +kernel:kernelW.all fineB=true) x hx)
theorem kernel_end:kwsEnd kernelW 8=3872:=by decide +kernel
def k13:Img×Dc:=kwsS kernelW (img13,ker0)
def kWds:List Wd:=wdsOf kernelW 8 []
theorem k13_laid:Grows k13 kWds∧AgreeTo 8 img13 k13.1∧k13.2.h=3872∧k13.2.rg=1∧∀p∈placed kernelW 8,KCode k13.1 (kwXt p.1 p.2) p.2.cells:=by
 have h:=kws_laid kernelW grows_ker kernel_fine (by
  show kwsEnd kernelW 8<=16384
  rw[kernel_end];decide)
 rw[show((img13,ker0):Img×Dc).2.h=8 from rfl,kernel_end]at h
 exact h
theorem beg_seal(S:Img)(i:Nat):S.sealed.beg i=S.beg i:=by unfold Img.sealed Img.beg;rfl
theorem headW_seal(S:Img)(D:Dc)(a:Int):headW S.sealed D a=headW S D a:=by
 have h1:D.fr S.sealed=D.fr S:=by unfold Dc.fr;rw[beg_seal]
 have h2:D.lim S.sealed=D.lim S:=by unfold Dc.lim;rw[beg_seal]
 unfold headW
 rw[h1,h2]
 rfl
theorem Chain.seal{S:Img}{D:Dc}{b:Nat}: ∀{a:Nat} {l:List Wd},Chain S D b a l->Chain S.sealed D b a l
 | _,_,.nil=> .nil
 | _,_,.cons h1 h2 h3 t=> .cons (by rw[headW_seal];exact h1) h2 h3 (Chain.seal t)
theorem KCode.seal{S:Img}{a:Nat}{cs:List Int}(h:KCode S a cs):KCode S.sealed a cs:=⟨h.al,h.hi,h.at_⟩
theorem Lay3.seal{S:Img}(h:Lay3 S):Lay3 S.sealed:=⟨h.k,h.s,h.u,h.d,h.r⟩
theorem lay_put3{S:Img}(h:Lay3 S)(k:Nat)(l:List UInt8):Lay3 (S.put k l):=h.alike (Alike.put S k l)
theorem base_put3{S:Img}(hL:Lay3 S)(v:Int):S.setCell 0 16448 v=S.put 16448 (toB v):=by
 obtain⟨b2,b3,b4,b5,b6⟩:=hL.begs
 have hr:S.region ((16448:Nat):Int)=3:=S.region_eq oM oM oM oM (by show((16448:Nat):Int) < ((S.beg 4:Nat):Int);omega)
 have hrow:S.rowOk 0 ((16448:Nat):Int) 8 true=true:=by
  unfold Img.rowOk Img.lets Img.may
  rw[hr]
  have h4:decide (((8:Nat):Int)<=(S.beg (3+1):Int) - ((16448:Nat):Int))=true:=decide_eq_true (by show((8:Nat):Int)<=((S.beg 4:Nat):Int) -_;omega)
  rw[h4]
  simp
 unfold Img.setCell
 rw[show(16448:Int)= ((16448:Nat):Int)from rfl,if_pos (by unfold Img.cellF;rw[if_neg (by decide),if_pos hrow])]
 rfl
def sealedB(S:Img):Img:=S.sealed.put 16448 (toB 10)
theorem seal_fine{S:Img}{D:Dc}{l:List Wd}{b:Nat}(hS:S.Ok)(hL0:Lay3 S)(h4:D.rg=1)(hc:Chain S D b D.l l)(hb:b<=16448){ps:List (Nat×KW)}(h5: ∀p∈ps,KCode S (kwXt p.1 p.2) p.2.cells)(hend: ∀p∈ps,kwXt p.1 p.2+8*p.2.cells.length<=16448)(hop:S.op=false):
 (sealedB S).Ok∧Lay3 (sealedB S)∧Chain (sealedB S) D b D.l l∧(∀p∈ps,KCode (sealedB S) (kwXt p.1 p.2) p.2.cells)∧(sealedB S).cl=true∧(sealedB S).op=false∧(sealedB S).cellV 0 16448=10:=by
 have hL:=hL0.seal
 obtain⟨b2,b3,b4,b5,b6⟩:=hL.begs
 have hok:S.sealed.Ok:=Img.Ok.seal hS
 have hlen:=hok.len
 unfold sealedB
 have ha:AgreeTo 16448 S.sealed (S.sealed.put 16448 (toB 10)):=AgreeTo.put _ _ (Nat.le_refl _) (by rw[toB_len];omega)
 refine⟨put_ok hok _ _ (by rw[toB_len];omega),lay_put3 hL _ _,hc.seal.agree hok (by unfold Dc.lim;rw[h4];show S.sealed.beg 2<=_;omega) ha hb,λp hp=>(h5 p hp).seal.agree ha (hend p hp),rfl,hop,?_⟩
 have hF:S.sealed.cellF 0 ((16448:Nat):Int) false=0:=by
  have hr:S.sealed.region ((16448:Nat):Int)=3:=Img.region_eq _ oM oM oM oM (by show((16448:Nat):Int) < ((S.sealed.beg 4:Nat):Int);omega)
  have hrow:S.sealed.rowOk 0 ((16448:Nat):Int) 8 false=true:=by
   unfold Img.rowOk Img.lets Img.may
   rw[hr]
   have h4:decide (((8:Nat):Int)<=(S.sealed.beg (3+1):Int) - ((16448:Nat):Int))=true:=decide_eq_true (by show((8:Nat):Int)<=((S.sealed.beg 4:Nat):Int) -_;omega)
   rw[h4]
   simp
  unfold Img.cellF
  rw[if_neg (by decide),if_pos hrow]
 have hc:=cellV_put_in S.sealed hok 0 16448 0 (toB 10) (by rw[toB_len];omega) (by rw[toB_len];decide) hF
 rw[show((16448+0:Nat):Int)=16448 from rfl]at hc
 rw[hc,List.drop_zero,List.take_of_length_le (by rw[toB_len];omega)]
 exact ofB_toB 10 oM
def kS:Img:=sealedB k13.1
theorem k13_lay:Lay3 k13.1:=lay3_img.alike k13_laid.2.1.al
theorem k13_op:k13.1.op=false:=k13_laid.2.1.al.op
theorem placed_end: ∀p∈placed kernelW 8,kwXt p.1 p.2+8*p.2.cells.length<=16448:=λp hp=>by
 have:=List.all_eq_true.1 (by decide +kernel: (placed kernelW 8).all (λp=>decide (kwXt p.1 p.2+8*p.2.cells.length<=16448))=true) p hp
 simpa using this
theorem k13_chain:Chain k13.1 k13.2 3872 k13.2.l kWds:=k13_laid.2.2.1▸k13_laid.1.ch
theorem kS_fine:kS.Ok∧Lay3 kS∧Chain kS k13.2 3872 k13.2.l kWds∧(∀p∈placed kernelW 8,KCode kS (kwXt p.1 p.2) p.2.cells)∧kS.cl=true∧kS.op=false∧kS.cellV 0 16448=10:=
 seal_fine k13_laid.1.img k13_lay k13_laid.2.2.2.1 k13_chain (by decide) k13_laid.2.2.2.2 placed_end k13_op
structure Om(s:Mt)(l:List Wd)(ds:List Int):Prop where
 rep:Rep3 s ds []
 ker:AgreeTo 16384 kS s.S
 hk:s.hk=3872
 lk:s.lk= (k13.2.l:Int)
 base:s.S.cellV 0 16448=10
 stu:Grows (s.S,dS s) l
 h0:0<=s.hs
 l0:0<=s.ls
 srg: (dS s).rg=3
 quiet:s.tells=false
theorem Om.dk{s:Mt}{l:List Wd}{ds:List Int}(h:Om s l ds):dK s=k13.2:=by
 obtain⟨_,_,h3,h4,_⟩:=k13_laid
 unfold dK
 rw[h.hk,h.lk]
 rcases hq:k13.2 with⟨rg,hh,ll⟩
 rw[hq]at h3 h4
 simp only at h3 h4
 subst h3 h4
 rfl
theorem Om.findK{s:Mt}{l:List Wd}{ds:List Int}(h:Om s l ds)(n:List UInt8):findW s.S (dK s) n=kWds.find? λw=> !w.hid&&sameB w.name n:=by
 obtain⟨h1,h2,h3,_⟩:=kS_fine
 obtain⟨b2,b3,b4,b5,b6⟩:=h2.begs
 obtain⟨_,_,_,g4,_⟩:=k13_laid
 rw[h.dk]
 unfold findW
 rw[(h3.agree h1 (by unfold Dc.lim;rw[g4];show kS.beg 2<=_;omega) h.ker oM).words]
theorem Om.findS{s:Mt}{l:List Wd}{ds:List Int}(h:Om s l ds)(n:List UInt8):findW s.S (dS s) n=l.find? λw=> !w.hid&&sameB w.name n:=by
 have hc:Chain s.S (dS s) (dS s).h (dS s).l l:=h.stu.ch
 unfold findW
 rw[hc.words]
theorem Om.kcode{s:Mt}{l:List Wd}{ds:List Int}(h:Om s l ds)(p:Nat×KW)(hp:p∈placed kernelW 8)(hle:kwXt p.1 p.2+8*p.2.cells.length<=16384):KCode s.S (kwXt p.1 p.2) p.2.cells:=by
 obtain⟨_,_,_,h4,_⟩:=kS_fine
 exact(h4 p hp).agree h.ker hle
def m13:Mt:=⟨kS,⟨19104,37,1,2⟩,⟨19400,37,3,4⟩,0,0,Caps.made 1 60000 ⟨#[]⟩,16456,0,3872,(k13.2.l:Int),0,0,0,false,[],Ext.zero⟩
theorem stu13_kS:stu13.Ok kS:=by
 obtain⟨h1,h2,_⟩:=kS_fine
 obtain⟨b2,b3,b4,b5,b6⟩:=h2.begs
 exact⟨.inr rfl,by show kS.beg 3+8<=16456;omega,by show 16456<=kS.beg 4;omega,.inl rfl,⟨by show kS.beg 4 % 8=0;omega,by show kS.beg 3 % 8=0;omega⟩,by show kS.beg 3+256<=kS.beg 4;omega⟩
theorem om_m13:Om m13 [] []:=by
 obtain⟨h1,h2,h3,h4,h5,h6,h7⟩:=kS_fine
 exact⟨⟨h1,h2,rfl,rfl,rfl,rfl,by simp,by simp,λi v h=>by simp at h,λi v h=>by simp at h⟩,AgreeTo.refl _ _,rfl,rfl,h7,⟨h1,stu13_kS,rfl,rfl,.nil,by show(0:Nat) <16456;decide⟩,by decide,by decide,rfl,rfl⟩
theorem cellV_agree{N:Nat}{S T:Img}(h:AgreeTo N S T)(hS:S.Ok)(a:Nat)(ha:a+8<=N)(hN:a+8<=S.beg 6)(m:Int):T.cellV m (a:Int)=S.cellV m (a:Int):=by
 unfold Img.cellV
 rw[h.al.cellF]
 unfold Img.bytes
 rw[Int.toNat_natCast,h.slice a 8 ha (by rw[hS.len];exact hN)]
theorem Grows.agree{S T:Img}{D:Dc}{l:List Wd}{N:Nat}(h:Grows (S,D) l)(g:AgreeTo N S T)(hT:T.Ok)(hN:D.h<=N):Grows (T,D) l:=
 ⟨hT,Dc.Ok.alike h.dc g.al,h.al8,(Dc.shut_alike g.al).trans h.shut,h.ch.agree h.img h.dc.all g hN,h.lt⟩
theorem Rep3.turned{s:Mt}{ds rs:List Int}(h:Rep3 s ds rs)(T:Img)(D':Dc)(hT:T.Ok)(ha:Alike s.S T)(hs: ∀i,19104<=i->T.b.getD i 0=s.S.b.getD i 0):Rep3 (s.onDict T D') ds rs:=by
 have hlen:T.b.length=s.S.b.length:=by rw[hT.len,h.img.len,ha.beg]
 obtain⟨b2,b3,b4,b5,b6⟩:=h.lay.begs
 have hl:=h.img.len
 have hg: ∀fr i,InStk3 fr i->sget T fr i=sget s.S fr i:=λfr i hi=>by
  unfold InStk3 at hi
  unfold sget Img.cellV
  rw[ha.cellF]
  unfold Img.bytes
  have e: ((fr:Int) +8* (i:Int)).toNat=fr+8*i:=by omega
  rw[e,slice_ext T.b s.S.b (fr+8*i) (fr+8*i) 8 oM oM (λk hk=>hs _ oM)]
 refine⟨hT,h.lay.alike ha,h.pd,h.pr,h.d,h.r,h.dle,h.rle,λi v hv=> ?_,λi v hv=> ?_⟩
 ·have hlt:=(List.getElem?_eq_some_iff.1 hv).1
  have:=h.dle
  show sget T 19104 i=v
  rw[hg 19104 i (.inl ⟨rfl,by omega⟩)]
  exact h.dv i v hv
 ·have hlt:=(List.getElem?_eq_some_iff.1 hv).1
  have:=h.rle
  show sget T 19400 i=v
  rw[hg 19400 i (.inr ⟨rfl,by omega⟩)]
  exact h.rv i v hv
section
variable {s:Mt}{l:List Wd}{ds:List Int}
theorem Om.hle(h:Om s l ds): (dS s).h<=19104:=by
 obtain⟨b2,b3,b4,b5,b6⟩:=h.rep.lay.begs
 have h1: (dS s).h<=(dS s).lim s.S:=h.stu.dc.hi
 unfold Dc.lim at h1
 rw[h.srg]at h1
 have h2:s.S.beg (3+1)=19104:=b4
 omega
theorem Om.with(h:Om s l ds){es:List Int}(t:Mt)(hr:Rep3 t es [])(ha:AgreeTo 19104 s.S t.S)(e1:t.hs=s.hs)(e2:t.ls=s.ls)(e3:t.hk=s.hk)(e4:t.lk=s.lk)(e5:t.tells=s.tells):Om t l es:=by
 have hd:dS t=dS s:=by unfold dS;rw[e1,e2]
 obtain⟨b2,b3,b4,b5,b6⟩:=h.rep.lay.begs
 refine⟨hr,h.ker.trans (ha.mono oM),e3.trans h.hk,e4.trans h.lk,?_,?_,by rw[e1];exact h.h0,by rw[e2];exact h.l0,by rw[hd];exact h.srg,e5.trans h.quiet⟩
 ·have:=cellV_agree ha h.rep.img 16448 oM oM 0
  rw[show((16448:Nat):Int)=16448 from rfl]at this
  rw[this]
  exact h.base
 ·rw[hd]
  exact Grows.agree h.stu ha hr.img h.hle
theorem Om.pushD1(h:Om s l ds)(v:Int)(hv:V64 v)(hr:ds.length<37):Om (s.pushD [v]) l (ds ++ [v]):=
 h.with _ (h.rep.pushD1 v hv hr) (h.rep.low_pushD [v] (by simp;omega)) rfl rfl rfl rfl rfl
theorem Om.dict(h:Om s l ds)(T:Img)(D':Dc)(l':List Wd)(hg:Grows (T,D') l')(ha:AgreeTo 16456 s.S T)(hs: ∀i,19104<=i->T.b.getD i 0=s.S.b.getD i 0)(hrg:D'.rg=3):Om (s.onDict T D') l' ds:=by
 have hd:dS (s.onDict T D')=D':=by
  obtain⟨rg,hh,ll⟩:=D'
  simp only at hrg
  subst hrg
  unfold dS Mt.onDict
  simp
 obtain⟨b2,b3,b4,b5,b6⟩:=h.rep.lay.begs
 refine⟨h.rep.turned T D' hg.img ha.al hs,h.ker.trans (ha.mono oM),h.hk,h.lk,?_,by rw[hd];exact hg,Int.natCast_nonneg _,Int.natCast_nonneg _,by rw[hd];exact hrg,h.quiet⟩
 have:=cellV_agree ha h.rep.img 16448 oM oM 0
 rw[show((16448:Nat):Int)=16448 from rfl]at this
 show T.cellV 0 16448=10
 rw[this]
 exact h.base
end
theorem wdsOf_eq: ∀(xs:List KW) (h:Nat) (l:List Wd),wdsOf xs h l= ((placed xs h).map λp=>kwWd p.1 p.2).reverse++l
 | [],h,l=>rfl
 | x::xs,h,l=>by
   show wdsOf xs (kwEnd h x) (kwWd h x::l)=_
   rw[wdsOf_eq xs]
   simp[placed]
def kp(n:List UInt8):Option (Nat×KW):=(placed kernelW 8).reverse.find? λp=>sameB p.2.name n
theorem find_map{α β:Type}(f:α->β)(p:β->Bool): ∀l:List α,(l.map f).find? p= (l.find? λa=>p (f a)).map f
 | []=>rfl
 | a::l=>by
   rw[List.map_cons,List.find?_cons,List.find?_cons]
   cases p (f a)
   ·exact find_map f p l
   ·rfl
theorem kWds_find(n:List UInt8):kWds.find? (λw=> !w.hid&&sameB w.name n)= (kp n).map λp=>kwWd p.1 p.2:=by
 unfold kWds
 rw[wdsOf_eq,List.append_nil,<-List.map_reverse,find_map]
 rfl
theorem kp_mem{n:List UInt8}{p:Nat×KW}(h:kp n=some p):p∈placed kernelW 8:=by
 have:=List.mem_of_find?_eq_some h
 exact List.mem_reverse.1 this
def kpS(n:List UInt8):Option (Nat×Nat×Bool×List Int):=(kp n).map λp=>(p.1,kwXt p.1 p.2,p.2.inl,p.2.cells)
def kC(n:List UInt8):Option (Bool×List Int):=(kp n).map λp=>(p.2.inl,p.2.cells)
theorem kpS_of{n:List UInt8}{inl:Bool}{cs:List Int}(h:kC n=some (inl,cs)): ∃hd xt,kpS n=some (hd,xt,inl,cs):=by
 unfold kC at h
 unfold kpS
 rcases hp:kp n with _|p
 ·rw[hp]at h;cases h
 ·rw[hp]at h
  obtain⟨rfl,rfl⟩:p.2.inl=inl∧p.2.cells=cs:=by simpa using h
  exact⟨_,_,rfl⟩
theorem placed_low: ∀p∈placed kernelW 8,kwXt p.1 p.2+8*p.2.cells.length<=3872∧8<=kwXt p.1 p.2∧p.2.cells≠[]:=λp hp=>by
 have:=List.all_eq_true.1 (by decide +kernel: (placed kernelW 8).all (λp=>decide (kwXt p.1 p.2+8*p.2.cells.length<=3872∧8<=kwXt p.1 p.2∧p.2.cells≠[]))=true) p hp
 simpa using this
structure KFound(s:Mt)(n:List UInt8)(hd xt:Nat)(inl:Bool)(cs:List Int)(wd:Wd):Prop where
 found:findW s.S (dK s) n=some wd
 code:KCode s.S xt cs
 hi:xt+8*cs.length<=3872
 lo:8<=xt
 ex:wd.xt=xt
 imm:wd.imm=false
 ein:wd.inl=inl
theorem Om.kfound{s:Mt}{l:List Wd}{ds:List Int}(h:Om s l ds){n:List UInt8}{hd xt:Nat}{inl:Bool}{cs:List Int}(hk:kpS n=some (hd,xt,inl,cs)): ∃wd,KFound s n hd xt inl cs wd:=by
 unfold kpS at hk
 rcases hp:kp n with _|p
 ·rw[hp]at hk;cases hk
 ·rw[hp]at hk
  obtain⟨rfl,rfl,rfl,rfl⟩:p.1=hd∧kwXt p.1 p.2=xt∧p.2.inl=inl∧p.2.cells=cs:=by simpa using hk
  obtain⟨h1,h2,h3⟩:=placed_low p (kp_mem hp)
  exact⟨kwWd p.1 p.2,by rw[h.findK,kWds_find,hp];rfl,h.kcode p (kp_mem hp) oM,h1,h2,rfl,rfl,rfl⟩
theorem Om.knone{s:Mt}{l:List Wd}{ds:List Int}(h:Om s l ds){n:List UInt8}(hk:kp n=none):findW s.S (dK s) n=none:=by
 rw[h.findK,kWds_find,hk]
 rfl
def outTab(i:Inst):Option (Rn->Mt->Rs):=if i.op=80 then some (λx s=>Rs.laid 1 (numP dotT x s))else parts i
theorem outTab_1(arg lit cells:Int):outTab ⟨1,arg,lit,cells⟩=some back:=rfl
theorem Wk.outO{c:Vc}{src:Value}{s:Mt}(h:Wk c src s)(x:Rn)(t:ByteArray):Wk c src (s.outS x t):=
 ⟨⟨h.dcs.h,h.dcs.l,h.dcs.at8⟩,h.hk,h.lk,h.kat,h.ws,h.tab,h.src.imp id (λ⟨gs,L,r⟩=>⟨gs,L,r.at_,r.rest,r.sz,r.le⟩),h.v1,h.v2,h.v3⟩
theorem mildO_num(t:Mt->List UInt8):MildG Wk (numP t) 0:=by
 intro c src x s hp hs hx
 unfold numP
 split
 ·exact⟨setT_ok hs _,rfl,rfl,Nat.le_refl _,(λv hv=>by cases hv),hx,Int.le_refl _,rfl,rfl,hp.outO _ _⟩
 ·exact⟨hs,rfl,rfl,Nat.le_refl _,(λv hv=>by cases hv),hx,Int.le_refl _,rfl,rfl,hp⟩
theorem wk_nearO: ∀c src s s',Wk c src s->Near s s'->Wk c src s':=λc src s s' h n=>h.near n
theorem near_toldO(s:Mt)(x:Rn)(op:Int):Near s (s.told x op):=by
 unfold Mt.told
 split
 ·exact⟨Alike.refl _,id,rfl,rfl,rfl,rfl,rfl,rfl,rfl,rfl,rfl⟩
 ·exact Near.refl s
theorem outTab_ok(i:Inst)(q:Rn->Mt->Rs)(hq:outTab i=some q):DoesG Wk i q∧KeepsG Wk i q:=by
 obtain⟨op,arg,lit,cells⟩:=i
 unfold outTab at hq
 simp only at hq
 revert hq
 apply eli
 ·rintro rfl
  have hm:MildG Wk (λx s=>numP dotT x s) 0:=(mildO_num dotT)
  have hl:LaysG Wk ⟨80,arg,lit,cells⟩ (λx s=>numP dotT x s):=laysG_of (m:=0) 1 dd dd (by dsimp only;decide) hm
  exact⟨does3_goes Wk _ _ dd dd (y_dot arg lit cells) hl,keepsG_laid wk_nearO dd hl hm⟩
 intro hq
 exact parts_okG Wk wk_nearO _ q hq
theorem tab_out(B:Nat)(hB:B<=1000000000):
 TabOk outTab (λn c src s=>Wk c src s∧s.seen.length+n<=B) (λn c src s=>Wk c src s∧s.seen.length+n+1<=B) (λc src s=>Wk c src s∧s.seen.length<=B) where
 ok:=λn i q h=>⟨λc g x src s w F hp=>(outTab_ok i q h).1 c g x src s w F hp.1,λc src x s hp hs hx h1 h2 ha=>by
  have k:=(outTab_ok i q h).2 c src x s hp.1 hs hx h1 h2 ha
  exact⟨k.1,k.2.1,k.2.2.1,k.2.2.2.1,k.2.2.2.2.2,by rw[k.2.2.2.2.1];exact hp.2⟩⟩
 push:=λn c src s l h=>⟨wk_nearO _ _ _ _ h.1 (near_pushR s l),h.2⟩
 told:=λn c src s x op h=>by
  have h1: (s.told x op).seen.length<=s.seen.length+1:=by
   unfold Mt.told
   split
   ·simp
   ·omega
  have h2:=h.2
  exact⟨wk_nearO _ _ _ _ h.1 (near_toldO s x op),by omega⟩
 len:=λn c src s h=>by have h2:=h.2;omega
 pr:=λ_ _ _ _ h=>⟨h.1,by have h2:=h.2;omega⟩
 qr:=λ_ _ _ _ h=>⟨h.1,by have h2:=h.2;omega⟩
structure Fr(s t:Mt):Prop where
 hs:t.hs=s.hs
 ls:t.ls=s.ls
 hk:t.hk=s.hk
 lk:t.lk=s.lk
 ext:t.ext=s.ext
 fa:t.fault=s.fault
 us:t.used=s.used
 hd:t.hidden=s.hidden
 tl:t.tells=s.tells
 sn:t.seen=s.seen
theorem Fr.refl(s:Mt):Fr s s:=⟨rfl,rfl,rfl,rfl,rfl,rfl,rfl,rfl,rfl,rfl⟩
theorem Fr.trans{s t u:Mt}(h:Fr s t)(g:Fr t u):Fr s u:=⟨g.hs.trans h.hs,g.ls.trans h.ls,g.hk.trans h.hk,g.lk.trans h.lk,g.ext.trans h.ext,g.fa.trans h.fa,g.us.trans h.us,g.hd.trans h.hd,g.tl.trans h.tl,g.sn.trans h.sn⟩
theorem Fr.putT{s t:Mt}(h:Fr s t)(T:Caps.Tab):Fr s { t with T:=T }:=⟨h.hs,h.ls,h.hk,h.lk,h.ext,h.fa,h.us,h.hd,h.tl,h.sn⟩
theorem Rep3.putT{t:Mt}{ds rs:List Int}(h:Rep3 t ds rs)(T:Caps.Tab):Rep3 { t with T:=T } ds rs:=⟨h.img,h.lay,h.pd,h.pr,h.d,h.r,h.dle,h.rle,h.dv,h.rv⟩
theorem fr_lays(s:Mt)(n:Nat)(l:List Int):Fr s (s.lays n l).2∧(s.lays n l).2.T=s.T:=by
 unfold Mt.lays
 split<;>exact⟨⟨rfl,rfl,rfl,rfl,rfl,rfl,rfl,rfl,rfl,rfl⟩,rfl⟩
structure VS(s0:Mt)(ds rs:List Int)(T:Caps.Tab)(s:Mt):Prop where
 rep:Rep3 s ds rs
 low:AgreeTo 19104 s0.S s.S
 T:s.T=T
 fr:Fr s0 s
 tl:s0.tells=false
section
variable {tab:Inst->Option (Rn->Mt->Rs)}{s0 s:Mt}{ds rs:List Int}{T:Caps.Tab}{left pc nx:Int}{op arg lit cells:Int}
theorem VS.quiet(h:VS s0 ds rs T s):s.tells=false:=h.fr.tl.trans h.tl
def VStep(tab:Inst->Option (Rn->Mt->Rs))(left pc:Int)(s:Mt)(pc':Int)(s':Mt):Prop:=
 ∀nx,stepT tab ⟨1,left,pc,nx,false,false,0⟩ s=some ⟨0,⟨1,left-1,pc',pc',false,false,0⟩,s'⟩
def VGo(tab:Inst->Option (Rn->Mt->Rs))(k:Nat)(left pc:Int)(s:Mt)(pc':Int)(s':Mt):Prop:=
 ∀n nx,∃nx',goesT tab (n+k) ⟨1,left,pc,nx,false,false,0⟩ s=goesT tab n ⟨1,left-k,pc',nx',false,false,0⟩ s'
theorem VGo.refl:VGo tab 0 left pc s pc s:=λn nx=>⟨nx,by rw[Nat.add_zero,show left- ((0:Nat):Int)=left by omega]⟩
theorem VStep.go{pc':Int}{s':Mt}(h:VStep tab left pc s pc' s'):VGo tab 1 left pc s pc' s':=λn nx=>⟨pc',goesT_on (h nx) rfl⟩
theorem VGo.trans{j k:Nat}{pc1 pc2:Int}{s1 s2:Mt}(h:VGo tab j left pc s pc1 s1)(g:VGo tab k (left-j) pc1 s1 pc2 s2):VGo tab (j+k) left pc s pc2 s2:=λn nx=>by
 obtain⟨n1,e1⟩:=h (n+k) nx
 obtain⟨n2,e2⟩:=g n n1
 refine⟨n2,?_⟩
 rw[show n+ (j+k)=n+k+j by omega,e1,e2,show left- ((j+k:Nat):Int)=left-j-k by omega]
theorem VGo.and{k:Nat}{pc1 pc2:Int}{s1 s2:Mt}(h:VGo tab k left pc s pc1 s1)(g:VStep tab (left-k) pc1 s1 pc2 s2):VGo tab (k+1) left pc s pc2 s2:=h.trans g.go
theorem wrap_near(n:Int)(h:0<=n∧n<=1000000):wrap64 n=n:=by unfold wrap64;omega
theorem VS.stepL(h:VS s0 ds rs T s)(n:Nat)(l:Mt->List Int)(out:List Int)(hl:0<left)(hpc:0<=pc∧pc<=900000)(hc:cells=1∨cells=2)(hf:s.S.fetch 1 pc= (⟨op,arg,lit,cells⟩,0))(hp:tab ⟨op,arg,lit,cells⟩=some (λx s=>laysR n (l s) x s))
 (hw:Code.wants op= ((n:Int),(out.length:Int))) (h26:op≠26) (hneeds:needs op=0) (hret: ∀b,returns op arg b= (0,0)) (hn:n<=ds.length) (hm:ds.length-n+out.length<=37) (hout:l s=out) (hv: ∀v∈out,V64 v):
 ∃s',VStep tab left pc s (pc+8*cells) s'∧VS s0 (ds.take (ds.length-n)++out) rs T s':=by
 have h1:=h.rep.lays n hn out hv hm
 have hlow:=h.rep.low_lays n hn out hm
 obtain⟨f1,f2⟩:=fr_lays s n out
 refine⟨(s.lays n out).2,λnx=> ?_,⟨h1.2.1,h.low.trans hlow,f2.trans h.T,h.fr.trans f1,h.tl⟩⟩
 have ha:asks ⟨op,arg,lit,cells⟩ ⟨1,left-1,pc,pc+8*cells,false,false,0⟩ s=0:=by
  refine h.rep.asked _ _ hneeds (by show(Code.wants op).1<=_;rw[hw];show(n:Int)<=_;omega) h26 (by show(ds.length:Int) - (Code.wants op).1+ (Code.wants op).2<=37;rw[hw];show(ds.length:Int) - (n:Int) + (out.length:Int)<=37;omega) (by show(returns op arg s.same).1<=_;rw[hret];show(0:Int)<=(rs.length:Int) -0;omega) (by show(rs.length:Int) - (returns op arg s.same).1+ (returns op arg s.same).2<=37;rw[hret];have:=h.rep.rle;show(rs.length:Int) -0+0<=37;omega)
 refine stepT_op (x:=⟨1,left,pc,nx,false,false,0⟩) (by dsimp only;omega) hf hp (pc+8*cells) (wrap_near _ (by dsimp only;omega)) ha ⟨1,left-1,pc,pc+8*cells,false,false,0⟩ _ ?_ ?_
 ·show laysR n (l s) _ s=_
  rw[hout]
  unfold laysR
  rw[h1.1]
 ·exact(f1.tl).trans h.quiet
theorem VS.putT(h:VS s0 ds rs T s)(T2:Caps.Tab):VS s0 ds rs T2 { s with T:=T2 }:=⟨h.rep.putT T2,h.low,rfl,h.fr.putT T2,h.tl⟩
theorem Rep3.ar1{a:Int}(h:Rep3 s (ds ++ [a]) rs):ar s 1 0=a:=h.arv 1 0 a oM (by simp) (by simp)
theorem Rep3.ar2{a b:Int}(h:Rep3 s (ds ++ [a,b]) rs):ar s 2 0=a∧ar s 2 1=b:=
 ⟨h.arv 2 0 a oM (by simp) (by simp),h.arv 2 1 b oM (by simp) (by simp)⟩
theorem VS.step0(h:VS s0 ds rs T s)(out:List Int)(hl:0<left)(hpc:0<=pc∧pc<=900000)(hc:cells=1∨cells=2)(hf:s.S.fetch 1 pc= (⟨op,arg,lit,cells⟩,0))(l:Mt->List Int)(hp:tab ⟨op,arg,lit,cells⟩=some (λx s=>laysR 0 (l s) x s))(hout:l s=out)
 (hw:Code.wants op= (0,(out.length:Int))) (h26:op≠26) (hneeds:needs op=0) (hret: ∀b,returns op arg b= (0,0)) (hm:ds.length+out.length<=37) (hv: ∀v∈out,V64 v):
 ∃s',VStep tab left pc s (pc+8*cells) s'∧VS s0 (ds++out) rs T s':=by
 have h1:=h.stepL (tab:=tab) 0 l out hl hpc hc hf hp hw h26 hneeds hret oM oM hout hv
 rw[Nat.sub_zero,List.take_length]at h1
 exact h1
theorem VS.step1{a:Int}(h:VS s0 (ds ++ [a]) rs T s)(out:List Int)(hl:0<left)(hpc:0<=pc∧pc<=900000)(hc:cells=1∨cells=2)(hf:s.S.fetch 1 pc= (⟨op,arg,lit,cells⟩,0))(l:Mt->List Int)(hp:tab ⟨op,arg,lit,cells⟩=some (λx s=>laysR 1 (l s) x s))(hout:ar s 1 0=a->l s=out)
 (hw:Code.wants op= (1,(out.length:Int))) (h26:op≠26) (hneeds:needs op=0) (hret: ∀b,returns op arg b= (0,0)) (hm:ds.length+out.length<=37) (hv: ∀v∈out,V64 v):
 ∃s',VStep tab left pc s (pc+8*cells) s'∧VS s0 (ds++out) rs T s':=by
 have h1:=h.stepL (tab:=tab) 1 l out hl hpc hc hf hp hw h26 hneeds hret (by simp) (by simp;omega) (hout h.rep.ar1) hv
 rw[show(ds ++ [a]).length-1=ds.length by simp,List.take_left]at h1
 exact h1
theorem VS.step2{a b:Int}(h:VS s0 (ds ++ [a,b]) rs T s)(out:List Int)(hl:0<left)(hpc:0<=pc∧pc<=900000)(hc:cells=1∨cells=2)(hf:s.S.fetch 1 pc= (⟨op,arg,lit,cells⟩,0))(l:Mt->List Int)(hp:tab ⟨op,arg,lit,cells⟩=some (λx s=>laysR 2 (l s) x s))(hout:ar s 2 0=a->ar s 2 1=b->l s=out)
 (hw:Code.wants op= (2,(out.length:Int))) (h26:op≠26) (hneeds:needs op=0) (hret: ∀b,returns op arg b= (0,0)) (hm:ds.length+out.length<=37) (hv: ∀v∈out,V64 v):
 ∃s',VStep tab left pc s (pc+8*cells) s'∧VS s0 (ds++out) rs T s':=by
 have h1:=h.stepL (tab:=tab) 2 l out hl hpc hc hf hp hw h26 hneeds hret (by simp) (by simp;omega) (hout h.rep.ar2.1 h.rep.ar2.2) hv
 rw[show(ds ++ [a,b]).length-2=ds.length by simp,List.take_left]at h1
 exact h1
theorem VS.base(h:VS s0 ds rs T s)(hS:s0.S.Ok)(hL:Lay3 s0.S)(hb:s0.S.cellV 0 16448=10):s.S.cellV 0 16448=10:=by
 obtain⟨b2,b3,b4,b5,b6⟩:=hL.begs
 have:=cellV_agree h.low hS 16448 oM oM 0
 rw[show((16448:Nat):Int)=16448 from rfl]at this
 rw[this,hb]
theorem VS.stepDot{a:Int}(h:VS s0 (ds ++ [a]) rs T s)(hS:s0.S.Ok)(hL:Lay3 s0.S)(hb:s0.S.cellV 0 16448=10)(hl:0<left)(hpc:0<=pc∧pc<=900000)(hf:s.S.fetch 1 pc= (⟨80,0,0,1⟩,0))(hp1:T.pupil=1)(hroom: (T.out.size:Int) + (printS a 10 ++ [32]).length<=T.room):
 ∃s',VStep outTab left pc s (pc+8) s'∧VS s0 ds rs { T with out:=Caps.behind T.room T.out ⟨(printS a 10 ++ [32]).toArray⟩ } s':=by
 have hbase:baseV s=10:=by
  unfold baseV
  have:s.S.beg 3=16448:=h.rep.lay.begs.2.1
  rw[this]
  exact h.base hS hL hb
 have hok:baseOk s=true:=by unfold baseOk;rw[hbase];decide
 have ht:dotT s=printS a 10 ++ [32]:=by unfold dotT;rw[hbase,h.rep.ar1]
 have hcap:Caps.has s.T.pupil 1 1=true:=by rw[h.T,hp1];decide
 have hF:Caps.typE s.T 1 ⟨(printS a 10 ++ [32]).toArray⟩=0:=by
  unfold Caps.typE
  rw[if_pos hcap,if_neg]
  rw[h.T]
  have e: (⟨(printS a 10 ++ [32]).toArray⟩:ByteArray).size= (printS a 10 ++ [32]).length:=List.size_toArray
  rw[e]
  simp only[Bool.and_eq_true,decide_eq_true_eq,not_and]
  intro _
  omega
 have hT2:Caps.typS s.T 1 ⟨(printS a 10 ++ [32]).toArray⟩= { T with out:=Caps.behind T.room T.out ⟨(printS a 10 ++ [32]).toArray⟩ }:=by
  unfold Caps.typS
  rw[if_pos hcap,if_pos (by rfl),h.T]
 have hw1:Code.wants 80= (1,0):=by decide
 have hr:=h.rep.lays 1 (by simp) [] (λv hv=>by cases hv) (by simp;have:=h.rep.dle;simp at this;omega)
 have hlow:=h.rep.low_lays 1 (by simp) [] (by simp;have:=h.rep.dle;simp at this;omega)
 rw[show(ds ++ [a]).length-1=ds.length by simp,List.take_left,List.append_nil]at hr
 obtain⟨f1,f2⟩:=fr_lays s 1 []
 have hv1:VS s0 ds rs T (s.lays 1 []).2:=⟨hr.2.1,h.low.trans hlow,f2.trans h.T,h.fr.trans f1,h.tl⟩
 have hl1:=hr.1
 have hls: ∀T2:Caps.Tab,({ s with T:=T2 }:Mt).lays 1 []= ((s.lays 1 []).1,{ (s.lays 1 []).2 with T:=T2 }):=λT2=>by
  unfold Mt.lays
  simp only
  split<;>rfl
 have ha:asks ⟨80,0,0,1⟩ ⟨1,left-1,pc,pc+8,false,false,0⟩ s=0:=by
  have hd:=h.rep.d
  have hpd:=h.rep.pd
  have hpr:=h.rep.pr
  have hrr:=h.rep.r
  have hrl:=h.rep.rle
  have hdl:=h.rep.dle
  have hre: ∀b,returns 80 0 b= (0,0):=λb=>rfl
  simp only[List.length_append,List.length_singleton]at hd hdl
  unfold Vm.asks
  simp only[hw1,hre]
  rw[hd,hpd,hrr,hpr,if_neg oM,if_neg oM,if_neg (by
   rw[if_neg (by rintro⟨h,_⟩;exact absurd h (by decide))]
   show¬((37:Nat):Int) <_
   omega),if_neg (by show¬((37:Nat):Int) <_;omega),if_neg (by
   rintro⟨_,h2⟩
   have e:needs 80=1:=by decide
   rw[e,hcap]at h2
   cases h2)]
 rw[hl1]at hls
 generalize (s.lays 1 []).2=s1 at *
 clear hr hlow f1 f2 hl1
 generalize Caps.behind T.room T.out ⟨(printS a 10 ++ [32]).toArray⟩=O at *
 generalize printS a 10 ++ [32]=t at *
 have hx: ∀x:Rn,x.mode=1->x.asked=false->numP dotT x s= (⟨0,x,{ s with T:={ T with out:=O } }⟩,[]):=λx h1 h2=>by
  have hm:outM x=1:=by unfold outM;rw[h2,h1];rfl
  unfold numP outF Mt.outS
  rw[if_pos hok,ht,hm,hF,hT2]
 refine⟨{ s1 with T:={ T with out:=O } },λnx=> ?_,hv1.putT _⟩
 refine stepT_op (x:=⟨1,left,pc,nx,false,false,0⟩) (i:=⟨80,0,0,1⟩) (by dsimp only;omega) hf (q:=λx s=>Rs.laid 1 (numP dotT x s)) rfl (pc+8) (wrap_near _ (by dsimp only;omega)) ha ⟨1,left-1,pc,pc+8,false,false,0⟩ _ ?_ ?_
 ·show Rs.laid 1 (numP dotT _ s)=_
  rw[hx _ rfl rfl]
  unfold Rs.laid laysR
  simp only
  rw[if_pos trivial,hls]
 ·exact hv1.quiet
theorem VS.stepOut(hb: ∀arg lit cells,tab ⟨1,arg,lit,cells⟩=some back)(h:VS s0 ds [0] T s)(hl:0<left)(hpc:0<=pc∧pc<=1000000)(hf:s.S.fetch 1 pc= (⟨1,0,0,1⟩,0)):
 (∀n nx,goesT tab (n+1) ⟨1,left,pc,nx,false,false,0⟩ s=some ⟨0,⟨1,left-1,0,0,true,false,0⟩,s.cutR 0⟩)∧VS s0 ds [] T (s.cutR 0):=by
 refine⟨λn nx=> ?_,?_⟩
 ·obtain⟨h1,_⟩:=step_exit3 hb h.rep (m:=1) hl hpc nx hf h.quiet
  exact goesT_over h1 rfl
 ·have hr:=h.rep.cutR 0 (by simp)
  exact⟨hr,h.low,h.T,⟨h.fr.hs,h.fr.ls,h.fr.hk,h.fr.lk,h.fr.ext,h.fr.fa,h.fr.us,h.fr.hd,h.fr.tl,h.fr.sn⟩,h.tl⟩
def RunsTo(k:Nat)(s:Mt)(xt:Int)(es:List Int)(T:Caps.Tab):Prop:=
 ∀F:Int,(k:Int)<=F->F<=1000000->∃q,goesT outTab k { Rn.start 1 F with pc:=xt } (s.pushR [0])=some q∧q.f=0∧q.x.left=F-k∧VS s es [] T q.s
theorem VS.start(h:Rep3 s ds [])(ht:s.tells=false):VS s ds [0] s.T (s.pushR [0]):=
 ⟨h.pushR1 0 (by unfold V64;omega) (by simp),h.low_pushR [0] (by simp),rfl,⟨rfl,rfl,rfl,rfl,rfl,rfl,rfl,rfl,rfl,rfl⟩,ht⟩
theorem start_eq(F pc:Int)(h:0<=F∧F<=1000000): ({ Rn.start 1 F with pc:=pc }:Rn)= ⟨1,F,pc,0,false,false,0⟩:=by
 unfold Rn.start
 have:clip F=F:=by unfold clip;omega
 rw[this]
theorem runs_of{k:Nat}{xt:Int}{es:List Int}{T2:Caps.Tab}(hpc:0<=pc∧pc<=1000000)(h: ∀F:Int,(k:Int) +1<=F->F<=1000000->∃s1,VGo outTab k F xt (s.pushR [0]) pc s1∧VS s es [0] T2 s1∧s1.S.fetch 1 pc= (⟨1,0,0,1⟩,0)):RunsTo (k+1) s xt es T2:=by
 intro F h1 h2
 obtain⟨s1,g1,g2,g3⟩:=h F oM h2
 obtain⟨h4,h5⟩:=g2.stepOut (tab:=outTab) outTab_1 (left:=F-k) (pc:=pc) oM hpc g3
 obtain⟨nx,e⟩:=g1 1 0
 refine⟨⟨0,⟨1,F-k-1,0,0,true,false,0⟩,s1.cutR 0⟩,?_,rfl,?_,h5⟩
 rw[start_eq _ _ oM,show k+1=1+k by omega,e]
 exact h4 0 nx
 show F-k-1=F- ((k+1:Nat):Int)
 omega
theorem KCode.fetchLit{S:Img}{a rg:Nat}{cs:List Int}(h:KCode S a cs)(hrg:rg=1∨rg=3)(hlo:S.beg rg<=a)(hhi:a+8*cs.length<=S.beg (rg+1))(m:Int)(hm:0<=m∧m<=2)(i:Nat)(v:Int)(hv:cs[i]? = some 2)(hv2:cs[i+1]? = some v):S.fetch m ((a:Int) +8* (i:Int))= (⟨2,0,v,2⟩,0):=by
 obtain⟨h3,h4⟩:=h.cell hrg hlo hhi m hm i 2 hv
 obtain⟨h5,h6⟩:=h.cell hrg hlo hhi m hm (i+1) v hv2
 rw[show(a:Int) +8* ((i+1:Nat):Int)= (a:Int) +8* (i:Int) +8 by omega]at h5 h6
 have hu:Code.unpack 2= (2,0,true):=by decide
 unfold Img.fetch
 rw[if_neg (by rw[h3];decide),h4,hu,if_neg (by simp),if_pos rfl,if_neg (by rw[h5];decide),h6]
structure CodeIn(S:Img)(a:Nat)(cs:List Int):Prop where
 code:KCode S a cs
 at_: (8<=a∧a+8*cs.length<=16384)∨(16456<=a∧a+8*cs.length<=19104)
theorem CodeIn.agree{S S2:Img}{a:Nat}{cs:List Int}(h:CodeIn S a cs)(g:AgreeTo 19104 S S2):CodeIn S2 a cs:=⟨h.code.agree g (by have:=h.at_;omega),h.at_⟩
theorem CodeIn.fetch{S:Img}{a:Nat}{cs:List Int}(h:CodeIn S a cs)(hL:Lay3 S)(i:Nat)(v op arg pc:Int)(hv:cs[i]? = some v)(hu:Code.unpack v= (op,arg,true))(h2:op≠2)(h19:op≠19)(hpc:pc= (a:Int) +8* (i:Int)):S.fetch 1 pc= (⟨op,arg,0,1⟩,0):=by
 obtain⟨b2,b3,b4,b5,b6⟩:=hL.begs
 have b1:S.beg 1=0:=rfl
 subst hpc
 rcases h.at_ with⟨h1,h3⟩ | ⟨h1,h3⟩
 ·exact h.code.fetch (rg:=1) (.inl rfl) oM (by show _<=S.beg 2;omega) 1 oM i v op arg hv hu h2 h19
 ·exact h.code.fetch (rg:=3) (.inr rfl) oM (by show _<=S.beg 4;omega) 1 oM i v op arg hv hu h2 h19
theorem CodeIn.fetchLit{S:Img}{a:Nat}{cs:List Int}(h:CodeIn S a cs)(hL:Lay3 S)(i:Nat)(v pc:Int)(hv:cs[i]? = some 2)(hv2:cs[i+1]? = some v)(hpc:pc= (a:Int) +8* (i:Int)):S.fetch 1 pc= (⟨2,0,v,2⟩,0):=by
 obtain⟨b2,b3,b4,b5,b6⟩:=hL.begs
 have b1:S.beg 1=0:=rfl
 subst hpc
 rcases h.at_ with⟨h1,h3⟩ | ⟨h1,h3⟩
 ·exact h.code.fetchLit (rg:=1) (.inl rfl) oM (by show _<=S.beg 2;omega) 1 oM i v hv hv2
 ·exact h.code.fetchLit (rg:=3) (.inr rfl) oM (by show _<=S.beg 4;omega) 1 oM i v hv hv2
theorem VS.code{cs:List Int}{a:Nat}(h:VS s0 ds rs T s)(hc:CodeIn s0.S a cs):CodeIn s.S a cs:=hc.agree h.low
end
def HeadAt(S:Img)(p nx:Nat)(c:UInt8)(n:List UInt8):Prop:= ∀i,i<9+n.length->S.b.getD (p+i) 0= (toB nx++c::n).getD i 0
theorem HeadAt.agree{S T:Img}{N p nx:Nat}{c:UInt8}{n:List UInt8}(h:HeadAt S p nx c n)(g:AgreeTo N S T)(hN:p+9+n.length<=N):HeadAt T p nx c n:=λi hi=>by rw[g.at_ _ oM];exact h i hi
def xtOf(p:Nat)(n:List UInt8):Nat:=p+8+up (1+n.length)
def defW(p:Nat)(n:List UInt8)(hid:Bool):Wd:=⟨n,p,xtOf p n,false,hid,false⟩
structure Defn(q:Img×Dc)(l:List Wd)(n:List UInt8)(hid:Bool)(cs:List Int)(p nx:Nat):Prop where
 gr:Grows q (defW p n hid::l)
 head:HeadAt q.1 p nx (UInt8.ofNat (if hid then n.length+32 else n.length)) n
 code:KCode q.1 (xtOf p n) cs
 h:q.2.h=xtOf p n+8*cs.length
 la:q.2.l=p
 nlt:nx<p
 al:p % 8=0
 lo:q.2.fr q.1<=p
 name:1<=n.length∧n.length<=31
 chain:Chain q.1 q.2 p nx l
theorem toB_getD(nx:Nat)(c:UInt8)(n r:List UInt8)(i:Nat)(hi:i<9+n.length): (toB nx++c:: (n++r)).getD i 0= (toB nx++c::n).getD i 0:=by
 rw[List.getD_eq_getElem?_getD,List.getD_eq_getElem?_getD]
 rcases Nat.lt_or_ge i 8 with h1|h1
 ·rw[List.getElem?_append_left (by rw[toB_len];exact h1),List.getElem?_append_left (by rw[toB_len];exact h1)]
 ·rw[List.getElem?_append_right (by rw[toB_len];exact h1),List.getElem?_append_right (by rw[toB_len];exact h1),toB_len]
  rcases hk:i-8 with _|k
  ·rfl
  ·rw[List.getElem?_cons_succ,List.getElem?_cons_succ,List.getElem?_append_left oM]
theorem byte_hid(n:Nat)(h:1<=n∧n<=31): (UInt8.ofNat (n+32)).toNat=n+32:=by
 have: ∀k:Fin 32,(UInt8.ofNat (k.val+32)).toNat=k.val+32:=by decide +kernel
 exact this ⟨n,by omega⟩
theorem head_read{S:Img}{D:Dc}{p nx:Nat}{n:List UInt8}{hid:Bool}(hS:S.Ok)(hD:D.Ok S)(h8:p % 8=0)(hf:D.fr S<=p)(hn:1<=n.length∧n.length<=31)(hle:xtOf p n<=D.lim S)(hx:nx<p)
 (hh:HeadAt S p nx (UInt8.ofNat (if hid then n.length+32 else n.length)) n):headW S D (p:Int)=some (defW p n hid,(nx:Int)):=by
 have hsm:=hD.le hS
 have hp:p<=143360:=by
  have:=up_ge (1+n.length)
  unfold xtOf at hle
  omega
 obtain⟨b1,b2,_⟩:=byte_show n.length hn
 have b3:=byte_hid n.length hn
 have hc: (UInt8.ofNat (if hid then n.length+32 else n.length)).toNat=if hid then n.length+32 else n.length:=by
  cases hid
  ·simp only[Bool.false_eq_true,if_false];exact b2
  ·simp only[if_true];exact b3
 have hc32: (UInt8.ofNat (if hid then n.length+32 else n.length)).toNat % 32=n.length:=by rw[hc];cases hid<;>simp<;>omega
 have h1:=headW_lies hS hD.all p n (toB nx) _ h8 hf hn (by rw[up_add8 _ _ h8];exact hle) (toB_len _) hc32 hh
 rw[up_add8 _ _ h8,ofB_toBn nx oM,hc]at h1
 rw[h1]
 unfold defW xtOf
 have f1: ((if hid then n.length+32 else n.length) /64 % 2==1)=false:=by rw[beq_eq_false_iff_ne];cases hid<;>simp<;>omega
 have f2: ((if hid then n.length+32 else n.length) /32 % 2==1)=hid:=by
  cases hid
  ·rw[beq_eq_false_iff_ne];simp;omega
  ·rw[beq_iff_eq];simp;omega
 have f3: ((if hid then n.length+32 else n.length) /128==1)=false:=by rw[beq_eq_false_iff_ne];cases hid<;>simp<;>omega
 rw[f1,f2,f3]
theorem def_create{q:Img×Dc}{l:List Wd}(h:Grows q l)(n:List UInt8)(hn:Dc.nameB n=true)(hr:xtOf q.2.h n<=q.2.lim q.1):
 q.2.createF q.1 n=0∧q.2.createV q.1 n= (xtOf q.2.h n:Nat)∧Defn (q.2.createS q.1 n,q.2.createD q.1 n) l n true [] q.2.h q.2.l∧AgreeTo q.2.h q.1 (q.2.createS q.1 n)∧(∀i,q.2.lim q.1<=i->(q.2.createS q.1 n).b.getD i 0=q.1.b.getD i 0)∧(q.2.createD q.1 n).rg=q.2.rg:=by
 have hn2:=nameB_len hn
 obtain⟨f,e1,e2,hl,hb⟩:=kw_create h ⟨n,false,[]⟩ hn (by unfold kwEnd kwXt;unfold xtOf at hr;simpa using hr)
 simp only at f e1 e2 hl hb
 have hlim:q.2.lim q.1<=q.1.beg 6:=h.dc.all
 have hlen:=h.img.len
 have h8:=h.al8
 have hxu:=up_ge (1+n.length)
 have hfr:q.2.fr q.1<=q.2.h:=h.dc.lo
 have hx:kwXt q.2.h ⟨n,false,[]⟩=xtOf q.2.h n:=rfl
 rw[hx]at e2
 unfold xtOf at hr
 have l0:q.2.h+ (q.2.headB n).length<=q.1.b.length:=by omega
 have p1: (q.1.put q.2.h (q.2.headB n)).Ok:=put_ok h.img _ _ oM
 have a1:AgreeTo q.2.h q.1 (q.1.put q.2.h (q.2.headB n)):=AgreeTo.put _ _ (Nat.le_refl _) l0
 have hsh: (⟨q.2.rg,xtOf q.2.h n,q.2.h⟩:Dc).shut (q.1.put q.2.h (q.2.headB n))=false:=by
  have:=h.shut
  unfold Dc.shut at this⊢
  rw[a1.al.cl]
  exact this
 have hD1: (⟨q.2.rg,xtOf q.2.h n,q.2.h⟩:Dc).Ok (q.1.put q.2.h (q.2.headB n)):=by
  refine Dc.Ok.alike (S:=q.1) ⟨h.dc.rg,?_,?_,.inr ⟨h8,hfr,?_⟩,h.dc.al,h.dc.room⟩ a1.al
  ·show q.2.fr q.1<=xtOf q.2.h n
   unfold xtOf;omega
  ·show xtOf q.2.h n<=q.2.lim q.1
   unfold xtOf;omega
  ·show q.2.h+16<=q.2.lim q.1
   unfold up at hxu hr
   omega
 have hh:HeadAt (q.1.put q.2.h (q.2.headB n)) q.2.h q.2.l (UInt8.ofNat (if true then n.length+32 else n.length)) n:=λi hi=>by
  rw[q.1.put_getD _ _ _ l0,if_pos ⟨by omega,by omega⟩,show q.2.h+i-q.2.h=i by omega,hb]
  exact toB_getD _ _ _ _ _ hi
 have hV:q.2.createV q.1 n= (xtOf q.2.h n:Nat):=by
  unfold Dc.createV
  rw[if_pos f,up_id _ h8]
  unfold xtOf
  congr 1
  omega
 have hch:Chain (q.1.put q.2.h (q.2.headB n)) (⟨q.2.rg,xtOf q.2.h n,q.2.h⟩:Dc) q.2.h q.2.l l:=Chain.rg (D:=q.2) (D':=⟨q.2.rg,xtOf q.2.h n,q.2.h⟩) rfl (Chain.agree h.img hlim a1 (Nat.le_refl _) h.ch)
 have hfr1: (⟨q.2.rg,xtOf q.2.h n,q.2.h⟩:Dc).fr (q.1.put q.2.h (q.2.headB n))=q.2.fr q.1:=Dc.fr_alike (D:=⟨q.2.rg,xtOf q.2.h n,q.2.h⟩) a1.al
 have hlim1: (⟨q.2.rg,xtOf q.2.h n,q.2.h⟩:Dc).lim (q.1.put q.2.h (q.2.headB n))=q.2.lim q.1:=Dc.lim_alike (D:=⟨q.2.rg,xtOf q.2.h n,q.2.h⟩) a1.al
 have hrd:=head_read (hid:=true) p1 hD1 h8 (by rw[hfr1];exact hfr) hn2 (by rw[hlim1];unfold xtOf;omega) h.lt hh
 refine⟨f,hV,?_,by rw[e1];exact a1,λi hi=>by rw[e1,q.1.put_getD _ _ _ l0,if_neg oM],by rw[e2]⟩
 rw[e1,e2]
 refine⟨⟨p1,hD1,by show xtOf q.2.h n % 8=0;unfold xtOf;omega,hsh,Chain.cons hrd h.lt (by show xtOf q.2.h n<=xtOf q.2.h n;exact Nat.le_refl _) (hch.mono (by show q.2.h<=xtOf q.2.h n;unfold xtOf;omega)),by show q.2.h<xtOf q.2.h n;unfold xtOf;omega⟩,hh,⟨by unfold xtOf;omega,by show xtOf q.2.h n+8*0<=_;rw[a1.len,hlen];unfold xtOf;omega,λi v hv=>by cases hv⟩,rfl,rfl,h.lt,h8,by show Dc.fr _ _<=_;rw[hfr1];exact hfr,hn2,hch⟩
section
variable {q:Img×Dc}{l:List Wd}{n:List UInt8}{hid:Bool}{cs:List Int}{p nx:Nat}
theorem Defn.room8(h:Defn q l n hid cs p nx):xtOf p n % 8=0∧p+9+n.length<=xtOf p n:=by
 have h1:=up_ge (1+n.length)
 have h2:=h.al
 unfold xtOf
 omega
theorem Defn.comma(h:Defn q l n hid cs p nx)(v:Int)(hv:V64 v)(hr:q.2.h+8<=q.2.lim q.1):
 q.2.commaF q.1=0∧Defn (q.2.commaS q.1 v,q.2.commaD q.1) l n hid (cs ++ [v]) p nx∧AgreeTo q.2.h q.1 (q.2.commaS q.1 v)∧(∀i,q.2.lim q.1<=i->(q.2.commaS q.1 v).b.getD i 0=q.1.b.getD i 0)∧(q.2.commaD q.1).rg=q.2.rg∧(q.2.commaD q.1).h=q.2.h+8:=by
 obtain⟨r1,r2⟩:=h.room8
 have hc0:q.2.commaF q.1=0:=by
  unfold Dc.commaF
  rw[if_neg oM,if_neg (by have:=h.gr.al8;omega),if_neg (by rw[h.gr.shut];decide)]
 have eS:q.2.commaS q.1 v=q.1.put q.2.h (toB v):=by unfold Dc.commaS;rw[if_pos hc0]
 have eD:q.2.commaD q.1 = { q.2 with h:=q.2.h+8 }:=by unfold Dc.commaD;rw[if_pos hc0]
 have hlim:q.2.lim q.1<=q.1.beg 6:=h.gr.dc.all
 have hlen:=h.gr.img.len
 have l0:q.2.h+ (toB v).length<=q.1.b.length:=by rw[toB_len];omega
 have a1:AgreeTo q.2.h q.1 (q.1.put q.2.h (toB v)):=AgreeTo.put _ _ (Nat.le_refl _) l0
 have p1: (q.1.put q.2.h (toB v)).Ok:=put_ok h.gr.img _ _ (by rw[toB_len];omega)
 have hh:=h.h
 refine⟨hc0,?_,by rw[eS];exact a1,λi hi=>by rw[eS,q.1.put_getD _ _ _ l0,if_neg (by rw[toB_len];omega)],by rw[eD],by rw[eD]⟩
 rw[eS,eD]
 have hg1:=h.gr.agree a1 p1 (Nat.le_refl _)
 have hd:=hg1.dc
 refine⟨⟨p1,⟨hd.rg,?_,?_,hd.l,hd.al,hd.room⟩,by show(q.2.h+8) % 8=0;have:=h.gr.al8;omega,hg1.shut,(Chain.rg (D:=q.2) (D':={ q.2 with h:=q.2.h+8 }) rfl hg1.ch).mono (by show q.2.h<=q.2.h+8;omega),by show q.2.l<q.2.h+8;have:=h.gr.lt;omega⟩,h.head.agree a1 oM,?_,by show q.2.h+8=_;rw[List.length_append,List.length_singleton];omega,h.la,h.nlt,h.al,?_,h.name,Chain.rg (D:=q.2) (D':={ q.2 with h:=q.2.h+8 }) rfl (Chain.agree h.gr.img hlim a1 oM h.chain)⟩
 ·have hlo:Dc.fr (q.1.put q.2.h (toB v)) q.2<=q.2.h:=hd.lo
  show Dc.fr _ { q.2 with h:=q.2.h+8 }<=q.2.h+8
  have e:Dc.fr (q.1.put q.2.h (toB v)) { q.2 with h:=q.2.h+8 }=Dc.fr (q.1.put q.2.h (toB v)) q.2:=rfl
  rw[e];omega
 ·show q.2.h+8<=Dc.lim _ { q.2 with h:=q.2.h+8 }
  have e:Dc.lim (q.1.put q.2.h (toB v)) { q.2 with h:=q.2.h+8 }=q.2.lim q.1:=Dc.lim_alike (D:=q.2) a1.al
  rw[e];omega
 ·refine⟨h.code.al,by rw[a1.len,List.length_append,List.length_singleton];omega,λi u hu=> ?_⟩
  rcases get_snoc hu with⟨rfl,rfl⟩ | ⟨hlt,hu⟩
  ·have hb:=q.1.bytes_put_in q.2.h 0 8 (toB u) l0 (by rw[toB_len];decide)
   rw[show((q.2.h+0:Nat):Int)= ((xtOf p n+8*cs.length:Nat):Int)by rw[h.h];rfl]at hb
   rw[hb,List.drop_zero,List.take_of_length_le (by rw[toB_len];omega)]
   exact ofB_toB u hv
  ·exact(h.code.agree a1 oM).at_ i u hu
 ·have e:Dc.fr (q.1.put q.2.h (toB v)) { q.2 with h:=q.2.h+8 }=q.2.fr q.1:=Dc.fr_alike (D:=q.2) a1.al
  show Dc.fr _ { q.2 with h:=q.2.h+8 }<=p
  rw[e];exact h.lo
theorem Defn.show(h:Defn q l n true cs p nx):
 Defn (q.2.turnS q.1 showT,q.2) l n false cs p nx∧AgreeTo p q.1 (q.2.turnS q.1 showT)∧(∀i,q.2.lim q.1<=i->(q.2.turnS q.1 showT).b.getD i 0=q.1.b.getD i 0):=by
 obtain⟨r1,r2⟩:=h.room8
 have hlim:q.2.lim q.1<=q.1.beg 6:=h.gr.dc.all
 have hlen:=h.gr.img.len
 have hh:=h.h
 have hhi:q.2.h<=q.2.lim q.1:=h.gr.dc.hi
 have hp0:0<p:=by have:=h.nlt;omega
 have g8:q.1.b.getD (p+8) 0=UInt8.ofNat (n.length+32):=by
  have:=h.head 8 oM
  rw[this,List.getD_eq_getElem?_getD,List.getElem?_append_right (by rw[toB_len];omega),toB_len]
  rfl
 have e:q.2.turnS q.1 showT=q.1.put (p+8) [UInt8.ofNat n.length]:=by
  unfold Dc.turnS
  rw[if_neg (by
   rintro(h0|h0)
   ·rw[h.la]at h0;omega
   ·rw[h.gr.shut]at h0;cases h0),h.la,g8,(byte_show _ h.name).1]
 have l0:p+8 + [UInt8.ofNat n.length].length<=q.1.b.length:=by simp;omega
 have a1:AgreeTo p q.1 (q.1.put (p+8) [UInt8.ofNat n.length]):=AgreeTo.put _ _ oM l0
 have p1: (q.1.put (p+8) [UInt8.ofNat n.length]).Ok:=put_ok h.gr.img _ _ (by simp;omega)
 have hal:Alike q.1 (q.1.put (p+8) [UInt8.ofNat n.length]):=Alike.put _ _ _
 have hD1:q.2.Ok (q.1.put (p+8) [UInt8.ofNat n.length]):=Dc.Ok.alike h.gr.dc hal
 have hhd:HeadAt (q.1.put (p+8) [UInt8.ofNat n.length]) p nx (UInt8.ofNat (if false then n.length+32 else n.length)) n:=λi hi=>by
  rw[q.1.put_getD _ _ _ l0]
  by_cases h8:i=8
  ·subst h8
   rw[if_pos (by simp),Nat.sub_self,List.getD_eq_getElem?_getD (l:=toB nx++_),List.getElem?_append_right (by rw[toB_len];omega),toB_len]
   rfl
  ·rw[if_neg (by simp;omega),h.head i hi,List.getD_eq_getElem?_getD,List.getD_eq_getElem?_getD]
   rcases Nat.lt_or_ge i 8 with h1|h1
   ·rw[List.getElem?_append_left (by rw[toB_len];exact h1),List.getElem?_append_left (by rw[toB_len];exact h1)]
   ·rw[List.getElem?_append_right (by rw[toB_len];exact h1),List.getElem?_append_right (by rw[toB_len];exact h1),toB_len,show i-8= (i-9) +1 by omega,List.getElem?_cons_succ,List.getElem?_cons_succ]
 have hfr1:q.2.fr (q.1.put (p+8) [UInt8.ofNat n.length])=q.2.fr q.1:=Dc.fr_alike hal
 have hlim1:q.2.lim (q.1.put (p+8) [UInt8.ofNat n.length])=q.2.lim q.1:=Dc.lim_alike hal
 have hrd:=head_read (hid:=false) p1 hD1 h.al (by rw[hfr1];exact h.lo) h.name (by rw[hlim1];omega) h.nlt hhd
 have hch:Chain (q.1.put (p+8) [UInt8.ofNat n.length]) q.2 p nx l:=Chain.agree h.gr.img hlim a1 (Nat.le_refl _) h.chain
 rw[e]
 refine⟨⟨⟨p1,hD1,h.gr.al8,(Dc.shut_alike hal).trans h.gr.shut,?_,h.gr.lt⟩,hhd,⟨h.code.al,by rw[a1.len];exact h.code.hi,λi u hu=> ?_⟩,h.h,h.la,h.nlt,h.al,by show Dc.fr _ _<=p;rw[hfr1];exact h.lo,h.name,hch⟩,a1,λi hi=>by rw[q.1.put_getD _ _ _ l0,if_neg (by simp;omega)]⟩
 ·show Chain _ q.2 q.2.h q.2.l _
  rw[h.la]
  exact Chain.cons hrd h.nlt (by show xtOf p n<=q.2.h;omega) (hch.mono oM)
 ·have hi:i<cs.length:=(List.getElem?_eq_some_iff.1 hu).1
  have hci:=h.code.hi
  rw[q.1.bytes_put_far (p+8) (xtOf p n+8*i) 8 _ l0 oM (.inr (by simp;omega))]
  exact h.code.at_ i u hu
end
end Vm
open Go.RowKit Go.Lib Go.Deep
namespace Vm
def PlayT(tab:Inst->Option (Rn->Mt->Rs))(P:Nat->Kn)(w:World)(F:Nat->Prop)(c:Vc)(g fb:Nat)(xt:Int)(src:Value)(q:Rs)(tells:Bool)(n:Nat)(a:Act)(wr:World):Prop:=
 ∃u:Nat->Value,a = { tmps:=#[.pointer g,.int .i64 xt,u 2,u 3,.pointer fb,.pointer (some ⟨fb+1,0,none⟩),u 6,u 7,u 8,u 9,u 10,u 11,u 12,u 13,u 14,u 15,u 16,u 17,u 18,u 19,u 20,u 21,u 22,u 23,u 24,u 25,u 26,u 27,u 28,u 29,u 30,u 31,u 32,u 33,u 34,u 35,u 36,u 37,u 38,u 39,u 40,u 41,u 42,u 43,u 44,u 45,u 46,u 47,u 48,u 49,u 50,u 51,u 52,u 53,u 54,u 55,u 56,u 57,u 58,u 59,u 60,u 61,u 62,u 63,u 64,u 65,u 66,u 67,u 68,u 69,u 70,u 71,u 72,u 73,u 74,u 75,u 76,u 77,u 78,u 79,u 80,u 81,u 82,u 83,u 84,u 85,u 86,u 87,u 88,u 89,u 90,u 91,u 92,u 93,u 94,u 95,u 96,u 97,u 98,u 99,u 100,u 101,u 102,u 103,u 104,u 105,u 106,u 107,u 108,u 109,u 110,u 111,u 112,u 113,u 114,u 115,u 116,u 117,u 118,u 119,u 120,u 121,u 122,u 123,u 124,u 125,u 126,u 127,u 128,u 129,u 130,u 131],defers:=[{ target:= .fn (.func 191) #[fb],args:=#[] }] }∧
  ∃(i:Inst) (f:Int) (x:Rn) (s:Mt),On F w (AllA (plL c g fb i f x src s)) wr∧s.Ok∧x.Ok∧s.tells=tells∧goesT tab n x s=some q∧P n c src s
theorem PlayT.mk{tab:Inst->Option (Rn->Mt->Rs)}{P:Nat->Kn}{w:World}{F:Nat->Prop}{c:Vc}{g fb:Nat}{xt:Int}{src:Value}{q:Rs}{tells:Bool}{n:Nat}{tm:Array Value}{wr:World}(u:Nat->Value)(hu:u=λk=>tm.toList.getD k undef)(h:tm=#[.pointer g,.int .i64 xt,u 2,u 3,.pointer fb,.pointer (some ⟨fb+1,0,none⟩),u 6,u 7,u 8,u 9,u 10,u 11,u 12,u 13,u 14,u 15,u 16,u 17,u 18,u 19,u 20,u 21,u 22,u 23,u 24,u 25,u 26,u 27,u 28,u 29,u 30,u 31,u 32,u 33,u 34,u 35,u 36,u 37,u 38,u 39,u 40,u 41,u 42,u 43,u 44,u 45,u 46,u 47,u 48,u 49,u 50,u 51,u 52,u 53,u 54,u 55,u 56,u 57,u 58,u 59,u 60,u 61,u 62,u 63,u 64,u 65,u 66,u 67,u 68,u 69,u 70,u 71,u 72,u 73,u 74,u 75,u 76,u 77,u 78,u 79,u 80,u 81,u 82,u 83,u 84,u 85,u 86,u 87,u 88,u 89,u 90,u 91,u 92,u 93,u 94,u 95,u 96,u 97,u 98,u 99,u 100,u 101,u 102,u 103,u 104,u 105,u 106,u 107,u 108,u 109,u 110,u 111,u 112,u 113,u 114,u 115,u 116,u 117,u 118,u 119,u 120,u 121,u 122,u 123,u 124,u 125,u 126,u 127,u 128,u 129,u 130,u 131])(i:Inst)(f:Int)(x:Rn)(s:Mt)(h1:On F w (AllA (plL c g fb i f x src s)) wr)(h2:s.Ok)(h3:x.Ok)(h4:s.tells=tells)(h5:goesT tab n x s=some q)(h7:P n c src s):
 PlayT tab P w F c g fb xt src q tells n { tmps:=tm,defers:=[{ target:= .fn (.func 191) #[fb],args:=#[] }] } wr:=⟨u,by rw[<-h],i,f,x,s,h1,h2,h3,h4,h5,h7⟩
section
variable {w w':World}{F:Nat->Prop}{c:Vc}{g:Nat}{x:Rn}{src:Value}{s:Mt}
theorem v_playT{tab:Inst->Option (Rn->Mt->Rs)}{P Q:Nat->Kn}{R:Kn}(ht:TabOk tab P Q R)(N:Nat)(hb: (VA c g x src s).holds w F)(hp0:P N c src s)(hs:s.Ok)(hx:x.Ok)(xt:Int)(hxt:V64 xt)(q:Rs)(hq:goesT tab N { x with pc:=xt } (s.pushR [0])=some q)(hroom:1<=s.pr.rm-s.r)(htell:TellOk c s.tells):
 Calls Tryz.prog 162 #[g,xt] w (Got (.returned q.f) (VA c g q.x src q.s) F w):=by
 have hon:=(((On.refl hb).box #[(0:Int)] 44).box #[(0:Int),(0:Int),(0:Int),(0:Int)] 293).box #[(0:Int)] 3
 have hz: (w.alloc (.cells #[(0:Int)] 44)).heap.size=w.heap.size+1:=by simp
 have hz2: ((w.alloc (.cells #[(0:Int)] 44)).alloc (.cells #[(0:Int),(0:Int),(0:Int),(0:Int)] 293)).heap.size=w.heap.size+2:=by simp
 rw[hz,hz2]at hon
 have r0:=(On.refl hb).r0
 have m6:=(On.refl hb).m6
 have hlt:=(On.refl hb).rlt
 have hmlt:=(On.refl hb).mlt
 have hpush:=v_pushR_under (c:=c) (g:=g) (x:=x) (src:=src) (s:=s) 3 (by simp) rfl hon hs [0] (λv hv=>by rw[List.mem_singleton.1 hv];unfold V64;omega) 0 oM (w.heap.size+2) rfl hroom
 have hmf: ∀(fn:Fn) (first cap:Array Value) (w:World),(Instr.makeFunc fn first cap).run Tryz.prog w = .ok (.func fn first cap) w:=λ_ _ _ _=>rfl
 replace hpush:=Lib.hid hpush
 replace hon:=Lib.hid hon
 replace hq:=Lib.hid hq
 replace htell:=Lib.hid htell
 clear hb hz hz2
 go_enter_defers Tryz.func162,Tryz.ntmps162
 go_wp2_with fail
 refine wp_scope_ghost 0 (PlayT tab P w F c g w.heap.size xt src q s.tells) rfl ?pass ?first
 case first=>
  intro hpass
  replace hpass:=Lib.hid hpass
  go_wp2_with fail
  refine mo hpush.out λw1 hon1=>?_
  have hon1:=hon1.tail
  have f3:=hon1.tail.tail.rf 3
  have c3:=hon1.tail.tail.r3
  have hset:=hon1.setAt 2 rfl 3 (.int .i64 xt)
  replace hset:=Lib.hid hset
  replace hon1:=Lib.hid hon1
  go_wp2_with fail
  refine(try_ok _).mono ?_
  rintro e w2 ⟨rfl,rfl⟩
  go_wp2_with fail
  go_step3
  rename_i hK
  refine hK _ _ ?_
  exact hpass.out N _ _ (PlayT.mk _ rfl rfl Inst.none 0 { x with pc:=xt } (s.pushR [0]) hset.out (pushR_ok hs [0] hroom) ⟨hx.base,hx.base2,hx.next,hxt,hx.left,hx.left2⟩ rfl hq.out (ht.push _ _ _ _ _ hp0))
 case pass=>
  intro n a wr hI
  obtain⟨u,ha,i0,f0,x1,s1,hon1,hs1,hx1,ht1,hq1,hw1⟩:=hI
  replace hw1:=Lib.hid hw1
  subst ha
  clear hpush hq hon r0 m6 hlt hmlt
  cases n with
  | zero=>cases hq1
  | succ n=>
    have q00:=hon1.tail.tail.r0
    have q2:=hon1.tail.tail.r2
    have q3:=hon1.tail.tail.r3
    have q1:=hon1.tail.tail.r1
    have qm0:=hon1.tail.tail.m0
    have fr:=hon1.tail.tail.rf
    have ff:=(hon1.blkAt 1 rfl).frozen 0
    unfold goesT at hq1
    by_cases hl:x1.left=0
    ·have hst:stepT tab x1 s1=some ⟨13,x1,s1⟩:=by unfold stepT;rw[if_pos hl]
     rw[hst]at hq1
     have hq2:q= ⟨13,x1,s1⟩:=by
      have h:=hq1
      simp at h
      exact h.symm
     subst hq2
     have e1: (x1.left==0)=true:=by simpa using hl
     have hset:=hon1.setAt 1 rfl 0 (.int .i64 13)
     have qf:wr.cell? (w.heap.size,0)=some (f0:Vl):=(hon1.blkAt 1 rfl).cell 0
     replace hset:=Lib.hid hset
     replace hon1:=Lib.hid hon1
     clear hl hq1 hst hs1 hx1 ht1 hs hx hxt hroom
     go_wp2_with fail
     exact door_ret w.heap.size 13 w _ F c g x1 src s1 i0 hset.out _ rfl
    ·have e1: (x1.left==0)=false:=by simpa using hl
     have e0:=Lib.hid e1
     have hl0:=hx1.left
     have hl2:=hx1.left2
     have hst:stepT tab x1 s1=if(s1.S.fetch x1.mode x1.pc).2≠0 then some ⟨(s1.S.fetch x1.mode x1.pc).2,{ x1 with left:=x1.left-1 },s1⟩
      else
       let i:=(s1.S.fetch x1.mode x1.pc).1
       let x2:={ x1 with left:=x1.left-1,next:=wrap64 (x1.pc+8*i.cells) }
       if asks i x2 s1≠0 then some ⟨asks i x2 s1,x2,s1⟩
       else(tab i).map λq=>if(q x2 s1).f≠0 then q x2 s1 else⟨0,{ (q x2 s1).x with pc:=(q x2 s1).x.next },(q x2 s1).s.told (q x2 s1).x i.op⟩:=by unfold stepT;rw[if_neg hl]
     rw[hst]at hq1
     clear hst
     have hon2:On F w (AllA (plL c g w.heap.size i0 f0 { x1 with left:=x1.left-1 } src s1)) (wr.setCell (g,2) (.int .i64 (x1.left-1))):=hon1.setAt 2 rfl 2 (.int .i64 (x1.left-1))
     have hfe:=λw1 (h1:On F w (AllA (plL c g w.heap.size i0 f0 { x1 with left:=x1.left-1 } src s1)) w1)=>h1.callAtG 4 rfl (λF' ha=>got_of_at ha λw0 L h=>fetch_walk h x1.mode x1.pc)
     have hv:=fetch_v64 s1.S x1.mode x1.pc
     obtain⟨I,hI⟩: ∃I,s1.S.fetch x1.mode x1.pc=I:=⟨_,rfl⟩
     rw[hI]at hfe hq1 hv
     obtain⟨i,f⟩:=I
     simp only[Inst.v]at hfe hq1 hv
     clear hI
     replace hfe:=Lib.hid hfe
     replace hq1:=Lib.hid hq1
     replace hon1:=Lib.hid hon1
     replace hon2:=Lib.hid hon2
     replace hv:=Lib.hid hv
     clear hl
     go_wp2_with fail
     generalize wr.setCell (g,2) (.int .i64 (x1.left-1))=wr2 at *
     have p0:=hon2.out.tail.tail.r0
     have p1:=hon2.out.tail.tail.r1
     have p3:=hon2.out.tail.tail.r3
     have pm:=hon2.out.tail.tail.m0
     have n1:=hon2.out.neAt 0 2 (by decide) rfl rfl
     have n2:=hon2.out.neAt 1 2 (by decide) rfl rfl
     have n3:=hon2.out.neAt 0 3 (by decide) rfl rfl
     have n4:=hon2.out.neAt 1 3 (by decide) rfl rfl
     have n5:=hon2.out.neAt 0 1 (by decide) rfl rfl
     replace hfe:=Lib.hid (hfe.out wr2.drew hon2.out.drew)
     clear q00 q2 q3 q1 qm0 fr ff hon1 e1
     refine wp_region_noPan ?_
     go_region_held (λw'=>w'.cell? (g,0)=some (c.gM:Vl)∧w'.cell? (c.gM,0)=some (c.gI:Vl)∧w'.cell? (g,1)=some (x1.mode:Vl)∧w'.cell? (g,3)=some (x1.pc:Vl)) (go_keep)
      ((go_at_call 193;refine mo hfe.out λw3 hon3=>?_;have z0:=hon3.tail.tail.r0;have z1:=hon3.tail.tail.r1;have z3:=hon3.tail.tail.r3;have zm:=hon3.tail.tail.m0;have y0:w3.cell? ⟨w.heap.size+1,0,none⟩=some (i0.op:Vl):=(hon3.blkAt 0 rfl).cell 0;have y1:w3.cell? ⟨w.heap.size+1,1,none⟩=some (i0.arg:Vl):=(hon3.blkAt 0 rfl).cell 1;have y2:w3.cell? ⟨w.heap.size+1,2,none⟩=some (i0.lit:Vl):=(hon3.blkAt 0 rfl).cell 2;have y3:w3.cell? ⟨w.heap.size+1,3,none⟩=some (i0.cells:Vl):=(hon3.blkAt 0 rfl).cell 3;have yf:w3.cell? (w.heap.size,0)=some (f0:Vl):=(hon3.blkAt 1 rfl).cell 0;have ff:=(hon3.blkAt 1 rfl).frozen 0;have fi0:=(hon3.blkAt 0 rfl).frozen 0;have fi1:=(hon3.blkAt 0 rfl).frozen 1;have fi2:=(hon3.blkAt 0 rfl).frozen 2;have fi3:=(hon3.blkAt 0 rfl).frozen 3;replace hon3:=Lib.hid hon3))
     refine NoPan.normal ?_
     have hon4:On F w (AllA (plL c g w.heap.size i f { x1 with left:=x1.left-1 } src s1)) _:=((((hon3.out.setAt 0 rfl 0 (.int .i64 i.op)).setAt 0 rfl 1 (.int .i64 i.arg)).setAt 0 rfl 2 (.int .i64 i.lit)).setAt 0 rfl 3 (.int .i64 i.cells)).setAt 1 rfl 0 (.int .i64 f)
     replace hon4:=Lib.hid hon4
     clear z0 z1 z3 zm y0 y1 y2 y3 yf ff fi0 fi1 fi2 fi3 hon3 p0 p1 p3 pm hon2 hfe
     generalize (((((w3.setCell ⟨w.heap.size+1,0,none⟩ (.int .i64 i.op)).setCell ⟨w.heap.size+1,1,none⟩ (.int .i64 i.arg)).setCell ⟨w.heap.size+1,2,none⟩ (.int .i64 i.lit)).setCell ⟨w.heap.size+1,3,none⟩ (.int .i64 i.cells)).setCell (w.heap.size,0) (.int .i64 f))=w4 at *
     have qf:w4.cell? (w.heap.size,0)=some (f:Vl):=(hon4.out.blkAt 1 rfl).cell 0
     by_cases hf:f=0
     rotate_left
     ·have hq2:q= ⟨f,{ x1 with left:=x1.left-1 },s1⟩:=by
       have h:=hq1.out
       rw[if_pos hf]at h
       simp only at h
       rw[if_pos hf]at h
       exact(Option.some.inj h).symm
      subst hq2
      have htr:=λw=>try_no f hf w
      replace htr:=Lib.hid htr
      clear hf hq1
      go_wp2_with fail
      refine(htr.out _).mono ?_
      rintro e w5 ⟨rfl,rfl⟩
      exact door_panic w.heap.size f f w _ F c g _ src s1 i hon4.out _ rfl
     subst hf
     have q0:=hon4.out.tail.tail.r0
     have q3:=hon4.out.tail.tail.r3
     have q4:=hon4.out.tail.tail.r4
     have qf4:=hon4.out.tail.tail.rf 4
     have b3:w4.cell? ⟨w.heap.size+1,3,none⟩=some (i.cells:Vl):=(hon4.out.blkAt 0 rfl).cell 3
     have k3: ∀v,(w4.setCell (g,4) v).drew.cell? (g,3)=some (x1.pc:Vl):=λv=>((hon4.out.setAt 2 rfl 4 v).drew.blkAt 2 rfl).cell 3
     have kb: ∀v,(w4.setCell (g,4) v).drew.cell? ⟨w.heap.size+1,3,none⟩=some (i.cells:Vl):=λv=>((hon4.out.setAt 2 rfl 4 v).drew.blkAt 0 rfl).cell 3
     go_wp2_with fail
     refine(try_ok _).mono ?_
     rintro e w5 ⟨rfl,rfl⟩
     go_wp2_with fail
     refine wp_region_noPan ?_
     go_region_held (λw'=>w'.cell? (g,3)=some (x1.pc:Vl)∧w'.cell? ⟨w.heap.size+1,3,none⟩=some (i.cells:Vl)) (go_keep) (fail)
     refine NoPan.normal ?_
     have hnw:IntKind.i64.wrap (x1.pc+IntKind.i64.wrap (8*i.cells))=wrap64 (x1.pc+8*i.cells):=by
      have h:=hv.out.2.2
      rw[IntWalk.i64_in (8*i.cells) h,IntKind.wrap_i64]
      unfold wrap64
      omega
     rw[hnw]
     clear k3 kb hnw q0 q3 q4 qf4 b3 qf n1 n2 n3 n4 n5
     have hon5:On F w (AllA (plL c g w.heap.size i 0 { x1 with left:=x1.left-1,next:=wrap64 (x1.pc+8*i.cells) } src s1)) _:=(hon4.out.setAt 2 rfl 4 (.int .i64 (wrap64 (x1.pc+8*i.cells)))).drew
     have hx2: ({ x1 with left:=x1.left-1,next:=wrap64 (x1.pc+8*i.cells) }:Rn).Ok:=by
      have hne:x1.left≠0:=by simpa using e0.out
      have h1:0<=x1.left-1:=by omega
      have h2:x1.left-1<=1000000:=by omega
      exact⟨hx1.base,hx1.base2,wrap_v64 _,hx1.pc,h1,h2⟩
     replace hon5:=Lib.hid hon5
     have hq2:=hq1.out
     rw[if_neg (by simp)]at hq2
     try simp only at hq2
     have hmode: ({ x1 with left:=x1.left-1,next:=wrap64 (x1.pc+8*i.cells) }:Rn).left=x1.left-1:=rfl
     generalize ({ x1 with left:=x1.left-1,next:=wrap64 (x1.pc+8*i.cells) }:Rn)=x2 at *
     clear hq1 hon4
     generalize (w5.setCell (g,4) (.int .i64 (wrap64 (x1.pc+8*i.cells)))).drew=w6 at *
     have b0:w6.cell? ⟨w.heap.size+1,0,none⟩=some (i.op:Vl):=(hon5.out.blkAt 0 rfl).cell 0
     have b1:w6.cell? ⟨w.heap.size+1,1,none⟩=some (i.arg:Vl):=(hon5.out.blkAt 0 rfl).cell 1
     have b2:w6.cell? ⟨w.heap.size+1,2,none⟩=some (i.lit:Vl):=(hon5.out.blkAt 0 rfl).cell 2
     have b3:w6.cell? ⟨w.heap.size+1,3,none⟩=some (i.cells:Vl):=(hon5.out.blkAt 0 rfl).cell 3
     have hak:Calls Tryz.prog 194 #[g,.agg #[i.op,i.arg,i.lit,i.cells]] w6 (Got (tryE (asks i x2 s1)) (AllA (plL c g w.heap.size i 0 x2 src s1)) F w):=
      hon5.out.callDrop 2 (by simp[plL]) λF' hb' _ _=>v_asks hb' hs1 hx2 i
     by_cases hA:asks i x2 s1=0
     rotate_left
     ·obtain⟨A,hAe⟩: ∃A,asks i x2 s1=A:=⟨_,rfl⟩
      rw[hAe]at hA hak hq2
      rw[if_pos hA]at hq2
      simp only at hq2
      rw[if_pos hA]at hq2
      obtain rfl:=Option.some.inj hq2
      clear hq2 hAe
      have e2:tryE A = .panicked [flt A]:=by unfold tryE;rw[if_neg hA]
      rw[e2]at hak
      clear hA e2
      replace hak:=Lib.hid hak
      go_wp2_with fail
      refine mo hak.out λw7 hon6=>?_
      exact door_panic w.heap.size A 0 w _ F c g _ src s1 i hon6 _ rfl
     rw[hA]at hak
     rw[if_neg (by simp[hA])]at hq2
     have hask:=Asked.of hA
     rcases hp:tab i with _|Q
     ·rw[hp]at hq2
      cases hq2
     rw[hp]at hq2
     obtain⟨hdo,hke⟩:=ht.ok n i Q hp
     obtain⟨hs3,hx3,ht3,hlf3,hw3⟩:=hke c src x2 s1 hw1.out hs1 hx2 hv.out.1 hv.out.2.1 hask
     have hdoes: ∀w1,On F w (AllA (plL c g w.heap.size i 0 x2 src s1)) w1->Calls Tryz.prog 195 #[g,.agg #[i.op,i.arg,i.lit,i.cells]] w1 (Got (tryE (Q x2 s1).f) (AllA (plL c g w.heap.size i 0 (Q x2 s1).x src (Q x2 s1).s)) F w):=
      λw1 h1=>h1.callDrop 2 (by simp[plL]) λF' hb' _ _=>hdo c g x2 src s1 w1 F' hw1.out hs1 hx2 hv.out.1 hv.out.2.1 hask hb'
     simp only[Option.map_some]at hq2
     generalize Q x2 s1=R at *
     obtain⟨rf,x3,s3⟩:=R
     simp only at hq2 hs3 hx3 ht3 hlf3 hw3 hdoes
     have hak':Calls Tryz.prog 194 #[g,.agg #[i.op,i.arg,i.lit,i.cells]] w6 (Got (.returned (.tuple #[])) (AllA (plL c g w.heap.size i 0 x2 src s1)) F w):=hak
     clear hak hA hask hke hdo hp
     replace hak:=Lib.hid hak'
     replace hdoes:=Lib.hid hdoes
     replace hq2:=Lib.hid hq2
     clear hak'
     go_wp2_with fail
     refine mo hak.out λw7 hon6=>?_
     have d0:w7.cell? ⟨w.heap.size+1,0,none⟩=some (i.op:Vl):=(hon6.blkAt 0 rfl).cell 0
     have d1:w7.cell? ⟨w.heap.size+1,1,none⟩=some (i.arg:Vl):=(hon6.blkAt 0 rfl).cell 1
     have d2:w7.cell? ⟨w.heap.size+1,2,none⟩=some (i.lit:Vl):=(hon6.blkAt 0 rfl).cell 2
     have d3:w7.cell? ⟨w.heap.size+1,3,none⟩=some (i.cells:Vl):=(hon6.blkAt 0 rfl).cell 3
     replace hdoes:=Lib.hid (hdoes.out _ hon6)
     clear hon6 b0 b1 b2 b3
     by_cases hrf:rf=0
     rotate_left
     ·have hq3:=hq2.out
      rw[if_pos hrf]at hq3
      simp only at hq3
      rw[if_pos hrf]at hq3
      obtain rfl:=Option.some.inj hq3
      have e2:tryE rf = .panicked [flt rf]:=by unfold tryE;rw[if_neg hrf]
      rw[e2]at hdoes
      clear hrf e2 hq3 hq2
      go_wp2_with fail
      refine mo hdoes.out λw8 hon7=>?_
      exact door_panic w.heap.size rf 0 w _ F c g _ src s3 i hon7 _ rfl
     subst hrf
     have hdoes':Calls Tryz.prog 195 #[g,.agg #[i.op,i.arg,i.lit,i.cells]] w7 (Got (.returned (.tuple #[])) (AllA (plL c g w.heap.size i 0 x3 src s3)) F w):=hdoes.out
     replace hdoes':=Lib.hid hdoes'
     clear hdoes
     go_wp2_with fail
     refine mo hdoes'.out λw8 hon7=>?_
     have c0:=hon7.tail.tail.r0
     have c7:=hon7.tail.tail.m7
     have hq3:=hq2.out
     clear hdoes' hak d0 d1 d2 d3 hq2 hon5
     obtain⟨s4,hs4⟩: ∃s4,s3.told x3 i.op=s4:=⟨_,rfl⟩
     simp only[ne_eq,not_true_eq_false,if_false,hs4]at hq3
     have hs4ok:s4.Ok:=by rw[<-hs4];exact told_ok hs3 x3 i.op
     have ht4:s4.tells=s.tells:=by rw[<-hs4];unfold Mt.told;split<;> (show s3.tells=s.tells;rw[ht3,ht1])
     have ht3':s3.tells=s.tells:=by rw[ht3,ht1]
     have hn3:s3.seen.length<1000000000:=ht.len _ _ _ _ hw3
     have hw4:P n c src s4:=by rw[<-hs4];exact ht.told _ _ _ _ _ _ hw3
     replace hw4:=Lib.hid hw4
     replace hn3:=Lib.hid hn3
     replace hq3:=Lib.hid hq3
     replace hs4:=Lib.hid hs4
     replace hon7:=Lib.hid hon7
     replace ht3:=Lib.hid ht3
     replace ht1:=Lib.hid ht1
     replace ht4:=Lib.hid ht4
     replace ht3':=Lib.hid ht3'
     replace hmode:=Lib.hid hmode
     replace hlf3:=Lib.hid hlf3
     rcases htell.out with⟨htf,htn⟩ | ⟨htf,gb,htn,htc⟩
     ·have e4:s4=s3:=by
       rw[<-hs4.out]
       unfold Mt.told
       rw[if_neg (by rw[ht3'.out,htf];simp)]
      subst e4
      rw[htn]at c7
      replace htn:=Lib.hid htn
      replace htf:=Lib.hid htf
      have hnn:=neq_nilFunc w8
      have g4:=hon7.out.tail.tail.r4
      have g3:=hon7.out.tail.tail.r3
      have gf3:=hon7.out.tail.tail.rf 3
      have hset:On F w (AllA (plL c g w.heap.size i 0 { x3 with pc:=x3.next } src s4)) (w8.setCell (g,3) (.int .i64 x3.next)):=hon7.out.setAt 2 rfl 3 (.int .i64 x3.next)
      have h5:=hset.tail.tail.r5
      have hf0:=(hset.blkAt 1 rfl).cell 0
      have hff:=(hset.blkAt 1 rfl).frozen 0
      have hst:On F w (AllA (plL c g w.heap.size i 0 { x3 with pc:=x3.next } src s4)) ((w8.setCell (g,3) (.int .i64 x3.next)).setCell (w.heap.size,0) (.int .i64 0)):=hset.setAt 1 rfl 0 (.int .i64 0)
      have hx4: ({ x3 with pc:=x3.next }:Rn).Ok:=⟨hx3.base,hx3.base2,hx3.next,hx3.next,hx3.left,hx3.left2⟩
      replace hset:=Lib.hid hset
      replace hst:=Lib.hid hst
      replace hon7:=Lib.hid hon7
      rcases hov:x3.over with _|_
      ·have hq4:goesT tab n { x3 with pc:=x3.next } s4=some q:=by
        have h:=hq3.out
        rw[if_neg (by rw[hov];simp)]at h
        exact h
       rw[hov]at h5
       replace hq4:=Lib.hid hq4
       replace hov:=Lib.hid hov
       go_wp2_with fail
       go_step3
       refine⟨rfl,n,by omega,?_⟩
       exact PlayT.mk _ rfl rfl i 0 _ s4 hset.out hs4ok hx4 ht4.out hq4.out hw4.out
      ·have hq4: (⟨0,{ x3 with pc:=x3.next },s4⟩:Rs)=q:=by
        have h:=hq3.out
        rw[if_pos hov]at h
        exact Option.some.inj h
       rw[hov]at h5
       subst hq4
       replace hov:=Lib.hid hov
       go_wp2_with fail
       exact door_ret w.heap.size 0 w _ F c g _ src s4 i hst.out _ rfl
end
section
variable {w w':World}{F:Nat->Prop}{c:Vc}{s:Mt}
theorem v_runT{tab:Inst->Option (Rn->Mt->Rs)}{P Q:Nat->Kn}{R:Kn}(ht:TabOk tab P Q R)(N:Nat)(sp:Option Addr)(hb: (AllA (mL c s)).holds w F)(hp0:P N c (.pointer sp) s)(hs:s.Ok)(htell:TellOk c s.tells)(mode xt fuel:Int)(hxt:V64 xt)(hroom:1<=s.pr.rm-s.r)(q:Rs)
 (hq:goesT tab N { Rn.start mode fuel with pc:=xt } (s.pushR [0])=some q):
 Calls Tryz.prog 112 #[c.gM,mode,xt,fuel,.pointer sp] w (Got (.returned (.tuple #[q.f,(clip fuel-q.x.left:Int)])) (AllA (mL c q.s)) F w):=by
 have hon:=(On.refl hb).box (runC c (Rn.start mode fuel) (.pointer sp)) 258
 have hok: (Rn.start mode fuel).Ok:=start_ok mode fuel
 have hq':goesT tab N { Rn.start mode fuel with pc:=xt } (s.pushR [0])=some q:=hq
 have hbd:=(goesT_ok ht c (.pointer sp) _ { Rn.start mode fuel with pc:=xt } _ _ (ht.push _ _ _ _ _ hp0) (pushR_ok hs [0] hroom) ⟨hok.base,hok.base2,hok.next,hxt,hok.left,hok.left2⟩ hq).2.1
 have hcl:0<=clip fuel∧clip fuel<=1000000:=by unfold clip;omega
 have hbd2:q.x.left<=clip fuel:=hbd.2
 have hbd1:=hbd.1
 have hpl:=On.callG (A:=AllA (RunA c w.heap.size (Rn.start mode fuel) (.pointer sp)::mL c s)) hon (λF' hb'=>v_playT ht N (c:=c) (g:=w.heap.size) (x:=Rn.start mode fuel) (src:=(.pointer sp)) (s:=s) hb' hp0 hs hok xt hxt q hq' hroom htell)
 have hr:runC c (Rn.start mode fuel) (.pointer sp)=#[.pointer c.gM,.int .i64 mode,.int .i64 (clip fuel),.int .i64 0,.int .i64 0,.bool false,.bool false,.int .i64 0,.pointer sp]:=rfl
 rw[hr]at hpl
 have hmm:max 0 (min fuel 1000000)=clip fuel:=rfl
 replace hpl:=Lib.hid hpl
 clear hb hon hbd hq hq' hr hok hs htell
 generalize clip fuel=L at *
 go_enter Tryz.func112,Tryz.ntmps112
 go_wp2_with fail
 refine mo hpl.out λw1 h=>?_
 have c2:w1.cell? (w.heap.size,2)=some (q.x.left:Vl):=(h.blkAt 0 rfl).cell 2
 replace h:=Lib.hid h
 go_wp2_with fail
 go_quiet (fail)
 go_wp2
 go_ret2
 exact⟨rfl,h.out.tail.drewN _⟩
end
structure Oc0(c:Vc)(o:Oc)(L:List Asr):Prop where
 sfr:c.sfr=16456
 sto:c.sto=19104
 kfr:c.kfr=8
 kto:c.kto=16384
 tell:c.tell = .nilFunc
 rest: ∀t k,c.rest ⟨t,k⟩=SrcA o.gs t k::L
 ws: ∃i:Nat,L[i]? = some (RowP c.ws [c.gS,c.gK])
 tab: ∃(i:Nat) (A:Asr),L[i]? = some A∧∀w F,A.holds w F->Pows w∧Bruijn w
structure Oa where
 ws:List Wd
 ds:List Int
 out:List UInt8
 here:Nat
 last:Nat
 codes:List (Nat×List Int)
 R:List UInt8
 left:Nat
 tl:Nat
def tabO(out:List UInt8):Caps.Tab:={ Caps.made 1 60000 ⟨#[]⟩with out:=⟨out.toArray⟩ }
structure OB(a:Oa)(s:Mt):Prop where
 om:Om s a.ws a.ds
 T:s.T=tabO a.out
 here:s.hs=a.here
 last:s.ls=a.last
 sn:s.seen = []
 f:s.fault=0∧s.used=0∧s.hidden=0
 codes: ∀p∈a.codes,CodeIn s.S p.1 p.2∧p.1+8*p.2.length<=a.here
structure OQ(a:Oa)(x:Rx)(s:Mt):Prop where
 b:OB a s
 sz:s.ext.text.size<=60000
 tl:s.ext.text.size=a.tl
 le:s.ext.at_<=s.ext.text.size
 R:restE s.ext=a.R
 left:x.left=a.left
 l2:a.left<=1000000
 mode:x.mode=1
theorem At8.begs3{S S':Img}{D:Dc}{fr en:Nat}(h:At8 S D fr en)(hb: ∀n,S'.beg n=S.beg n)(hS:S'.Ok):At8 S' D fr en:=by
 have e1:D.fr S'=D.fr S:=by unfold Dc.fr;rw[hb]
 have e2:D.lim S'=D.lim S:=by unfold Dc.lim;rw[hb]
 exact⟨⟨h.ok.rg,by rw[e1];exact h.ok.lo,by rw[e2];exact h.ok.hi,by rw[e1,e2];exact h.ok.l,by rw[e2,hb];exact h.ok.al,by rw[e2,hb];exact h.ok.room⟩,hS,by rw[e1];exact h.fr,by rw[e2];exact h.lim⟩
theorem lay3_beg{S T:Img}(hS:Lay3 S)(hT:Lay3 T)(n:Nat):S.beg n=T.beg n:=by
 unfold Img.beg
 rw[hS.k,hS.s,hS.u,hS.d,hS.r,hT.k,hT.s,hT.u,hT.d,hT.r]
theorem Om.at8S{s:Mt}{l:List Wd}{ds:List Int}(h:Om s l ds):At8 s.S (dS s) 16456 19104:=by
 obtain⟨b2,b3,b4,b5,b6⟩:=h.rep.lay.begs
 refine⟨h.stu.dc,h.rep.img,?_,?_⟩
 ·unfold Dc.fr
  rw[h.srg]
  omega
 ·unfold Dc.lim
  rw[h.srg]
  exact b4
theorem k13_at8:At8 k13.1 k13.2 8 16384:=by
 obtain⟨g,_,_,hr,_⟩:=k13_laid
 have b2:=k13_lay.begs.1
 refine⟨g.dc,g.img,?_,?_⟩
 ·unfold Dc.fr
  rw[hr]
  rfl
 ·unfold Dc.lim
  rw[hr]
  exact b2
theorem Om.at8K{s:Mt}{l:List Wd}{ds:List Int}(h:Om s l ds):At8 s.S (dK s) 8 16384:=by
 rw[h.dk]
 exact k13_at8.begs3 (lay3_beg h.rep.lay k13_lay) h.rep.img
theorem k13_l0: (0:Int)<=(k13.2.l:Int):=Int.natCast_nonneg _
section
variable {c:Vc}{o:Oc}{L:List Asr}{a:Oa}{x:Rx}{s:Mt}
theorem Om.lists(h0:Oc0 c o L){l:List Wd}{ds:List Int}(h:Om s l ds):OLists c s:=
 ⟨h.h0,h.l0,by rw[h.hk];decide,by rw[h.lk];exact k13_l0,by rw[h0.sfr,h0.sto];exact h.at8S,by rw[h0.kfr,h0.kto];exact h.at8K⟩
theorem Om.dcs(h0:Oc0 c o L){l:List Wd}{ds:List Int}(h:Om s l ds)(src:Value):Dcs c src s:=⟨h.h0,h.l0,by rw[h0.sfr,h0.sto];exact h.at8S⟩
theorem OQ.src(h0:Oc0 c o L)(h:OQ a x s):OSrc c o s L:=⟨λk=>h0.rest _ k,h.sz,h.le⟩
theorem OQ.wk(h0:Oc0 c o L)(h:OQ a x s):Wk c (.pointer o.gs) s:=by
 obtain⟨f1,f2,f3⟩:=h.b.f
 have z:V64 0:=by unfold V64;omega
 refine⟨h.b.om.dcs h0 _,by rw[h.b.om.hk];decide,by rw[h.b.om.lk];exact k13_l0,by rw[h0.kfr,h0.kto];exact h.b.om.at8K,?_,?_,.inr ⟨o.gs,L,rfl,λk=>h0.rest _ k,h.sz,h.le⟩,by rw[f1];exact z,by rw[f2];exact z,by rw[f3];exact z⟩
 ·obtain⟨i,hi⟩:=h0.ws
  refine⟨i+1,λe=> ?_⟩
  obtain⟨t,k⟩:=e
  rw[h0.rest,List.getElem?_cons_succ]
  exact hi
 ·obtain⟨i,A,hi,hA⟩:=h0.tab
  refine⟨i+1,A,λe=> ?_,hA⟩
  obtain⟨t,k⟩:=e
  rw[h0.rest,List.getElem?_cons_succ]
  exact hi
theorem Om.ext{l:List Wd}{ds:List Int}(h:Om s l ds)(e:Ext):Om { s with ext:=e } l ds:=
 ⟨⟨h.rep.img,h.rep.lay,h.rep.pd,h.rep.pr,h.rep.d,h.rep.r,h.rep.dle,h.rep.rle,h.rep.dv,h.rep.rv⟩,h.ker,h.hk,h.lk,h.base,h.stu,h.h0,h.l0,h.srg,h.quiet⟩
theorem OQ.at_(h:OQ a x s):s.ext.at_=a.tl-a.R.length:=by
 have e: (restE s.ext).length=s.ext.text.size-s.ext.at_:=by unfold restE;rw[List.length_drop,Array.length_toList];rfl
 rw[h.R,h.tl]at e
 have:=h.le
 rw[h.tl]at this
 omega
theorem OQ.read(h:OQ a x s)(hf:nxC a.R<=a.left):OQ { a with R:=nxR a.R,left:=a.left-nxC a.R } (x.paid s) (s.readTo (exN s.ext)):=by
 obtain⟨h1,h2,h3⟩:=ex_bounds h.sz h.le
 have hc:=exC_rest h.sz h.le
 rw[h.R]at hc
 refine⟨⟨h.b.om.ext _,h.b.T,h.b.here,h.b.last,h.b.sn,h.b.f,h.b.codes⟩,h.sz,h.tl,h2,?_,?_,by show a.left-_<=_;have:=h.l2;omega,h.mode⟩
 ·show s.ext.text.data.toList.drop (exN s.ext)=nxR a.R
  rw[exN_rest,h.R]
 ·show x.left-exC s.ext= ((a.left-nxC a.R:Nat):Int)
  rw[hc,h.left]
  omega
theorem OQ.near(h:OQ a x s)(hf:nxC a.R<=a.left):0<=x.left∧x.left<=1000000∧¬x.left<exC s.ext:=by
 have hc:=exC_rest h.sz h.le
 rw[h.R]at hc
 rw[hc,h.left]
 have:=h.l2
 omega
theorem OQ.word(h:OQ a x s): (exW s.ext).data.toList=nxW a.R:=by rw[exW_rest,h.R]
theorem round_of{E:Rx->Mt->Prop}{Q:Rx->Mt->Prop}(h0:Oc0 c o L)(hE: ∀x s k,E x s->E (x.paid s) (s.readTo k))(hw:nxW a.R≠[])(hf:nxC a.R<=a.left)
 (hact: ∀x s nm,OQ { a with R:=nxR a.R,left:=a.left-nxC a.R } x s->E x s->nm.data.toList=nxW a.R->∀w F W,On F w (AllA (oL c o x s)) W->ActTo c o F w W Q (kvOf s nm)):
 RoundTo c o L (λx s=>OQ a x s∧E x s) Q:=by
 intro x s ⟨hq,he⟩
 obtain⟨h1,h2,h3⟩:=hq.near hf
 refine⟨hq.src h0,hq.b.om.lists h0,h1,h2,h3,?_,?_⟩
 ·intro e
  apply hw
  rw[<-hq.word,e]
 ·intro w F W hon
  have h:=hact _ _ (exW s.ext) (hq.read hf) (hE x s _ he) hq.word w F W hon
  rw[kvOf_read]at h
  exact h
theorem end_of{E:Rx->Mt->Prop}(h0:Oc0 c o L)(hE: ∀x s k,E x s->E (x.paid s) (s.readTo k))(hE2: ∀x s,E x s->x.opn=false)(hw:nxW a.R = [])(hf:nxC a.R<=a.left):
 EndTo c o L (λx s=>OQ a x s∧E x s) 0 (λx s=>OQ { a with R:=nxR a.R,left:=a.left-nxC a.R } x s∧E x s):=by
 intro x s ⟨hq,he⟩
 obtain⟨h1,h2,h3⟩:=hq.near hf
 refine⟨hq.src h0,hq.b.om.lists h0,h1,h2,_,_,.end_ h3 (Caps.ext _ _ ?_) (hE2 x s he),hq.read hf,hE x s _ he⟩
 rw[hq.word,hw]
theorem none_of{E:Rx->Mt->Prop}(h0:Oc0 c o L)(hE: ∀x s k,E x s->E (x.paid s) (s.readTo k))(hw:nxW a.R≠[])(hf:nxC a.R<=a.left)(hk: ∀x s nm,OQ a x s->nm.data.toList=nxW a.R->kvOf s nm = .no):
 EndTo c o L (λx s=>OQ a x s∧E x s) 8 (λx s=>OQ { a with R:=nxR a.R,left:=a.left-nxC a.R } x s∧E x s):=by
 intro x s ⟨hq,he⟩
 obtain⟨h1,h2,h3⟩:=hq.near hf
 refine⟨hq.src h0,hq.b.om.lists h0,h1,h2,_,_,.none_ h3 (λe=>hw (by rw[<-hq.word,e])) (hk x s _ hq hq.word),hq.read hf,hE x s _ he⟩
def NoWd(ws:List Wd)(n:List UInt8):Prop:=ws.any (λw=> !w.hid&&sameB w.name n)=false
theorem NoWd.find{ws:List Wd}{n:List UInt8}(h:NoWd ws n):ws.find? (λw=> !w.hid&&sameB w.name n)=none:=by
 unfold NoWd at h
 rw[List.find?_eq_none]
 intro w hw
 rw[List.any_eq_false]at h
 exact h w hw
theorem OQ.findS(h:OQ a x s)(n:List UInt8):findW s.S (dS s) n=a.ws.find? λw=> !w.hid&&sameB w.name n:=h.b.om.findS n
theorem OQ.kv_none(h:OQ a x s)(nm:ByteArray)(hS:NoWd a.ws nm.data.toList)(hK:kp nm.data.toList=none):kvOf s nm=nuOf s nm:=by
 unfold kvOf
 rw[h.findS,hS.find,h.b.om.knone hK]
 rfl
theorem OQ.base(h:OQ a x s):s.S.cellV 0 (s.S.beg 3:Int)=10:=by
 rw[h.b.om.rep.lay.begs.2.1]
 exact h.b.om.base
theorem OQ.kv_num(h:OQ a x s)(nm:ByteArray)(hS:NoWd a.ws nm.data.toList)(hK:kp nm.data.toList=none)(n:Int)(hn:parseN nm.data.toList 10= (n,true)):kvOf s nm = .nu n:=by
 rw[h.kv_none nm hS hK]
 unfold nuOf
 rw[h.base,hn,if_pos rfl]
theorem OQ.kv_no(h:OQ a x s)(nm:ByteArray)(hS:NoWd a.ws nm.data.toList)(hK:kp nm.data.toList=none)(hn: (parseN nm.data.toList 10).2=false):kvOf s nm = .no:=by
 rw[h.kv_none nm hS hK]
 unfold nuOf
 rw[h.base,hn,if_neg (by decide)]
theorem OQ.region1(h:OQ a x s){xt:Nat}(h1:xt<16384):s.S.region (xt:Int)=1:=by
 obtain⟨b2,b3,b4,b5,b6⟩:=h.b.om.rep.lay.begs
 exact s.S.region_eq oM oM oM (by show((0:Nat):Int)<=_;omega) (by show _< ((s.S.beg 2:Nat):Int);omega)
theorem OQ.region3(h:OQ a x s){xt:Nat}(h1:16448<=xt)(h2:xt<19104):s.S.region (xt:Int)=3:=by
 obtain⟨b2,b3,b4,b5,b6⟩:=h.b.om.rep.lay.begs
 exact s.S.region_eq oM oM oM oM (by show _< ((s.S.beg 4:Nat):Int);omega)
theorem OQ.kv_op(h:OQ a x s)(nm:ByteArray){hd xt:Nat}{inl:Bool}{v op:Int}{cs:List Int}(hS:NoWd a.ws nm.data.toList)(hK:kpS nm.data.toList=some (hd,xt,inl,v::cs))(hu: (Code.unpack v).1=op)(h20:op≠20):
 ∃wd,kvOf s nm = .fd wd∧KFound s nm.data.toList hd xt inl (v::cs) wd:=by
 obtain⟨wd,hw⟩:=h.b.om.kfound hK
 refine⟨wd,?_,hw⟩
 have h1:=hw.hi
 have h2:=hw.lo
 simp only[List.length_cons]at h1
 obtain⟨b2,b3,b4,b5,b6⟩:=h.b.om.rep.lay.begs
 have hc:=hw.code.cell (rg:=1) (.inl rfl) (by show s.S.beg 1<=xt;exact Nat.zero_le _) (by show _<=s.S.beg 2;simp only[List.length_cons];omega) 0 oM 0 v rfl
 rw[show(xt:Int) +8* ((0:Nat):Int)= (xt:Int)by omega]at hc
 unfold kvOf
 rw[h.findS,hS.find,hw.found]
 show spOf s nm wd=_
 unfold spOf
 rw[hw.ex,hc.2,if_neg (by rintro⟨_,e⟩;exact h20 (hu.symm.trans e))]
theorem OQ.kv_sp(h:OQ a x s)(nm:ByteArray){hd xt:Nat}{inl:Bool}{v k:Int}{b:Bool}(hS:NoWd a.ws nm.data.toList)(hK:kpS nm.data.toList=some (hd,xt,inl,[v]))(hu:Code.unpack v= (20,k,b)):kvOf s nm = .sp k nm:=by
 obtain⟨wd,hw⟩:=h.b.om.kfound hK
 have h1:=hw.hi
 have h2:=hw.lo
 simp only[List.length_cons,List.length_nil]at h1
 obtain⟨b2,b3,b4,b5,b6⟩:=h.b.om.rep.lay.begs
 have hc:=hw.code.cell (rg:=1) (.inl rfl) (by show s.S.beg 1<=xt;exact Nat.zero_le _) (by show _<=s.S.beg 2;simp only[List.length_cons,List.length_nil];omega) 0 oM 0 v rfl
 rw[show(xt:Int) +8* ((0:Nat):Int)= (xt:Int)by omega]at hc
 unfold kvOf
 rw[h.findS,hS.find,hw.found]
 show spOf s nm wd=_
 unfold spOf
 rw[hw.ex,hc.2,hu,if_pos ⟨h.region1 oM,rfl⟩]
theorem OQ.kv_own(h:OQ a x s)(nm:ByteArray){wd:Wd}(hS:a.ws.find? (λw=> !w.hid&&sameB w.name nm.data.toList)=some wd)(h1:16448<=wd.xt)(h2:wd.xt<19104):kvOf s nm = .fd wd:=by
 unfold kvOf
 rw[h.findS,hS]
 show spOf s nm wd=_
 unfold spOf
 rw[h.region3 h1 h2,if_neg (by rintro⟨e,_⟩;exact absurd e (by decide))]
end
structure Df where
 l:List Wd
 n:List UInt8
 cs:List Int
 p:Nat
 nx:Nat
def PI(a:Oa)(x:Rx)(s:Mt):Prop:=OQ a x s∧(x.comp=false∧x.opn=false)
def InD(d:Df)(x:Rx)(s:Mt):Prop:=x.comp=true∧x.opn=true∧(∃g,x.fo=FlowA g∧x.fp = .pointer (some ⟨g,0,none⟩))∧Defn (s.S,dS s) d.l d.n true d.cs d.p d.nx
def PD(a:Oa)(d:Df)(x:Rx)(s:Mt):Prop:=OQ a x s∧(InD d x s∧a.ws=defW d.p d.n true::d.l∧∀p∈a.codes,p.1+8*p.2.length<=d.p)
section
variable {c:Vc}{o:Oc}{L:List Asr}{a:Oa}{d:Df}{x:Rx}{s:Mt}{w W:World}{F:Nat->Prop}
theorem dS_on(T:Img)(D:Dc)(h:D.rg=3):dS (s.onDict T D)=D:=by
 obtain⟨rg,hh,ll⟩:=D
 simp only at h
 subst h
 unfold dS Mt.onDict
 simp
theorem CodeIn.keep{N:Nat}{S T:Img}{b:Nat}{cs:List Int}(h:CodeIn S b cs)(g:AgreeTo N S T)(hN:b+8*cs.length<=N):CodeIn T b cs:=⟨h.code.agree g hN,h.at_⟩
theorem OQ.with(h:OQ a x s){t:Mt}{es:List Int}{out:List UInt8}(hv:VS s es [] (tabO out) t)(n:Nat)(hn:n<=1000000)(v:Int)(hvn:v=n):OQ { a with ds:=es,out:=out,left:=n } { x with left:=v } t:=by
 have hf:=hv.fr
 subst hvn
 refine⟨⟨h.b.om.with t hv.rep hv.low hf.hs hf.ls hf.hk hf.lk hf.tl,hv.T,hf.hs.trans h.b.here,hf.ls.trans h.b.last,hf.sn.trans h.b.sn,⟨hf.fa.trans h.b.f.1,hf.us.trans h.b.f.2.1,hf.hd.trans h.b.f.2.2⟩,λp hp=>⟨(h.b.codes p hp).1.agree hv.low,(h.b.codes p hp).2⟩⟩,by rw[hf.ext];exact h.sz,by rw[hf.ext];exact h.tl,by rw[hf.ext];exact h.le,by rw[hf.ext];exact h.R,rfl,hn,h.mode⟩
theorem OQ.dict(h:OQ a x s)(x':Rx){N here' last':Nat}{ws':List Wd}{codes':List (Nat×List Int)}(T:Img)(D':Dc)(hg:Grows (T,D') ws')(ha:AgreeTo N s.S T)(hN:16456<=N)(hs: ∀i,19104<=i->T.b.getD i 0=s.S.b.getD i 0)(hrg:D'.rg=3)(hh:D'.h=here')(hl:D'.l=last')
 (hc: ∀p∈codes',CodeIn T p.1 p.2∧p.1+8*p.2.length<=here') (hx:x'.left=x.left) (hm:x'.mode=x.mode):OQ { a with ws:=ws',here:=here',last:=last',codes:=codes' } x' (s.onDict T D'):=
 ⟨⟨h.b.om.dict T D' ws' hg (ha.mono hN) hs hrg,h.b.T,by show(D'.h:Int)=_;rw[hh],by show(D'.l:Int)=_;rw[hl],h.b.sn,h.b.f,hc⟩,h.sz,h.tl,h.le,h.R,hx.trans h.left,h.l2,hm.trans h.mode⟩
theorem OQ.hereN(h:OQ a x s): (dS s).h=a.here:=by
 show s.hs.toNat=_
 rw[h.b.here]
 rfl
theorem OQ.lastN(h:OQ a x s): (dS s).l=a.last:=by
 show s.ls.toNat=_
 rw[h.b.last]
 rfl
theorem OQ.lim(h:OQ a x s): (dS s).lim s.S=19104:=h.b.om.at8S.lim
theorem OQ.lo(h:OQ a x s):16456<=a.here∧a.here<=19104:=by
 have:=h.b.om.at8S.lo
 rw[h.hereN]at this
 exact this
theorem act_num(h:OQ a x s)(hx:x.comp=false∧x.opn=false)(n:Int)(hn:V64 n)(hr:a.ds.length<37)(hon:On F w (AllA (oL c o x s)) W):ActTo c o F w W (PI { a with ds:=a.ds ++ [n] }) (.nu n):=by
 have hrep:=h.b.om.rep
 have hd:=hrep.d
 have hp:=hrep.pd
 refine mo (rd_num_push hon hrep.ok hx.1 n hn (by rw[hd,hp];exact hr)) λw' h2=>?_
 have hv:VS s (a.ds ++ [n]) [] (tabO a.out) (s.pushD [n]):=⟨hrep.pushD1 n hn hr,hrep.low_pushD [n] (by simp;omega),h.b.T,⟨rfl,rfl,rfl,rfl,rfl,rfl,rfl,rfl,rfl,rfl⟩,h.b.om.quiet⟩
 have h3:=h.with hv a.left h.l2 x.left h.left
 exact⟨rfl,x,_,⟨h3,hx⟩,h2⟩
theorem act_run(h0:Oc0 c o L)(h:OQ a x s)(hx:x.comp=false∧x.opn=false)(wd:Wd)(hxt:wd.xt<=1000000){k:Nat}{es:List Int}{out:List UInt8}(hrun:RunsTo k s wd.xt es (tabO out))(hk:k<=a.left)(hon:On F w (AllA (oL c o x s)) W):
 ActTo c o F w W (PI { a with ds:=es,out:=out,left:=a.left-k }) (.fd wd):=by
 have hrep:=h.b.om.rep
 have hl2:=h.l2
 obtain⟨q,q1,q2,q3,q4⟩:=hrun (a.left:Int) oM oM
 have hleft:x.left= (a.left:Int):=h.left
 refine(rd_found_run hon wd (.inl hx.1) 0 (k:Int) q.s oM oM oM (λW' F' hb=> ?_)).mono ?_
 ·have hr:=v_runT (tab_out 1000000000 (Nat.le_refl _)) k (some ⟨o.gs,0,none⟩) hb ⟨h.wk h0,by rw[h.b.sn];show 0+k<=_;omega⟩ hrep.ok (.inl ⟨h.b.om.quiet,h0.tell⟩) 1 (wd.xt:Int) (a.left:Int) (by unfold V64;omega) (by rw[hrep.pr,hrep.r];show 1<=37-0;decide) q q1
  have e:clip (a.left:Int) -q.x.left= (k:Int):=by rw[q3];unfold clip;omega
  rw[q2,e]at hr
  rw[h.mode,hleft]
  exact hr
 ·rintro e w' ⟨rfl,h2⟩
  have h3:=h.with q4 (a.left-k) oM (x.left- (k:Int)) (by rw[hleft];omega)
  exact⟨rfl,_,_,⟨h3,hx⟩,h2⟩
theorem runs_kop(h:OB a s){xt:Nat}{op:Int}(hc:CodeIn s.S xt [op,1])(hu:Code.unpack op= (op,0,true))(h2:op≠2)(h19:op≠19){es:List Int}{T:Caps.Tab}
 (hstep: ∀(s1:Mt) (F:Int),2<=F->VS s a.ds [0] s.T s1->s1.S.fetch 1 (xt:Int)= (⟨op,0,0,1⟩,0)->∃s2,VStep outTab F (xt:Int) s1 ((xt:Int) +8) s2∧VS s es [0] T s2):RunsTo 2 s xt es T:=by
 have hxt:=hc.at_
 simp only[List.length_cons,List.length_nil]at hxt
 refine runs_of (k:=1) (pc:=(xt:Int) +8) oM λF h1 h3=> ?_
 have hst:=VS.start h.om.rep h.om.quiet
 have hf:=(hst.code hc).fetch hst.rep.lay 0 op op 0 (xt:Int) rfl hu h2 h19 oM
 obtain⟨s2,g1,g2⟩:=hstep _ F oM hst hf
 exact⟨s2,g1.go,g2,(g2.code hc).fetch g2.rep.lay 1 1 1 0 _ rfl (by decide) (by decide) (by decide) oM⟩
theorem KFound.codeIn{n:List UInt8}{hd xt:Nat}{inl:Bool}{cs:List Int}{wd:Wd}(h:KFound s n hd xt inl cs wd):CodeIn s.S xt cs:=⟨h.code,.inl ⟨h.lo,by have:=h.hi;omega⟩⟩
theorem act_colon(h0:Oc0 c o L)(h:OQ a x s)(hx:x.comp=false∧x.opn=false)(nm:ByteArray)(hf:nxC a.R<=a.left)(hn:Dc.nameB (nxW a.R)=true)(hr:xtOf a.here (nxW a.R)<=19104)(hon:On F w (AllA (oL c o x s)) W):
 ActTo c o F w W (PD { a with ws:=defW a.here (nxW a.R) true::a.ws,here:=xtOf a.here (nxW a.R),last:=a.here,R:=nxR a.R,left:=a.left-nxC a.R } ⟨a.ws,nxW a.R,[],a.here,a.last⟩) (.sp 1 nm):=by
 obtain⟨n1,n2,n3⟩:=h.near hf
 have hw:=h.word
 obtain⟨f1,f2,f3,f4,f5,f6⟩:=def_create h.b.om.stu (nxW a.R) hn (by
  show xtOf (dS s).h _<=(dS s).lim s.S
  rw[h.hereN,h.lim]
  exact hr)
 simp only at f1 f2 f3 f4 f5 f6
 refine(rd_sp_colon hon (h.src h0) (h.b.om.dcs h0 _) hx.1 hx.2 n1 n2 n3 nm (by rw[hw];exact hn) (by rw[hw];exact f1)).mono ?_
 rintro e w' ⟨rfl,g,h2⟩
 have hq:=h.read hf
 unfold colX colS at h2
 rw[hw]at h2
 have hd2:dS (s.readTo (exN s.ext))=dS s:=rfl
 have hh:=h.hereN
 have h3:=hq.dict (({ x with left:=x.left-exC s.ext }:Rx).opens ((dS s).createV s.S (nxW a.R)) g) (N:=(dS s).h) (here':=xtOf a.here (nxW a.R)) (last':=a.here) (codes':=a.codes) ((dS s).createS s.S (nxW a.R)) ((dS s).createD s.S (nxW a.R)) f3.gr f4 (by rw[hh];exact h.lo.1) (λi hi=>f5 i (by rw[h.lim];exact hi)) (by rw[f6];exact h.b.om.srg) (by have:=f3.h;simp only at this;rw[this,hh];simp) (by have:=f3.la;simp only at this;rw[this,hh]) (λp hp=>by
  obtain⟨p1,p2⟩:=h.b.codes p hp
  have hle:a.here<=xtOf a.here (nxW a.R):=by unfold xtOf;omega
  exact⟨p1.keep f4 (by rw[hh];exact p2),by omega⟩) rfl rfl
 rw[hh]at h3
 have hds:=dS_on (s:=s.readTo (exN s.ext)) ((dS s).createS s.S (nxW a.R)) ((dS s).createD s.S (nxW a.R)) (by rw[f6];exact h.b.om.srg)
 refine⟨rfl,_,_,⟨h3,⟨⟨rfl,rfl,⟨g,rfl,rfl⟩,?_⟩,rfl,λp hp=>(h.b.codes p hp).2⟩⟩,h2⟩
 rw[hds]
 rw[hh,h.lastN]at f3
 exact f3
theorem lays_go{hid:Bool}: ∀(vs:List Int) {a:Oa} {d:Df} {x:Rx} {s:Mt},OQ a x s->a.ws=defW d.p d.n hid::d.l->Defn (s.S,dS s) d.l d.n hid d.cs d.p d.nx->(∀v∈vs,V64 v)->a.here+8*vs.length<=19104->
 (laysD vs s).1=0∧OQ { a with here:=a.here+8*vs.length,last:=d.p } x (laysD vs s).2∧Defn ((laysD vs s).2.S,dS (laysD vs s).2) d.l d.n hid (d.cs++vs) d.p d.nx
 | [],a,d,x,s,h,hws,hd,_,_=>⟨rfl,by
   have e:d.p=a.last:=by rw[<-h.lastN];exact hd.la.symm
   rw[e]
   exact h,by rw[List.append_nil];exact hd⟩
 | v::vs,a,d,x,s,h,hws,hd,hv,hr=>by
   rw[List.length_cons]at hr
   have hh:=h.hereN
   obtain⟨c1,c2,c3,c4,c5,c6⟩:=hd.comma v (hv v (List.mem_cons_self ..)) (by show(dS s).h+8<=(dS s).lim s.S;rw[hh,h.lim];omega)
   simp only at c1 c2 c3 c4 c5 c6
   have hg:=c2.gr
   rw[<-hws]at hg
   have hrg: ((dS s).commaD s.S).rg=3:=by rw[c5];exact h.b.om.srg
   have h3:=h.dict x (N:=(dS s).h) (here':=a.here+8) (last':=d.p) (codes':=a.codes) _ _ hg c3 (by rw[hh];exact h.lo.1) (λi hi=>c4 i (by rw[h.lim];exact hi)) hrg (by rw[c6,hh]) c2.la (λp hp=>by
    obtain⟨p1,p2⟩:=h.b.codes p hp
    exact⟨p1.keep c3 (by rw[hh];exact p2),by omega⟩) rfl rfl
   have hds:=dS_on (s:=s) ((dS s).commaS s.S v) ((dS s).commaD s.S) hrg
   have hd2:Defn ((s.onDict ((dS s).commaS s.S v) ((dS s).commaD s.S)).S,dS (s.onDict ((dS s).commaS s.S v) ((dS s).commaD s.S))) d.l d.n hid (d.cs ++ [v]) d.p d.nx:=by
    rw[hds]
    exact c2
   obtain⟨g1,g2,g3⟩:=lays_go vs (d:=⟨d.l,d.n,d.cs ++ [v],d.p,d.nx⟩) h3 hws hd2 (λu hu=>hv u (List.mem_cons_of_mem _ hu)) (by show a.here+8+_<=_;omega)
   rw[laysD_cons,if_pos c1]
   refine⟨g1,?_,?_⟩
   ·have e:a.here+8* (v::vs).length=a.here+8+8*vs.length:=by rw[List.length_cons];omega
    rw[e]
    exact g2
   ·simp only[List.append_assoc,List.singleton_append]at g3
    exact g3
theorem PD.lays{vs:List Int}(h:PD a d x s)(hv: ∀v∈vs,V64 v)(hr:a.here+8*vs.length<=19104): (laysD vs s).1=0∧PD { a with here:=a.here+8*vs.length,last:=d.p } { d with cs:=d.cs++vs } x (laysD vs s).2:=by
 obtain⟨hq,⟨h1,h2,h3,hd⟩,hws,hcd⟩:=h
 obtain⟨g1,g2,g3⟩:=lays_go vs hq hws hd hv hr
 exact⟨g1,g2,⟨h1,h2,h3,g3⟩,hws,hcd⟩
theorem act_numc(h0:Oc0 c o L)(h:PD a d x s)(n:Int)(hn:V64 n)(hr:a.here+16<=19104)(hon:On F w (AllA (oL c o x s)) W):ActTo c o F w W (PD { a with here:=a.here+16,last:=d.p } { d with cs:=d.cs ++ [2,n] }) (.nu n):=by
 obtain⟨g1,g2⟩:=h.lays (vs:=[2,n]) (λv hv=>by
  simp only[List.mem_cons,List.mem_nil_iff,or_false]at hv
  rcases hv with rfl|rfl
  ·unfold V64;omega
  ·exact hn) (by simpa using hr)
 refine mo (rd_num_comp hon (h.1.b.om.dcs h0 _) h.2.1.1 n hn) λw' h2=>?_
 rw[g1]
 exact⟨rfl,x,_,g2,h2⟩
theorem act_inl(h0:Oc0 c o L)(h:PD a d x s)(wd:Wd)(hi:wd.imm=false)(hl:wd.inl=true)(v:Int)(hv:V64 v)(hc:s.S.cellF 1 (wd.xt:Int) false=0∧s.S.cellV 1 (wd.xt:Int)=v)(hr:a.here+8<=19104)(hon:On F w (AllA (oL c o x s)) W):ActTo c o F w W (PD { a with here:=a.here+8,last:=d.p } { d with cs:=d.cs ++ [v] }) (.fd wd):=by
 obtain⟨g1,g2⟩:=h.lays (vs:=[v]) (λu hu=>by rw[List.mem_singleton.1 hu];exact hv) (by simpa using hr)
 refine mo (rd_found_inl hon (h.1.b.om.dcs h0 _) h.2.1.1 wd hi hl v hv (by rw[h.1.mode];exact hc.1) (by rw[h.1.mode];exact hc.2)) λw' h2=>?_
 rw[g1]
 exact⟨rfl,x,_,g2,h2⟩
theorem act_semi(h0:Oc0 c o L)(h:PD a d x s)(nm:ByteArray)(hr:a.here+8<=19104)(hon:On F w (AllA (oL c o x s)) W):
 ActTo c o F w W (PI { a with ws:=defW d.p d.n false::d.l,here:=a.here+8,last:=d.p,codes:=(xtOf d.p d.n,d.cs ++ [1])::a.codes }) (.sp 2 nm):=by
 obtain⟨hq,⟨h1,h2,⟨g,h3,h4⟩,hd⟩,hws,hcd⟩:=h
 obtain⟨g1,g2,g3⟩:=lays_go [1] hq hws hd (λv hv=>by rw[List.mem_singleton.1 hv];unfold V64;omega) (by simpa using hr)
 have hh:=hq.hereN
 obtain⟨c1,c2,c3,c4,c5,c6⟩:=hd.comma 1 (by unfold V64;omega) (by show(dS s).h+8<=(dS s).lim s.S;rw[hh,hq.lim];omega)
 simp only at c1
 have e1:laysD [1] s= (0,s.onDict ((dS s).commaS s.S 1) ((dS s).commaD s.S)):=by
  rw[laysD_cons,if_pos c1]
  rfl
 rw[e1]at g2 g3
 simp only at g2 g3
 obtain⟨k1,k2,k3⟩:=g3.show
 simp only at k1 k2 k3
 refine(rd_sp_semi hon (hq.b.om.dcs h0 _) h1 h3 h4 c1 nm _ rfl).mono ?_
 generalize (s.onDict ((dS s).commaS s.S 1) ((dS s).commaD s.S))=s2 at *
 have hh2: (dS s2).h=a.here+8:=g2.hereN
 have hN:16456<=d.p:=by
  have e: (dS s2).fr s2.S<=d.p:=g3.lo
  rw[g2.b.om.at8S.fr]at e
  exact e
 have hle: ∀p∈a.codes,CodeIn ((dS s2).turnS s2.S showT) p.1 p.2∧p.1+8*p.2.length<=a.here+8:=λp hp=>by
  obtain⟨p1,p2⟩:=g2.b.codes p hp
  exact⟨p1.keep k2 (hcd p hp),by simpa using p2⟩
 have h5:=g2.dict x.shuts (N:=d.p) (here':=a.here+8) (last':=d.p) (ws':=defW d.p d.n false::d.l) (codes':=(xtOf d.p d.n,d.cs ++ [1])::a.codes) _ _ k1.gr k2 hN (λi hi=>k3 i (by rw[g2.lim];exact hi)) g2.b.om.srg hh2 k1.la (λp hp=>by
  rcases List.mem_cons.1 hp with rfl|hp
  ·have hc:=k1.code
   have hhh:=k1.h
   simp only at hc hhh
   rw[hh2]at hhh
   have r1:=g3.room8.2
   exact⟨⟨hc,.inr ⟨by show 16456<=xtOf d.p d.n;omega,by have:=g2.lo;simp only at this;show xtOf d.p d.n+8* (d.cs ++ [1]).length<=19104;simp only[List.length_singleton]at this;omega⟩⟩,by show xtOf d.p d.n+8* (d.cs ++ [1]).length<=_;omega⟩
  ·exact hle p hp) rfl rfl
 rintro e w' ⟨rfl,h6⟩
 exact⟨rfl,_,_,⟨h5,rfl,rfl⟩,h6⟩
end
def Oa.paid(a:Oa):Oa:={ a with R:=nxR a.R,left:=a.left-nxC a.R }
section
variable {c:Vc}{o:Oc}{L:List Asr}{a:Oa}{d:Df}
theorem flat_keep: ∀(x:Rx) (s:Mt) (k:Nat),(x.comp=false∧x.opn=false)->((x.paid s).comp=false∧(x.paid s).opn=false):=λx s k h=>h
theorem inD_keep(a:Oa): ∀(x:Rx) (s:Mt) (k:Nat),(InD d x s∧a.ws=defW d.p d.n true::d.l∧∀p∈a.codes,p.1+8*p.2.length<=d.p)->(InD d (x.paid s) (s.readTo k)∧a.ws=defW d.p d.n true::d.l∧∀p∈a.codes,p.1+8*p.2.length<=d.p):=λx s k h=>h
theorem round_num{n:Int}(h0:Oc0 c o L)(hw:nxW a.R≠[])(hf:nxC a.R<=a.left)(hS:NoWd a.ws (nxW a.R))(hK:kp (nxW a.R)=none)(hn:parseN (nxW a.R) 10= (n,true))(hv:V64 n)(hr:a.ds.length<37):RoundTo c o L (PI a) (PI { a.paid with ds:=a.ds ++ [n] }):=
 round_of h0 flat_keep hw hf λx s nm hq hx hnm w F W hon=>by
  rw[hq.kv_num nm (by rw[hnm];exact hS) (by rw[hnm];exact hK) n (by rw[hnm];exact hn)]
  exact act_num hq hx n hv hr hon
theorem round_kop{inl:Bool}{op:Int}{es:List Int}{out:List UInt8}(h0:Oc0 c o L)(hw:nxW a.R≠[])(hf:nxC a.R+2<=a.left)(hS:NoWd a.ws (nxW a.R))(hK:kC (nxW a.R)=some (inl,[op,1]))(hu:Code.unpack op= (op,0,true))(hop:op≠2∧op≠19∧op≠20)
 (hstep: ∀(s s1:Mt) (F:Int) (xt:Nat),(xt:Int)<=900000->OB a s->2<=F->VS s a.ds [0] (tabO a.out) s1->s1.S.fetch 1 (xt:Int)= (⟨op,0,0,1⟩,0)->∃s2,VStep outTab F (xt:Int) s1 ((xt:Int) +8) s2∧VS s es [0] (tabO out) s2):
 RoundTo c o L (PI a) (PI { a with R:=nxR a.R,ds:=es,out:=out,left:=a.left-nxC a.R-2 }):=
 round_of h0 flat_keep hw oM λx s nm hq hx hnm w F W hon=>by
  obtain⟨hd,xt,hK⟩:=kpS_of hK
  obtain⟨wd,hk,hfd⟩:=hq.kv_op nm (cs:=[1]) (by rw[hnm];exact hS) (by rw[hnm];exact hK) (op:=op) (by rw[hu]) hop.2.2
  rw[hk]
  have hxt:=hfd.ex
  have hhi:=hfd.hi
  refine act_run h0 hq hx wd (by rw[hxt];omega) (k:=2) (es:=es) (out:=out) ?_ (by show 2<=a.left-nxC a.R;omega) hon
  rw[hxt]
  refine runs_kop hq.b hfd.codeIn hu hop.1 hop.2.1 λs1 F h1 h2 h3=> ?_
  have hT:s.T=tabO a.out:=hq.b.T
  rw[hT]at h2
  exact hstep s s1 F xt oM ⟨hq.b.om,hq.b.T,hq.b.here,hq.b.last,hq.b.sn,hq.b.f,hq.b.codes⟩ h1 h2 h3
theorem round_own{wd:Wd}{k:Nat}{es:List Int}{out:List UInt8}(h0:Oc0 c o L)(hw:nxW a.R≠[])(hf:nxC a.R+k<=a.left)(hS:a.ws.find? (λw=> !w.hid&&sameB w.name (nxW a.R))=some wd)(hx1:16448<=wd.xt)(hx2:wd.xt<19104)
 (hrun: ∀s,OB a s->RunsTo k s wd.xt es (tabO out)):RoundTo c o L (PI a) (PI { a with R:=nxR a.R,ds:=es,out:=out,left:=a.left-nxC a.R-k }):=
 round_of h0 flat_keep hw oM λx s nm hq hx hnm w F W hon=>by
  rw[hq.kv_own nm (by rw[hnm];exact hS) hx1 hx2]
  exact act_run h0 hq hx wd oM (hrun s ⟨hq.b.om,hq.b.T,hq.b.here,hq.b.last,hq.b.sn,hq.b.f,hq.b.codes⟩) (by show k<=a.left-nxC a.R;omega) hon
theorem round_colon{inl b:Bool}{v:Int}(h0:Oc0 c o L)(hw:nxW a.R≠[])(hf:nxC a.R+nxC (nxR a.R)<=a.left)(hS:NoWd a.ws (nxW a.R))(hK:kC (nxW a.R)=some (inl,[v]))(hu:Code.unpack v= (20,1,b))(hn:Dc.nameB (nxW (nxR a.R))=true)(hr:xtOf a.here (nxW (nxR a.R))<=19104):
 RoundTo c o L (PI a) (PD { a with ws:=defW a.here (nxW (nxR a.R)) true::a.ws,here:=xtOf a.here (nxW (nxR a.R)),last:=a.here,R:=nxR (nxR a.R),left:=a.left-nxC a.R-nxC (nxR a.R) } ⟨a.ws,nxW (nxR a.R),[],a.here,a.last⟩):=
 round_of h0 flat_keep hw oM λx s nm hq hx hnm w F W hon=>by
  obtain⟨hd,xt,hK⟩:=kpS_of hK
  rw[hq.kv_sp nm (by rw[hnm];exact hS) (by rw[hnm];exact hK) hu]
  exact act_colon h0 hq hx nm (by show nxC (nxR a.R)<=a.left-nxC a.R;omega) hn hr hon
theorem round_numc{n:Int}(h0:Oc0 c o L)(hw:nxW a.R≠[])(hf:nxC a.R<=a.left)(hS:NoWd a.ws (nxW a.R))(hK:kp (nxW a.R)=none)(hn:parseN (nxW a.R) 10= (n,true))(hv:V64 n)(hr:a.here+16<=19104):RoundTo c o L (PD a d) (PD { a.paid with here:=a.here+16,last:=d.p } { d with cs:=d.cs ++ [2,n] }):=
 round_of h0 (inD_keep a) hw hf λx s nm hq hx hnm w F W hon=>by
  rw[hq.kv_num nm (by rw[hnm];exact hS) (by rw[hnm];exact hK) n (by rw[hnm];exact hn)]
  exact act_numc h0 ⟨hq,hx⟩ n hv hr hon
theorem round_inl{v op:Int}{cs:List Int}(h0:Oc0 c o L)(hw:nxW a.R≠[])(hf:nxC a.R<=a.left)(hS:NoWd a.ws (nxW a.R))(hK:kC (nxW a.R)=some (true,v::cs))(hu: (Code.unpack v).1=op)(h20:op≠20)(hv:V64 v)(hr:a.here+8<=19104):RoundTo c o L (PD a d) (PD { a.paid with here:=a.here+8,last:=d.p } { d with cs:=d.cs ++ [v] }):=
 round_of h0 (inD_keep a) hw hf λx s nm hq hx hnm w F W hon=>by
  obtain⟨hd,xt,hK⟩:=kpS_of hK
  obtain⟨wd,hk,hfd⟩:=hq.kv_op nm (cs:=cs) (by rw[hnm];exact hS) (by rw[hnm];exact hK) hu h20
  rw[hk]
  have h1:=hfd.hi
  simp only[List.length_cons]at h1
  obtain⟨b2,b3,b4,b5,b6⟩:=hq.b.om.rep.lay.begs
  have hc:=hfd.code.cell (rg:=1) (.inl rfl) (by show s.S.beg 1<=xt;exact Nat.zero_le _) (by show _<=s.S.beg 2;simp only[List.length_cons];omega) 1 oM 0 v rfl
  rw[show(xt:Int) +8* ((0:Nat):Int)= (xt:Int)by omega]at hc
  exact act_inl h0 ⟨hq,hx⟩ wd hfd.imm hfd.ein v hv (by rw[hfd.ex];exact hc) hr hon
theorem round_semi{inl b:Bool}{v:Int}(h0:Oc0 c o L)(hw:nxW a.R≠[])(hf:nxC a.R<=a.left)(hS:NoWd a.ws (nxW a.R))(hK:kC (nxW a.R)=some (inl,[v]))(hu:Code.unpack v= (20,2,b))(hr:a.here+8<=19104):
 RoundTo c o L (PD a d) (PI { a.paid with ws:=defW d.p d.n false::d.l,here:=a.here+8,last:=d.p,codes:=(xtOf d.p d.n,d.cs ++ [1])::a.codes }):=
 round_of h0 (inD_keep a) hw hf λx s nm hq hx hnm w F W hon=>by
  obtain⟨hd,xt,hK⟩:=kpS_of hK
  rw[hq.kv_sp nm (by rw[hnm];exact hS) (by rw[hnm];exact hK) hu]
  exact act_semi h0 ⟨hq,hx⟩ nm hr hon
theorem RoundTo.toI{P:Rx->Mt->Prop}{b:Oa}(h:RoundTo c o L P (PI a))(e:a=b):RoundTo c o L P (PI b):=e▸h
theorem RoundTo.toD{P:Rx->Mt->Prop}{b:Oa}{f:Df}(h:RoundTo c o L P (PD a d))(e:a=b)(e2:d=f):RoundTo c o L P (PD b f):=by
 subst e e2
 exact h
theorem tabO_put(out t:List UInt8)(h:out.length+t.length<=60000): ({ tabO out with out:=Caps.behind (tabO out).room (tabO out).out ⟨t.toArray⟩ }:Caps.Tab)=tabO (out++t):=by
 have e:Caps.behind 60000 ⟨out.toArray⟩ ⟨t.toArray⟩= ⟨(out++t).toArray⟩:=by
  unfold Caps.behind Caps.fit
  have e1: (⟨t.toArray⟩:ByteArray).size=t.length:=List.size_toArray
  have e2: (⟨out.toArray⟩:ByteArray).size=out.length:=List.size_toArray
  rw[e1,e2,show(60000:Int).toNat=60000 from rfl,Nat.min_eq_left oM]
  apply Caps.ext
  rw[ByteArray.data_append,ByteArray.data_extract,Array.toList_append,Array.toList_extract]
  simp[List.extract_eq_take_drop]
 show({ Caps.made 1 60000 ⟨#[]⟩with out:=Caps.behind 60000 ⟨out.toArray⟩ ⟨t.toArray⟩ }:Caps.Tab)=_
 rw[e]
 rfl
theorem op_plus{s s1:Mt}{F:Int}{xt:Nat}{ds:List Int}{u v:Int}{T:Caps.Tab}(h2:2<=F)(hxt: (xt:Int)<=900000)(h:VS s (ds ++ [u,v]) [0] T s1)(hf:s1.S.fetch 1 (xt:Int)= (⟨31,0,0,1⟩,0)): ∃s2,VStep outTab F (xt:Int) s1 ((xt:Int) +8) s2∧VS s (ds ++ [wrap64 (u+v)]) [0] T s2:=by
 have hd:=h.rep.dle
 simp only[List.length_append,List.length_cons,List.length_nil]at hd
 exact h.step2 (tab:=outTab) [wrap64 (u+v)] oM oM (.inl rfl) hf (λs=>[wrap64 (ar s 2 0+ar s 2 1)]) rfl (λe1 e2=>by rw[e1,e2]) (by show Code.wants 31= (2,1);decide) (by decide) rfl (λb=>rfl) (by simp;omega) (λv hv=>by rw[List.mem_singleton.1 hv];exact wrap_v64 _)
theorem op_dot{s s1:Mt}{F:Int}{xt:Nat}{ds:List Int}{u:Int}{out:List UInt8}(hob:OB a s)(h2:2<=F)(hxt: (xt:Int)<=900000)(h:VS s (ds ++ [u]) [0] (tabO out) s1)(hf:s1.S.fetch 1 (xt:Int)= (⟨80,0,0,1⟩,0))(hr:out.length+ (printS u 10 ++ [32]).length<=60000):
 ∃s2,VStep outTab F (xt:Int) s1 ((xt:Int) +8) s2∧VS s ds [0] (tabO (out++ (printS u 10 ++ [32]))) s2:=by
 have e2: (⟨out.toArray⟩:ByteArray).size=out.length:=List.size_toArray
 obtain⟨s2,g1,g2⟩:=h.stepDot hob.om.rep.img hob.om.rep.lay hob.om.base (left:=F) oM oM hf rfl (by show((⟨out.toArray⟩:ByteArray).size:Int) +_<=60000;rw[e2];omega)
 rw[tabO_put out _ hr]at g2
 exact⟨s2,g1,g2⟩
end
def opsFrom(op n:Nat):List Nat:=(List.range' op n).filter λop=>decide (op<17) ||decide (20<op)
theorem opsFrom_go{op n:Nat}(h:op<17∨20<op):opsFrom op (n+1)=op::opsFrom (op+1) n:=by
 unfold opsFrom
 rw[List.range'_succ,List.filter_cons_of_pos (by rcases h with h|h<;>simp[h])]
theorem opsFrom_skip{op n:Nat}(h: ¬(op<17∨20<op)):opsFrom op (n+1)=opsFrom (op+1) n:=by
 unfold opsFrom
 rw[List.range'_succ,List.filter_cons_of_neg (by simp;omega)]
theorem opsFrom_all:opsFrom 10 97=opNums:=by decide +kernel
def spsFrom(k n:Nat):List Nat:=List.range' k n
theorem kernel_split:kernelW= (opsFrom 10 97).map opW++ (spsFrom 0 36).map spW:=by
 rw[opsFrom_all]
 have:spsFrom 0 36=List.range 36:=by decide +kernel
 rw[this]
 rfl
theorem opW_fine(op:Nat)(h:10<=op∧op<107):KwFine (opW op):=by
 have h1: ∀k:Fin 97,fineB (opW (k.val+10))=true:=by decide +kernel
 have h2:=h1 ⟨op-10,by omega⟩
 rw[show op-10+10=op by omega]at h2
 exact fine_of h2
theorem spW_fine(k:Nat)(h:k<36):KwFine (spW k):=by
 have h1: ∀k:Fin 36,fineB (spW k.val)=true:=by decide +kernel
 exact fine_of (h1 ⟨k,h⟩)
structure KGo(rest:List KW)(q:Img×Dc):Prop where
 gr: ∃l,Grows q l
 all:kwsS rest q=k13
 room:kwsEnd rest q.2.h<=16384
 al:Alike img13 q.1
 rg:q.2.rg=1
theorem KGo.start:KGo kernelW (img13,ker0):=⟨⟨[],grows_ker⟩,rfl,by show kwsEnd kernelW 8<=_;rw[kernel_end];decide,Alike.refl _,rfl⟩
theorem KGo.lim{rest:List KW}{q:Img×Dc}(h:KGo rest q):q.2.lim q.1=16384:=by
 unfold Dc.lim
 rw[h.rg,h.al.beg]
 rfl
theorem KGo.fits{x:KW}{rest:List KW}{q:Img×Dc}(h:KGo (x::rest) q):kwEnd q.2.h x<=q.2.lim q.1:=by
 rw[h.lim]
 exact Nat.le_trans (kwsEnd_le rest _) h.room
theorem KGo.next{x:KW}{rest:List KW}{q:Img×Dc}(h:KGo (x::rest) q)(hx:KwFine x):KGo rest (kwS x q):=by
 obtain⟨l,hg⟩:=h.gr
 obtain⟨h1,h2,h3,_⟩:=kw_laid hg x hx.1 h.fits
 refine⟨⟨_,h2⟩,h.all,?_,h.al.trans h3.al,?_⟩
 ·rw[show(kwS x q).2.h=kwEnd q.2.h x by rw[h1]]
  exact h.room
 ·rw[h1]
  exact h.rg
theorem KGo.at8{rest:List KW}{q:Img×Dc}(h:KGo rest q):At8 q.1 q.2 8 16384:=by
 obtain⟨l,hg⟩:=h.gr
 refine⟨hg.dc,hg.img,?_,h.lim⟩
 unfold Dc.fr
 rw[h.rg,h.al.beg]
 rfl
end Vm
end Go.Proofs.YteaijdgnagkllaaGreatDoor
