/- Chapter 11: the latest word is run. Conditions: as written. -/
import Derived.Test.YtjohhkikoejadaaGreatDoorOm
import Derived.Test.YtjohhkikoejadaaGreatDoorZ02
import Derived.Test.YtjohhkikoejadaaGreatDoorZVNewW
import Derived.Test.YtjohhkikoejadaaGreatDoorZ26
import Derived.Test.YtjohhkikoejadaaGreatDoorZ47
import Derived.Test.YtjohhkikoejadaaGreatDoorZ36
import Derived.BigQuiet
import Derived.Deep.DeepCutAuto
import Derived.Deep.RegionWith
import Derived.Test.YtjohhkikoejadaaGreatDoorZ25
namespace Go.Proofs.YtjohhkikoejadaaGreatDoor
set_option linter.unusedVariables false
set_option linter.unusedSimpArgs false
set_option maxHeartbeats 8000000
set_option maxRecDepth 100000
open Go.RowKit Go.Lib Go.Deep
namespace Vm
section
variable {w W:World}{F:Nat->Prop}{a:Mw}{b:Bc}{r:Rc}{x:Rw}{t:Mt}{cs data:List Int}{base:Int}
theorem JC(h:On F w (aa (mL (aO a b r x) t)) W)(h8:At8 x.S x.D 16456 16960) :DA W r.gS r.gb 16448 16960 704 false x.D x.S:=by
 have hb:Blk W r.gS 145 (jh r.gb 16448 16960 704 false x.D):=h.ab 15 rfl
 have hr:Blk W r.gb 5 (ag x.S.b).toArray:=h.ab 19 rfl
 exact⟨⟨hb.cell 0,hb.cell 1,hb.cell 2,hb.cell 3,hb.cell 4,λi=>hb.frozen i⟩,hr,h8,by omega⟩
end
def dW(w0:World) :Asr where
 holds w F:=(∀k,F k↔k<w0.heap.size)∧Below w0.heap.size w0 w
 lt h hk:=by
  have h1:=(h.1 _).1 hk
  have h2:=h.2.size
  omega
 kept h hk hT:=⟨h.1,Below.pH h.2 hk (λk ht=>by
  rcases Nat.lt_or_ge k _ with h1|h1
  ·exact absurd ht (hT k ((h.1 k).2 h1))
  ·exact h1) (Nat.le_refl _)⟩
def lC(w0:World) :Nat->Prop:=λk=>k<w0.heap.size
theorem Cz(w0:World) :On (lC w0) w0 (aa [dW w0]) w0:=On.refl ⟨λk=>k<w0.heap.size,λ_=>False,⟨λ_=>Iff.rfl,Below.refl _ _⟩,λ_ h=>h,λ_ _ h=>h,λk=>⟨λh=> .inl h,λh=>h.elim id (λh=>h.elim)⟩⟩
theorem On.old{w0 W w:World}{F:Nat->Prop}{L:List Asr}(i:Nat)(h:On F w (aa L) W)(hi:L[i]? = some (dW w0)) :Below w0.heap.size w0 W:=by
 obtain⟨F',hF⟩:=h.at_ i hi
 exact hF.2
def Vc.plus(c:Vc)(A:Asr) :Vc:={ c with rest:=λe=>c.rest e ++ [A] }
theorem JY(c:Vc)(A:Asr)(s:Mt) :mL (c.plus A) s=mL c s ++ [A]:=rfl
theorem At8.fY{S S':Img}{D:Dc}{fr en:Nat}(h:At8 S D fr en)(hb : ∀n,S'.beg n=S.beg n)(hS:S'.Ok) :At8 S' D fr en:=by
 have e1:D.fr S'=D.fr S:=by unfold Dc.fr;rw[hb]
 have e2:D.lim S'=D.lim S:=by unfold Dc.lim;rw[hb]
 exact⟨⟨h.ok.rg,by rw[e1];exact h.ok.lo,by rw[e2];exact h.ok.hi,by rw[e1,e2];exact h.ok.l,by rw[e2,hb];exact h.ok.al,by rw[e2,hb];exact h.ok.room⟩,hS,by rw[e1];exact h.fr,by rw[e2];exact h.lim⟩
theorem pK{S T:Img}(hS:cJ S)(hT:cJ T)(n:Nat) :S.beg n=T.beg n:=by
 unfold Img.beg
 rw[hS.k,hS.s,hS.u,hS.d,hS.r,hT.k,hT.s,hT.u,hT.d,hT.r]
theorem yc:cJ bQ:=⟨rfl,rfl,rfl,rfl,rfl⟩
theorem Oc(s:Setup) :s.m0.Ok:=by
 refine⟨?_,?_,?_,?_,rfl,rfl,rfl,rfl⟩
 ·exact⟨by show 16960<=143360;omega,by show 16<=512;omega⟩
 ·exact⟨by show 17088<=143360;omega,by show 8<=512;omega⟩
 ·show 0<=16;omega
 ·show 0<=8;omega
theorem NC(s:Setup) :s.m1.Ok:=by
 have h1:=ng (Oc s) (s.data.take 16) (by
  show(s.data.take 16).length<=16-0
  rw[List.length_take];omega)
 exact eZ h1 (s.ret.take 8) (by
  show(s.ret.take 8).length<=8-0
  rw[List.length_take];omega)
theorem Nw(s:Setup) :s.mt.Ok:=by
 have h:=NC s
 exact⟨h.pd,h.pr,h.d,h.r,h.du,h.dv,h.ru,h.rv⟩
theorem Ox(s:Setup) :s.m1.S.Ok∧cJ s.m1.S:=by
 obtain⟨h1,h2⟩:=lr s
 have a1:Alike s.i3 (bJ s.i3 16960 0 (s.data.take 16)):=Alike.bJ _ _ _ _
 have o1:=eU (s.data.take 16) s.i3 16960 0 h1
 have a2:Alike (bJ s.i3 16960 0 (s.data.take 16)) (bJ (bJ s.i3 16960 0 (s.data.take 16)) 17088 0 (s.ret.take 8)):=Alike.bJ _ _ _ _
 have o2:=eU (s.ret.take 8) _ 17088 0 o1
 exact⟨o2,h2.alike (a1.trans a2)⟩
theorem NY(s:Setup) :s.mt.S.Ok∧cJ s.mt.S:=by
 obtain⟨h1,h2⟩:=Ox s
 exact⟨eV h1 _ _ _,h2.alike (Alike.setCell _ _ _ _)⟩
theorem zV(s:Setup) :At8 s.t1.1 s.t1.2 16456 16960∧s.t1.2.rg=3∧At8 s.t1.1 s.k1.2 8 16384∧s.k1.2.rg=1∧cJ s.t1.1:=by
 have gk:=fC s.kernel (bQ,jX) jy (ve (Alike.refl _))
 have gt:=fC s.aN (s.k1.1,iz) gk.img (pO gk.al)
 have hk:At8 s.k1.1 s.k1.2 8 16384:=BD.next gk.img gk.dc gk.al gk.rg
 have hu:At8 s.k1.1 iz 16456 16960:=Cr.next gk.img (pO gk.al) gk.al rfl
 have hl:cJ s.t1.1:=(yc.alike gk.al).alike gt.al
 exact⟨hu.next gt.img gt.dc gt.al gt.rg,gt.rg,hk.fY (pK hl (yc.alike gk.al)) gt.img,gk.rg,hl⟩
theorem Lh{c:Vc}{src:Value}(s:Setup)(h1:c.sfr=16456)(h2:c.sto=16960) :Dcs c src s.mt:=by
 obtain⟨a1,a2,_,_,a5⟩:=zV s
 obtain⟨b1,b2⟩:=NY s
 refine⟨Int.natCast_nonneg _,Int.natCast_nonneg _,?_⟩
 rw[h1,h2]
 have e:dS s.mt=s.t1.2:=by
  have e1:dS s.mt= ⟨3,((s.t1.2.h:Nat) :Int).toNat,((s.t1.2.l:Nat) :Int).toNat⟩:=rfl
  rw[e1,Int.toNat_natCast,Int.toNat_natCast,<-a2]
 rw[e]
 exact a1.fY (pK b2 a5) b1
theorem Ma(s:Setup) :At8 s.mt.S (dK s.mt) 8 16384:=by
 obtain⟨_,_,a3,a4,a5⟩:=zV s
 obtain⟨b1,b2⟩:=NY s
 have e:dK s.mt=s.k1.2:=by
  have e1:dK s.mt= ⟨1,((s.k1.2.h:Nat) :Int).toNat,((s.k1.2.l:Nat) :Int).toNat⟩:=rfl
  rw[e1,Int.toNat_natCast,Int.toNat_natCast,<-a4]
 rw[e]
 exact a3.fY (pK b2 a5) b1
theorem LV{a:Mw}{b:Bc}{r:Rc}{x:Rw}(s:Setup)(hv:EV s)(w0:World)(hP:Pows w0)(hB:Bruijn w0) :WkN ((aO a b r x).plus (dW w0)) (.pointer none) s.mt:=
 ⟨⟨Lh s rfl rfl,Int.natCast_nonneg _,Int.natCast_nonneg _,Ma s,⟨0,λ_=>rfl⟩,
   ⟨((aO a b r x).rest Ext.zero).length,dW w0,λe=>by
     show((aO a b r x).rest e ++ [dW w0])[((aO a b r x).rest Ext.zero).length]? = _
     rw[show(aO a b r x).rest e= (aO a b r x).rest Ext.zero from rfl,List.getElem?_append_right (Nat.le_refl _),Nat.sub_self]
     rfl,λw F h=>⟨hP.below h.2,hB.below h.2⟩⟩,
   .inl rfl,hv.fa,hv.us,hv.hd⟩,rfl⟩
theorem Lt{a:Mw}{b:Bc}{r:Rc}{x:Rw}(s:Setup)(hv:EV s)(h0:0<=s.aQ)(h8:s.aQ<8)(w0:World)(hP:Pows w0)(hB:Bruijn w0) :Fit ((aO a b r x).plus (dW w0)) s.mt:=by
 have hp:s.mt.T.aU=s.aQ:=by
  show dG s.aQ 32=s.aQ
  unfold dG
  rw[if_neg oM]
  exact Int.emod_eq_of_lt h0 oM
 exact⟨LV s hv w0 hP hB,Nw s,by rw[hp];exact h0,by rw[hp];exact h8,rfl⟩
theorem NZ(s:Setup) : (x41 s).D=s.t1.2:=rfl
theorem BS(s:Setup) :At8 (x41 s).S (x41 s).D 16456 16960:=by
 obtain⟨a1,a2,_,_,a5⟩:=zV s
 obtain⟨h1,h2⟩:=Jk s
 rw[NM,NZ]
 exact a1.fY (pK h2 a5) h1
def uT(s:Setup) :Option Int:=(words (x41 s).S (x41 s).D)[0]?.map λw=>(w.xt:Int)
def kG(s:Setup)(fuel:Int) :Int:=match uT s with|none=>8|some xt=>(aM xt fuel s.mt).f
def eT(s:Setup)(fuel:Int) :Int:=match uT s with|none=>0|some xt=>clip fuel- (aM xt fuel s.mt).x.left
def ea(s:Setup)(fuel:Int) :Mt:=match uT s with|none=>s.mt|some xt=>(aM xt fuel s.mt).s
def Cg(c:Vc)(t:Mt)(w0:World) :Asr:=aa [aa (mL c t),dW w0]
section
variable {W w0:World}{F:Nat->Prop}{a:Mw}{b:Bc}{r:Rc}{x:Rw}{t t':Mt}
theorem qV(c:Vc) : (Cg c t w0).holds W F↔(aa (mL (c.plus (dW w0)) t)).holds W F:=by
 constructor
 ·intro h
  obtain⟨F1,F2,h1,h2,hd,hF⟩:=h
  exact All.vf (All.append h1 h2 hd) hF
 ·intro h
  rw[JY]at h
  obtain⟨F1,F2,h1,h2,hd,hF⟩:=All.split h
  exact⟨F1,F2,h1,h2,hd,hF⟩
theorem Ja(hb: (Cg (aO a b r x) t w0).holds W F)(hf:Fit ((aO a b r x).plus (dW w0)) t)(ht:t.av=true)(xt fuel:Int)(hxt:V64 xt) :
 Calls Tryz.prog 11 #[b.gM,(1:Int),xt,fuel,.pointer none] W (Got (.returned (.tuple #[.int .i64 (aM xt fuel t).f,(clip fuel- (aM xt fuel t).x.left:Int)])) (Cg (aO a b r x) (aM xt fuel t).s w0) F W):=by
 have h1:=LB ((qV _).1 hb) hf (by rw[ht];exact(wL:jm (aO a b r x) true)) xt fuel hxt
 exact h1.mono λe W2 ⟨h2,h3⟩=>⟨h2,h3.mono λF' h=>(qV _).2 h⟩
end
section
variable {w W w0:World}{F:Nat->Prop}{a:Mw}{b:Bc}{r:Rc}{s:Setup}
theorem tL(s:Setup)(x:Wd)(hx:x∈words (x41 s).S (x41 s).D) :V64 (x.xt:Int):=by
 have h1:=ke _ _ x hx
 have h2:=(BS s).lim
 unfold V64
 omega
theorem Dm(h:On F w (aa [aa (mL (aO a b r (x41 s)) s.mt),dW w0]) W)(hW:b.gW=r.gW)(hf:Fit ((aO a b r (x41 s)).plus (dW w0)) s.mt)(fuel:Int) :
 Calls Tryz.prog 7 #[b.gB,(1:Int),fuel] W (λe w'=>e = .returned (.tuple #[(kG s fuel),(eT s fuel)])∧On F w (aa [aa (mL (aO a b r (x41 s)) (ea s fuel)),dW w0]) w'):=by
 have he:Ends (aO a b r (x41 s)) b:=wE
 have hm:On F w (aa (mL (aO a b r (x41 s)) s.mt)) W:=h.flat.yg
 have hall1:=NO (JC hm (BS s))
 have hall2:Calls Tryz.prog 35 #[r.gS] W (b8 (λe B=> ∃v,e = .returned v∧B=aa [gz v (words (x41 s).S (x41 s).D)]) Nob W):=hall1.mono λe w' ⟨v,he,hon⟩=>⟨_,⟨v,he,rfl⟩,hon⟩
 have hall:=h.make hall2
 have hw:Blk W r.gW 83 (fo r r.gS a.v2 (x41 s).fault (x41 s).used (x41 s).hidden (x41 s).av):=hm.ab 11 rfl
 have d2:W.cell? (r.gW,2) =some (r.gS:Vl):=hw.cell 2
 obtain⟨p,cap0,z0,z1,z2,z3,z4,z5,z6,z7⟩:=fH he hm
 rw[hW]at z6
 have hrun:=λ(xt:Int) (hxt:V64 xt) (W2:World) (F':Nat->Prop) (hb: (Cg (aO a b r (x41 s)) s.mt w0).holds W2 F')=>Ja hb hf rfl xt fuel hxt
 have hcb : ∀(t:Mt) W2,On F w (aa [aa (mL (aO a b r (x41 s)) t),dW w0]) W2->W2.cell? (b.gB,5) =some (b.gM:Vl):=λt W2 h=>(fH he h.flat.yg).choose_spec.choose_spec.2.2.2.2.2.1
 have hxv:=λx hx=>tL s x hx
 unfold kG eT ea uT
 generalize words (x41 s).S (x41 s).D=ws at *
 rcases ws with _| ⟨wd,ws⟩
 ·simp only[List.getElem?_nil,Option.map_none]
  replace hall:=hid hall
  clear hw hf h hW hall1 hall2 hm hrun hcb hxv z0 z1 z2 z3 z4 z5 z7
  go_enter Tryz.func7,Tryz.ntmps7
  go_wp2_with fail
  refine hall.out.mono ?_
  rintro e w1 ⟨B,⟨v,rfl,rfl⟩,hon⟩
  simp only[]
  have hon2:On F w (aa (gz v [] ::aa (mL (aO a b r (x41 s)) s.mt) ::dW w0 :: [])) w1:=hon.flat
  obtain⟨F1,hrow⟩:=hon2.at_ 0 rfl
  have hfm:=fK hrow
  clear hrow
  have hon3:=hon2.tail
  replace hon3:=hid hon3
  clear hon hon2
  rcases hfm with⟨rfl,_⟩ | ⟨sg,cap,rfl,_⟩
  ·go_wp2_with fail
   go_ret2
   exact⟨rfl,hon3.out⟩
  ·simp only[List.length_nil]
   go_wp2_with fail
   go_ret2
   exact⟨rfl,hon3.out⟩
 ·have hxt:V64 (wd.xt:Int):=hxv wd (List.mem_cons_self)
  simp only[List.getElem?_cons_zero,Option.map_some]
  replace hrun:=hrun wd.xt hxt
  generalize hq:aM (wd.xt:Int) fuel s.mt=q at *
  generalize clip fuel-q.x.left=used at *
  have hrow0 : ∀(t:Mt) (v:Value) W2,On F w (aa (gz v (wd::ws) ::aa (mL (aO a b r (x41 s)) t) ::dW w0 :: [])) W2->∃sg cap,v = .slice (some ⟨sg,0,none⟩) (wd::ws).length cap∧W2.cell? ⟨sg,2,none⟩ =some ((wd.xt:Int) :Vl):=λt v W2 h=>by
   obtain⟨F1,hrow⟩:=h.at_ 0 rfl
   rcases fK hrow with⟨_,h3⟩ | ⟨sg,cap,h5,h3⟩
   ·cases h3
   ·exact⟨sg,cap,h5,h3 0 (by simp) 2 (by decide)⟩
  have hlen: ((wd::ws).length:Int) = (ws.length:Int) +1:=by simp
  replace hall:=hid hall
  replace hrun:=hid hrun
  replace hcb:=hid hcb
  replace he:=hid he
  replace hrow0:=hid hrow0
  replace hlen:=hid hlen
  clear hw hf h hW hall1 hall2 hm hxv hxt z0 z1 z2 z3 z4 z5 z7
  go_enter Tryz.func7,Tryz.ntmps7
  go_wp2_with fail
  refine hall.out.mono ?_
  rintro e w1 ⟨B,⟨v,rfl,rfl⟩,hon⟩
  simp only[]
  have hon2:On F w (aa (gz v (wd::ws) ::aa (mL (aO a b r (x41 s)) s.mt) ::dW w0 :: [])) w1:=hon.flat
  obtain⟨sg,cap,hve,hx⟩:=hrow0.out _ _ _ hon2
  have g5:=hcb.out _ _ hon2.tail
  have hrn:=hon2.drew.aW (e0:= .returned (.tuple #[q.f,used])) (L':=[aa (mL (aO a b r (x41 s)) q.s),dW w0]) λF' hb _ _=>hrun.out _ F' hb
  have hrw : ∀W2,On F w (aa (gz v (wd::ws) ::aa (mL (aO a b r (x41 s)) q.s) ::dW w0 :: [])) W2->W2.cell? (sg,2) =some ((wd.xt:Int) :Vl):=λW2 h=>by
   obtain⟨sg2,cap2,e2,h2⟩:=hrow0.out _ _ _ h
   rw[hve]at e2
   cases e2
   exact h2
  obtain⟨n,hn⟩ : ∃n:Nat,n= (wd::ws).length:=⟨_,rfl⟩
  have hn1:1<=n:=by rw[hn];simp
  rw[<-hn]at hve
  have hne: ((n:Int) ==0) =false:=by rw[beq_eq_false_iff_ne];omega
  have hnl:decide ((0:Int) < (n:Int)) =true:=decide_eq_true oM
  replace hn:=hid hn
  replace hrn:=hid hrn
  replace hon2:=hid hon2
  replace hrw:=hid hrw
  clear hon
  subst hve
  go_wp2_with fail
  go_region_held (λw'=>w'.cell? (b.gB,5) =some (b.gM:Vl)∧w'.cell? (sg,2) =some ((wd.xt:Int) :Vl)) (go_keep)
   ((go_at_call 11;refine hrn.out.mono ?_;rintro e w3 ⟨rfl,h⟩;simp only[];have n5:=hcb.out _ _ h.tail;have n2:=hrw.out _ h;replace h:=hid h))
  all_goals go_wp2
  all_goals go_ret2
  all_goals exact⟨rfl,h.out.tail⟩
end
section
variable {c:Vc}{s:Setup}
theorem pV{xt:Int}(h:uT s=some xt) :V64 xt:=by
 unfold uT at h
 rcases hw:words (x41 s).S (x41 s).D with _| ⟨wd,ws⟩
 ·rw[hw]at h;cases h
 ·rw[hw]at h
  have h1: (wd.xt:Int) =xt:=by simpa using h
  rw[<-h1]
  exact tL s wd (by rw[hw];exact List.mem_cons_self)
theorem Af(hf:Fit c s.mt){F:Int}(h0:0<=F)(h1:F<=1000000) :0<=eT s F∧eT s F<=F:=by
 unfold eT
 rcases hw:uT s with _|xt
 ·exact⟨Int.le_refl _,h0⟩
 ·obtain⟨_,a,b,_⟩:=mA hf (pV hw) h0 h1
  show 0<=clip F-_∧clip F-_<=F
  rw[eS h0 h1]
  omega
theorem HD(hf:Fit c s.mt){F m:Int}(h0:0<=F)(h1:F<=500000)(hm:0<=m)(hm2:m<=500000)(hq:kG s F≠13) :
 kG s (eT s F+m) =kG s F∧eT s (eT s F+m) =eT s F∧(ea s (eT s F+m)).S= (ea s F).S∧(ea s (eT s F+m)).T= (ea s F).T∧(ea s (eT s F+m)).seen.length= (ea s F).seen.length:=by
 obtain⟨n0,n1⟩:=Af hf h0 oM
 have hn:eT s F+m<=1000000:=by omega
 rcases hw:uT s with _|xt
 ·unfold kG eT ea
  rw[hw]
  exact⟨rfl,rfl,rfl,rfl,rfl⟩
 ·have hx:=pV hw
  have e1 : ∀G,kG s G= (aM xt G s.mt).f:=λG=>by unfold kG;rw[hw]
  have e2 : ∀G,eT s G=clip G- (aM xt G s.mt).x.left:=λG=>by unfold eT;rw[hw]
  have e3 : ∀G,ea s G= (aM xt G s.mt).s:=λG=>by unfold ea;rw[hw]
  have e4:eT s F=F- (aM xt F s.mt).x.left:=by rw[e2,eS h0 oM]
  rw[e1]at hq
  have h2:=CH hf hx h0 oM hm hq (by rw[<-e4];exact hn)
  rw[<-e4]at h2
  obtain⟨a1,a2,a3,a4,a5⟩:=h2
  rw[e1,e1,e2 (eT s F+m),e3,e3,eS oM hn]
  exact⟨a1,a2,a3,a4,a5⟩
theorem GM(hf:Fit c s.mt){F m:Int}(h0:0<=F)(h1:F<=500000)(hm:0<=m)(hq:kG s F≠13)(h2:m<eT s F) :
 kG s m=13∧eT s m<eT s F∧m<F∧(∃t:List UInt8,(ea s F).T.out.data.toList= (ea s m).T.out.data.toList++t)∧∃e2,(ea s F).seen=upL (F-m) (ea s m).seen++e2:=by
 rcases hw:uT s with _|xt
 ·exfalso
  unfold eT at h2
  rw[hw]at h2
  simp only at h2
  omega
 ·have hx:=pV hw
  have e1 : ∀G,kG s G= (aM xt G s.mt).f:=λG=>by unfold kG;rw[hw]
  have e2 : ∀G,eT s G=clip G- (aM xt G s.mt).x.left:=λG=>by unfold eT;rw[hw]
  have e3 : ∀G,ea s G= (aM xt G s.mt).s:=λG=>by unfold ea;rw[hw]
  have e4:eT s F=F- (aM xt F s.mt).x.left:=by rw[e2,eS h0 oM]
  obtain⟨n0,n1⟩:=Af hf h0 oM
  rw[e1]at hq
  have h3:=Eo hf hx h0 oM hm hq (by rw[<-e4];exact h2)
  rw[<-e4]at h3
  obtain⟨a1,a2,a3,a4,a5⟩:=h3
  rw[e1,e2 m,e3,e3,eS hm oM]
  exact⟨a1,a2,a3,a4,a5⟩
theorem Jt{k:Int}{l:List Stp}{e:List Stp}{i:Nat}{p:Stp}(h:l[i]? = some p) : (upL k l++e)[i]? = some (p.up k):=by
 have hi:i<l.length:=(List.getElem?_eq_some_iff.1 h).1
 rw[List.getElem?_append_left (by rw[mR];exact hi)]
 unfold upL
 rw[List.getElem?_map,h]
 rfl
end
theorem qk : ∀(l:List Stp) (k i:Nat) (p:Stp),l[k]? = some p->i<5->(iT l)[k*5+i]? = (jN p)[i]?
 | [],k,i,p,h,hi=>by simp at h
 | q::l,0,i,p,h,hi=>by
   obtain rfl:q=p:=by simpa using h
   show(jN q++iT l)[0*5+i]? = _
   rw[Nat.zero_mul,Nat.zero_add,List.getElem?_append_left (by exact hi)]
 | q::l,k+1,i,p,h,hi=>by
   have hl: (jN q).length=5:=rfl
   show(jN q++iT l)[(k+1)*5+i]? = _
   rw[List.getElem?_append_right (by rw[hl];omega),hl,show(k+1)*5+i-5=k*5+i by omega]
   exact qk l k i p (by simpa using h) hi
theorem Ab{A:World}{F:Nat->Prop}{v:Value}{l:List Stp}(h: (jS 45 5 v l.length (iT l)).holds A F) : ∃p cap,v = .slice p l.length cap∧
 ∀k q,l[k]? = some q->∃g,p=some ⟨g,0,none⟩ ∧∀i u,(jN q)[i]? = some u->A.cell? ⟨g,k*5+i,none⟩ =some u:=by
 have hcs:=λg hg=>World.ownsRow.cells (g:=g) h.1 hg
 obtain⟨hx,⟨h1,h2⟩ | ⟨g,cap,cur,rfl,hg,hc,r⟩⟩:=h.1
 ·refine⟨none,0,?_,λk q hk=> ?_⟩
  ·rw[h1,h2]
  ·rw[List.eq_nil_of_length_eq_zero h2]at hk
   simp at hk
 ·refine⟨some ⟨g,0,none⟩,cap,rfl,λk q hk=>⟨g,rfl,λi u hu=> ?_⟩⟩
  have hi:i<5:=by
   have:=(List.getElem?_eq_some_iff.1 hu).1
   exact this
  have h3:=qk l k i q hk hi
  rw[hu]at h3
  have h4:=hcs g rfl (k*5+i) _ h3
  have h5: ((⟨g,0,none⟩ :Addr).add (k*5+i)) = ⟨g,k*5+i,none⟩:=by simp[Addr.add];intro h;omega
  rw[h5]at h4
  exact h4
section
variable {w W w0:World}{F:Nat->Prop}{L:List Asr}{a:Mw}{b:Bc}{r:Rc}{x:Rw}{t:Mt}{s:Setup}
theorem fI(i:Nat)(h:On F w (aa L) W)(hi:L[i]? = some (aa (mL (aO a b r x) t))) : ∃p cap,W.cell? (b.gB,0) =some (b.gI:Vl)∧W.cell? (b.gB,3) =some (b.gT:Vl)∧W.cell? (b.gB,7) =some (.slice p t.seen.length cap)∧
 ∀k q,t.seen[k]? = some q->∃g,p=some ⟨g,0,none⟩ ∧∀i u,(jN q)[i]? = some u->W.cell? ⟨g,k*5+i,none⟩ =some u:=by
 obtain⟨F',hF⟩:=h.at_ i hi
 have h2:On F' W (aa (mL (aO a b r x) t)) W:=On.refl hF
 obtain⟨F2,v,hv⟩:=h2.at_ 7 rfl
 have h3:On F2 W (aa (re b t.seen v)) W:=On.refl hv
 have hb:Blk W b.gB 41 (eK b v):=h3.ab 0 rfl
 obtain⟨F3,hr⟩:=h3.at_ 1 rfl
 obtain⟨p,cap,rfl,hc⟩:=Ab hr
 exact⟨p,cap,hb.cell 0,hb.cell 3,hb.cell 7,hc⟩
theorem Im(i:Nat)(h:On F w (aa L) W)(hi:L[i]? = some (aa (mL (aO a b r x) t))) :t.seen.length<=9223372036854775807:=by
 obtain⟨F',hF⟩:=h.at_ i hi
 have h2:On F' W (aa (mL (aO a b r x) t)) W:=On.refl hF
 obtain⟨F2,v,hv⟩:=h2.at_ 7 rfl
 have h3:On F2 W (aa (re b t.seen v)) W:=On.refl hv
 obtain⟨F3,hr⟩:=h3.at_ 1 rfl
 obtain⟨hx,⟨h1,h2⟩ | ⟨g,cap,cur,rfl,hg,hc,r⟩⟩:=hr.1
 ·omega
 ·have hmx:maxLen=9223372036854775807:=by decide
  omega
theorem nC(i:Nat)(h:On F w (aa L) W)(hi:L[i]? = some (aa (mL (aO a b r x) t)))(k:Nat)(h1:1<=k)(h5:k<=5) :Calls Tryz.prog 8 #[b.gI,(k:Int)] W λe w'=>e = .returned (.string (t.S.part k))∧∃n,w'=W.drewN n:=by
 obtain⟨F',hF⟩:=h.at_ i hi
 have h2:On F' W (aa (mL (aO a b r x) t)) W:=On.refl hF
 obtain⟨gb,hr⟩:=h2.img 1 rfl
 exact Mz hr k h1 h5
theorem ku(i:Nat)(h:On F w (aa L) W)(hi:L[i]? = some (aa (mL (aO a b r x) t))) :Calls Tryz.prog 9 #[b.gT] W (aA (.string t.T.out) W):=by
 obtain⟨F',hF⟩:=h.at_ i hi
 have h2:On F' W (aa (mL (aO a b r x) t)) W:=On.refl hF
 obtain⟨F2,hT⟩:=h2.at_ 4 rfl
 exact dj.output hT
theorem mQ(i j:Nat)(hij:i≠j)(h:On F w (aa L) W)(hi:L[i]? = some (aa (mL (aO a b r (x41 s)) s.mt)))(hj:L[j]? = some (dW w0))(hW:b.gW=r.gW)(hf:Fit ((aO a b r (x41 s)).plus (dW w0)) s.mt)(fuel:Int) :
 Calls Tryz.prog 7 #[b.gB,(1:Int),fuel] W (Got (.returned (.tuple #[(kG s fuel),(eT s fuel)])) (aa ((L.set j (dW w0)).set i (aa (mL (aO a b r (x41 s)) (ea s fuel))))) F w):=
 h.cD i j hij hi hj λF' hb=>Dm (On.refl hb) hW hf fuel
theorem dU.later{m:Sl}(h:dU w s m)(hb:Below w.heap.size w W) :dU W s m:=by
 have hon:On Nob w (aa []) W:=(On.refl (F:=Nob) (A:=aa []) (λ_ h=>h)).below hb
 exact⟨h.kw.late hon Nob (λk h=>h.elim),h.sw.late hon Nob (λk h=>h.elim),h.dw.late hon Nob (λk h=>h.elim),h.rw_.late hon Nob (λk h=>h.elim),h.kl,h.sl,h.aQ,h.room,h.base,h.inp,h.hid⟩
theorem lh{m:Sl}(h:On F w (aa L) W)(hs:dU W s m) :Calls Tryz.prog 6 #[.agg (ak s m)] W (λe w'=> ∃(a:Mw) (b:Bc) (r:Rc),e = .returned (.pointer b.gB)∧b.gW=r.gW∧On F w (aa (aa (mL (aO a b r (x41 s)) s.mt) ::L)) w'):=by
 refine(h.make (FN hs)).mono ?_
 rintro e w' ⟨B,⟨a,b,r,hW,rfl,rfl⟩,hon⟩
 exact⟨a,b,r,rfl,hW,hon⟩
end
theorem MZ{w W:World}{a1 a2 a3 a4:Mw}{b1 b2 b3 b4:Bc}{r1 r2 r3 r4:Rc}{x:Rw}{B:Asr}{t1 t2 t3 t4:Mt}{k:Int}{e2:List Stp}(hk:0<k)(hse:t1.seen=upL k t4.seen++e2)(hon:On (lC w) w (aa [aa (mL (aO a4 b4 r4 x) t4),aa (mL (aO a3 b3 r3 x) t3),aa (mL (aO a2 b2 r2 x) t2),aa (mL (aO a1 b1 r1 x) t1),B,dW w]) W){u0 u1 u2 u3 u4 u5 u6 u7 u9 u11 u12 u14 u15 u16 u17 u18 u19 u20 u21 u22 u23 u24 u25 u26 u27 u28 u29 u30 u31 u32 u33 u34 u35 u36 u37 u38 u39 u40 u41 u42 u43 u44 u45 u46 u47 u48 u49 u50 u51 u52 u53 u54 u55 u56 u57 u58 u59 u60 u61 u62 u63 u64 u65 u66 u67 u68 u69 u70 u71 u72 u73 u74 u75 u76 u77 u78 u79 u80 u81 u82 u83 u84 u85 u86 u87 u88 u89 u90 u91 u92 u93 u94 u95 u96 u97 u98 u99 u100 u101 u102 u103 u104 u105 u106 u107 u108 u109 u110 u111 u112 u113 u114 u115 u116 u117 u118 u119 u120 u121 u122 u123 u124 u125 u126 u127 u128 u129 u130 u131 u132 u133 u134 u135 u136 u137 u138 u139 u140 u141 u142 u143 u144 u145 u146 u147 u148 u149 u150 u151 u152 u153 u154 u155 u156 u157 u158 u159 u160 u161 u162 u163 u164 u165 u166 u167 u168 u169 u170 u171 u172 u173 u174 u175 u176 u177 u178 u179 u180 u181 u182 u183 u184 u185 u186 u187 u188 u189 u190 u191 u192 u193 u194 u195 u196 u197 u198 u199 u200 u201 u202 u203 u204 u205 u206 u207 u208 u209 u210 u211 u212 u213 u214 u215 u216 u217 u218 u219 u220 u221 u222 u223 u224 u225 u226 u227 u228 u229 u230 u231 u232 u233 u234 u235 u236 u237 u238 u239 u240 u241 u242 u243 u244 u245 u246 u247 u248 u249 u250 u251 u252 u253 u254 u255 u256 u257 u258 u259 u260 u261 u262 u263 u264 u265 u266 u267 u268 u269 u270 u271 u272 u273 u274 u275 u276 u277 u278 u279 u280 u281 u282 u283 u284 u285 u286 u287 u288 u289 u290 u291 u292 u293 u294 u295 u296 u297 u298 u299 u300 u301 u302 u303 u304 u305:Value}:Code.wp Tryz.prog (bl 17 (Tryz.f3.body.getD .skip)) (bodyPost Tryz.prog Tryz.f3 (Quiet (.bool true) w)) ⟨List.toArray (u0::u1::u2::u3::u4::u5::u6::u7 :: .bool false::u9 :: .pointer b1.gB::u11::u12 :: .pointer b4.gB::u14::u15::u16::u17::u18::u19::u20::u21::u22::u23::u24::u25::u26::u27::u28::u29::u30::u31::u32::u33::u34::u35::u36::u37::u38::u39::u40::u41::u42::u43::u44::u45::u46::u47::u48::u49::u50::u51::u52::u53::u54::u55::u56::u57::u58::u59::u60::u61::u62::u63::u64::u65::u66::u67::u68::u69::u70::u71::u72::u73::u74::u75::u76::u77::u78::u79::u80::u81::u82::u83::u84::u85::u86::u87::u88::u89::u90::u91::u92::u93::u94::u95::u96::u97::u98::u99::u100::u101::u102::u103::u104::u105::u106::u107::u108::u109::u110::u111::u112::u113::u114::u115::u116::u117::u118::u119::u120::u121::u122::u123::u124::u125::u126::u127::u128::u129::u130::u131::u132::u133::u134::u135::u136::u137::u138::u139::u140::u141::u142::u143::u144::u145::u146::u147::u148::u149::u150::u151::u152::u153::u154::u155::u156::u157::u158::u159::u160::u161::u162::u163::u164::u165::u166::u167::u168::u169::u170::u171::u172::u173::u174::u175::u176::u177::u178::u179::u180::u181::u182::u183::u184::u185::u186::u187::u188::u189::u190::u191::u192::u193::u194::u195::u196::u197::u198::u199::u200::u201::u202::u203::u204::u205::u206::u207::u208::u209::u210::u211::u212::u213::u214::u215::u216::u217::u218::u219::u220::u221::u222::u223::u224::u225::u226::u227::u228::u229::u230::u231::u232::u233::u234::u235::u236::u237::u238::u239::u240::u241::u242::u243::u244::u245::u246::u247::u248::u249::u250::u251::u252::u253::u254::u255::u256::u257::u258::u259::u260::u261::u262::u263::u264::u265::u266::u267::u268::u269::u270::u271::u272::u273::u274::u275::u276::u277::u278::u279::u280::u281::u282::u283::u284::u285::u286::u287::u288::u289::u290::u291::u292::u293::u294::u295::u296::u297::u298::u299::u300::u301::u302::u303::u304::u305 :: []),[]⟩ W:=by
 conv=>
  arg 2
  unfold Tryz.f3
  dsimp only[bl,Option.getD]
 have hln:t4.seen.length<=t1.seen.length:=by rw[hse,List.length_append,mR];omega
 have hget : ∀(i:Nat) (q:Stp),t4.seen[i]? = some q->t1.seen[i]? = some (q.up k):=λi q h=>by rw[hse];exact Jt h
 have hlen4 : ∀W2,On (lC w) w (aa [aa (mL (aO a4 b4 r4 x) t4),aa (mL (aO a3 b3 r3 x) t3),aa (mL (aO a2 b2 r2 x) t2),aa (mL (aO a1 b1 r1 x) t1),B,dW w]) W2->t4.seen.length<=9223372036854775807:=λW2 h=>Im 0 h rfl
 have hl4:=hlen4 _ hon
 replace hget:=hid hget
 replace hon:=hid hon
 clear hse hlen4
 go_wp2
 go_loopg [22] t4.seen.length (λm t wr=> ∃j:Nat,j+m=t4.seen.length∧t = .int .i64 (j:Int)∧On (lC w) w (aa [aa (mL (aO a4 b4 r4 x) t4),aa (mL (aO a3 b3 r3 x) t3),aa (mL (aO a2 b2 r2 x) t2),aa (mL (aO a1 b1 r1 x) t1),B,dW w]) wr)
 case atStart=>exact⟨0,by omega,rfl,hon.out⟩
 case round=>
  obtain⟨j,hj,rfl,honj⟩:=hrel
  obtain⟨pd,cd,y0,y3,y7,ys⟩:=fI 0 honj rfl
  obtain⟨pa,ca,x0,x3,x7,xs⟩:=fI 3 honj rfl
  by_cases hjl:j<t4.seen.length
  ·obtain⟨q,hq⟩ : ∃q,t4.seen[j]? = some q:=⟨_,List.getElem?_eq_getElem hjl⟩
   obtain⟨g4,rfl,c4⟩:=ys j q hq
   obtain⟨g1,rfl,c1⟩:=xs j (q.up k) (hget.out j q hq)
   have d0:wr.cell? ⟨g4,j*5,none⟩ =some ((q.at_:Int) :Vl):=c4 0 _ rfl
   have d1:wr.cell? ⟨g4,j*5+1,none⟩ =some (q.op:Vl):=c4 1 _ rfl
   have d2:wr.cell? ⟨g4,j*5+2,none⟩ =some (q.dep:Vl):=c4 2 _ rfl
   have d3:wr.cell? ⟨g4,j*5+3,none⟩ =some (q.top:Vl):=c4 3 _ rfl
   have d4:wr.cell? ⟨g4,j*5+4,none⟩ =some (q.fuel:Vl):=c4 4 _ rfl
   have e0:wr.cell? ⟨g1,j*5,none⟩ =some ((q.at_:Int) :Vl):=c1 0 _ rfl
   have e1:wr.cell? ⟨g1,j*5+1,none⟩ =some (q.op:Vl):=c1 1 _ rfl
   have e2:wr.cell? ⟨g1,j*5+2,none⟩ =some (q.dep:Vl):=c1 2 _ rfl
   have e3:wr.cell? ⟨g1,j*5+3,none⟩ =some (q.top:Vl):=c1 3 _ rfl
   have e4:wr.cell? ⟨g1,j*5+4,none⟩ =some ((q.fuel+k:Int) :Vl):=c1 4 _ rfl
   have hj1:j<t1.seen.length:=by omega
   have n4:g4<wr.heap.size:=World.block_lt_of_cell? wr _ d0
   have n5:b4.gB<wr.heap.size:=World.block_lt_of_cell? wr _ y7
   have n6:=World.new_ne wr _ d0
   have n7:=World.new_ne wr _ y7
   have hle:decide (q.fuel+k<=q.fuel) =false:=decide_eq_false oM
   have hb1:=hjl
   generalize t4.seen.length=l4 at *
   generalize t1.seen.length=l1 at *
   replace honj:=hid honj
   clear ys xs c4 c1 hq x0 x3 y0 y3
   have honn:=λ(o1 o2:Obj)=>(honj.out.alloc o1).alloc o2
   replace honn:=hid honn
   go_wp2
   go_roundg (gk-1)
   case measure=>omega
   case rel=>exact⟨j+1,by omega,by go_num,honn.out _ _⟩
  ·have hjl':j=t4.seen.length:=by omega
   subst hjl'
   have hob:=honj.old 5 rfl
   have hdec:decide ((t4.seen.length:Int) < (t4.seen.length:Int)) =false:=by simp
   clear ys xs x0 x3 y0 y3 honj
   replace hob:=hid hob
   go_wp2
   go_ret
   exact⟨rfl,hob.out⟩
theorem L3{w W:World}{a1 a2 a3 a4:Mw}{b1 b2 b3 b4:Bc}{r1 r2 r3 r4:Rc}{x:Rw}{B:Asr}{t1 t2 t3 t4:Mt}{n o k:Int}{e2:List Stp}{tx:List UInt8}(hno:o<n)(hk:0<k)(hse:t1.seen=upL k t4.seen++e2)(hou:t1.T.out.data.toList=t4.T.out.data.toList++tx)(hon:On (lC w) w (aa [aa (mL (aO a4 b4 r4 x) t4),aa (mL (aO a3 b3 r3 x) t3),aa (mL (aO a2 b2 r2 x) t2),aa (mL (aO a1 b1 r1 x) t1),B,dW w]) W){u0 u1 u2 u3 u4 u5 u6 u7 u9 u11 u12 u14 u16 u17 u18 u19 u22 u23 u24 u25 u26 u27 u28 u29 u30 u31 u32 u33 u34 u35 u36 u37 u38 u39 u40 u41 u42 u43 u44 u45 u46 u47 u48 u49 u50 u51 u52 u53 u54 u55 u56 u57 u58 u59 u60 u61 u62 u63 u64 u65 u66 u67 u68 u69 u70 u71 u72 u73 u74 u75 u76 u77 u78 u79 u80 u81 u82 u83 u84 u85 u86 u87 u88 u89 u90 u91 u92 u93 u94 u95 u96 u97 u98 u99 u100 u101 u102 u103 u104 u105 u106 u107 u108 u109 u110 u111 u112 u113 u114 u115 u116 u117 u118 u119 u120 u121 u122 u123 u124 u125 u126 u127 u128 u129 u130 u131 u132 u133 u134 u135 u136 u137 u138 u139 u140 u141 u142 u143 u144 u145 u146 u147 u148 u149 u150 u151 u152 u153 u154 u155 u156 u157 u158 u159 u160 u161 u162 u163 u164 u165 u166 u167 u168 u169 u170 u171 u172 u173 u174 u175 u176 u177 u178 u179 u180 u181 u182 u183 u184 u185 u186 u187 u188 u189 u190 u191 u192 u193 u194 u195 u196 u197 u198 u199 u200 u201 u202 u203 u204 u205 u206 u207 u208 u209 u210 u211 u212 u213 u214 u215 u216 u217 u218 u219 u220 u221 u222 u223 u224 u225 u226 u227 u228 u229 u230 u231 u232 u233 u234 u235 u236 u237 u238 u239 u240 u241 u242 u243 u244 u245 u246 u247 u248 u249 u250 u251 u252 u253 u254 u255 u256 u257 u258 u259 u260 u261 u262 u263 u264 u265 u266 u267 u268 u269 u270 u271 u272 u273 u274 u275 u276 u277 u278 u279 u280 u281 u282 u283 u284 u285 u286 u287 u288 u289 u290 u291 u292 u293 u294 u295 u296 u297 u298 u299 u300 u301 u302 u303 u304 u305:Value}:Code.wp Tryz.prog (bl 16 (Tryz.f3.body.getD .skip)) (bodyPost Tryz.prog Tryz.f3 (Quiet (.bool true) w)) ⟨List.toArray (u0::u1::u2::u3::u4::u5::u6::u7 :: .bool false::u9 :: .pointer b1.gB::u11::u12 :: .pointer b4.gB::u14 :: .int .i64 n::u16::u17::u18::u19 :: .int .i64 13 :: .int .i64 o::u22::u23::u24::u25::u26::u27::u28::u29::u30::u31::u32::u33::u34::u35::u36::u37::u38::u39::u40::u41::u42::u43::u44::u45::u46::u47::u48::u49::u50::u51::u52::u53::u54::u55::u56::u57::u58::u59::u60::u61::u62::u63::u64::u65::u66::u67::u68::u69::u70::u71::u72::u73::u74::u75::u76::u77::u78::u79::u80::u81::u82::u83::u84::u85::u86::u87::u88::u89::u90::u91::u92::u93::u94::u95::u96::u97::u98::u99::u100::u101::u102::u103::u104::u105::u106::u107::u108::u109::u110::u111::u112::u113::u114::u115::u116::u117::u118::u119::u120::u121::u122::u123::u124::u125::u126::u127::u128::u129::u130::u131::u132::u133::u134::u135::u136::u137::u138::u139::u140::u141::u142::u143::u144::u145::u146::u147::u148::u149::u150::u151::u152::u153::u154::u155::u156::u157::u158::u159::u160::u161::u162::u163::u164::u165::u166::u167::u168::u169::u170::u171::u172::u173::u174::u175::u176::u177::u178::u179::u180::u181::u182::u183::u184::u185::u186::u187::u188::u189::u190::u191::u192::u193::u194::u195::u196::u197::u198::u199::u200::u201::u202::u203::u204::u205::u206::u207::u208::u209::u210::u211::u212::u213::u214::u215::u216::u217::u218::u219::u220::u221::u222::u223::u224::u225::u226::u227::u228::u229::u230::u231::u232::u233::u234::u235::u236::u237::u238::u239::u240::u241::u242::u243::u244::u245::u246::u247::u248::u249::u250::u251::u252::u253::u254::u255::u256::u257::u258::u259::u260::u261::u262::u263::u264::u265::u266::u267::u268::u269::u270::u271::u272::u273::u274::u275::u276::u277::u278::u279::u280::u281::u282::u283::u284::u285::u286::u287::u288::u289::u290::u291::u292::u293::u294::u295::u296::u297::u298::u299::u300::u301::u302::u303::u304::u305 :: []),[]⟩ W:=by
 conv=>
  arg 2
  unfold Tryz.f3
  dsimp only[bl,Option.getD]
 have hln:t4.seen.length<=t1.seen.length:=by rw[hse,List.length_append,mR];omega
 obtain⟨pd,cd,y0,y3,y7,ys⟩:=fI 0 hon rfl
 obtain⟨pa,ca,x0,x3,x7,xs⟩:=fI 3 hon rfl
 have hge:decide (n<=o) =false:=decide_eq_false oM
 obtain⟨ld,hd⟩ : ∃l:List UInt8,t4.T.out= ⟨l.toArray⟩:=⟨t4.T.out.data.toList,by rcases t4.T.out with⟨⟨l⟩⟩;rfl⟩
 have ha:t1.T.out= ⟨(ld++tx).toArray⟩:=by
  rw[hd]at hou
  have h1:t1.T.out.data.toList=ld++tx:=hou
  rw[<-h1]
 have hOut : ∀k gT v,(gT=b4.gT∧v= (⟨ld.toArray⟩ :ByteArray))∨(gT=b1.gT∧v= (⟨(ld++tx).toArray⟩ :ByteArray))->Calls Tryz.prog 9 #[.pointer (some ⟨gT,0,none⟩)] (W.drewN k) (aA (.string v) (W.drewN k)):=λk gT v h=>by
  rcases h with⟨rfl,rfl⟩ | ⟨rfl,rfl⟩
  ·have h1:=ku 0 (hon.drewN k) rfl
   rw[hd]at h1
   exact h1
  ·have h1:=ku 3 (hon.drewN k) rfl
   rw[ha]at h1
   exact h1
 have hex: (⟨(ld++tx).toArray⟩ :ByteArray).extract 0 ld.length= ⟨ld.toArray⟩:=by
  apply Caps.ext
  rw[ByteArray.data_extract]
  simp
 have hll:decide ((ld.length:Int) + (tx.length:Int) < (ld.length:Int)) =false:=decide_eq_false oM
 have hgt:decide (t1.seen.length<t4.seen.length) =false:=decide_eq_false oM
 have hgt2:decide ((t1.seen.length:Int) < (t4.seen.length:Int)) =false:=decide_eq_false oM
 obtain⟨l1,hl1⟩ : ∃l:Nat,t1.seen.length=l:=⟨_,rfl⟩
 obtain⟨l4,hl4⟩ : ∃l:Nat,t4.seen.length=l:=⟨_,rfl⟩
 rw[hl1]at hgt hgt2 x7
 rw[hl4]at hgt hgt2 y7
 replace hl1:=hid hl1
 replace hl4:=hid hl4
 replace hOut:=hid hOut
 replace hon:=hid hon
 replace hse:=hid hse
 replace hd:=hid hd
 replace ha:=hid ha
 clear ys xs hou hln
 go_upto_region 20 with fail
 go_cut [249] (λt wx=>t = .bool false∧On (lC w) w (aa [aa (mL (aO a4 b4 r4 x) t4),aa (mL (aO a3 b3 r3 x) t3),aa (mL (aO a2 b2 r2 x) t2),aa (mL (aO a1 b1 r1 x) t1),B,dW w]) wx)
 case first=>
  go_quiet ((go_at_call 9;exact Calls.quiet_of_same (hOut.out _ _ _ (by first|exact .inl ⟨rfl,rfl⟩ |exact .inr ⟨rfl,rfl⟩))))
  all_goals(try go_wp2_with fail)
  all_goals go_meet
  all_goals exact⟨by first|rfl|simp,hon.out.drewN _⟩
 case rest=>
  obtain⟨rfl,hon1⟩:=hcut
  clear x0 x3 x7 y0 y3 y7 hon hOut
  apply_assumption
  go_step
  go_step
  apply_assumption
  exact MZ hk hse.out hon1
theorem nj(c n:Int)(hn:0<n) :0<=dG c n∧dG c n<n:=by
 unfold dG
 exact⟨Int.emod_nonneg _ oM,Int.emod_lt_of_pos _ hn⟩
theorem M9{w W:World}{a1 a2 a3 a4:Mw}{b1 b2 b3 b4:Bc}{r1 r2 r3 r4:Rc}{x:Rw}{B:Asr}{t1 t2 t3 t4:Mt}{rF rN:Int->Int}{rM:Int->Mt}{le f n:Int}(hle:V64 le)(hn0:0<=n)(hn1:n<=1000000)(hf13 : ¬f=13)(p3:t2.S=t1.S)(p4:t2.T=t1.T)(p5:t2.seen.length=t1.seen.length)(q3:t3.S=t1.S)(q4:t3.T=t1.T)(q5:t3.seen.length=t1.seen.length)
 (hlf : ∀m,0<=m->m<n->rF m=13∧rN m<n∧(∃t:List UInt8,t1.T.out.data.toList= (rM m).T.out.data.toList++t)∧∃k e2,0<k∧t1.seen=upL k (rM m).seen++e2)
 (hd4 : ∀l W2,On (lC w) w (aa [aa (mL (aO a4 b4 r4 x) t4),aa (mL (aO a3 b3 r3 x) t3),aa (mL (aO a2 b2 r2 x) t2),aa (mL (aO a1 b1 r1 x) t1),B,dW w]) W2->Calls Tryz.prog 7 #[b4.gB,(1:Int),.int .i64 l] W2 (Got (.returned (.tuple #[(rF l),(rN l)])) (aa [aa (mL (aO a4 b4 r4 x) (rM l)),aa (mL (aO a3 b3 r3 x) t3),aa (mL (aO a2 b2 r2 x) t2),aa (mL (aO a1 b1 r1 x) t1),B,dW w]) (lC w) w))
 (hon:On (lC w) w (aa [aa (mL (aO a4 b4 r4 x) t4),aa (mL (aO a3 b3 r3 x) t3),aa (mL (aO a2 b2 r2 x) t2),aa (mL (aO a1 b1 r1 x) t1),B,dW w]) W) {u0 u1 u3 u4 u5 u6 u7 u9 u20 u21 u22 u23 u24 u25 u26 u27 u28 u29 u30 u31 u32 u33 u34 u35 u36 u37 u38 u39 u40 u41 u42 u43 u44 u45 u46 u47 u48 u49 u50 u51 u52 u53 u54 u55 u56 u57 u58 u59 u60 u61 u62 u63 u64 u65 u66 u67 u68 u69 u70 u71 u72 u73 u74 u75 u76 u77 u78 u79 u80 u81 u82 u83 u84 u85 u86 u87 u88 u89 u90 u91 u92 u93 u94 u95 u96 u97 u98 u99 u100 u101 u102 u103 u104 u105 u106 u107 u108 u109 u110 u111 u112 u113 u114 u115 u116 u117 u118 u119 u120 u121 u122 u123 u124 u125 u126 u127 u128 u129 u130 u131 u132 u133 u134 u135 u136 u137 u138 u139 u140 u141 u142 u143 u144 u145 u146 u147 u148 u149 u150 u151 u152 u153 u154 u155 u156 u157 u158 u159 u160 u161 u162 u163 u164 u165 u166 u167 u168 u169 u170 u171 u172 u173 u174 u175 u176 u177 u178 u179 u180 u181 u182 u183 u184 u185 u186 u187 u188 u189 u190 u191 u192 u193 u194 u195 u196 u197 u198 u199 u200 u201 u202 u203 u204 u205 u206 u207 u208 u209 u210 u211 u212 u213 u214 u215 u216 u217 u218 u219 u220 u221 u222 u223 u224 u225 u226 u227 u228 u229 u230 u231 u232 u233 u234 u235 u236 u237 u238 u239 u240 u241 u242 u243 u244 u245 u246 u247 u248 u249 u250 u251 u252 u253 u254 u255 u256 u257 u258 u259 u260 u261 u262 u263 u264 u265 u266 u267 u268 u269 u270 u271 u272 u273 u274 u275 u276 u277 u278 u279 u280 u281 u282 u283 u284 u285 u286 u287 u288 u289 u290 u291 u292 u293 u294 u295 u296 u297 u298 u299 u300 u301 u302 u303 u304 u305:Value}:Code.wp Tryz.prog (bl 13 (Tryz.f3.body.getD .skip)) (bodyPost Tryz.prog Tryz.f3 (Quiet (.bool true) w)) ⟨List.toArray (u0::u1 :: .int .i64 le::u3::u4::u5::u6::u7 :: .bool false::u9 :: .pointer b1.gB :: .pointer b2.gB :: .pointer b3.gB :: .pointer b4.gB :: .int .i64 f :: .int .i64 n :: .int .i64 f :: .int .i64 n :: .int .i64 f :: .int .i64 n::u20::u21::u22::u23::u24::u25::u26::u27::u28::u29::u30::u31::u32::u33::u34::u35::u36::u37::u38::u39::u40::u41::u42::u43::u44::u45::u46::u47::u48::u49::u50::u51::u52::u53::u54::u55::u56::u57::u58::u59::u60::u61::u62::u63::u64::u65::u66::u67::u68::u69::u70::u71::u72::u73::u74::u75::u76::u77::u78::u79::u80::u81::u82::u83::u84::u85::u86::u87::u88::u89::u90::u91::u92::u93::u94::u95::u96::u97::u98::u99::u100::u101::u102::u103::u104::u105::u106::u107::u108::u109::u110::u111::u112::u113::u114::u115::u116::u117::u118::u119::u120::u121::u122::u123::u124::u125::u126::u127::u128::u129::u130::u131::u132::u133::u134::u135::u136::u137::u138::u139::u140::u141::u142::u143::u144::u145::u146::u147::u148::u149::u150::u151::u152::u153::u154::u155::u156::u157::u158::u159::u160::u161::u162::u163::u164::u165::u166::u167::u168::u169::u170::u171::u172::u173::u174::u175::u176::u177::u178::u179::u180::u181::u182::u183::u184::u185::u186::u187::u188::u189::u190::u191::u192::u193::u194::u195::u196::u197::u198::u199::u200::u201::u202::u203::u204::u205::u206::u207::u208::u209::u210::u211::u212::u213::u214::u215::u216::u217::u218::u219::u220::u221::u222::u223::u224::u225::u226::u227::u228::u229::u230::u231::u232::u233::u234::u235::u236::u237::u238::u239::u240::u241::u242::u243::u244::u245::u246::u247::u248::u249::u250::u251::u252::u253::u254::u255::u256::u257::u258::u259::u260::u261::u262::u263::u264::u265::u266::u267::u268::u269::u270::u271::u272::u273::u274::u275::u276::u277::u278::u279::u280::u281::u282::u283::u284::u285::u286::u287::u288::u289::u290::u291::u292::u293::u294::u295::u296::u297::u298::u299::u300::u301::u302::u303::u304::u305 :: []),[]⟩ W:=by
 conv=>
  arg 2
  unfold Tryz.f3
  dsimp only[bl,Option.getD]
 obtain⟨pa,ca,x0,x3,x7,xs⟩:=fI 3 hon rfl
 obtain⟨pb,cb,y0,y3,y7,ys⟩:=fI 2 hon rfl
 obtain⟨pc,cc,z0,z3,z7,zs⟩:=fI 1 hon rfl
 have hPart : ∀k gI,(gI=b1.gI∨gI=b2.gI∨gI=b3.gI)->Calls Tryz.prog 8 #[.pointer (some ⟨gI,0,none⟩),(3:Int)] (W.drewN k) λe w'=>e = .returned (.string (t1.S.part 3))∧∃m,w'= (W.drewN k).drewN m:=λk gI h=>by
  rcases h with rfl|rfl|rfl
  ·exact nC 3 (hon.drewN k) rfl 3 oM oM
  ·have h1:=nC 2 (hon.drewN k) rfl 3 oM oM
   rw[p3]at h1
   exact h1
  ·have h1:=nC 1 (hon.drewN k) rfl 3 oM oM
   rw[q3]at h1
   exact h1
 have hOut : ∀k gT,(gT=b1.gT∨gT=b2.gT∨gT=b3.gT)->Calls Tryz.prog 9 #[.pointer (some ⟨gT,0,none⟩)] (W.drewN k) (aA (.string t1.T.out) (W.drewN k)):=λk gT h=>by
  rcases h with rfl|rfl|rfl
  ·exact ku 3 (hon.drewN k) rfl
  ·have h1:=ku 2 (hon.drewN k) rfl
   rw[p4]at h1
   exact h1
  ·have h1:=ku 1 (hon.drewN k) rfl
   rw[q4]at h1
   exact h1
 rw[p5]at y7
 rw[q5]at z7
 have hfn: (f != f) =false:=by simp
 obtain⟨la,hla⟩ : ∃l:Nat,t1.seen.length=l:=⟨_,rfl⟩
 rw[hla]at x7 y7 z7
 obtain⟨Pp,hPp⟩ : ∃t,t1.S.part 3=t:=⟨_,rfl⟩
 obtain⟨Oo,hOo⟩ : ∃t,t1.T.out=t:=⟨_,rfl⟩
 rw[hPp]at hPart
 rw[hOo]at hOut
 have hnd: (n != n) =false:=by simp
 have hln: ((la:Int) != (la:Int)) =false:=by simp
 replace hPart:=hid hPart
 replace hOut:=hid hOut
 replace hlf:=hid hlf
 replace hd4:=hid hd4
 replace hon:=hid hon
 replace hf13:=hid hf13
 clear hPp p3 p4 p5 q3 q4 q5 xs ys zs hla hOo
 go_upto_region 15 with fail
 go_cut [184] (λt wx=>t = .bool false∧On (lC w) w (aa [aa (mL (aO a4 b4 r4 x) t4),aa (mL (aO a3 b3 r3 x) t3),aa (mL (aO a2 b2 r2 x) t2),aa (mL (aO a1 b1 r1 x) t1),B,dW w]) wx)
 case first=>
  (try clear_value *)
  refine wp_region_quiet_lit kR (Ji rfl (by as_aux_lemma=>kernel_rfl) (by as_aux_lemma=>kernel_rfl) (by as_aux_lemma=>kernel_rfl) (by as_aux_lemma=>kernel_rfl) (by as_aux_lemma=>kernel_rfl) (by as_aux_lemma=>kernel_rfl) (by as_aux_lemma=>kernel_rfl) (by as_aux_lemma=>kernel_rfl) (by as_aux_lemma=>kernel_rfl) (by as_aux_lemma=>kernel_rfl)) ?_
  iterate 26 (quiet_step ((first
   | (go_at_call 8;exact Calls.quiet_of (hPart.out _ _ (by first|exact .inl rfl|exact .inr (.inl rfl) |exact .inr (.inr rfl))))
   | (go_at_call 9;exact Calls.quiet_of_same (hOut.out _ _ (by first|exact .inl rfl|exact .inr (.inl rfl) |exact .inr (.inr rfl)))))))
  as_aux_lemma=>
   iterate 26 (quiet_step ((first
    | (go_at_call 8;exact Calls.quiet_of (hPart.out _ _ (by first|exact .inl rfl|exact .inr (.inl rfl) |exact .inr (.inr rfl))))
    | (go_at_call 9;exact Calls.quiet_of_same (hOut.out _ _ (by first|exact .inl rfl|exact .inr (.inl rfl) |exact .inr (.inr rfl)))))))
   as_aux_lemma=>
    iterate 24 (quiet_step ((first
     | (go_at_call 8;exact Calls.quiet_of (hPart.out _ _ (by first|exact .inl rfl|exact .inr (.inl rfl) |exact .inr (.inr rfl))))
     | (go_at_call 9;exact Calls.quiet_of_same (hOut.out _ _ (by first|exact .inl rfl|exact .inr (.inl rfl) |exact .inr (.inr rfl)))))))
    as_aux_lemma=>
     repeat(quiet_step ((first
      | (go_at_call 8;exact Calls.quiet_of (hPart.out _ _ (by first|exact .inl rfl|exact .inr (.inl rfl) |exact .inr (.inr rfl))))
      | (go_at_call 9;exact Calls.quiet_of_same (hOut.out _ _ (by first|exact .inl rfl|exact .inr (.inl rfl) |exact .inr (.inr rfl)))))))
     refine wpQuiet_nil ?_
     intro _ hw1
     obtain⟨nq,hw2⟩:=hw1
     subst hw2
     all_goals(try go_wp2_with fail)
     all_goals go_meet
     all_goals exact⟨by first|rfl|simp,hon.out.drewN _⟩
 case rest=>
  obtain⟨rfl,hon1⟩:=hcut
  clear hon hPart hOut x0 x3 x7 y0 y3 y7 z0 z3 z7 hfn hnd hln
  by_cases hnz:n=0
  ·have hz: (n==0) =true:=by simpa using hnz
   have hob:=hon1.old 5 rfl
   clear hon1 hnz
   go_wp2
   go_ret
   exact⟨rfl,hob⟩
  ·have hz: (n==0) =false:=by simpa using hnz
   have hpl:=λW=>j6 le n W hle oM
   obtain⟨hl0,hl1⟩:=nj le n oM
   generalize dG le n=pl at *
   obtain⟨g1,g2,⟨tx,g3⟩,k,e2,g4,g5⟩:=hlf.out pl hl0 hl1
   have hran:=λW2 h=>hd4.out pl W2 h
   rw[g1]at hran
   replace hran:=hid hran
   replace hpl:=hid hpl
   replace hon1:=hid hon1
   clear hlf hd4 hnz
   go_upto_region 19 with fail
   go_cut [20,21] (λt20 t21 wx=>t20 = .int .i64 13∧t21 = .int .i64 (rN pl)∧On (lC w) w (aa [aa (mL (aO a4 b4 r4 x) (rM pl)),aa (mL (aO a3 b3 r3 x) t3),aa (mL (aO a2 b2 r2 x) t2),aa (mL (aO a1 b1 r1 x) t1),B,dW w]) wx)
   case first=>
    go_wp2_with fail
    refine(hpl.out _).mono ?_
    rintro e w1 ⟨rfl,rfl⟩
    simp only[]
    go_wp2_with fail
    refine(hran.out _ hon1.out).mono ?_
    rintro e w2 ⟨rfl,hon2⟩
    simp only[]
    go_wp2_with fail
    go_meet
    exact⟨rfl,rfl,hon2⟩
   case rest=>
    obtain⟨rfl,rfl,hon2⟩:=hcut
    apply_assumption
    exact L3 g2 g4 g5 g3 hon2
end Vm
end Go.Proofs.YtjohhkikoejadaaGreatDoor
