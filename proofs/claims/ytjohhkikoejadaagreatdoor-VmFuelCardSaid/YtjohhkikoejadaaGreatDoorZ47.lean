/- Chapter 11: the parts on the image, on complex numbers, ACCEPT, PICK: what they leave. No condition. -/
import Derived.Test.YtjohhkikoejadaaGreatDoorOm
import Derived.Test.YtjohhkikoejadaaGreatDoorZ38
import Derived.Test.YtjohhkikoejadaaGreatDoorZ17
import Derived.Test.YtjohhkikoejadaaGreatDoorZ21
import Derived.Test.YtjohhkikoejadaaGreatDoorZVCpxO
import Derived.Test.YtjohhkikoejadaaGreatDoorZ33
import Derived.Test.YtjohhkikoejadaaGreatDoorZ16
import Derived.Test.YtjohhkikoejadaaGreatDoorZ02
import Derived.Test.YtjohhkikoejadaaGreatDoorZ28
import Derived.Test.YtjohhkikoejadaaGreatDoorZ24
namespace Go.Proofs.YtjohhkikoejadaaGreatDoor
set_option linter.unusedVariables false
set_option linter.unusedSimpArgs false
set_option maxHeartbeats 8000000
set_option maxRecDepth 100000
open Go.RowKit Go.Lib
namespace Vm
theorem yu:bb WkN (λx s=>(⟨s.S.bR x.mode (ar s 1 0) false,x,s⟩,[((s.S.gU x.mode (ar s 1 0)).toNat:Int)])) 1:=λc src x s hp hs hx=>⟨hs,rfl,rfl,Nat.le_refl _,(λv hv=>by
 rw[List.mem_singleton.1 hv]
 have:=(s.S.gU x.mode (ar s 1 0)).toNat_lt
 unfold V64
 omega),hx,Int.le_refl _,rfl,rfl,hp⟩
theorem xB:bb WkN (λx s=>(⟨s.S.bR x.mode (ar s 2 1) true,x,{ s with S:=s.S.aV x.mode (ar s 2 1) (byteOf (ar s 2 0)) }⟩,[])) 0:=λc src x s hp hs hx=>⟨pT hs _,rfl,rfl,Nat.le_refl _,(λv hv=>by cases hv),hx,Int.le_refl _,rfl,rfl,hp.gu (vp s _ _ _)⟩
theorem C5:bb WkN lE 0:=by
 intro c src x s hp hs hx
 unfold lE
 split
 ·exact⟨pT hs _,rfl,rfl,Nat.le_refl _,(λv hv=>by cases hv),hx,Int.le_refl _,rfl,rfl,hp.gu (jC s _ _ _)⟩
 ·exact⟨hs,rfl,rfl,Nat.le_refl _,(λv hv=>by cases hv),hx,Int.le_refl _,rfl,rfl,hp⟩
theorem D2:bb WkN pg 0:=by
 intro c src x s hp hs hx
 unfold pg
 split
 ·exact⟨pT hs _,rfl,rfl,Nat.le_refl _,(λv hv=>by cases hv),jj hx _,jz _ _,rfl,rfl,hp.gu (rT s _ (Alike.move _ _ _ _ _) λh=>x9 h _ _ _ _)⟩
 ·exact⟨hs,rfl,rfl,Nat.le_refl _,(λv hv=>by cases hv),jj hx _,jz _ _,rfl,rfl,hp⟩
theorem CA:bb WkN oQ 0:=by
 intro c src x s hp hs hx
 unfold oQ
 split
 ·exact⟨pT hs _,rfl,rfl,Nat.le_refl _,(λv hv=>by cases hv),jj hx _,jz _ _,rfl,rfl,hp.gu (rT s _ (Alike.fill _ _ _ _ _) λh=>xa h _ _ _ _)⟩
 ·exact⟨hs,rfl,rfl,Nat.le_refl _,(λv hv=>by cases hv),jj hx _,jz _ _,rfl,rfl,hp⟩
theorem DU:bb WkN sf 1:=λc src x s hp hs hx=>⟨hs,rfl,rfl,Nat.le_refl _,(λv hv=>by
 rw[List.mem_singleton.1 hv]
 exact fA _ _ _ _),hx,Int.le_refl _,rfl,rfl,hp⟩
theorem sQ(m a:Int) : ∀(l:List UInt8) (i:Nat) (S:Img),Alike S (eJ m a i l S).2∧(S.Ok->(eJ m a i l S).2.Ok)
 | [],i,S=>⟨Alike.refl _,id⟩
 | b::l,i,S=>by
   unfold eJ
   split
   ·obtain⟨h1,h2⟩:=sQ m a l (i+1) (S.aV m (IntKind.i64.wrap (a+ (i:Int))) b)
    exact⟨(Alike.aV _ _ _ _).trans h1,λh=>h2 (gN h _ _ _)⟩
   ·exact⟨Alike.aV _ _ _ _,λh=>gN h _ _ _⟩
theorem JH(T:Caps.Tab)(m n:Int) : (Caps.cN T m n).size<=n.toNat:=by
 unfold Caps.cN
 split
 ·rw[ByteArray.size_extract]
  have:=Caps.vc T.inp n
  omega
 ·exact Nat.zero_le _
theorem xl:bb WkN Ag 1:=by
 intro c src x s hp hs hx
 have hv : ∀v∈[((Caps.cN s.T x.mode (ar s 2 1)).size:Int)],V64 v:=λv hv=>by
  rw[List.mem_singleton.1 hv]
  have h1:=JH s.T x.mode (ar s 2 1)
  have h2:=aL s 2 1
  unfold V64 at *
  omega
 have hk: (eh x s (ar s 2 0) (ar s 2 1)).2.Ok∧(eh x s (ar s 2 0) (ar s 2 1)).2.d=s.d∧(eh x s (ar s 2 0) (ar s 2 1)).2.pd=s.pd∧(eh x s (ar s 2 0) (ar s 2 1)).2.av=s.av∧(eh x s (ar s 2 0) (ar s 2 1)).2.seen=s.seen∧WkN c src (eh x s (ar s 2 0) (ar s 2 1)).2:=by
  unfold eh
  split
  ·exact⟨hs,rfl,rfl,rfl,rfl,hp⟩
  split
  ·exact⟨hs,rfl,rfl,rfl,rfl,hp⟩
  split
  ·exact⟨kZ hs _,rfl,rfl,rfl,rfl,hp.Dr _⟩
  ·obtain⟨h1,h2⟩:=sQ x.mode (ar s 2 0) (Caps.cN s.T x.mode (ar s 2 1)).data.toList 0 s.S
   exact⟨⟨hs.pd,hs.pr,hs.d,hs.r,hs.du,hs.dv,hs.ru,hs.rv⟩,rfl,rfl,rfl,rfl,(hp.gu (rT s _ h1 h2)).Dr _⟩
 obtain⟨k1,k2,k3,k4,k5,k6⟩:=hk
 exact⟨k1,k2,k3,Nat.le_refl _,hv,jj hx _,jz _ _,k4,k5,k6⟩
theorem B9{a b:Int}(h:okC a b=true) :V64 a∧V64 b:=by
 unfold okC at h
 rw[Bool.and_eq_true]at h
 have h1:=cH h.1
 have h2:=cH h.2
 unfold V64
 omega
theorem mC{a b:Int}(h:okC a b=true) : ∀v∈[a,b],V64 v:=λv hv=>by
 simp only[List.mem_cons,List.mem_nil_iff,or_false]at hv
 rcases hv with rfl|rfl
 ·exact(B9 h).1
 ·exact(B9 h).2
theorem Et:bb WkN lL 2:=by
 intro c src x s hp hs hx
 unfold lL
 split
 ·rename_i h
  exact⟨hs,rfl,rfl,Nat.le_refl _,mC h.2.2,hx,Int.le_refl _,rfl,rfl,hp⟩
 ·exact⟨hs,rfl,rfl,Nat.zero_le _,(λv hv=>by cases hv),hx,Int.le_refl _,rfl,rfl,hp⟩
theorem EK:bb WkN lO 2:=by
 intro c src x s hp hs hx
 unfold lO
 split
 ·rename_i h
  exact⟨hs,rfl,rfl,Nat.le_refl _,mC h.2.2,hx,Int.le_refl _,rfl,rfl,hp⟩
 ·exact⟨hs,rfl,rfl,Nat.zero_le _,(λv hv=>by cases hv),hx,Int.le_refl _,rfl,rfl,hp⟩
theorem Ei:bb WkN lI 2:=by
 intro c src x s hp hs hx
 unfold lI
 split
 ·rename_i h
  exact⟨hs,rfl,rfl,Nat.le_refl _,mC h.2.2,hx,Int.le_refl _,rfl,rfl,hp⟩
 ·exact⟨hs,rfl,rfl,Nat.zero_le _,(λv hv=>by cases hv),hx,Int.le_refl _,rfl,rfl,hp⟩
theorem AY:bb WkN iw 2:=by
 intro c src x s hp hs hx
 unfold iw
 split
 ·rename_i h
  exact⟨hs,rfl,rfl,Nat.le_refl _,mC h.2,hx,Int.le_refl _,rfl,rfl,hp⟩
 ·exact⟨hs,rfl,rfl,Nat.zero_le _,(λv hv=>by cases hv),hx,Int.le_refl _,rfl,rfl,hp⟩
theorem Bn:bb WkN ij 2:=by
 intro c src x s hp hs hx
 unfold ij
 split
 ·rename_i h
  exact⟨hs,rfl,rfl,Nat.le_refl _,mC h.2,hx,Int.le_refl _,rfl,rfl,hp⟩
 ·exact⟨hs,rfl,rfl,Nat.zero_le _,(λv hv=>by cases hv),hx,Int.le_refl _,rfl,rfl,hp⟩
theorem AI:bb WkN gE 1:=by
 intro c src x s hp hs hx
 unfold gE
 split
 ·rename_i h
  refine⟨hs,rfl,rfl,Nat.le_refl _,(λv hv=> ?_),hx,Int.le_refl _,rfl,rfl,hp⟩
  rw[List.mem_singleton.1 hv]
  unfold okC at h
  rw[Bool.and_eq_true]at h
  have k1:=cH h.1
  have k2:=cH h.2
  generalize ar s 2 0=X at *
  generalize ar s 2 1=Y at *
  have m1: (X*X).natAbs<=281474976710656:=by rw[Int.natAbs_mul];exact Nat.mul_le_mul k1 k1
  have m2: (Y*Y).natAbs<=281474976710656:=by rw[Int.natAbs_mul];exact Nat.mul_le_mul k2 k2
  generalize X*X=A at *
  generalize Y*Y=B at *
  unfold V64
  omega
 ·exact⟨hs,rfl,rfl,Nat.zero_le _,(λv hv=>by cases hv),hx,Int.le_refl _,rfl,rfl,hp⟩
theorem WkN.Jh{c:Vc}{src:Value}{s:Mt}{S':Img}{D':Dc}(h:WkN c src s)(hS:S'.Ok)(hD:D'.Ok S')(ha:Alike s.S S')(hr:D'.rg=3) :WkN c src (s.bL S' D'):=by
 have hd:dS (s.bL S' D') =D':=by
  obtain⟨rg,hh,ll⟩:=D'
  simp only at hr
  subst hr
  unfold dS Mt.bL
  simp
 refine⟨⟨⟨?_,?_,?_⟩,h.1.hk,h.1.lk,h.1.kat.gu ha hS,h.1.ws,h.1.tab,.inl h.2,h.1.v1,h.1.v2,h.1.v3⟩,h.2⟩
 ·show 0<=(D'.h:Int);omega
 ·show 0<=(D'.l:Int);omega
 ·rw[hd]
  exact h.1.dcs.at8.next hS hD ha hr
theorem kS{s:Mt}(hs:s.Ok)(S':Img)(D':Dc) : (s.bL S' D').Ok:=⟨hs.pd,hs.pr,hs.d,hs.r,hs.du,hs.dv,hs.ru,hs.rv⟩
theorem DP:bb WkN (λx s=>(⟨0,x,s⟩,[s.hs])) 1:=λc src x s hp hs hx=>⟨hs,rfl,rfl,Nat.le_refl _,(λv hv=>by
 rw[List.mem_singleton.1 hv]
 have h1:=hp.1.dcs.at8.lo.2
 have h2:=hp.1.dcs.at8.le
 have h3:=hp.1.dcs.h
 have h4: (dS s).h=s.hs.toNat:=rfl
 unfold V64
 omega),hx,Int.le_refl _,rfl,rfl,hp⟩
theorem zB:bb WkN (λx s=>(⟨(dS s).iy s.S (ar s 1 0),x,s.bL s.S ((dS s).ie s.S (ar s 1 0))⟩,[])) 0:=λc src x s hp hs hx=>
 ⟨kS hs _ _,rfl,rfl,Nat.le_refl _,(λv hv=>by cases hv),hx,Int.le_refl _,rfl,rfl,hp.Jh hp.1.dcs.at8.img (Dc.HI hp.1.dcs.at8.ok _) (Alike.refl _) (by unfold Dc.ie;split<;>rfl)⟩
theorem Ad:bb WkN (λx s=>(⟨(dS s).bo s.S,x,s.bL ((dS s).bp s.S (ar s 1 0)) ((dS s).bq s.S)⟩,[])) 0:=λc src x s hp hs hx=>
 ⟨kS hs _ _,rfl,rfl,Nat.le_refl _,(λv hv=>by cases hv),hx,Int.le_refl _,rfl,rfl,hp.Jh (Dc.rn hp.1.dcs.at8.img hp.1.dcs.at8.ok _).1 (Dc.rn hp.1.dcs.at8.img hp.1.dcs.at8.ok _).2 (Dc.kg _ _ _) (by unfold Dc.bq;split<;>rfl)⟩
theorem xG:bb WkN (λx s=>(⟨(dS s).cF s.S,x,s.bL ((dS s).di s.S (byteOf (ar s 1 0))) ((dS s).dR s.S)⟩,[])) 0:=λc src x s hp hs hx=>
 ⟨kS hs _ _,rfl,rfl,Nat.le_refl _,(λv hv=>by cases hv),hx,Int.le_refl _,rfl,rfl,hp.Jh (Dc.uk hp.1.dcs.at8.img hp.1.dcs.at8.ok _).1 (Dc.uk hp.1.dcs.at8.img hp.1.dcs.at8.ok _).2 (Dc.mu _ _ _) (by unfold Dc.dR;split<;>rfl)⟩
theorem yP:bb WkN (λx s=>(⟨(dS s).fm s.S,x,s.bL ((dS s).fp s.S) ((dS s).gZ s.S)⟩,[])) 0:=λc src x s hp hs hx=>
 ⟨kS hs _ _,rfl,rfl,Nat.le_refl _,(λv hv=>by cases hv),hx,Int.le_refl _,rfl,rfl,hp.Jh (Dc.xw hp.1.dcs.at8.img hp.1.dcs.at8.ok).1 (Dc.xw hp.1.dcs.at8.img hp.1.dcs.at8.ok).2 (Dc.oH _ _) (by unfold Dc.gZ;split<;>rfl)⟩
theorem Es(x:Rn)(s:Mt) :dP s (bd x s).s:=by
 unfold bd
 split
 ·exact dP.refl s
 ·split
  ·exact dP.refl s
  ·split
   ·exact dP.refl s
   ·exact jC s _ _ _
theorem cE.lz{P Q:Kn}(h : ∀c src s,Q c src s->P c src s){f:FuncId}{pre:Nat->Array Value}{i:ao}{q:Rn->Mt->Rs×List Int}(hq:cE P f pre i q) :cE Q f pre i q:=λc g x src s ba w F hp=>hq c g x src s ba w F (h c src s hp)
theorem dE.lz{P Q:Kn}(h : ∀c src s,Q c src s->P c src s){i:ao}{q:Rn->Mt->Rs}(hq:dE P i q) :dE Q i q:=λc g x src s w F hp=>hq c g x src s w F (h c src s hp)
theorem tO.lz{P Q:Kn}(h : ∀c src s,Q c src s->P c src s){f:FuncId}{i:ao}{q:Rn->Mt->Rs}(hq:tO P f i q) :tO Q f i q:=λc g x src s ba w F hp=>hq c g x src s ba w F (h c src s hp)
theorem cS.toG{f:FuncId}{i:ao}{q:Rn->Mt->Rs}(h:cS f i q)(P:Kn) :tO P f i q:=λc g x src s ba w F _=>h c g x src s ba w F
theorem zL(arg lit cells:Int) :iR WkN ⟨18,arg,lit,cells⟩ jL:=by
 intro c src x s hp hs hx hv1 hv2 ha
 have k1:=BU hs x
 have kx:=Hn x s
 have kn:=Es x s
 have kt: (bd x s).s.av=s.av∧(bd x s).s.seen=s.seen:=by
  unfold bd
  split
  ·exact⟨rfl,rfl⟩
  ·split
   ·exact⟨rfl,rfl⟩
   ·split<;>exact⟨rfl,rfl⟩
 have hw:=hp.gu kn
 unfold jL
 split
 ·generalize (bd x s).s=s2 at *
  refine⟨?_,?_,?_,?_,?_,hw.gu (oB x s2)⟩
  ·unfold back
   split
   ·exact k1
   ·exact⟨k1.pd,k1.pr,k1.d,by have:=k1.r;show s2.r-1<=s2.pr.rm;omega,k1.du,k1.dv,k1.ru,k1.rv⟩
  ·unfold back
   split
   ·exact hx
   ·exact⟨hx.base,hx.dT,fA _ _ _ _,hx.pc,hx.left,hx.dQ⟩
  ·unfold back;split<;>exact kt.1
  ·unfold back;split<;>exact Int.le_refl _
  ·unfold back;split<;>exact kt.2
 ·exact⟨k1,by rw[kx];exact hx,kt.1,by rw[kx];exact Int.le_refl _,kt.2,hw⟩
theorem C9(arg lit cells:Int) :dE WkN ⟨18,arg,lit,cells⟩ jL:=sy WkN _ _ dd ((Ht arg lit cells).lz λc src s h=>h.1.dcs)
theorem sF(arg lit cells:Int) :iR WkN ⟨85,arg,lit,cells⟩ kV:=λc src x s hp hs hx hv1 hv2 ha=>⟨hs,hx,rfl,Int.le_refl _,rfl,hp⟩
theorem vn(arg lit cells:Int) :dE WkN ⟨85,arg,lit,cells⟩ kV:=(nH arg lit cells).lz λc src s h=>h.2
def rr(i:ao) :Option (Rn->Mt->Rs):=
 if i.op=29 then some (λx s=>Rs.laid 1 (sf x s))
 else if i.op=30 then some (λx s=>Rs.laid 0 (((⟨0,x,s⟩,[(s.d:Int)]) :Rs×List Int)))
 else if i.op=87 then some (λx s=>Rs.laid 0 (((⟨0,x,s⟩,[(s.S.beg 2:Int),s.hidden]) :Rs×List Int)))
 else if i.op=67 then some (λx s=>Rs.laid 1 (((⟨s.S.bR x.mode (ar s 1 0) false,x,s⟩,[((s.S.gU x.mode (ar s 1 0)).toNat:Int)]) :Rs×List Int)))
 else if i.op=68 then some (λx s=>Rs.laid 2 (((⟨s.S.bR x.mode (ar s 2 1) true,x,{ s with S:=s.S.aV x.mode (ar s 2 1) (byteOf (ar s 2 0)) }⟩,[]) :Rs×List Int)))
 else if i.op=69 then some (λx s=>Rs.laid 2 (lE x s))
 else if i.op=70 then some (λx s=>Rs.laid 3 (pg x s))
 else if i.op=71 then some (λx s=>Rs.laid 3 (oQ x s))
 else if i.op=72 then some (λx s=>Rs.laid 0 (((⟨0,x,s⟩,[s.hs]) :Rs×List Int)))
 else if i.op=73 then some (λx s=>Rs.laid 1 (((⟨(dS s).iy s.S (ar s 1 0),x,s.bL s.S ((dS s).ie s.S (ar s 1 0))⟩,[]) :Rs×List Int)))
 else if i.op=74 then some (λx s=>Rs.laid 1 (((⟨(dS s).bo s.S,x,s.bL ((dS s).bp s.S (ar s 1 0)) ((dS s).bq s.S)⟩,[]) :Rs×List Int)))
 else if i.op=75 then some (λx s=>Rs.laid 1 (((⟨(dS s).cF s.S,x,s.bL ((dS s).di s.S (byteOf (ar s 1 0))) ((dS s).dR s.S)⟩,[]) :Rs×List Int)))
 else if i.op=76 then some (λx s=>Rs.laid 0 (((⟨(dS s).fm s.S,x,s.bL ((dS s).fp s.S) ((dS s).gZ s.S)⟩,[]) :Rs×List Int)))
 else if i.op=78 then some (λx s=>Rs.laid 1 (((⟨iA x s ⟨#[byteOf (ar s 1 0)]⟩,x,s.fl x ⟨#[byteOf (ar s 1 0)]⟩⟩,[]) :Rs×List Int)))
 else if i.op=79 then some (λx s=>Rs.laid 2 (oK x s))
 else if i.op=80 then some (λx s=>Rs.laid 1 (lv Fz x s))
 else if i.op=81 then some (λx s=>Rs.laid 1 (lv yh x s))
 else if i.op=82 then some (λx s=>Rs.laid 2 (jI x s))
 else if i.op=83 then some (λx s=>Rs.laid 0 (zZ x s))
 else if i.op=84 then some (λx s=>Rs.laid 2 (Ag x s))
 else if i.op=86 then some (λx s=>Rs.laid 2 (oI x s))
 else if i.op=94 then some (λx s=>Rs.laid 4 (lL x s))
 else if i.op=95 then some (λx s=>Rs.laid 4 (lO x s))
 else if i.op=96 then some (λx s=>Rs.laid 4 (lI x s))
 else if i.op=97 then some (λx s=>Rs.laid 2 (iw x s))
 else if i.op=98 then some (λx s=>Rs.laid 2 (gE x s))
 else if i.op=99 then some (λx s=>Rs.laid 3 (ij x s))
 else if i.op=18 then some jL
 else if i.op=85 then some kV
 else if i.op=105 then some (λx s=>⟨17,x,s⟩)
 else if i.op=106 then some (λx s=>⟨0,x,s⟩)
 else if i.op=17 then some (λx s=>if i.arg=0 then back { x with next:=i.arg } (s.aq 0 [wrap64 (x.pc+16)]).2 else⟨0,{ x with next:=i.arg },(s.aq 0 [wrap64 (x.pc+16)]).2⟩)
 else if i.op=19 then some (λx s=>aK 0 [wrap64 (x.pc+8),i.arg] x s)
 else none
theorem aX : ∀c src s s',WkN c src s->dP s s'->WkN c src s':=λ_ _ _ _ h n=>h.gu n
theorem fv.G2{i:ao}{q:Rn->Mt->Rs}(h:fv i q) :dE WkN i q:=h.toG WkN
theorem zb:bb WkN (λx s=>(⟨0,x,s⟩,[(s.d:Int)])) 1:=λc src x s hp hs hx=>⟨hs,rfl,rfl,Nat.le_refl _,(λv hv=>by
 rw[List.mem_singleton.1 hv]
 have:=hs.dle
 unfold V64
 omega),hx,Int.le_refl _,rfl,rfl,hp⟩
theorem yw:bb WkN (λx s=>(⟨0,x,s⟩,[(s.S.beg 2:Int),s.hidden])) 2:=λc src x s hp hs hx=>⟨hs,rfl,rfl,Nat.le_refl _,(λv hv=>by
 simp only[List.mem_cons,List.mem_nil_iff,or_false]at hv
 rcases hv with rfl|rfl
 ·have h1:=hp.1.dcs.at8.img.small
  have h2:=hp.1.dcs.at8.img.len
  have h3:s.S.beg 2<=s.S.beg 6:=by show s.S.k<=s.S.k+s.S.s+s.S.u+s.S.d+s.S.r;omega
  unfold V64
  omega
 ·exact hp.1.v3),hx,Int.le_refl _,rfl,rfl,hp⟩
theorem xn(arg lit cells:Int) :iR WkN ⟨105,arg,lit,cells⟩ (λx s=>⟨17,x,s⟩):=λc src x s hp hs hx hv1 hv2 ha=>⟨hs,hx,rfl,Int.le_refl _,rfl,hp⟩
theorem Dx(arg lit cells:Int) :iR WkN ⟨106,arg,lit,cells⟩ (λx s=>⟨0,x,s⟩):=λc src x s hp hs hx hv1 hv2 ha=>⟨hs,hx,rfl,Int.le_refl _,rfl,hp⟩
theorem AW{x:Rn}{s:Mt}(hs:s.Ok)(hx:x.Ok) : (back x s).s.Ok∧(back x s).x.Ok∧(back x s).s.av=s.av∧(back x s).x.left=x.left∧(back x s).s.seen=s.seen:=by
 unfold back
 split
 ·exact⟨hs,hx,rfl,rfl,rfl⟩
 ·exact⟨⟨hs.pd,hs.pr,hs.d,by have:=hs.r;show s.r-1<=s.pr.rm;omega,hs.du,hs.dv,hs.ru,hs.rv⟩,⟨hx.base,hx.dT,fA _ _ _ _,hx.pc,hx.left,hx.dQ⟩,rfl,rfl,rfl⟩
theorem uP(arg lit cells:Int) :dE WkN ⟨17,arg,lit,cells⟩ (λx s=>if arg=0 then back { x with next:=arg } (s.aq 0 [wrap64 (x.pc+16)]).2 else⟨0,{ x with next:=arg },(s.aq 0 [wrap64 (x.pc+16)]).2⟩):=(aP _ _ dd (wk arg lit cells)).toG WkN
theorem sM(arg lit cells:Int) :iR WkN ⟨17,arg,lit,cells⟩ (λx s=>if arg=0 then back { x with next:=arg } (s.aq 0 [wrap64 (x.pc+16)]).2 else⟨0,{ x with next:=arg },(s.aq 0 [wrap64 (x.pc+16)]).2⟩):=by
 intro c src x s hp hs hx hv1 hv2 ha
 have h1: (s.aq 0 [wrap64 (x.pc+16)]).2.Ok:=gp hs (Nat.zero_le _) (aj ha dd 0 1 dd dd)
 obtain⟨h2,h3,_⟩:=aH s 0 [wrap64 (x.pc+16)]
 have hx2: ({ x with next:=arg }:Rn).Ok:=⟨hx.base,hx.dT,hv1,hx.pc,hx.left,hx.dQ⟩
 have hw:=hp.gu (bu s 0 [wrap64 (x.pc+16)])
 dsimp only
 split
 ·obtain⟨k1,k2,k3,k4,k5⟩:=AW h1 hx2
  exact⟨k1,k2,k3.trans h2,by rw[k4];exact Int.le_refl _,k5.trans h3,hw.gu (oB _ _)⟩
 ·exact⟨h1,hx2,h2,Int.le_refl _,h3,hw⟩
theorem Ex(arg lit cells:Int) :dE WkN ⟨19,arg,lit,cells⟩ (λx s=>aK 0 [wrap64 (x.pc+8),arg] x s):=(aP _ _ dd (FG arg lit cells)).toG WkN
theorem zP(arg lit cells:Int) :iR WkN ⟨19,arg,lit,cells⟩ (λx s=>aK 0 [wrap64 (x.pc+8),arg] x s):=by
 intro c src x s hp hs hx hv1 hv2 ha
 have h1: (s.aq 0 [wrap64 (x.pc+8),arg]).2.Ok:=gp hs (Nat.zero_le _) (aj ha dd 0 2 dd dd)
 obtain⟨h2,h3,_⟩:=aH s 0 [wrap64 (x.pc+8),arg]
 exact⟨h1,hx,h2,Int.le_refl _,h3,hp.gu (bu _ _ _)⟩
theorem C8(i:ao)(q:Rn->Mt->Rs)(hq:rr i=some q) :dE WkN i q∧iR WkN i q:=by
 obtain⟨op,arg,lit,cells⟩:=i
 unfold rr at hq
 simp only at hq
 revert hq
 apply eli
 ·rintro rfl
  have hm:bb WkN (λx s=>sf x s) 1:=DU
  have hl:fQ WkN ⟨29,arg,lit,cells⟩ (λx s=>sf x s):=(aB (m:=1) 1 dd dd (by dsimp only;decide) hm)
  refine⟨?_,aF aX dd hl hm⟩
  intro c g x src s w F hp
  exact mU WkN _ _ dd dd ((MB arg lit cells).toG WkN) hl c g x src s w F hp
 apply eli
 ·rintro rfl
  have hm:bb WkN (λx s=>((⟨0,x,s⟩,[(s.d:Int)]) :Rs×List Int)) 1:=zb
  have hl:fQ WkN ⟨30,arg,lit,cells⟩ (λx s=>((⟨0,x,s⟩,[(s.d:Int)]) :Rs×List Int)):=(aB (m:=1) 0 dd dd (by dsimp only;decide) hm)
  refine⟨?_,aF aX dd hl hm⟩
  intro c g x src s w F hp
  exact mU WkN _ _ dd dd ((Iv arg lit cells).toR.toG WkN) hl c g x src s w F hp
 apply eli
 ·rintro rfl
  have hm:bb WkN (λx s=>((⟨0,x,s⟩,[(s.S.beg 2:Int),s.hidden]) :Rs×List Int)) 2:=yw
  exact⟨qO WkN _ _ dd dd ((Hc arg lit cells).toR.toG WkN) (aB (m:=2) 0 dd dd (by dsimp only;decide) hm),aF aX dd (aB (m:=2) 0 dd dd (by dsimp only;decide) hm) hm⟩
 apply eli
 ·rintro rfl
  have hm:bb WkN (λx s=>((⟨s.S.bR x.mode (ar s 1 0) false,x,s⟩,[((s.S.gU x.mode (ar s 1 0)).toNat:Int)]) :Rs×List Int)) 1:=yu
  exact⟨eX WkN _ _ dd dd ((FF arg lit cells).toG WkN) (aB (m:=1) 1 dd dd (by dsimp only;decide) hm),aF aX dd (aB (m:=1) 1 dd dd (by dsimp only;decide) hm) hm⟩
 apply eli
 ·rintro rfl
  have hm:bb WkN (λx s=>((⟨s.S.bR x.mode (ar s 2 1) true,x,{ s with S:=s.S.aV x.mode (ar s 2 1) (byteOf (ar s 2 0)) }⟩,[]) :Rs×List Int)) 0:=xB
  exact⟨eX WkN _ _ dd dd ((FR arg lit cells).toG WkN) (aB (m:=0) 2 dd dd (by dsimp only;decide) hm),aF aX dd (aB (m:=0) 2 dd dd (by dsimp only;decide) hm) hm⟩
 apply eli
 ·rintro rfl
  have hm:bb WkN (λx s=>lE x s) 0:=C5
  exact⟨eX WkN _ _ dd dd ((Mo arg lit cells).toG WkN) (aB (m:=0) 2 dd dd (by dsimp only;decide) hm),aF aX dd (aB (m:=0) 2 dd dd (by dsimp only;decide) hm) hm⟩
 apply eli
 ·rintro rfl
  have hm:bb WkN (λx s=>pg x s) 0:=D2
  exact⟨eX WkN _ _ dd dd ((L9 arg lit cells).toG WkN) (aB (m:=0) 3 dd dd (by dsimp only;decide) hm),aF aX dd (aB (m:=0) 3 dd dd (by dsimp only;decide) hm) hm⟩
 apply eli
 ·rintro rfl
  have hm:bb WkN (λx s=>oQ x s) 0:=CA
  exact⟨eX WkN _ _ dd dd ((LR arg lit cells).toG WkN) (aB (m:=0) 3 dd dd (by dsimp only;decide) hm),aF aX dd (aB (m:=0) 3 dd dd (by dsimp only;decide) hm) hm⟩
 apply eli
 ·rintro rfl
  have hm:bb WkN (λx s=>((⟨0,x,s⟩,[s.hs]) :Rs×List Int)) 1:=DP
  exact⟨fT WkN _ _ dd dd ((L6 arg lit cells).lz λc src s h=>h.1.dcs) (aB (m:=1) 0 dd dd (by dsimp only;decide) hm),aF aX dd (aB (m:=1) 0 dd dd (by dsimp only;decide) hm) hm⟩
 apply eli
 ·rintro rfl
  have hm:bb WkN (λx s=>((⟨(dS s).iy s.S (ar s 1 0),x,s.bL s.S ((dS s).ie s.S (ar s 1 0))⟩,[]) :Rs×List Int)) 0:=zB
  exact⟨fT WkN _ _ dd dd ((Kv arg lit cells).lz λc src s h=>h.1.dcs) (aB (m:=0) 1 dd dd (by dsimp only;decide) hm),aF aX dd (aB (m:=0) 1 dd dd (by dsimp only;decide) hm) hm⟩
 apply eli
 ·rintro rfl
  have hm:bb WkN (λx s=>((⟨(dS s).bo s.S,x,s.bL ((dS s).bp s.S (ar s 1 0)) ((dS s).bq s.S)⟩,[]) :Rs×List Int)) 0:=Ad
  exact⟨fT WkN _ _ dd dd ((I4 arg lit cells).lz λc src s h=>h.1.dcs) (aB (m:=0) 1 dd dd (by dsimp only;decide) hm),aF aX dd (aB (m:=0) 1 dd dd (by dsimp only;decide) hm) hm⟩
 apply eli
 ·rintro rfl
  have hm:bb WkN (λx s=>((⟨(dS s).cF s.S,x,s.bL ((dS s).di s.S (byteOf (ar s 1 0))) ((dS s).dR s.S)⟩,[]) :Rs×List Int)) 0:=xG
  exact⟨fT WkN _ _ dd dd ((Gi arg lit cells).lz λc src s h=>h.1.dcs) (aB (m:=0) 1 dd dd (by dsimp only;decide) hm),aF aX dd (aB (m:=0) 1 dd dd (by dsimp only;decide) hm) hm⟩
 apply eli
 ·rintro rfl
  have hm:bb WkN (λx s=>((⟨(dS s).fm s.S,x,s.bL ((dS s).fp s.S) ((dS s).gZ s.S)⟩,[]) :Rs×List Int)) 0:=yP
  exact⟨fT WkN _ _ dd dd ((Jl arg lit cells).lz λc src s h=>h.1.dcs) (aB (m:=0) 0 dd dd (by dsimp only;decide) hm),aF aX dd (aB (m:=0) 0 dd dd (by dsimp only;decide) hm) hm⟩
 apply eli
 ·rintro rfl
  have hm:bb WkN (λx s=>((⟨iA x s ⟨#[byteOf (ar s 1 0)]⟩,x,s.fl x ⟨#[byteOf (ar s 1 0)]⟩⟩,[]) :Rs×List Int)) 0:=CO
  exact⟨eI WkN _ _ dd dd ((Ln arg lit cells).lz λc src s h=>h.1) (aB (m:=0) 1 dd dd (by dsimp only;decide) hm),aF aX dd (aB (m:=0) 1 dd dd (by dsimp only;decide) hm) hm⟩
 apply eli
 ·rintro rfl
  have hm:bb WkN (λx s=>oK x s) 0:=Dy
  exact⟨eI WkN _ _ dd dd ((LN arg lit cells).lz λc src s h=>h.1) (aB (m:=0) 2 dd dd (by dsimp only;decide) hm),aF aX dd (aB (m:=0) 2 dd dd (by dsimp only;decide) hm) hm⟩
 apply eli
 ·rintro rfl
  have hm:bb WkN (λx s=>lv Fz x s) 0:=(wv Fz)
  exact⟨eI WkN _ _ dd dd ((Nj arg lit cells).lz λc src s h=>h.1) (aB (m:=0) 1 dd dd (by dsimp only;decide) hm),aF aX dd (aB (m:=0) 1 dd dd (by dsimp only;decide) hm) hm⟩
 apply eli
 ·rintro rfl
  have hm:bb WkN (λx s=>lv yh x s) 0:=(wv yh)
  exact⟨eI WkN _ _ dd dd ((KZ arg lit cells).lz λc src s h=>h.1) (aB (m:=0) 1 dd dd (by dsimp only;decide) hm),aF aX dd (aB (m:=0) 1 dd dd (by dsimp only;decide) hm) hm⟩
 apply eli
 ·rintro rfl
  have hm:bb WkN (λx s=>jI x s) 0:=CE
  exact⟨eI WkN _ _ dd dd ((Mj arg lit cells).lz λc src s h=>h.1) (aB (m:=0) 2 dd dd (by dsimp only;decide) hm),aF aX dd (aB (m:=0) 2 dd dd (by dsimp only;decide) hm) hm⟩
 apply eli
 ·rintro rfl
  have hm:bb WkN (λx s=>zZ x s) 1:=Gk
  exact⟨eI WkN _ _ dd dd ((NI arg lit cells).lz λc src s h=>h.1) (aB (m:=1) 0 dd dd (by dsimp only;decide) hm),aF aX dd (aB (m:=1) 0 dd dd (by dsimp only;decide) hm) hm⟩
 apply eli
 ·rintro rfl
  have hm:bb WkN (λx s=>Ag x s) 1:=xl
  exact⟨eI WkN _ _ dd dd ((Ho arg lit cells).toG WkN) (aB (m:=1) 2 dd dd (by dsimp only;decide) hm),aF aX dd (aB (m:=1) 2 dd dd (by dsimp only;decide) hm) hm⟩
 apply eli
 ·rintro rfl
  have hm:bb WkN (λx s=>oI x s) 2:=EJ
  exact⟨qO WkN _ _ dd dd ((Lj arg lit cells).lz λc src s h=>h.1) (aB (m:=2) 2 dd dd (by dsimp only;decide) hm),aF aX dd (aB (m:=2) 2 dd dd (by dsimp only;decide) hm) hm⟩
 apply eli
 ·rintro rfl
  have hm:bb WkN (λx s=>lL x s) 2:=Et
  have hl:fQ WkN ⟨94,arg,lit,cells⟩ (λx s=>lL x s):=(aB (m:=2) 4 dd dd (by dsimp only;decide) hm)
  refine⟨?_,aF aX dd hl hm⟩
  intro c g x src s w F hp
  exact cI WkN _ _ dd dd ((Mf arg lit cells).toG WkN) hl c g x src s w F hp
 apply eli
 ·rintro rfl
  have hm:bb WkN (λx s=>lO x s) 2:=EK
  have hl:fQ WkN ⟨95,arg,lit,cells⟩ (λx s=>lO x s):=(aB (m:=2) 4 dd dd (by dsimp only;decide) hm)
  refine⟨?_,aF aX dd hl hm⟩
  intro c g x src s w F hp
  exact cI WkN _ _ dd dd ((M8 arg lit cells).toG WkN) hl c g x src s w F hp
 apply eli
 ·rintro rfl
  have hm:bb WkN (λx s=>lI x s) 2:=Ei
  have hl:fQ WkN ⟨96,arg,lit,cells⟩ (λx s=>lI x s):=(aB (m:=2) 4 dd dd (by dsimp only;decide) hm)
  refine⟨?_,aF aX dd hl hm⟩
  intro c g x src s w F hp
  exact cI WkN _ _ dd dd ((MV arg lit cells).toG WkN) hl c g x src s w F hp
 apply eli
 ·rintro rfl
  have hm:bb WkN (λx s=>iw x s) 2:=AY
  have hl:fQ WkN ⟨97,arg,lit,cells⟩ (λx s=>iw x s):=(aB (m:=2) 2 dd dd (by dsimp only;decide) hm)
  refine⟨?_,aF aX dd hl hm⟩
  intro c g x src s w F hp
  exact cI WkN _ _ dd dd ((JR arg lit cells).toG WkN) hl c g x src s w F hp
 apply eli
 ·rintro rfl
  have hm:bb WkN (λx s=>gE x s) 1:=AI
  have hl:fQ WkN ⟨98,arg,lit,cells⟩ (λx s=>gE x s):=(aB (m:=1) 2 dd dd (by dsimp only;decide) hm)
  refine⟨?_,aF aX dd hl hm⟩
  intro c g x src s w F hp
  exact cI WkN _ _ dd dd ((Kc arg lit cells).toG WkN) hl c g x src s w F hp
 apply eli
 ·rintro rfl
  have hm:bb WkN (λx s=>ij x s) 2:=Bn
  have hl:fQ WkN ⟨99,arg,lit,cells⟩ (λx s=>ij x s):=(aB (m:=2) 3 dd dd (by dsimp only;decide) hm)
  refine⟨?_,aF aX dd hl hm⟩
  intro c g x src s w F hp
  exact cI WkN _ _ dd dd ((Ks arg lit cells).toG WkN) hl c g x src s w F hp
 apply eli
 ·rintro rfl
  exact⟨C9 arg lit cells,zL arg lit cells⟩
 apply eli
 ·rintro rfl
  exact⟨vn arg lit cells,sF arg lit cells⟩
 apply eli
 ·rintro rfl
  exact⟨zK WkN arg lit cells,xn arg lit cells⟩
 apply eli
 ·rintro rfl
  exact⟨Fe WkN arg lit cells,Dx arg lit cells⟩
 apply eli
 ·rintro rfl
  exact⟨uP arg lit cells,sM arg lit cells⟩
 apply eli
 ·rintro rfl
  exact⟨Ex arg lit cells,zP arg lit cells⟩
 intro hq
 cases hq
def dC(i:ao) :Option (Rn->Mt->Rs):=match parts i with|some q=>some q|none=>rr i
theorem kP(i:ao)(q:Rn->Mt->Rs)(hq:dC i=some q) :dE WkN i q∧iR WkN i q:=by
 unfold dC at hq
 rcases h:parts i with _|q1
 ·rw[h]at hq
  exact C8 i q hq
 ·rw[h]at hq
  obtain rfl:=Option.some.inj hq
  exact Ep WkN aX i q1 h
theorem wg(i:ao)(h1:1<=i.op)(h2:i.op<=106)(h3:i.op<88∨94<=i.op)(h4:i.op<100∨105<=i.op) : (dC i).isSome=true:=by
 obtain⟨op,arg,lit,cells⟩:=i
 simp only at h1 h2 h3 h4
 by_cases h1_:op=1
 ·subst h1_;rfl
 by_cases h2_:op=2
 ·subst h2_;rfl
 by_cases h3_:op=3
 ·subst h3_;rfl
 by_cases h4_:op=4
 ·subst h4_;rfl
 by_cases h5_:op=5
 ·subst h5_;rfl
 by_cases h6_:op=6
 ·subst h6_;rfl
 by_cases h7_:op=7
 ·subst h7_;rfl
 by_cases h8_:op=8
 ·subst h8_;rfl
 by_cases h9_:op=9
 ·subst h9_;rfl
 by_cases h10_:op=10
 ·subst h10_;rfl
 by_cases h11_:op=11
 ·subst h11_;rfl
 by_cases h12_:op=12
 ·subst h12_;rfl
 by_cases h13_:op=13
 ·subst h13_;rfl
 by_cases h14_:op=14
 ·subst h14_;rfl
 by_cases h15_:op=15
 ·subst h15_;rfl
 by_cases h16_:op=16
 ·subst h16_;rfl
 by_cases h17_:op=17
 ·subst h17_;rfl
 by_cases h18_:op=18
 ·subst h18_;rfl
 by_cases h19_:op=19
 ·subst h19_;rfl
 by_cases h20_:op=20
 ·subst h20_;rfl
 by_cases h21_:op=21
 ·subst h21_;rfl
 by_cases h22_:op=22
 ·subst h22_;rfl
 by_cases h23_:op=23
 ·subst h23_;rfl
 by_cases h24_:op=24
 ·subst h24_;rfl
 by_cases h25_:op=25
 ·subst h25_;rfl
 by_cases h26_:op=26
 ·subst h26_;rfl
 by_cases h27_:op=27
 ·subst h27_;rfl
 by_cases h28_:op=28
 ·subst h28_;rfl
 by_cases h29_:op=29
 ·subst h29_;rfl
 by_cases h30_:op=30
 ·subst h30_;rfl
 by_cases h31_:op=31
 ·subst h31_;rfl
 by_cases h32_:op=32
 ·subst h32_;rfl
 by_cases h33_:op=33
 ·subst h33_;rfl
 by_cases h34_:op=34
 ·subst h34_;rfl
 by_cases h35_:op=35
 ·subst h35_;rfl
 by_cases h36_:op=36
 ·subst h36_;rfl
 by_cases h37_:op=37
 ·subst h37_;rfl
 by_cases h38_:op=38
 ·subst h38_;rfl
 by_cases h39_:op=39
 ·subst h39_;rfl
 by_cases h40_:op=40
 ·subst h40_;rfl
 by_cases h41_:op=41
 ·subst h41_;rfl
 by_cases h42_:op=42
 ·subst h42_;rfl
 by_cases h43_:op=43
 ·subst h43_;rfl
 by_cases h44_:op=44
 ·subst h44_;rfl
 by_cases h45_:op=45
 ·subst h45_;rfl
 by_cases h46_:op=46
 ·subst h46_;rfl
 by_cases h47_:op=47
 ·subst h47_;rfl
 by_cases h48_:op=48
 ·subst h48_;rfl
 by_cases h49_:op=49
 ·subst h49_;rfl
 by_cases h50_:op=50
 ·subst h50_;rfl
 by_cases h51_:op=51
 ·subst h51_;rfl
 by_cases h52_:op=52
 ·subst h52_;rfl
 by_cases h53_:op=53
 ·subst h53_;rfl
 by_cases h54_:op=54
 ·subst h54_;rfl
 by_cases h55_:op=55
 ·subst h55_;rfl
 by_cases h56_:op=56
 ·subst h56_;rfl
 by_cases h57_:op=57
 ·subst h57_;rfl
 by_cases h58_:op=58
 ·subst h58_;rfl
 by_cases h59_:op=59
 ·subst h59_;rfl
 by_cases h60_:op=60
 ·subst h60_;rfl
 by_cases h61_:op=61
 ·subst h61_;rfl
 by_cases h62_:op=62
 ·subst h62_;rfl
 by_cases h63_:op=63
 ·subst h63_;rfl
 by_cases h64_:op=64
 ·subst h64_;rfl
 by_cases h65_:op=65
 ·subst h65_;rfl
 by_cases h66_:op=66
 ·subst h66_;rfl
 by_cases h67_:op=67
 ·subst h67_;rfl
 by_cases h68_:op=68
 ·subst h68_;rfl
 by_cases h69_:op=69
 ·subst h69_;rfl
 by_cases h70_:op=70
 ·subst h70_;rfl
 by_cases h71_:op=71
 ·subst h71_;rfl
 by_cases h72_:op=72
 ·subst h72_;rfl
 by_cases h73_:op=73
 ·subst h73_;rfl
 by_cases h74_:op=74
 ·subst h74_;rfl
 by_cases h75_:op=75
 ·subst h75_;rfl
 by_cases h76_:op=76
 ·subst h76_;rfl
 by_cases h77_:op=77
 ·subst h77_;rfl
 by_cases h78_:op=78
 ·subst h78_;rfl
 by_cases h79_:op=79
 ·subst h79_;rfl
 by_cases h80_:op=80
 ·subst h80_;rfl
 by_cases h81_:op=81
 ·subst h81_;rfl
 by_cases h82_:op=82
 ·subst h82_;rfl
 by_cases h83_:op=83
 ·subst h83_;rfl
 by_cases h84_:op=84
 ·subst h84_;rfl
 by_cases h85_:op=85
 ·subst h85_;rfl
 by_cases h86_:op=86
 ·subst h86_;rfl
 by_cases h87_:op=87
 ·subst h87_;rfl
 by_cases h94_:op=94
 ·subst h94_;rfl
 by_cases h95_:op=95
 ·subst h95_;rfl
 by_cases h96_:op=96
 ·subst h96_;rfl
 by_cases h97_:op=97
 ·subst h97_;rfl
 by_cases h98_:op=98
 ·subst h98_;rfl
 by_cases h99_:op=99
 ·subst h99_;rfl
 by_cases h105_:op=105
 ·subst h105_;rfl
 by_cases h106_:op=106
 ·subst h106_;rfl
 omega
def fh(x:Rn)(s:Mt) :Option Rs:=
 if x.left=0 then some ⟨13,x,s⟩
 else if(s.S.ax x.mode x.pc).2≠0 then some ⟨(s.S.ax x.mode x.pc).2,{ x with left:=x.left-1 },s⟩
 else
  let i:=(s.S.ax x.mode x.pc).1
  let x2:={ x with left:=x.left-1,next:=wrap64 (x.pc+8*i.cells) }
  if asks i x2 s≠0 then some ⟨asks i x2 s,x2,s⟩
  else(dC i).map λq=>if(q x2 s).f≠0 then q x2 s else⟨0,{ (q x2 s).x with pc:=(q x2 s).x.next },(q x2 s).s.told (q x2 s).x i.op⟩
def gL:Nat->Rn->Mt->Option Rs
 | 0,_,_=>none
 | n+1,x,s=>
   match fh x s with
   | none=>none
   | some q=>if q.f≠0 then some q else if q.x.over then some q else gL n q.x q.s
theorem WkN.told{c:Vc}{src:Value}{s:Mt}(h:WkN c src s)(x:Rn)(op:Int) :WkN c src (s.told x op):=by
 unfold Mt.told
 split
 ·exact⟨⟨⟨h.1.dcs.h,h.1.dcs.l,h.1.dcs.at8⟩,h.1.hk,h.1.lk,h.1.kat,h.1.ws,h.1.tab,.inl h.2,h.1.v1,h.1.v2,h.1.v3⟩,h.2⟩
 ·exact h
theorem mr(c:Vc)(src:Value) : ∀(n:Nat) (x:Rn) (s:Mt) (q:Rs),WkN c src s->s.Ok->x.Ok->gL n x s=some q->q.s.Ok∧(0<=q.x.left∧q.x.left<=x.left)∧q.s.av=s.av∧WkN c src q.s
 | 0,_,_,_,_,_,_,h=>by cases h
 | n+1,x,s,q,hp0,hs,hx,h=>by
   unfold gL at h
   have h1:=hx.left
   have h2:=hx.dQ
   have hst : ∀r,fh x s=some r->r.s.Ok∧(0<=r.x.left∧r.x.left<=x.left)∧r.s.av=s.av∧WkN c src r.s∧(r.f=0->r.x.Ok):=by
    intro r hr
    unfold fh at hr
    by_cases hl:x.left=0
    ·rw[if_pos hl]at hr
     obtain rfl:=Option.some.inj hr
     exact⟨hs,⟨h1,Int.le_refl _⟩,rfl,hp0,λh=>by cases h⟩
    rw[if_neg hl]at hr
    by_cases hf: (s.S.ax x.mode x.pc).2≠0
    ·rw[if_pos hf]at hr
     obtain rfl:=Option.some.inj hr
     exact⟨hs,⟨by show 0<=x.left-1;omega,by show x.left-1<=x.left;omega⟩,rfl,hp0,λh=>absurd h hf⟩
    rw[if_neg hf]at hr
    have hx2: ({ x with left:=x.left-1,next:=wrap64 (x.pc+8* (s.S.ax x.mode x.pc).1.cells) }:Rn).Ok:=
     ⟨hx.base,hx.dT,aZ _,hx.pc,by show 0<=x.left-1;omega,by show x.left-1<=1000000;omega⟩
    simp only at hr
    have hfv:=ln s.S x.mode x.pc
    generalize (s.S.ax x.mode x.pc).1=i at *
    have hl2: ({ x with left:=x.left-1,next:=wrap64 (x.pc+8*i.cells) }:Rn).left=x.left-1:=rfl
    generalize ({ x with left:=x.left-1,next:=wrap64 (x.pc+8*i.cells) }:Rn) =x2 at *
    by_cases ha:asks i x2 s≠0
    ·rw[if_pos ha]at hr
     obtain rfl:=Option.some.inj hr
     exact⟨hs,⟨by show 0<=x2.left;omega,by show x2.left<=x.left;omega⟩,rfl,hp0,λh=>absurd h ha⟩
    rw[if_neg ha]at hr
    rcases hp:dC i with _|Q
    ·rw[hp]at hr;cases hr
    rw[hp]at hr
    obtain⟨_,hke⟩:=kP i Q hp
    obtain⟨hs3,hx3,ht3,hl3,_,hw3⟩:=hke c src x2 s hp0 hs hx2 hfv.1 hfv.2.1 (db.of (by simpa using ha))
    simp only[Option.map_some]at hr
    generalize Q x2 s=R at *
    by_cases hR:R.f≠0
    ·rw[if_pos hR]at hr
     obtain rfl:=Option.some.inj hr
     exact⟨hs3,⟨by have:=hx3.left;omega,by omega⟩,ht3,hw3,λh=>absurd h hR⟩
    rw[if_neg hR]at hr
    obtain rfl:=Option.some.inj hr
    refine⟨pR hs3 _ _,⟨by have:=hx3.left;show 0<=R.x.left;omega,by show R.x.left<=x.left;omega⟩,?_,hw3.told _ _,λ_=>⟨hx3.base,hx3.dT,hx3.next,hx3.next,hx3.left,hx3.dQ⟩⟩
    show(R.s.told R.x i.op).av=s.av
    unfold Mt.told
    split<;>exact ht3
   rcases hr:fh x s with _|r
   ·rw[hr]at h;cases h
   rw[hr]at h
   obtain⟨a1,a2,a3,aw,a4⟩:=hst r hr
   simp only at h
   by_cases hf:r.f≠0
   ·rw[if_pos hf]at h
    obtain rfl:=Option.some.inj h
    exact⟨a1,a2,a3,aw⟩
   rw[if_neg hf]at h
   by_cases ho:r.x.over=true
   ·rw[if_pos ho]at h
    obtain rfl:=Option.some.inj h
    exact⟨a1,a2,a3,aw⟩
   rw[if_neg ho]at h
   obtain⟨c1,c2,c3,c4⟩:=mr c src n r.x r.s q aw a1 (a4 (by simpa using hf)) h
   exact⟨c1,⟨c2.1,by omega⟩,c3.trans a3,c4⟩
theorem dp(p:Rn->Mt->Prop)[∀x s,Decidable (p x s)]{a b:Rn->Mt->Rs×List Int}(hp : ∀x s k l,p (x.up k) (s.sn l)↔p x s)(ha:cy a)(hb:cy b) :cy (λx s=>if p x s then a x s else b x s):=by
 intro x s k l
 show(if p (x.up k) (s.sn l)then a (x.up k) (s.sn l)else b (x.up k) (s.sn l)) =_
 by_cases h:p x s
 ·rw[if_pos ((hp x s k l).2 h),ha]
  simp only[if_pos h]
 ·rw[if_neg (λh2=>h ((hp x s k l).1 h2)),hb]
  simp only[if_neg h]
theorem CM:cy lE:=dp _ (λ_ _ _ _=>Iff.rfl) (λ_ _ _ _=>rfl) (λ_ _ _ _=>rfl)
theorem Hu(t:Mt->List UInt8)(ht : ∀s l,t (s.sn l) =t s) :cy (lv t):=by
 refine dp (λx s=>lP s=true) (λ_ _ _ _=>Iff.rfl) (λx s k l=> ?_) (λ_ _ _ _=>rfl)
 show((⟨iA (x.up k) (s.sn l) ⟨(t (s.sn l)).toArray⟩,x.up k,(s.sn l).fl (x.up k) ⟨(t (s.sn l)).toArray⟩⟩,[]) :Rs×List Int) =_
 rw[ht]
 rfl
theorem Du:cy jI:=dp _ (λ_ _ _ _=>Iff.rfl) (λ_ _ _ _=>rfl) (λ_ _ _ _=>rfl)
theorem ER:cy zZ:=λ_ _ _ _=>rfl
theorem D6:cy lL:=dp _ (λ_ _ _ _=>Iff.rfl) (λ_ _ _ _=>rfl) (λ_ _ _ _=>rfl)
theorem Df:cy lO:=dp _ (λ_ _ _ _=>Iff.rfl) (λ_ _ _ _=>rfl) (λ_ _ _ _=>rfl)
theorem Ee:cy lI:=dp _ (λ_ _ _ _=>Iff.rfl) (λ_ _ _ _=>rfl) (λ_ _ _ _=>rfl)
theorem zS:cy iw:=dp _ (λ_ _ _ _=>Iff.rfl) (λ_ _ _ _=>rfl) (λ_ _ _ _=>rfl)
theorem Aj:cy gE:=dp _ (λ_ _ _ _=>Iff.rfl) (λ_ _ _ _=>rfl) (λ_ _ _ _=>rfl)
theorem AF:cy ij:=dp _ (λ_ _ _ _=>Iff.rfl) (λ_ _ _ _=>rfl) (λ_ _ _ _=>rfl)
theorem oo{x:Rn}{n k:Int}(hk:0<=k)(h:aY x n=0) :aY (x.up k) n=0:=by
 unfold aY at *
 split at h
 ·cases h
 rename_i h1
 rw[if_neg h1]
 split at h
 ·cases h
 rename_i h2
 rw[if_neg]
 show¬x.left+k<n/8
 omega
theorem AK{x:Rn}{n k:Int}(h:aY x n≠0)(h13:aY x n≠13) :aY x n=19∧aY (x.up k) n=19:=by
 unfold aY at *
 by_cases h1:n<0
 ·rw[if_pos h1,if_pos h1];exact⟨rfl,rfl⟩
 ·rw[if_neg h1]at h h13
  split at h
  ·rename_i h2;rw[if_pos h2]at h13;exact absurd rfl h13
  ·exact absurd rfl h
theorem FH{x:Rn}{n k:Int}(hk:0<=k)(h:aY x n=0) : (x.up k).pay n= (x.pay n).up k:=by
 unfold Rn.pay
 rw[if_pos h,if_pos (oo hk h)]
 unfold Rn.up
 simp only[Rn.mk.injEq,true_and,and_true]
 omega
theorem Gp{x:Rn}{n k:Int}(h:aY x n=13)(h0:aY (x.up k) n=0) : ((x.up k).pay n).left<k:=by
 unfold Rn.pay
 rw[if_pos h0]
 show x.left+k-n/8<k
 unfold aY at h
 split at h
 ·cases h
 split at h
 ·rename_i h2;omega
 ·cases h
theorem BT(x:Rn) :x.up 0=x:=by
 unfold Rn.up
 rw[Int.add_zero]
theorem cy.seen{q:Rn->Mt->Rs×List Int}(h:cy q)(x:Rn)(s:Mt) : (q x s).1.s.seen=s.seen:=by
 have h1:=h x s 0 s.seen
 rw[BT,show s.sn s.seen=s from rfl]at h1
 rw[h1]
 rfl
theorem Flat.seen{q:Rn->Mt->Rs}(h:Flat q)(x:Rn)(s:Mt) : (q x s).s.seen=s.seen:=by
 have h1:=h x s 0 s.seen
 rw[BT,show s.sn s.seen=s from rfl]at h1
 rw[h1]
 rfl
structure FuA(q:Rn->Mt->Rs) :Prop where
 fu:Fu q
 seen : ∀x s,(q x s).s.seen=s.seen
 mode : ∀x s,(q x s).x.mode=x.mode
 pup : ∀x s,(q x s).s.T.aU=s.T.aU
structure FuP(q:Rn->Mt->Rs×List Int) :Prop where
 up : ∀x s k l,0<=k->(q x s).1.f≠13->q (x.up k) (s.sn l) = ((q x s).1.up k l,(q x s).2)
 stop : ∀x s k l,0<=k->(q x s).1.f=13->(q (x.up k) (s.sn l)).1.f≠13->(q (x.up k) (s.sn l)).1.x.left<k
 out : ∀x s,∃t:List UInt8,(q x s).1.s.T.out.data.toList=s.T.out.data.toList++t
 EY : ∀x s,(q x s).1.f=13->(q x s).1.s.T.out=s.T.out
 seen : ∀x s,(q x s).1.s.seen=s.seen
 mode : ∀x s,(q x s).1.x.mode=x.mode
 pup : ∀x s,(q x s).1.s.T.aU=s.T.aU
theorem Hz(n:Nat)(l:List Int)(x:Rn)(s:Mt) : (aK n l x s).f≠13:=by
 unfold aK Mt.aq
 split
 ·show(2:Int)≠13;decide
 ·show(0:Int)≠13;decide
theorem B7(n:Nat)(p:Rs×List Int) : (Rs.laid n p).f=13->p.1.f=13∧Rs.laid n p=p.1:=by
 unfold Rs.laid
 split
 ·intro h
  exact absurd h (Hz _ _ _ _)
 ·intro h
  exact⟨h,rfl⟩
theorem mm(n:Nat)(p:Rs×List Int) : (Rs.laid n p).s.T=p.1.s.T∧(Rs.laid n p).s.seen=p.1.s.seen∧(Rs.laid n p).x=p.1.x:=by
 unfold Rs.laid
 split
 ·refine⟨(bu p.1.s n p.2).T,(aH p.1.s n p.2).2.1,rfl⟩
 ·exact⟨rfl,rfl,rfl⟩
theorem IG(n:Nat)(p:Rs×List Int)(k:Int)(l:List Stp) :Rs.laid n (p.1.up k l,p.2) = (Rs.laid n p).up k l:=by
 unfold Rs.laid
 show(if p.1.f=0 then aK n p.2 (p.1.x.up k) (p.1.s.sn l)else _) =_
 split
 ·unfold aK
  rw[bk]
  rfl
 ·rfl
theorem FuP.laid{q:Rn->Mt->Rs×List Int}(h:FuP q)(n:Nat) :FuA (λx s=>Rs.laid n (q x s)):=by
 refine⟨⟨λx s k l hk hf=> ?_,λx s k l hk hf hn=> ?_,λx s=> ?_,λx s hf=> ?_⟩,λx s=> ?_,λx s=> ?_,λx s=> ?_⟩
 ·show Rs.laid n (q (x.up k) (s.sn l)) = (Rs.laid n (q x s)).up k l
  have h13: (q x s).1.f≠13:=λh2=>hf (by
   show(Rs.laid n (q x s)).f=13
   unfold Rs.laid
   rw[if_neg (by rw[h2];decide)]
   exact h2)
  rw[h.up x s k l hk h13,IG]
 ·obtain⟨h1,_⟩:=B7 n (q x s) hf
  show(Rs.laid n (q (x.up k) (s.sn l))).x.left<k
  rw[(mm n _).2.2]
  refine h.stop x s k l hk h1 λh2=>hn ?_
  show(Rs.laid n (q (x.up k) (s.sn l))).f=13
  unfold Rs.laid
  rw[if_neg (by rw[h2];decide)]
  exact h2
 ·show∃t,(Rs.laid n (q x s)).s.T.out.data.toList=_
  rw[(mm n _).1]
  exact h.out x s
 ·show(Rs.laid n (q x s)).s.T.out=_
  rw[(mm n _).1]
  exact h.EY x s (B7 n _ hf).1
 ·show(Rs.laid n (q x s)).s.seen=_
  rw[(mm n _).2.1]
  exact h.seen x s
 ·show(Rs.laid n (q x s)).x.mode=_
  rw[(mm n _).2.2]
  exact h.mode x s
 ·show(Rs.laid n (q x s)).s.T.aU=_
  rw[(mm n _).1]
  exact h.pup x s
theorem cy.Gz{q:Rn->Mt->Rs×List Int}(h:cy q)(hx : ∀x s,(q x s).1.x=x)(hp : ∀x s,(q x s).1.s.T.aU=s.T.aU)(ho : ∀x s,∃t:List UInt8,(q x s).1.s.T.out.data.toList=s.T.out.data.toList++t)(ho2 : ∀x s,(q x s).1.f=13->(q x s).1.s.T.out=s.T.out) :FuP q:=
 ⟨λx s k l _ _=>h x s k l,λx s k l _ h13 hn=>absurd (by rw[h];exact h13) hn,ho,ho2,h.seen,λx s=>by rw[hx],hp⟩
theorem cy.fup{q:Rn->Mt->Rs×List Int}(h:cy q)(hx : ∀x s,(q x s).1.x=x)(hT : ∀x s,(q x s).1.s.T=s.T) :FuP q:=
 h.Gz hx (λx s=>by rw[hT]) (λx s=>⟨[],by rw[hT];simp⟩) (λx s _=>by rw[hT])
theorem Flat.fua{q:Rn->Mt->Rs}(h:Flat q)(hx : ∀x s,(q x s).x.mode=x.mode)(hT : ∀x s,(q x s).s.T=s.T) :FuA q:=⟨h.fu hT,h.seen,hx,λx s=>by rw[hT]⟩
theorem nt(T:Caps.Tab)(m:Int)(t:ByteArray) : ∃u:List UInt8,(Caps.mn T m t).out.data.toList=T.out.data.toList++u:=by
 unfold Caps.mn
 split
 ·split
  ·refine⟨(t.extract 0 (Caps.fit T.room T.out t)).data.toList,?_⟩
   show(T.out++t.extract 0 (Caps.fit T.room T.out t)).data.toList=_
   rw[ByteArray.data_append,Array.toList_append]
  ·exact⟨[],by simp⟩
 ·exact⟨[],by simp⟩
theorem na(T:Caps.Tab)(m:Int)(t:ByteArray) : (Caps.mn T m t).aU=T.aU:=by
 unfold Caps.mn
 split
 ·split<;>rfl
 ·rfl
theorem Jv(T:Caps.Tab)(m:Int)(t:ByteArray) :Caps.nO T m t≠13:=by
 unfold Caps.nO
 split
 ·split<;>decide
 ·decide
theorem pN(x:Rn)(s:Mt)(t:ByteArray) :iA x s t≠13:=Jv _ _ _
theorem nL(T:Caps.Tab)(m:Int) : (Caps.jW T m).out=T.out∧(Caps.jW T m).aU=T.aU:=by
 unfold Caps.jW
 split<;>exact⟨rfl,rfl⟩
theorem nD(T:Caps.Tab)(m n:Int) : (Caps.ew T m n).out=T.out∧(Caps.ew T m n).aU=T.aU:=by
 unfold Caps.ew
 split<;>exact⟨rfl,rfl⟩
theorem I3:FuP (λx s=>(⟨iA x s ⟨#[byteOf (ar s 1 0)]⟩,x,s.fl x ⟨#[byteOf (ar s 1 0)]⟩⟩,[])):=
 cy.Gz (λ_ _ _ _=>rfl) (λ_ _=>rfl) (λx s=>na _ _ _) (λx s=>nt _ _ _) (λx s h=>absurd h (pN _ _ _))
theorem F9(t:Mt->List UInt8)(ht : ∀s l,t (s.sn l) =t s) :FuP (lv t):=by
 refine(Hu t ht).Gz (λx s=> ?_) (λx s=> ?_) (λx s=> ?_) (λx s=> ?_)
 ·unfold lv;split<;>rfl
 ·unfold lv;split
  ·exact na _ _ _
  ·rfl
 ·unfold lv;split
  ·exact nt _ _ _
  ·exact⟨[],by simp⟩
 ·unfold lv;split
  ·intro h;exact absurd h (pN _ _ _)
  ·intro h;rfl
theorem Iw:FuP jI:=by
 refine Du.Gz (λx s=> ?_) (λx s=> ?_) (λx s=> ?_) (λx s=> ?_)
 ·unfold jI;split<;>rfl
 ·unfold jI;split
  ·exact na _ _ _
  ·rfl
 ·unfold jI;split
  ·exact nt _ _ _
  ·exact⟨[],by simp⟩
 ·unfold jI;split
  ·intro h;exact absurd h (pN _ _ _)
  ·intro h;rfl
theorem ME:FuP zZ:=ER.Gz (λ_ _=>rfl) (λx s=>(nL _ _).2) (λx s=>⟨[],by rw[List.append_nil];exact congrArg (λb:ByteArray=>b.data.toList) (nL _ _).1⟩) (λx s _=>(nL _ _).1)
theorem gX(x:Rn)(n:Int) : (x.pay n).mode=x.mode:=by
 unfold Rn.pay
 split<;>rfl
theorem Is{x:Rn}{n:Int}(h:aY x n≠0) :x.pay n=x:=by
 unfold Rn.pay
 rw[if_neg h]
theorem mB{q a:Rn->Mt->Rs×List Int}{L:Rn->Mt->List Int}(n:Mt->Int)(hn : ∀s l,n (s.sn l) =n s)(hq : ∀x s,q x s=if aY x (n s) =0 then a (x.pay (n s)) s else(⟨aY x (n s),x.pay (n s),s⟩,L x s))
 (ha:cy a) (hx : ∀x s,(a x s).1.x=x) (hL : ∀x s k l,L (x.up k) (s.sn l) =L x s) (hp : ∀x s,(a x s).1.s.T.aU=s.T.aU) (ho : ∀x s,∃t:List UInt8,(a x s).1.s.T.out.data.toList=s.T.out.data.toList++t) (ho2 : ∀x s,(a x s).1.f=13->(a x s).1.s.T.out=s.T.out) :FuP q:=by
 refine⟨λx s k l hk hf=> ?_,λx s k l hk hf hm=> ?_,λx s=> ?_,λx s hf=> ?_,λx s=> ?_,λx s=> ?_,λx s=> ?_⟩
 ·rw[hq x s]at hf⊢
  rw[hq (x.up k),hn]
  by_cases h0:aY x (n s) =0
  ·rw[if_pos (oo hk h0),if_pos h0,FH hk h0,ha]
  ·rw[if_neg h0]at hf⊢
   obtain⟨e1,e2⟩:=AK (k:=k) h0 hf
   rw[if_neg (by rw[e2];decide),Is h0,Is (by rw[e2];decide),e1,e2,hL]
   rfl
 ·rw[hq x s]at hf
  rw[hq (x.up k),hn]at hm⊢
  by_cases h0:aY x (n s) =0
  ·rw[if_pos h0]at hf
   rw[if_pos (oo hk h0),FH hk h0,ha]at hm
   exact absurd hf hm
  ·rw[if_neg h0]at hf
   by_cases h1:aY (x.up k) (n s) =0
   ·rw[if_pos h1,hx]
    exact Gp hf h1
   ·rw[if_neg h1]at hm
    exfalso
    have h2:aY (x.up k) (n s)≠13:=hm
    have h3:aY x (n s) =13:=hf
    unfold aY at h1 h2 h3
    by_cases h4:n s<0
    ·rw[if_pos h4]at h3
     cases h3
    ·rw[if_neg h4]at h1 h2
     split at h2
     ·exact h2 rfl
     ·rename_i h5
      rw[if_neg h5]at h1
      exact h1 rfl
 ·rw[hq]
  split
  ·exact ho _ _
  ·exact⟨[],by simp⟩
 ·rw[hq]at hf⊢
  split at hf
  ·rename_i h0
   rw[if_pos h0]
   exact ho2 _ _ hf
  ·rename_i h0
   rw[if_neg h0]
 ·rw[hq]
  split
  ·exact ha.seen _ _
  ·rfl
 ·rw[hq]
  split
  ·rw[hx];exact gX _ _
  ·exact gX _ _
 ·rw[hq]
  split
  ·exact hp _ _
  ·rfl
theorem JW:FuP pg:=by
 refine mB (a:=λx s=>(⟨s.S.iv x.mode (ar s 3 0) (ar s 3 1) (ar s 3 2),x,{ s with S:=s.S.move x.mode (ar s 3 0) (ar s 3 1) (ar s 3 2) }⟩,[])) (L:=λ_ _=>[]) (λs=>ar s 3 2) (λ_ _=>rfl) (λx s=> ?_) (λ_ _ _ _=>rfl) (λ_ _=>rfl) (λ_ _ _ _=>rfl) (λ_ _=>rfl) (λx s=>⟨[],by simp⟩) (λx s _=>rfl)
 unfold pg
 rw[gX]
theorem Kz:FuP oQ:=by
 refine mB (a:=λx s=>(⟨s.S.iM x.mode (ar s 3 0) (ar s 3 1),x,{ s with S:=s.S.fill x.mode (ar s 3 0) (ar s 3 1) (byteOf (ar s 3 2)) }⟩,[])) (L:=λ_ _=>[]) (λs=>ar s 3 1) (λ_ _=>rfl) (λx s=> ?_) (λ_ _ _ _=>rfl) (λ_ _=>rfl) (λ_ _ _ _=>rfl) (λ_ _=>rfl) (λx s=>⟨[],by simp⟩) (λx s _=>rfl)
 unfold oQ
 rw[gX]
def qp(x:Rn)(s:Mt) :Rs×List Int:=
 if s.S.cZ x.mode (ar s 2 0) (ar s 2 1) =0 then(⟨iA x s (s.S.text x.mode (ar s 2 0) (ar s 2 1)),x,s.fl x (s.S.text x.mode (ar s 2 0) (ar s 2 1))⟩,[])else(⟨s.S.cZ x.mode (ar s 2 0) (ar s 2 1),x,s⟩,[])
theorem zi:cy qp:=dp _ (λ_ _ _ _=>Iff.rfl) (λ_ _ _ _=>rfl) (λ_ _ _ _=>rfl)
theorem BL{x:Rn}{s:Mt}{a n:Int}(h:aY x n=0) :ig x s a n=s.S.cZ x.mode a n:=by
 unfold ig
 rw[if_pos h]
theorem Cj{x:Rn}{s:Mt}{a n:Int}(h:aY x n≠0) :ig x s a n=aY x n:=by
 unfold ig
 rw[if_neg h]
theorem J3:FuP oK:=by
 refine mB (a:=qp) (L:=λ_ _=>[]) (λs=>ar s 2 1) (λ_ _=>rfl) (λx s=> ?_) zi (λx s=> ?_) (λ_ _ _ _=>rfl) (λx s=> ?_) (λx s=> ?_) (λx s=> ?_)
 ·unfold oK qp
  by_cases h:aY x (ar s 2 1) =0
  ·rw[if_pos h,BL h,gX]
  ·rw[if_neg h,Cj h,if_neg h]
 ·unfold qp;split<;>rfl
 ·unfold qp;split
  ·exact na _ _ _
  ·rfl
 ·unfold qp;split
  ·exact nt _ _ _
  ·exact⟨[],by simp⟩
 ·unfold qp;split
  ·intro h;exact absurd h (pN _ _ _)
  ·intro h;rfl
def rh(x:Rn)(s:Mt) :Rs×List Int:=
 if s.S.cZ x.mode (ar s 2 0) (ar s 2 1) =0 then(⟨0,x,s⟩,foundL (lG s (s.S.text x.mode (ar s 2 0) (ar s 2 1)).data.toList))else(⟨s.S.cZ x.mode (ar s 2 0) (ar s 2 1),x,s⟩,[])
theorem Be:cy rh:=dp _ (λ_ _ _ _=>Iff.rfl) (λ_ _ _ _=>rfl) (λ_ _ _ _=>rfl)
theorem Jn:FuP oI:=by
 refine mB (a:=rh) (L:=λ_ _=>[]) (λs=>ar s 2 1) (λ_ _=>rfl) (λx s=> ?_) Be (λx s=> ?_) (λ_ _ _ _=>rfl) (λx s=> ?_) (λx s=> ?_) (λx s=> ?_)
 ·unfold oI rh
  by_cases h:aY x (ar s 2 1) =0
  ·rw[if_pos h,BL h,gX]
  ·rw[if_neg h,Cj h,if_neg h]
 ·unfold rh;split<;>rfl
 ·unfold rh;split<;>rfl
 ·unfold rh;split<;>exact⟨[],by simp⟩
 ·unfold rh;split<;>exact λ_=>rfl
def Ba(x:Rn)(s:Mt) :Rs×List Int:=
 if 0<ar s 2 1∧(kD s.S (ar s 2 0) && (mj s.S (ar s 2 0) (ar s 2 1) &&oc s.S x.mode (ar s 2 0))) =false then(⟨5,x,s⟩,[((Caps.cN s.T x.mode (ar s 2 1)).size:Int)])
 else if Caps.gH s.T x.mode (ar s 2 1)≠0 then(⟨Caps.gH s.T x.mode (ar s 2 1),x,{ s with T:=Caps.ew s.T x.mode (ar s 2 1) }⟩,[((Caps.cN s.T x.mode (ar s 2 1)).size:Int)])
 else(⟨(eJ x.mode (ar s 2 0) 0 (Caps.cN s.T x.mode (ar s 2 1)).data.toList s.S).1,x,{ s with T:=Caps.ew s.T x.mode (ar s 2 1),S:=(eJ x.mode (ar s 2 0) 0 (Caps.cN s.T x.mode (ar s 2 1)).data.toList s.S).2 }⟩,[((Caps.cN s.T x.mode (ar s 2 1)).size:Int)])
theorem Ea:cy Ba:=dp _ (λ_ _ _ _=>Iff.rfl) (λ_ _ _ _=>rfl) (dp _ (λ_ _ _ _=>Iff.rfl) (λ_ _ _ _=>rfl) (λ_ _ _ _=>rfl))
theorem MI:FuP Ag:=by
 refine mB (a:=Ba) (L:=λx s=>[((Caps.cN s.T x.mode (ar s 2 1)).size:Int)]) (λs=>ar s 2 1) (λ_ _=>rfl) (λx s=> ?_) Ea (λx s=> ?_) (λ_ _ _ _=>rfl) (λx s=> ?_) (λx s=> ?_) (λx s=> ?_)
 ·unfold Ag Ba eh
  rw[gX]
  by_cases h:aY x (ar s 2 1) =0
  ·rw[if_pos h,if_neg (λh2=>h2 h)]
   split
   ·rfl
   ·split<;>rfl
  ·rw[if_neg h,if_pos h]
 ·unfold Ba;split
  ·rfl
  ·split<;>rfl
 ·unfold Ba;split
  ·rfl
  ·split<;>exact(nD _ _ _).2
 ·refine⟨[],?_⟩
  rw[List.append_nil]
  refine congrArg (λb:ByteArray=>b.data.toList) ?_
  unfold Ba;split
  ·rfl
  ·split<;>exact(nD _ _ _).1
 ·intro _
  unfold Ba;split
  ·rfl
  ·split<;>exact(nD _ _ _).1
theorem IQ:FuP lE:=CM.fup (λx s=>by unfold lE;split<;>rfl) (λx s=>by unfold lE;split<;>rfl)
theorem Jg:FuP sf:=cy.fup (λ_ _ _ _=>rfl) (λ_ _=>rfl) (λ_ _=>rfl)
theorem Kt:FuP lL:=D6.fup (λx s=>by unfold lL;split<;>rfl) (λx s=>by unfold lL;split<;>rfl)
theorem JO:FuP lO:=Df.fup (λx s=>by unfold lO;split<;>rfl) (λx s=>by unfold lO;split<;>rfl)
theorem JS:FuP lI:=Ee.fup (λx s=>by unfold lI;split<;>rfl) (λx s=>by unfold lI;split<;>rfl)
theorem EL:FuP iw:=zS.fup (λx s=>by unfold iw;split<;>rfl) (λx s=>by unfold iw;split<;>rfl)
theorem E5:FuP gE:=Aj.fup (λx s=>by unfold gE;split<;>rfl) (λx s=>by unfold gE;split<;>rfl)
theorem HT:FuP ij:=AF.fup (λx s=>by unfold ij;split<;>rfl) (λx s=>by unfold ij;split<;>rfl)
theorem lZ(x:Rn)(s:Mt) : (bd x s).x=x∧(bd x s).s.T=s.T:=by
 unfold bd
 split
 ·exact⟨rfl,rfl⟩
 ·split
  ·exact⟨rfl,rfl⟩
  ·split<;>exact⟨rfl,rfl⟩
theorem Bb:Flat bd:=by
 intro x s k l
 unfold bd
 show(match words s.S (dS s)with | []=>_|wd::_=>_) =_
 rcases words s.S (dS s)with _| ⟨wd,_⟩
 ·rfl
 ·dsimp only
  have e1: (s.sn l).S=s.S:=rfl
  have e2: (x.up k).mode=x.mode:=rfl
  rw[e1,e2]
  by_cases h1:s.S.az x.mode wd.xt false≠0
  ·rw[if_pos h1,if_pos h1]
   rfl
  ·rw[if_neg h1,if_neg h1]
   by_cases h2: (Code.unpack (s.S.aR x.mode wd.xt)).1≠17
   ·rw[if_pos h2,if_pos h2]
    rfl
   ·rw[if_neg h2,if_neg h2]
    rfl
theorem jc(x:Rn)(s:Mt) : (back x s).x.mode=x.mode∧(back x s).s.T=s.T:=by
 unfold back
 split<;>exact⟨rfl,rfl⟩
theorem CG:Flat jL:=by
 intro x s k l
 unfold jL
 rw[Bb]
 show(if(bd x s).f=0 then back (x.up k) ((bd x s).s.sn l)else _) =_
 split
 ·exact ot _ _ _ _
 ·rfl
theorem J9:FuA jL:=CG.fua (λx s=>by
 unfold jL
 split
 ·exact(jc _ _).1
 ·rw[(lZ x s).1]) (λx s=>by
 unfold jL
 split
 ·rw[(jc _ _).2,(lZ x s).2]
 ·exact(lZ x s).2)
theorem Aq(s:Mt)(n:Nat)(l:List Int) : (s.aq n l).2.T=s.T:=(bu s n l).T
theorem vR(arg:Int) :Flat (λx s=>if arg=0 then back { x with next:=arg } (s.aq 0 [wrap64 (x.pc+16)]).2 else⟨0,{ x with next:=arg },(s.aq 0 [wrap64 (x.pc+16)]).2⟩):=by
 intro x s k l
 dsimp only
 rw[bk]
 by_cases h:arg=0
 ·rw[if_pos h,if_pos h]
  exact ot { x with next:=arg } (s.aq 0 [wrap64 (x.pc+16)]).2 k l
 ·rw[if_neg h,if_neg h]
  rfl
theorem zJ(arg:Int) :FuA (λx s=>if arg=0 then back { x with next:=arg } (s.aq 0 [wrap64 (x.pc+16)]).2 else⟨0,{ x with next:=arg },(s.aq 0 [wrap64 (x.pc+16)]).2⟩):=
 (vR arg).fua (λx s=>by
  split
  ·exact(jc _ _).1
  ·rfl) (λx s=>by
  split
  ·rw[(jc _ _).2,Aq]
  ·exact Aq _ _ _)
theorem Bs(n:Nat)(p:Rs×List Int) : (Rs.laid n p).x=p.1.x:=(mm n p).2.2
theorem sZ(n:Int)(e:Bool)(a:Int)(x:Rn)(s:Mt) : (ee n e a x s).x.mode=x.mode:=by
 unfold ee
 split<;>rfl
theorem zo(i:ao)(q:Rn->Mt->Rs)(hq:parts i=some q)(x:Rn)(s:Mt) : (q x s).x.mode=x.mode:=by
 obtain⟨op,arg,lit,cells⟩:=i
 unfold parts at hq
 simp only at hq
 revert hq
 apply eli
 ·intro _
  exact(jc _ _).1
 iterate 3 (apply eli;·intro _;rfl)
 apply eli
 ·intro h5
  dsimp only
  split<;>rfl
 apply eli
 ·intro _
  rfl
 apply eli
 ·intro h7
  dsimp only
  split<;>rfl
 apply eli
 ·intro _
  exact sZ _ _ _ _ _
 apply eli
 ·intro _
  exact sZ _ _ _ _ _
 iterate 22 (apply eli;·intro _;rfl)
 iterate 5 (apply eli;·intro _;exact congrArg Rn.mode (Bs _ _))
 apply eli
 ·intro _
  rfl
 apply eli
 ·intro _
  rfl
 iterate 5 (apply eli;·intro _;exact congrArg Rn.mode (Bs _ _))
 iterate 19 (apply eli;·intro _;rfl)
 intro hq
 cases hq
theorem CY(i:ao)(q:Rn->Mt->Rs)(hq:parts i=some q) :FuA q:=(yT i q hq).fua (zo i q hq) (λx s=>(qR i q hq x s).T)
theorem yX(i:ao)(q:Rn->Mt->Rs)(hq:rr i=some q) :FuA q:=by
 obtain⟨op,arg,lit,cells⟩:=i
 unfold rr at hq
 simp only at hq
 revert hq
 apply eli
 ·intro _
  exact FuP.laid Jg _
 iterate 4 (apply eli;·intro _;exact FuP.laid (cy.fup (λ_ _ _ _=>rfl) (λ_ _=>rfl) (λ_ _=>rfl)) _)
 apply eli
 ·intro _
  exact FuP.laid IQ _
 apply eli
 ·intro _
  exact FuP.laid JW _
 apply eli
 ·intro _
  exact FuP.laid Kz _
 iterate 5 (apply eli;·intro _;exact FuP.laid (cy.fup (λ_ _ _ _=>rfl) (λ_ _=>rfl) (λ_ _=>rfl)) _)
 apply eli
 ·intro _
  exact FuP.laid I3 _
 apply eli
 ·intro _
  exact FuP.laid J3 _
 apply eli
 ·intro _
  exact FuP.laid (F9 Fz (λ_ _=>rfl)) _
 apply eli
 ·intro _
  exact FuP.laid (F9 yh (λ_ _=>rfl)) _
 apply eli
 ·intro _
  exact FuP.laid Iw _
 apply eli
 ·intro _
  exact FuP.laid ME _
 apply eli
 ·intro _
  exact FuP.laid MI _
 apply eli
 ·intro _
  exact FuP.laid Jn _
 apply eli
 ·intro _
  exact FuP.laid Kt _
 apply eli
 ·intro _
  exact FuP.laid JO _
 apply eli
 ·intro _
  exact FuP.laid JS _
 apply eli
 ·intro _
  exact FuP.laid EL _
 apply eli
 ·intro _
  exact FuP.laid E5 _
 apply eli
 ·intro _
  exact FuP.laid HT _
 apply eli
 ·intro _
  exact J9
 iterate 3 (apply eli;·intro _;exact Flat.fua (λ_ _ _ _=>rfl) (λ_ _=>rfl) (λ_ _=>rfl))
 apply eli
 ·intro _
  exact zJ arg
 apply eli
 ·intro _
  exact Flat.fua (eG _ _ (λ_ _ _ _=>rfl)) (λ_ _=>rfl) (λx s=>Aq _ _ _)
 intro hq
 cases hq
theorem me(i:ao)(q:Rn->Mt->Rs)(hq:dC i=some q) :FuA q:=by
 unfold dC at hq
 rcases h:parts i with _|q1
 ·rw[h]at hq
  exact yX i q hq
 ·rw[h]at hq
  obtain rfl:=Option.some.inj hq
  exact CY i q1 h
end Vm
open Go.RowKit Go.Lib Go.Deep
namespace Vm
theorem Cc : ∀(n:Nat) (x:Rn) (s:Mt),gL n x s=gV dC n x s
 | 0,_,_=>rfl
 | n+1,x,s=>by
   unfold gL gV
   rw[show fh x s=stepT dC x s from rfl]
   cases stepT dC x s with
   | none=>rfl
   | some q=>simp only[Cc n]
theorem Ka:xO dC (λn c src s=>WkN c src s∧s.seen.length+n<=1000000000) (λn c src s=>WkN c src s∧s.seen.length+n+1<=1000000000) WkN where
 ok:=λn i q h=>⟨λc g x src s w F hp=>(kP i q h).1 c g x src s w F hp.1,λc src x s hp hs hx h1 h2 ha=>by
  have k:=(kP i q h).2 c src x s hp.1 hs hx h1 h2 ha
  exact⟨k.1,k.2.1,k.2.2.1,k.2.2.2.1,k.2.2.2.2.2,by rw[k.2.2.2.2.1];exact hp.2⟩⟩
 gu:=λn c src s s' h k e=>⟨h.1.gu k,by rw[e];exact h.2⟩
 told:=λn c src s x op h=>⟨h.1.told x op,by
  have h1:=tS s x op
  have h2:=h.2
  omega⟩
 len:=λn c src s h=>by
  have h2:=h.2
  omega
 pr:=λ_ _ _ _ h=>h.1
 qr:=λ_ _ _ _ h=>h.1
section
variable {w w':World}{F:Nat->Prop}{c:Vc}{s:Mt}
theorem K6(hb: (aa (mL c s)).holds w F)(hp0:WkN c (.pointer none) s)(hs:s.Ok)(htell:jm c s.av)(mode xt fuel:Int)(hxt:V64 xt)(hroom:1<=s.pr.rm-s.r)(hsn:s.seen.length<=900000000)(q:Rs)
 (hq:gL ((clip fuel).toNat+1) { Rn.start mode fuel with pc:=xt } (s.aE [0]) =some q) :
 Calls Tryz.prog 11 #[c.gM,mode,xt,fuel,.pointer none] w (Got (.returned (.tuple #[q.f,(clip fuel-q.x.left:Int)])) (aa (mL c q.s)) F w):=by
 exact EZ Ka _ none hb ⟨hp0,show s.seen.length+ ((clip fuel).toNat+1)<=1000000000 by have h: (clip fuel).toNat<=1000000:=by { unfold clip;omega };omega⟩ hs htell mode xt fuel hxt hroom q (by rw[<-Cc];exact hq)
end
def Stp.up(t:Stp)(k:Int) :Stp:={ t with fuel:=t.fuel+k }
def upL(k:Int)(l:List Stp) :List Stp:=l.map λt=>t.up k
theorem Cn(k:Int)(a b:List Stp) :upL k (a++b) =upL k a++upL k b:=List.map_append
theorem mR(k:Int)(a:List Stp) : (upL k a).length=a.length:=List.length_map _
def Gb(x:Rn)(s:Mt)(op:Int) :List Stp:=if s.av then [⟨x.pc,op,s.d,s.top 0,x.left⟩]else []
theorem xp(x:Rn)(s:Mt)(op:Int) :s.told x op=s.sn (s.seen++Gb x s op):=by
 unfold Mt.told Gb
 split
 ·rfl
 ·rw[List.append_nil];rfl
theorem Kl(x:Rn)(s:Mt)(op k:Int)(l:List Stp) : (s.sn l).told (x.up k) op= (s.told x op).sn (l++upL k (Gb x s op)):=by
 unfold Mt.told Gb
 show(if s.av=true then _ else _) =_
 split
 ·rfl
 ·show _= (s.sn (l ++ []));rw[List.append_nil]
def nxA(x:Rn)(c:Int) :Rn:={ x with left:=x.left-1,next:=wrap64 (x.pc+8*c) }
theorem G6(x:Rn)(c k:Int) :nxA (x.up k) c= (nxA x c).up k:=by
 unfold nxA Rn.up
 simp only[Rn.mk.injEq,true_and,and_true]
 omega
def dec(x:Rn) :Rn:={ x with left:=x.left-1 }
theorem LK(x:Rn)(k:Int) :dec (x.up k) = (dec x).up k:=by
 unfold dec Rn.up
 simp only[Rn.mk.injEq,true_and,and_true]
 omega
def jV(op:Int)(r:Rs) :Rs:=if r.f≠0 then r else⟨0,{ r.x with pc:=r.x.next },r.s.told r.x op⟩
def Bp(op:Int)(r:Rs) :List Stp:=if r.f≠0 then []else Gb r.x r.s op
theorem nP(op:Int)(r:Rs) : (jV op r).s.seen=r.s.seen++Bp op r:=by
 unfold jV Bp
 split
 ·rw[List.append_nil]
 ·show(r.s.told r.x op).seen=_
  rw[xp]
  rfl
theorem zz(op:Int)(r:Rs) : (jV op r).s.T=r.s.T:=by
 unfold jV
 split
 ·rfl
 ·show(r.s.told r.x op).T=_
  rw[xp]
  rfl
theorem vI(op:Int)(r:Rs) : (jV op r).f=r.f:=by
 unfold jV
 split
 ·rfl
 ·rename_i h
  show 0=r.f
  omega
theorem nB(op:Int)(r:Rs) : (jV op r).x.left=r.x.left∧(jV op r).x.mode=r.x.mode:=by
 unfold jV
 split<;>exact⟨rfl,rfl⟩
theorem Kw(op k:Int)(r:Rs)(l:List Stp) :jV op (r.up k l) = (jV op r).up k (l++upL k (Bp op r)):=by
 unfold jV Bp
 show(if r.f≠0 then _ else _) =_
 split
 ·show r.up k l=r.up k (l ++ []);rw[List.append_nil]
 ·show(⟨0,_,(r.s.sn l).told (r.x.up k) op⟩ :Rs) =_
  rw[Kl]
  rfl
theorem jb(x:Rn)(s:Mt) :fh x s =
 if x.left=0 then some ⟨13,x,s⟩
 else if(s.S.ax x.mode x.pc).2≠0 then some ⟨(s.S.ax x.mode x.pc).2,dec x,s⟩
 else if asks (s.S.ax x.mode x.pc).1 (nxA x (s.S.ax x.mode x.pc).1.cells) s≠0 then some ⟨asks (s.S.ax x.mode x.pc).1 (nxA x (s.S.ax x.mode x.pc).1.cells) s,nxA x (s.S.ax x.mode x.pc).1.cells,s⟩
 else(dC (s.S.ax x.mode x.pc).1).map λq=>jV (s.S.ax x.mode x.pc).1.op (q (nxA x (s.S.ax x.mode x.pc).1.cells) s):=rfl
section
variable {c:Vc}{src:Value}{x:Rn}{s:Mt}{r r2:Rs}{k:Int}
theorem kq(hp:WkN c src s)(hs:s.Ok)(hx:x.Ok)(hr:fh x s=some r) :
 r.s.Ok∧(0<=r.x.left∧r.x.left<=x.left)∧(x.left≠0->r.x.left<=x.left-1)∧WkN c src r.s∧(r.f=0->r.x.Ok):=by
 have h1:=hx.left
 have h2:=hx.dQ
 rw[jb]at hr
 by_cases hl:x.left=0
 ·rw[if_pos hl]at hr
  obtain rfl:=Option.some.inj hr
  exact⟨hs,⟨h1,Int.le_refl _⟩,λh=>absurd hl h,hp,λh=>by cases h⟩
 rw[if_neg hl]at hr
 have hfv:=ln s.S x.mode x.pc
 generalize (s.S.ax x.mode x.pc).2=f at *
 by_cases hf:f≠0
 ·rw[if_pos hf]at hr
  obtain rfl:=Option.some.inj hr
  refine⟨hs,⟨?_,?_⟩,λ_=> ?_,hp,λh=>absurd h hf⟩
  ·show 0<=x.left-1;omega
  ·show x.left-1<=x.left;omega
  ·exact Int.le_refl _
 rw[if_neg hf]at hr
 generalize (s.S.ax x.mode x.pc).1=i at *
 have hx2: (nxA x i.cells).Ok:=⟨hx.base,hx.dT,aZ _,hx.pc,by show 0<=x.left-1;omega,by show x.left-1<=1000000;omega⟩
 have hl2: (nxA x i.cells).left=x.left-1:=rfl
 generalize nxA x i.cells=x2 at *
 by_cases ha:asks i x2 s≠0
 ·rw[if_pos ha]at hr
  obtain rfl:=Option.some.inj hr
  refine⟨hs,⟨?_,?_⟩,λ_=> ?_,hp,λh=>absurd h ha⟩
  ·show 0<=x2.left;omega
  ·show x2.left<=x.left;omega
  ·show x2.left<=x.left-1;omega
 rw[if_neg ha]at hr
 rcases hpq:dC i with _|Q
 ·rw[hpq]at hr;cases hr
 rw[hpq]at hr
 obtain⟨_,hke⟩:=kP i Q hpq
 obtain⟨hs3,hx3,ht3,hl3,_,hw3⟩:=hke c src x2 s hp hs hx2 hfv.1 hfv.2.1 (db.of (by simpa using ha))
 simp only[Option.map_some]at hr
 obtain rfl:=Option.some.inj hr
 have hfl:=(nB i.op (Q x2 s)).1
 have h0:=hx3.left
 refine⟨?_,⟨by omega,by omega⟩,λ_=>by omega,?_,λh=> ?_⟩
 ·unfold jV
  split
  ·exact hs3
  ·exact pR hs3 _ _
 ·unfold jV
  split
  ·exact hw3
  ·exact hw3.told _ _
 ·rw[vI]at h
  unfold jV
  rw[if_neg (by simpa using h)]
  exact⟨hx3.base,hx3.dT,hx3.next,hx3.next,hx3.left,hx3.dQ⟩
theorem rB(hr:fh x s=some r) : (∃e,r.s.seen=s.seen++e)∧(∃t:List UInt8,r.s.T.out.data.toList=s.T.out.data.toList++t)∧r.x.mode=x.mode∧r.s.T.aU=s.T.aU:=by
 rw[jb]at hr
 by_cases hl:x.left=0
 ·rw[if_pos hl]at hr
  obtain rfl:=Option.some.inj hr
  exact⟨⟨[],by simp⟩,⟨[],by simp⟩,rfl,rfl⟩
 rw[if_neg hl]at hr
 generalize (s.S.ax x.mode x.pc).2=f at *
 by_cases hf:f≠0
 ·rw[if_pos hf]at hr
  obtain rfl:=Option.some.inj hr
  exact⟨⟨[],by simp⟩,⟨[],by simp⟩,rfl,rfl⟩
 rw[if_neg hf]at hr
 generalize (s.S.ax x.mode x.pc).1=i at *
 have hm: (nxA x i.cells).mode=x.mode:=rfl
 generalize nxA x i.cells=x2 at *
 by_cases ha:asks i x2 s≠0
 ·rw[if_pos ha]at hr
  obtain rfl:=Option.some.inj hr
  exact⟨⟨[],by simp⟩,⟨[],by simp⟩,hm,rfl⟩
 rw[if_neg ha]at hr
 rcases hpq:dC i with _|Q
 ·rw[hpq]at hr;cases hr
 rw[hpq]at hr
 simp only[Option.map_some]at hr
 obtain rfl:=Option.some.inj hr
 have hq:=me i Q hpq
 refine⟨⟨Bp i.op (Q x2 s),by rw[nP,hq.seen]⟩,?_,?_,?_⟩
 ·rw[zz];exact hq.fu.out x2 s
 ·rw[(nB _ _).2,hq.mode,hm]
 ·rw[zz,hq.pup]
theorem GQ(hk:0<=k)(hl0:0<=x.left)(hr:fh x s=some r)(h13:r.f≠13) : ∃e,r.s.seen=s.seen++e∧∀l,fh (x.up k) (s.sn l) =some (r.up k (l++upL k e)):=by
 rw[jb]at hr
 have hnil : ∀l:List Stp,l++upL k [] =l:=λl=>List.append_nil l
 have hup : ∀l,fh (x.up k) (s.sn l) =
  if x.left+k=0 then some ⟨13,x.up k,s.sn l⟩
  else if(s.S.ax x.mode x.pc).2≠0 then some ⟨(s.S.ax x.mode x.pc).2,dec (x.up k),s.sn l⟩
  else if asks (s.S.ax x.mode x.pc).1 (nxA x (s.S.ax x.mode x.pc).1.cells) s≠0 then some ⟨asks (s.S.ax x.mode x.pc).1 (nxA x (s.S.ax x.mode x.pc).1.cells) s,nxA (x.up k) (s.S.ax x.mode x.pc).1.cells,s.sn l⟩
  else(dC (s.S.ax x.mode x.pc).1).map λq=>jV (s.S.ax x.mode x.pc).1.op (q (nxA (x.up k) (s.S.ax x.mode x.pc).1.cells) (s.sn l)):=λl=>rfl
 by_cases hl:x.left=0
 ·rw[if_pos hl]at hr
  obtain rfl:=Option.some.inj hr
  exact absurd rfl h13
 rw[if_neg hl]at hr
 generalize (s.S.ax x.mode x.pc).2=f at *
 by_cases hf:f≠0
 ·rw[if_pos hf]at hr
  obtain rfl:=Option.some.inj hr
  refine⟨[],by simp,λl=> ?_⟩
  rw[hup,if_neg oM,if_pos hf,LK,hnil]
  rfl
 rw[if_neg hf]at hr
 generalize (s.S.ax x.mode x.pc).1=i at *
 have hnx:=G6 x i.cells k
 generalize nxA x i.cells=x2 at *
 by_cases ha:asks i x2 s≠0
 ·rw[if_pos ha]at hr
  obtain rfl:=Option.some.inj hr
  refine⟨[],by simp,λl=> ?_⟩
  rw[hup,if_neg oM,if_neg hf,if_pos ha,hnx,hnil]
  rfl
 rw[if_neg ha]at hr
 rcases hpq:dC i with _|Q
 ·rw[hpq]at hr;cases hr
 rw[hpq]at hr
 simp only[Option.map_some]at hr
 obtain rfl:=Option.some.inj hr
 have hq:=me i Q hpq
 rw[vI]at h13
 refine⟨Bp i.op (Q x2 s),by rw[nP,hq.seen],λl=> ?_⟩
 rw[hup,if_neg oM,if_neg hf,if_neg ha,hpq,hnx]
 simp only[Option.map_some]
 rw[hq.fu.up x2 s k l hk h13,Kw]
theorem qv(hk:0<=k)(hl0:0<=x.left)(hr:fh x s=some r)(h13:r.f=13) :r.s.seen=s.seen∧r.s.T.out=s.T.out∧
 ∀l,WkN c src (s.sn l)->(s.sn l).Ok->(x.up k).Ok->fh (x.up k) (s.sn l) =some r2->r2.f≠13->r2.x.left<k:=by
 rw[jb]at hr
 have hup : ∀l,fh (x.up k) (s.sn l) =
  if x.left+k=0 then some ⟨13,x.up k,s.sn l⟩
  else if(s.S.ax x.mode x.pc).2≠0 then some ⟨(s.S.ax x.mode x.pc).2,dec (x.up k),s.sn l⟩
  else if asks (s.S.ax x.mode x.pc).1 (nxA x (s.S.ax x.mode x.pc).1.cells) s≠0 then some ⟨asks (s.S.ax x.mode x.pc).1 (nxA x (s.S.ax x.mode x.pc).1.cells) s,nxA (x.up k) (s.S.ax x.mode x.pc).1.cells,s.sn l⟩
  else(dC (s.S.ax x.mode x.pc).1).map λq=>jV (s.S.ax x.mode x.pc).1.op (q (nxA (x.up k) (s.S.ax x.mode x.pc).1.cells) (s.sn l)):=λl=>rfl
 by_cases hl:x.left=0
 ·rw[if_pos hl]at hr
  obtain rfl:=Option.some.inj hr
  refine⟨rfl,rfl,λl hw hsl hxl h2 hn=> ?_⟩
  by_cases hk0:x.left+k=0
  ·rw[hup,if_pos hk0]at h2
   obtain rfl:=Option.some.inj h2
   exact absurd rfl hn
  ·obtain⟨_,_,h3,_⟩:=kq hw hsl hxl h2
   have h4: (x.up k).left=x.left+k:=rfl
   have:=h3 oM
   omega
 rw[if_neg hl]at hr
 generalize (s.S.ax x.mode x.pc).2=f at *
 by_cases hf:f≠0
 ·rw[if_pos hf]at hr
  obtain rfl:=Option.some.inj hr
  refine⟨rfl,rfl,λl hw hsl hxl h2 hn=> ?_⟩
  rw[hup,if_neg oM,if_pos hf]at h2
  obtain rfl:=Option.some.inj h2
  exact absurd h13 hn
 rw[if_neg hf]at hr
 generalize (s.S.ax x.mode x.pc).1=i at *
 have hnx:=G6 x i.cells k
 generalize nxA x i.cells=x2 at *
 by_cases ha:asks i x2 s≠0
 ·rw[if_pos ha]at hr
  obtain rfl:=Option.some.inj hr
  refine⟨rfl,rfl,λl hw hsl hxl h2 hn=> ?_⟩
  rw[hup,if_neg oM,if_neg hf,if_pos ha]at h2
  obtain rfl:=Option.some.inj h2
  exact absurd h13 hn
 rw[if_neg ha]at hr
 rcases hpq:dC i with _|Q
 ·rw[hpq]at hr;cases hr
 rw[hpq]at hr
 simp only[Option.map_some]at hr
 obtain rfl:=Option.some.inj hr
 have hq:=me i Q hpq
 rw[vI]at h13
 refine⟨?_,?_,λl hw hsl hxl h2 hn=> ?_⟩
 ·rw[nP,hq.seen]
  unfold Bp
  rw[if_pos (by rw[h13];decide),List.append_nil]
 ·rw[zz];exact hq.fu.EY x2 s h13
 ·rw[hup,if_neg oM,if_neg hf,if_neg ha,hpq,hnx]at h2
  simp only[Option.map_some]at h2
  obtain rfl:=Option.some.inj h2
  rw[vI]at hn
  rw[(nB _ _).1]
  exact hq.fu.stop x2 s k l hk h13 hn
end
theorem WkN.sn{c:Vc}{src:Value}{s:Mt}(h:WkN c src s)(l:List Stp) :WkN c src (s.sn l):=
 ⟨⟨⟨h.1.dcs.h,h.1.dcs.l,h.1.dcs.at8⟩,h.1.hk,h.1.lk,h.1.kat,h.1.ws,h.1.tab,.inl h.2,h.1.v1,h.1.v2,h.1.v3⟩,h.2⟩
theorem Co{s:Mt}(h:s.Ok)(l:List Stp) : (s.sn l).Ok:=⟨h.pd,h.pr,h.d,h.r,h.du,h.dv,h.ru,h.rv⟩
theorem qD : ∀(n:Nat) (x:Rn) (s:Mt) (q:Rs),gL n x s=some q->(∃e,q.s.seen=s.seen++e)∧(∃t:List UInt8,q.s.T.out.data.toList=s.T.out.data.toList++t)
 | 0,_,_,_,h=>by cases h
 | n+1,x,s,q,h=>by
   unfold gL at h
   rcases hr:fh x s with _|r
   ·rw[hr]at h;cases h
   rw[hr]at h
   obtain⟨⟨e,he⟩,⟨t,ht⟩,_,_⟩:=rB hr
   simp only at h
   by_cases hf:r.f≠0
   ·rw[if_pos hf]at h
    obtain rfl:=Option.some.inj h
    exact⟨⟨e,he⟩,⟨t,ht⟩⟩
   rw[if_neg hf]at h
   by_cases ho:r.x.over=true
   ·rw[if_pos ho]at h
    obtain rfl:=Option.some.inj h
    exact⟨⟨e,he⟩,⟨t,ht⟩⟩
   rw[if_neg ho]at h
   obtain⟨⟨e2,he2⟩,⟨t2,ht2⟩⟩:=qD n r.x r.s q h
   exact⟨⟨e++e2,by rw[he2,he,List.append_assoc]⟩,⟨t++t2,by rw[ht2,ht,List.append_assoc]⟩⟩
theorem GH{p:Int}(h0:0<=p)(h8:p<8) :Caps.has p 1 8=false∧Caps.has p 1 16=false:=by
 have e1:p/8=0:=Int.ediv_eq_zero_of_lt h0 h8
 have e2:p/16=0:=Int.ediv_eq_zero_of_lt h0 oM
 unfold Caps.has
 rw[e1,e2]
 exact⟨rfl,rfl⟩
theorem Ie{i:ao}{x:Rn}{s:Mt}(h : ¬asks i x s≠0) : ¬(ev i.op≠0∧Caps.has s.T.aU x.mode (ev i.op) =false):=by
 intro h2
 apply h
 unfold asks
 repeat' split
 all_goals first|decide| (rename_i h3;exact absurd h2 h3)
theorem EN{S:Img}{m a:Int}(h : ¬(S.ax m a).2≠0) :1<=(S.ax m a).1.op∧(S.ax m a).1.op<=106:=by
 unfold Img.ax at h⊢
 by_cases h1:S.az m a false≠0
 ·rw[if_pos h1]at h
  exact absurd h1 h
 rw[if_neg h1]at h⊢
 by_cases h2: (Code.unpack (S.aR m a)).2.2=false
 ·rw[if_pos h2]at h
  exact absurd (by decide: (14:Int)≠0) h
 rw[if_neg h2]at h⊢
 by_cases h3: (Code.unpack (S.aR m a)).1=2
 ·rw[if_pos h3]at h⊢
  split
  ·rename_i h4
   rw[if_pos h4]at h
   exact absurd h4 h
  ·exact⟨by show(1:Int)<=2;decide,by show(2:Int)<=106;decide⟩
 rw[if_neg h3]at h⊢
 by_cases h4: (Code.unpack (S.aR m a)).1=19
 ·rw[if_pos h4]at h⊢
  split
  ·rename_i h5
   rw[if_pos h5]at h
   exact absurd h5 h
  ·exact⟨by show(1:Int)<=19;decide,by show(19:Int)<=106;decide⟩
 rw[if_neg h4]at h⊢
 unfold Code.unpack at h2⊢
 split at h2
 ·rename_i h5
  rw[if_pos h5]
  unfold Code.right Code.ph at h5
  simp only[Bool.and_eq_true,decide_eq_true_eq]at h5
  refine⟨?_,?_⟩
  ·show 1<=Code.unOp _
   omega
  ·show Code.unOp _<=106
   omega
 ·exact absurd rfl h2
theorem AZ{x:Rn}{s:Mt}(hm:x.mode=1)(h0:0<=s.T.aU)(h8:s.T.aU<8) : ∃r,fh x s=some r:=by
 rw[jb]
 split
 ·exact⟨_,rfl⟩
 split
 ·exact⟨_,rfl⟩
 rename_i hf
 obtain⟨h1,h2⟩:=EN hf
 split
 ·exact⟨_,rfl⟩
 rename_i ha
 generalize (s.S.ax x.mode x.pc).1=i at *
 have hc:=Ie ha
 have e: (nxA x i.cells).mode=1:=hm
 rw[e]at hc
 obtain⟨c1,c2⟩:=GH h0 h8
 have hs: (dC i).isSome=true:=by
  refine wg i h1 h2 ?_ ?_
  ·by_cases h:i.op<88∨94<=i.op
   ·exact h
   ·exfalso
    have e2:ev i.op=8:=by
     unfold ev
     rw[if_neg oM,if_neg oM,if_neg oM,if_pos oM]
    rw[e2]at hc
    exact hc ⟨by decide,c1⟩
  ·by_cases h:i.op<100∨105<=i.op
   ·exact h
   ·exfalso
    have e2:ev i.op=16:=by
     unfold ev
     rw[if_neg oM,if_neg oM,if_neg oM,if_neg oM,if_pos oM]
    rw[e2]at hc
    exact hc ⟨by decide,c2⟩
 obtain⟨Q,hQ⟩:=Option.isSome_iff_exists.1 hs
 rw[hQ]
 exact⟨_,rfl⟩
theorem rI{c:Vc}{src:Value} : ∀(n:Nat) (x:Rn) (s:Mt),x.left.toNat<n->WkN c src s->s.Ok->x.Ok->x.mode=1->0<=s.T.aU->s.T.aU<8->∃q,gL n x s=some q
 | 0,_,_,h,_,_,_,_,_,_=>absurd h oM
 | n+1,x,s,h,hp,hs,hx,hm,h0,h8=>by
   obtain⟨r,hr⟩:=AZ hm h0 h8
   obtain⟨a1,a2,a3,a4,a5⟩:=kq hp hs hx hr
   obtain⟨_,_,b1,b2⟩:=rB hr
   unfold gL
   rw[hr]
   simp only
   by_cases hf:r.f≠0
   ·rw[if_pos hf];exact⟨_,rfl⟩
   rw[if_neg hf]
   by_cases ho:r.x.over=true
   ·rw[if_pos ho];exact⟨_,rfl⟩
   rw[if_neg ho]
   have hl:x.left≠0:=λh=>by
    rw[jb,if_pos h]at hr
    obtain rfl:=Option.some.inj hr
    exact hf (show(13:Int)≠0 by decide)
   have h1:=hx.left
   have h2:=a3 hl
   exact rI n r.x r.s oM a4 a1 (a5 (by simpa using hf)) (b1.trans hm) (by rw[b2];exact h0) (by rw[b2];exact h8)
theorem nn{c:Vc}{src:Value}{k:Int}(hk:0<=k) : ∀(n:Nat) (m:Nat) (x:Rn) (s:Mt) (l:List Stp) (q q2:Rs),WkN c src s->s.Ok->x.Ok->(x.up k).Ok->gL n x s=some q->gL m (x.up k) (s.sn l) =some q2->
 (q.f≠13->∃e,q.s.seen=s.seen++e∧q2=q.up k (l++upL k e))∧
 (q.f=13->(q2.f≠13->q2.x.left<k)∧(∃e e2,q.s.seen=s.seen++e∧q2.s.seen=l++upL k e++e2)∧∃t:List UInt8,q2.s.T.out.data.toList=q.s.T.out.data.toList++t)
 | 0,_,_,_,_,_,_,_,_,_,_,h,_=>by cases h
 | _+1,0,_,_,_,_,_,_,_,_,_,_,h=>by cases h
 | n+1,m+1,x,s,l,q,q2,hp,hs,hx,hx2,h,h2=>by
   have hg:=qD _ _ _ _ h2
   have hok2:=mr c src _ _ _ _ (hp.sn l) (Co hs l) hx2 h2
   unfold gL at h h2
   rcases hr:fh x s with _|r
   ·rw[hr]at h;cases h
   rw[hr]at h
   obtain⟨a1,a2,a3,a4,a5⟩:=kq hp hs hx hr
   simp only at h
   by_cases h13:r.f=13
   ·rw[if_pos (by rw[h13];decide)]at h
    obtain rfl:=Option.some.inj h
    refine⟨λhn=>absurd h13 hn,λ_=> ?_⟩
    obtain⟨b1,b2,_⟩:=qv (c:=c) (src:=src) (r2:=r) hk hx.left hr h13
    obtain⟨⟨e2,he2⟩,⟨t,ht⟩⟩:=hg
    refine⟨λhn=> ?_,⟨[],e2,by rw[b1,List.append_nil],by rw[he2];show l++e2=l ++ [] ++e2;rw[List.append_nil]⟩,⟨t,by rw[b2];exact ht⟩⟩
    rcases hr2:fh (x.up k) (s.sn l)with _|r2
    ·rw[hr2]at h2;cases h2
    rw[hr2]at h2
    simp only at h2
    have hs2:=(qv (c:=c) (src:=src) (r2:=r2) hk hx.left hr h13).2.2 l (hp.sn l) (Co hs l) hx2 hr2
    obtain⟨d1,d2,d3,d4,d5⟩:=kq (hp.sn l) (Co hs l) hx2 hr2
    by_cases hf:r2.f≠0
    ·rw[if_pos hf]at h2
     obtain rfl:=Option.some.inj h2
     exact hs2 hn
    rw[if_neg hf]at h2
    have hlt:=hs2 (λh=>hf (by rw[h];decide))
    by_cases ho:r2.x.over=true
    ·rw[if_pos ho]at h2
     obtain rfl:=Option.some.inj h2
     exact hlt
    rw[if_neg ho]at h2
    have h3:=(mr c src _ _ _ _ d4 d1 (d5 (by simpa using hf)) h2).2.1.2
    omega
   ·obtain⟨e,he,hup⟩:=GQ hk hx.left hr h13
    rw[hup l]at h2
    simp only at h2
    by_cases hf:r.f≠0
    ·rw[if_pos hf]at h
     have hf2: (r.up k (l++upL k e)).f≠0:=hf
     rw[if_pos hf2]at h2
     obtain rfl:=Option.some.inj h
     obtain rfl:=Option.some.inj h2
     exact⟨λ_=>⟨e,he,rfl⟩,λh=>absurd h h13⟩
    have hf2 : ¬(r.up k (l++upL k e)).f≠0:=hf
    rw[if_neg hf]at h
    rw[if_neg hf2]at h2
    by_cases ho:r.x.over=true
    ·have ho2: (r.up k (l++upL k e)).x.over=true:=ho
     rw[if_pos ho]at h
     rw[if_pos ho2]at h2
     obtain rfl:=Option.some.inj h
     obtain rfl:=Option.some.inj h2
     exact⟨λ_=>⟨e,he,rfl⟩,λh=>absurd h h13⟩
    have ho2 : ¬(r.up k (l++upL k e)).x.over=true:=ho
    rw[if_neg ho]at h
    rw[if_neg ho2]at h2
    have hxr:=a5 (by simpa using hf)
    obtain⟨d1,d2,d3,d4,d5⟩:=kq (hp.sn l) (Co hs l) hx2 (hup l)
    obtain⟨i1,i2⟩:=nn hk n m r.x r.s (l++upL k e) q q2 a4 a1 hxr (d5 (by simpa using hf2)) h h2
    refine⟨λhn=> ?_,λhn=> ?_⟩
    ·obtain⟨e2,he2,hq⟩:=i1 hn
     exact⟨e++e2,by rw[he2,he,List.append_assoc],by rw[hq,Cn,List.append_assoc]⟩
    ·obtain⟨j1,⟨e2,e3,j2,j3⟩,j4⟩:=i2 hn
     exact⟨j1,⟨e++e2,e3,by rw[j2,he,List.append_assoc],by rw[j3,Cn,List.append_assoc,List.append_assoc,List.append_assoc,List.append_assoc]⟩,j4⟩
def aM(xt fuel:Int)(s:Mt) :Rs:=if s.pr.rm-s.r<1 then⟨4,Rn.start 1 fuel,s⟩else(gL ((clip fuel).toNat+1) { Rn.start 1 fuel with pc:=xt } (s.aE [0])).getD ⟨0,Rn.start 1 fuel,s⟩
structure Fit(c:Vc)(s:Mt) :Prop where
 w:WkN c (.pointer none) s
 ok:s.Ok
 p0:0<=s.T.aU
 p8:s.T.aU<8
 seen:s.seen = []
theorem eS{F:Int}(h0:0<=F)(h1:F<=1000000) :clip F=F:=by unfold clip;omega
theorem eM{xt F:Int}(hxt:V64 xt) : ({ Rn.start 1 F with pc:=xt }:Rn).Ok:=by
 have h:=wh 1 F
 exact⟨h.base,h.dT,h.next,hxt,h.left,h.dQ⟩
theorem nX{xt F k:Int}(h0:0<=F)(hk:0<=k)(h1:F+k<=1000000) : ({ Rn.start 1 F with pc:=xt }:Rn).up k = { Rn.start 1 (F+k)with pc:=xt }:=by
 unfold Rn.up Rn.start
 rw[eS h0 oM,eS oM h1]
theorem fj{c:Vc}{s:Mt}(h:Fit c s){xt:Int}(hxt:V64 xt)(F:Int)(hroom : ¬s.pr.rm-s.r<1) :gL ((clip F).toNat+1) { Rn.start 1 F with pc:=xt } (s.aE [0]) =some (aM xt F s)∧(s.aE [0]).Ok∧WkN c (.pointer none) (s.aE [0]):=by
 have h1: (s.aE [0]).Ok:=eZ h.ok [0] (by show 1<=_;omega)
 have h2:WkN c (.pointer none) (s.aE [0]):=h.w.gu (dY s [0])
 obtain⟨q,hq⟩:=rI ((clip F).toNat+1) { Rn.start 1 F with pc:=xt } (s.aE [0]) (by show(clip F).toNat<_;omega) h2 h1 (eM hxt) rfl h.p0 h.p8
 refine⟨?_,h1,h2⟩
 unfold aM
 rw[if_neg hroom,hq]
 rfl
theorem mA{c:Vc}{s:Mt}(h:Fit c s){xt:Int}(hxt:V64 xt){F:Int}(h0:0<=F)(h1:F<=1000000) : (aM xt F s).s.Ok∧0<=(aM xt F s).x.left∧(aM xt F s).x.left<=F∧(aM xt F s).s.av=s.av∧WkN c (.pointer none) (aM xt F s).s:=by
 by_cases hroom:s.pr.rm-s.r<1
 ·unfold aM
  rw[if_pos hroom]
  refine⟨h.ok,?_,?_,rfl,h.w⟩
  ·show 0<=clip F;unfold clip;omega
  ·show clip F<=F;unfold clip;omega
 ·obtain⟨g1,g2,g3⟩:=fj h hxt F hroom
  obtain⟨k1,k2,k3,k4⟩:=mr c (.pointer none) _ _ _ _ g3 g2 (eM hxt) g1
  refine⟨k1,k2.1,?_,k3,k4⟩
  have e: ({ Rn.start 1 F with pc:=xt }:Rn).left=clip F:=rfl
  rw[e,eS h0 h1]at k2
  exact k2.2
theorem CH{c:Vc}{s:Mt}(h:Fit c s){xt:Int}(hxt:V64 xt){F m:Int}(h0:0<=F)(h1:F<=1000000)(hm:0<=m)(hq: (aM xt F s).f≠13)(h2:F- (aM xt F s).x.left+m<=1000000) :
 (aM xt (F- (aM xt F s).x.left+m) s).f= (aM xt F s).f∧(F- (aM xt F s).x.left+m) - (aM xt (F- (aM xt F s).x.left+m) s).x.left=F- (aM xt F s).x.left∧
 (aM xt (F- (aM xt F s).x.left+m) s).s.S= (aM xt F s).s.S∧(aM xt (F- (aM xt F s).x.left+m) s).s.T= (aM xt F s).s.T∧(aM xt (F- (aM xt F s).x.left+m) s).s.seen.length= (aM xt F s).s.seen.length:=by
 obtain⟨_,l0,l1,_⟩:=mA h hxt h0 h1
 generalize hG:F- (aM xt F s).x.left+m=G at *
 by_cases hroom:s.pr.rm-s.r<1
 ·have e : ∀F,aM xt F s= ⟨4,Rn.start 1 F,s⟩:=λF=>by unfold aM;rw[if_pos hroom]
  have a1: (aM xt F s).x.left=F:=by rw[e];exact eS h0 h1
  have a2: (aM xt G s).x.left=G:=by rw[e];exact eS oM h2
  rw[a1,a2,e F,e G]
  exact⟨rfl,by omega,rfl,rfl,rfl⟩
 ·obtain⟨g1,g2,g3⟩:=fj h hxt F hroom
  obtain⟨p1,_,_⟩:=fj h hxt G hroom
  have hsn: (s.aE [0]).sn [] =s.aE [0]:=by
   have: (s.aE [0]).seen = []:=h.seen
   show({ s.aE [0]with seen:=[] }:Mt) =_
   rw[<-this]
  have hse: (s.aE [0]).seen = []:=h.seen
  generalize aM xt F s=q at *
  generalize aM xt G s=p at *
  by_cases hGF:G<=F
  ·have hx: ({ Rn.start 1 G with pc:=xt }:Rn).up (F-G) = { Rn.start 1 F with pc:=xt }:=by
    rw[nX oM oM oM,show G+ (F-G) =F by omega]
   have hgx:=g1
   rw[<-hx,<-hsn]at hgx
   obtain⟨i1,i2⟩:=nn (k:=F-G) oM _ _ _ _ [] p q g3 g2 (eM hxt) (by rw[hx];exact eM hxt) p1 hgx
   by_cases hp:p.f=13
   ·have:=(i2 hp).1 hq
    omega
   ·obtain⟨e,he,hqe⟩:=i1 hp
    rw[hqe]at hG⊢
    refine⟨rfl,?_,rfl,rfl,?_⟩
    ·show G-p.x.left=F- (p.x.left+ (F-G))
     omega
    ·show p.s.seen.length= ([] ++upL (F-G) e).length
     rw[he,hse,List.nil_append,List.nil_append,mR]
  ·have hx: ({ Rn.start 1 F with pc:=xt }:Rn).up (G-F) = { Rn.start 1 G with pc:=xt }:=by
    rw[nX oM oM oM,show F+ (G-F) =G by omega]
   have hpx:=p1
   rw[<-hx,<-hsn]at hpx
   obtain⟨i1,_⟩:=nn (k:=G-F) oM _ _ _ _ [] q p g3 g2 (eM hxt) (by rw[hx];exact eM hxt) g1 hpx
   obtain⟨e,he,hpe⟩:=i1 hq
   rw[hpe]
   refine⟨rfl,?_,rfl,rfl,?_⟩
   ·show G- (q.x.left+ (G-F)) =F-q.x.left
    omega
   ·show([] ++upL (G-F) e).length=q.s.seen.length
    rw[he,hse,List.nil_append,List.nil_append,mR]
theorem Eo{c:Vc}{s:Mt}(h:Fit c s){xt:Int}(hxt:V64 xt){F m:Int}(h0:0<=F)(h1:F<=1000000)(hm:0<=m)(hq: (aM xt F s).f≠13)(h2:m<F- (aM xt F s).x.left) :
 (aM xt m s).f=13∧m- (aM xt m s).x.left<F- (aM xt F s).x.left∧m<F∧(∃t:List UInt8,(aM xt F s).s.T.out.data.toList= (aM xt m s).s.T.out.data.toList++t)∧∃e2,(aM xt F s).s.seen=upL (F-m) (aM xt m s).s.seen++e2:=by
 obtain⟨_,l0,l1,_⟩:=mA h hxt h0 h1
 have hmF:m<F:=by omega
 obtain⟨_,m0,m1,_⟩:=mA h hxt hm oM
 by_cases hroom:s.pr.rm-s.r<1
 ·have e: (aM xt F s).x.left=clip F:=by unfold aM;rw[if_pos hroom];rfl
  rw[e,eS h0 h1]at h2
  omega
 ·obtain⟨g1,g2,g3⟩:=fj h hxt F hroom
  obtain⟨p1,_,_⟩:=fj h hxt m hroom
  have hsn: (s.aE [0]).sn [] =s.aE [0]:=by
   have: (s.aE [0]).seen = []:=h.seen
   show({ s.aE [0]with seen:=[] }:Mt) =_
   rw[<-this]
  have hse: (s.aE [0]).seen = []:=h.seen
  generalize aM xt F s=q at *
  generalize aM xt m s=p at *
  have hx: ({ Rn.start 1 m with pc:=xt }:Rn).up (F-m) = { Rn.start 1 F with pc:=xt }:=by
   rw[nX oM oM oM,show m+ (F-m) =F by omega]
  have hgx:=g1
  rw[<-hx,<-hsn]at hgx
  obtain⟨i1,i2⟩:=nn (k:=F-m) oM _ _ _ _ [] p q g3 g2 (eM hxt) (by rw[hx];exact eM hxt) p1 hgx
  by_cases hp:p.f=13
  ·obtain⟨_,⟨e,e2,he,hqe⟩,ht⟩:=i2 hp
   refine⟨hp,by omega,hmF,ht,e2,?_⟩
   rw[hqe,he,hse,List.nil_append,List.nil_append]
  ·exfalso
   obtain⟨e,he,hqe⟩:=i1 hp
   have:q.x.left=p.x.left+ (F-m):=by rw[hqe];rfl
   omega
section
variable {w w':World}{F:Nat->Prop}{c:Vc}{g:Nat}{x:Rn}{src:Value}{s:Mt}
theorem xU(hb: (VA c g x src s).holds w F)(hs:s.Ok)(xt:Int)(hroom:s.pr.rm-s.r<1) :
 Calls Tryz.prog 39 #[g,xt] w (Got (.returned (.int .i64 4)) (VA c g x src s) F w):=by
 have hon:=(((On.refl hb).box #[(0:Int)] 30).box #[(0:Int),(0:Int),(0:Int),(0:Int)] 155).box #[(0:Int)] 3
 have hz: (w.alloc (.cells #[(0:Int)] 30)).heap.size=w.heap.size+1:=by simp
 have hz2: ((w.alloc (.cells #[(0:Int)] 30)).alloc (.cells #[(0:Int),(0:Int),(0:Int),(0:Int)] 155)).heap.size=w.heap.size+2:=by simp
 rw[hz,hz2]at hon
 have r0:=(On.refl hb).r0
 have m6:=(On.refl hb).m6
 have hlt:=(On.refl hb).rlt
 have hmlt:=(On.refl hb).mlt
 have hpush : ∀W,On F w (aa (ae (w.heap.size+2) 3 #[(0:Int)] ::plL c g w.heap.size ao.none 0 x src s)) W->Calls Tryz.prog 53 #[c.gR,.slice (some ⟨w.heap.size+2,0,none⟩) 1 1] W (λe W2=>e = .returned (.int .i64 4)∧On F w (aa (ae (w.heap.size+2) 3 #[(0:Int)] ::plL c g w.heap.size ao.none 0 x src s)) W2):=λW h=>by
  have h1:=CT (h.stk 7 rfl) (some ⟨w.heap.size+2,0,none⟩) 1 1 hs.r hs.pr oM hroom
  rw[hs.rv]at h1
  exact h1.mono λe W2 ⟨h2,h3⟩=>⟨h2,h.below h3⟩
 have hmf : ∀(fn:Fn) (first cap:Array Value) (w:World),(Instr.makeFunc fn first cap).run Tryz.prog w = .ok (.func fn first cap) w:=λ_ _ _ _=>rfl
 have htr:=λw=>cG 4 (by decide) w
 replace hpush:=hid (hpush _ hon)
 replace hon:=hid hon
 replace htr:=hid htr
 clear hb hz hz2 hroom
 go_enter_defers Tryz.func39,Tryz.ntmps39
 go_wp2_with fail
 refine kI 0 (λ_ _ _=>False) rfl ?pass ?first
 case first=>
  intro hpass
  clear hpass
  go_wp2_with fail
  refine hpush.out.mono ?_
  rintro e w1 ⟨rfl,hon1⟩
  simp only[]
  have hon1:=hon1.tail
  replace hon1:=hid hon1
  go_wp2_with fail
  refine(htr.out _).mono ?_
  rintro e w5 ⟨rfl,rfl⟩
  exact jv w.heap.size 4 0 w _ F c g _ src s ao.none hon1.out _ rfl
 case pass=>
  intro n a wr hI
  exact hI.elim
theorem Bo(hb: (aa (mL c s)).holds w F)(hs:s.Ok)(mode xt fuel:Int)(hroom:s.pr.rm-s.r<1) :
 Calls Tryz.prog 11 #[c.gM,mode,xt,fuel,.pointer none] w (Got (.returned (.tuple #[(4:Int),(0:Int)])) (aa (mL c s)) F w):=by
 have hon:=(On.refl hb).box (F7 c (Rn.start mode fuel) (.pointer none)) 105
 have hcl:0<=clip fuel∧clip fuel<=1000000:=by unfold clip;omega
 have hpl:=On.qE (A:=aa (yI c w.heap.size (Rn.start mode fuel) (.pointer none) ::mL c s)) hon (λF' hb'=>xU (c:=c) (g:=w.heap.size) (x:=Rn.start mode fuel) (src:=(.pointer none)) (s:=s) hb' hs xt hroom)
 have hr:F7 c (Rn.start mode fuel) (.pointer none) = #[.pointer c.gM,.int .i64 mode,.int .i64 (clip fuel),.int .i64 0,.int .i64 0,.bool false,.bool false,.int .i64 0,.pointer none]:=rfl
 rw[hr]at hpl
 have hmm:max 0 (min fuel 1000000) =clip fuel:=rfl
 have hst: (Rn.start mode fuel).left=clip fuel:=rfl
 have hsub:IntKind.i64.wrap (clip fuel-clip fuel) =0:=by rw[Int.sub_self];rfl
 replace hst:=hid hst
 replace hpl:=hid hpl
 clear hb hon hr hs
 go_enter Tryz.func11,Tryz.ntmps11
 go_wp2_with fail
 refine hpl.out.mono ?_
 rintro e w1 ⟨rfl,h⟩
 have c2:w1.cell? (w.heap.size,2) =some ((clip fuel) :Vl):=(h.ab 0 rfl).cell 2
 replace h:=hid h
 go_wp2_with fail
 go_quiet (fail)
 go_wp2
 go_ret2
 exact⟨by first|rfl| (simp),h.out.tail.drewN _⟩
theorem LB(hb: (aa (mL c s)).holds w F)(hf:Fit c s)(htell:jm c s.av)(xt fuel:Int)(hxt:V64 xt) :
 Calls Tryz.prog 11 #[c.gM,(1:Int),xt,fuel,.pointer none] w (Got (.returned (.tuple #[.int .i64 (aM xt fuel s).f,(clip fuel- (aM xt fuel s).x.left:Int)])) (aa (mL c (aM xt fuel s).s)) F w):=by
 by_cases hroom:s.pr.rm-s.r<1
 ·have h1:=Bo hb hf.ok 1 xt fuel hroom
  have e:aM xt fuel s= ⟨4,Rn.start 1 fuel,s⟩:=by unfold aM;rw[if_pos hroom]
  rw[e]
  have e2:clip fuel- (Rn.start 1 fuel).left=0:=Int.sub_self _
  rw[e2]
  exact h1
 ·exact K6 hb hf.w hf.ok htell 1 xt fuel hxt oM (by rw[hf.seen];simp) _ (fj hf hxt fuel hroom).1
end
end Vm
end Go.Proofs.YtjohhkikoejadaaGreatDoor
