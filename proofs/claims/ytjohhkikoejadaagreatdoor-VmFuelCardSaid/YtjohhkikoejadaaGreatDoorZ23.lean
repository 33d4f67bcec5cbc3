/- Chapter 11: what is made ahead of each law, as plain functions; the code of a word in an image. No condition. -/
import Derived.Test.YtjohhkikoejadaaGreatDoorOm
import Derived.Test.YtjohhkikoejadaaGreatDoorZ17
import Derived.Test.YtjohhkikoejadaaGreatDoorZ22
import Derived.Test.YtjohhkikoejadaaGreatDoorZ02
import Derived.Test.YtjohhkikoejadaaGreatDoorZ03
import Derived.BigRegion
import Derived.Test.YtjohhkikoejadaaGreatDoorZ16
import Derived.Test.YtjohhkikoejadaaGreatDoorZ19
import Derived.Test.YtjohhkikoejadaaGreatDoorZ06
import Derived.Test.YtjohhkikoejadaaGreatDoorZ12
namespace Go.Proofs.YtjohhkikoejadaaGreatDoor
set_option linter.unusedVariables false
set_option linter.unusedSimpArgs false
set_option maxHeartbeats 8000000
open Go.RowKit Go.Lib
namespace Vm
structure Wrd where
 name:ByteArray
 hid:Bool
 imm:Bool
 cells:List Int
def commasS:List Int->Img×Dc->Img×Dc
 | [],q=>q
 | v::l,q=>if q.2.bo q.1=0 then commasS l (q.2.bp q.1 v,q.2.bq q.1)else q
def p9(x:Wrd)(S:Img)(D:Dc) :Img:=
 if x.imm then D.cq (if x.hid then S else D.cq S eL) kk else if x.hid then S else D.cq S eL
def dD(x:Wrd)(q:Img×Dc) :Img×Dc:=
 if q.2.bZ q.1 x.name.data.toList≠0 then q
 else commasS x.cells (p9 x (q.2.cB q.1 x.name.data.toList) (q.2.cz q.1 x.name.data.toList),q.2.cz q.1 x.name.data.toList)
def cw(xs:List Wrd)(q:Img×Dc) :Img×Dc:=(xs.take 20).foldl (λq x=>dD x q) q
structure dO(q q':Img×Dc) :Prop where
 img:q'.1.Ok
 dc:q'.2.Ok q'.1
 al:Alike q.1 q'.1
 rg:q'.2.rg=q.2.rg
theorem dO.refl{q:Img×Dc}(h1:q.1.Ok)(h2:q.2.Ok q.1) :dO q q:=⟨h1,h2,Alike.refl _,rfl⟩
theorem dO.trans{a b c:Img×Dc}(h:dO a b)(g:dO b c) :dO a c:=⟨g.img,g.dc,h.al.trans g.al,g.rg.trans h.rg⟩
theorem DM(b:UInt8) :eL b= (b &&& ~~~(32:UInt8) ||| 0):=by
 unfold eL
 rw[UInt8.or_zero]
 rfl
theorem Gw(b:UInt8) :kk b= (b &&& ~~~(0:UInt8) ||| 64):=by
 unfold kk
 have h:b &&& ~~~(0:UInt8) =b:=by
  rw[show ~~~(0:UInt8) =255 from rfl]
  apply UInt8.toNat_inj.1
  rw[UInt8.toNat_and]
  have h1 : ∀n:Fin 256,n.val &&& 255=n.val:=by decide +kernel
  exact h1 ⟨b.toNat,b.toNat_lt⟩
 rw[h]
theorem CK(S:Img)(D:Dc) :D.cq S eL=D.ct S 32 0:=by
 unfold Dc.cq Dc.ct
 split
 ·rfl
 ·rw[DM]
theorem GY(S:Img)(D:Dc) :D.cq S kk=D.ct S 0 64:=by
 unfold Dc.cq Dc.ct
 split
 ·rfl
 ·rw[Gw]
section
variable {S:Img}{D:Dc}
theorem sX(hS:S.Ok)(hD:D.Ok S) :dO (S,D) (D.cq S eL,D):=by
 rw[CK]
 have h:=Dc.BN hS hD 32 0
 exact⟨h.1,h.2,Dc.l8 _ _ _ _,rfl⟩
theorem xg(hS:S.Ok)(hD:D.Ok S) :dO (S,D) (D.cq S kk,D):=by
 rw[GY]
 have h:=Dc.BN hS hD 0 64
 exact⟨h.1,h.2,Dc.l8 _ _ _ _,rfl⟩
theorem ml(hS:S.Ok)(hD:D.Ok S)(v:Int) :dO (S,D) (D.bp S v,D.bq S):=by
 have h:=Dc.rn hS hD v
 refine⟨h.1,h.2,Dc.kg _ _ _,?_⟩
 show(D.bq S).rg=D.rg
 unfold Dc.bq
 split<;>rfl
theorem oV(hS:S.Ok)(hD:D.Ok S)(n:List UInt8) :dO (S,D) (D.cB S n,D.cz S n):=by
 have h:=Dc.C4 hS hD n
 refine⟨h.1,h.2,Dc.mV _ _ _,?_⟩
 show(D.cz S n).rg=D.rg
 unfold Dc.cz
 split<;>rfl
theorem DW(x:Wrd)(hS:S.Ok)(hD:D.Ok S) :dO (S,D) (p9 x S D,D):=by
 have h1:dO (S,D) (if x.hid then S else D.cq S eL,D):=by
  split
  ·exact dO.refl hS hD
  ·exact sX hS hD
 unfold p9
 split
 ·exact h1.trans (xg h1.img h1.dc)
 ·exact h1
end
theorem pq : ∀(l:List Int) (q:Img×Dc),q.1.Ok->q.2.Ok q.1->dO q (commasS l q)
 | [],q,h1,h2=>dO.refl h1 h2
 | v::l,q,h1,h2=>by
   unfold commasS
   split
   ·have h:=ml (S:=q.1) (D:=q.2) h1 h2 v
    exact h.trans (pq l _ h.img h.dc)
   ·exact dO.refl h1 h2
theorem Dz(x:Wrd)(q:Img×Dc)(h1:q.1.Ok)(h2:q.2.Ok q.1) :dO q (dD x q):=by
 unfold dD
 split
 ·exact dO.refl h1 h2
 ·have h:=oV (S:=q.1) (D:=q.2) h1 h2 x.name.data.toList
  have g:=DW x h.img h.dc
  exact(h.trans g).trans (pq _ _ g.img g.dc)
theorem oz : ∀(xs:List Wrd) (q:Img×Dc),q.1.Ok->q.2.Ok q.1->dO q (xs.foldl (λq x=>dD x q) q)
 | [],q,h1,h2=>dO.refl h1 h2
 | x::xs,q,h1,h2=>by
   have h:=Dz x q h1 h2
   exact h.trans (oz xs _ h.img h.dc)
theorem fC(xs:List Wrd)(q:Img×Dc)(h1:q.1.Ok)(h2:q.2.Ok q.1) :dO q (cw xs q):=oz _ q h1 h2
theorem dO.shut{q q':Img×Dc}(h:dO q q') :q'.2.shut q'.1=q.2.shut q.1:=by
 unfold Dc.shut
 rw[h.al.cl,h.rg]
structure Setup where
 aQ:Int
 room:Int
 input:ByteArray
 hidden:ByteArray
 opened:Bool
 kernel:List Wrd
 aN:List Wrd
 base:Int
 data:List Int
 ret:List Int
 fault:Int
 used:Int
 cP:Int
def dG(c n:Int) :Int:=(if c<0 then -(c+1)else c) % n
def bQ:Img:=dM 16384 64 512 128 64
def jX:Dc:=⟨1,8,0⟩
def iz:Dc:=⟨3,16456,0⟩
theorem oA:Fits 16384 64 512 128 64:=⟨by omega,by omega,by omega,by omega,by omega,by omega,by omega,by omega,by omega,by omega,by omega,by omega,by omega,by omega⟩
theorem jy:bQ.Ok:=nF oA
theorem ve{S:Img}(h:Alike bQ S) :jX.Ok S:=
 Dc.Ok.alike (S:=bQ) ⟨.inl rfl,by decide,by decide,.inl rfl,by decide,by decide⟩ h
theorem pO{S:Img}(h:Alike bQ S) :iz.Ok S:=
 Dc.Ok.alike (S:=bQ) ⟨.inr rfl,by decide,by decide,.inl rfl,by decide,by decide⟩ h
namespace Setup
variable (s:Setup)
def gy:Bool:=decide (4096<s.input.size) ||decide (64<s.hidden.size)
def inp:ByteArray:=if s.gy then⟨#[]⟩else s.input
def hid:ByteArray:=if s.gy then⟨#[]⟩else s.hidden
def k1:Img×Dc:=cw s.kernel (bQ,jX)
def t1:Img×Dc:=cw s.aN (s.k1.1,iz)
def load(S:Img)(l:List UInt8) :Img:=S.put (S.beg 2) (l++List.replicate (S.s-l.length) 0)
def i2:Img:=if s.opened then s.t1.1.opened else s.t1.1
def i3:Img:=(load s.i2 s.hid.data.toList).eA
def m0:Mt:=⟨s.i3,⟨16960,16,1,2⟩,⟨17088,8,3,4⟩,0,0,Caps.made (dG s.aQ 32) (dG s.room 65537) s.inp,s.t1.2.h,s.t1.2.l,s.k1.2.h,s.k1.2.l,0,0,0,false,[],Ext.zero⟩
def m1:Mt:=(s.m0.cY (s.data.take 16)).aE (s.ret.take 8)
def mt:Mt:={ s.m1 with S:=s.m1.S.setCell 0 16448 s.base,fault:=s.fault,used:=s.used,hidden:=s.cP,av:=true }
def ri:Img:=s.i3.setCell 0 16448 s.base
end Setup
def cM(l:List Int) :List UInt8:=l.flatMap toB
theorem l7(l:List Int) : (cM l).length=8*l.length:=by
 induction l with
 | nil=>rfl
 | cons v l ih=>
   show(toB v++cM l).length=_
   rw[List.length_append,aJ,ih,List.length_cons]
   omega
theorem tI : ∀(l:List Int) (i:Nat) (v:Int),l[i]? = some v->((cM l).drop (8*i)).take 8=toB v
 | [],i,v,h=>by simp at h
 | u::l,0,v,h=>by
   obtain rfl:u=v:=by simpa using h
   show(toB u++cM l).take 8=_
   rw[List.take_append_of_le_length (by rw[aJ];exact Nat.le_refl _),List.take_of_length_le (by rw[aJ];exact Nat.le_refl _)]
 | u::l,i+1,v,h=>by
   show((toB u++cM l).drop (8* (i+1))).take 8=_
   rw[List.drop_append,List.drop_eq_nil_of_le (by rw[aJ];omega),List.nil_append,aJ,show 8* (i+1) -8=8*i by omega]
   exact tI l i v (by simpa using h)
theorem sa : ∀(l:List Int) (S:Img) (D:Dc),S.Ok->D.Ok S->D.h % 8=0->D.h+8*l.length<=D.lim S->D.shut S=false->
 commasS l (S,D) = (S.put D.h (cM l),{ D with h:=D.h+8*l.length })
 | [],S,D,_,_,_,_,_=>by
   show(S,D) = (S.put D.h [],D)
   rw[Img.fP]
 | v::l,S,D,hS,hD,h8,hl,hsh=>by
   have hl1:8* (v::l).length=8+8*l.length:=by rw[List.length_cons];omega
   have e:D.bo S=0:=by
    unfold Dc.bo
    rw[if_neg oM,if_neg oM,if_neg (by rw[hsh];decide)]
   have g:=ml hS hD v
   have e1:D.bp S v=S.put D.h (toB v):=by unfold Dc.bp;rw[if_pos e]
   have e2:D.bq S = { D with h:=D.h+8 }:=by unfold Dc.bq;rw[if_pos e]
   rw[e1,e2]at g
   unfold commasS
   rw[if_pos e,e1,e2,sa l _ _ g.img g.dc (by show(D.h+8) % 8=0;omega) (by
    show D.h+8+8*l.length<=_
    rw[Dc.iW (D:={ D with h:=D.h+8 }) (Alike.put S D.h (toB v))]
    show D.h+8+8*l.length<=D.lim S
    omega) (by
    rw[Dc.qs (D:={ D with h:=D.h+8 }) (Alike.put S D.h (toB v))]
    exact hsh)]
   have hp: (S.put D.h (toB v)).put (D.h+8) (cM l) =S.put D.h (toB v++cM l):=by
    have:=S.gG D.h (toB v) (cM l) (by rw[aJ,hS.len];have:=hD.all;omega)
    rw[aJ]at this
    exact this
   rw[show({ D with h:=D.h+8 }:Dc).h=D.h+8 from rfl,hp,hl1,show D.h+ (8+8*l.length) =D.h+8+8*l.length by omega]
   rfl
structure dq(S:Img)(a:Nat)(cs:List Int) :Prop where
 al:a % 8=0
 lo:S.beg 3<=a
 hi:a+8*cs.length<=S.beg 4
 at_ : ∀i v,cs[i]? = some v->ofB (S.bytes ((a+8*i:Nat) :Int) 8) =v
theorem dq.put{S:Img}{a:Nat}{cs:List Int}(h:dq S a cs)(hS:S.Ok)(k:Nat)(l:List UInt8)(hk:k+l.length<=S.beg 6)(hf:k+l.length<=a∨a+8*cs.length<=k) :dq (S.put k l) a cs:=by
 have hb:=Alike.put S k l
 have h64:S.beg 4<=S.beg 6:=S.dm oM oM oM
 have hhi:=h.hi
 refine⟨h.al,by rw[hb.beg];exact h.lo,by rw[hb.beg];exact h.hi,λi v hv=> ?_⟩
 have hi:i<cs.length:=(List.getElem?_eq_some_iff.1 hv).1
 rw[S.lK k _ 8 l (by rw[hS.len];exact hk) (by rw[hS.len];omega) oM]
 exact h.at_ i v hv
theorem dq.cell{S:Img}{a:Nat}{cs:List Int}(h:dq S a cs)(m:Int)(hm:0<=m∧m<=2)(i:Nat)(v:Int)(hv:cs[i]? = some v) :S.az m ((a:Int) +8* (i:Int)) false=0∧S.aR m ((a:Int) +8* (i:Int)) =v:=by
 have hi:i<cs.length:=(List.getElem?_eq_some_iff.1 hv).1
 have h1:=h.lo
 have h2:=h.hi
 have h3:=h.al
 rw[show(a:Int) +8* (i:Int) = ((a+8*i:Nat) :Int)by omega]
 have hr:S.region ((a+8*i:Nat) :Int) =3:=S.eu oM oM oM oM (by show _< ((S.beg 4:Nat) :Int);omega)
 have hrow:S.aS m ((a+8*i:Nat) :Int) 8 false=true:=by
  unfold Img.aS Img.lets Img.may
  rw[hr]
  have hb4:S.beg (3+1) =S.beg 4:=rfl
  have h4:decide (((8:Nat) :Int)<=(S.beg (3+1) :Int) - ((a+8*i:Nat) :Int)) =true:=decide_eq_true (by rw[hb4];omega)
  rw[h4]
  rcases(show m=0∨m=1∨m=2 by omega)with rfl|rfl|rfl<;>simp
 have hF:S.az m ((a+8*i:Nat) :Int) false=0:=by
  unfold Img.az
  rw[if_neg oM,if_pos hrow]
 refine⟨hF,?_⟩
 unfold Img.aR
 rw[if_pos hF]
 exact h.at_ i v hv
theorem Av(S:Img)(hS:S.Ok)(a:Nat)(cs:List Int)(hc : ∀v∈cs,V64 v)(h8:a % 8=0)(hlo:S.beg 3<=a)(hhi:a+8*cs.length<=S.beg 4) :dq (S.put a (cM cs)) a cs:=by
 have hb:=Alike.put S a (cM cs)
 have h64:S.beg 4<=S.beg 6:=S.dm oM oM oM
 refine⟨h8,by rw[hb.beg];exact hlo,by rw[hb.beg];exact hhi,λi v hv=> ?_⟩
 have hi:i<cs.length:=(List.getElem?_eq_some_iff.1 hv).1
 rw[S.mX a (8*i) 8 _ (by rw[l7,hS.len];omega) (by rw[l7];omega),tI cs i v hv]
 exact B8 v (hc v (List.mem_of_getElem? hv))
theorem dq.ax{S:Img}{a:Nat}{cs:List Int}(h:dq S a cs)(m:Int)(hm:0<=m∧m<=2)(i:Nat)(v op arg:Int)(hv:cs[i]? = some v)(hu:Code.unpack v= (op,arg,true))(h2:op≠2)(h19:op≠19) :S.ax m ((a:Int) +8* (i:Int)) = (⟨op,arg,0,1⟩,0):=by
 obtain⟨h3,h4⟩:=h.cell m hm i v hv
 unfold Img.ax
 rw[if_neg (by rw[h3];decide),h4,hu,if_neg (by simp),if_neg h2,if_neg h19]
theorem dq.H6{S:Img}{a:Nat}{cs:List Int}(h:dq S a cs)(m:Int)(hm:0<=m∧m<=2)(i:Nat)(v:Int)(hv:cs[i]? = some 2)(hv2:cs[i+1]? = some v) :S.ax m ((a:Int) +8* (i:Int)) = (⟨2,0,v,2⟩,0):=by
 obtain⟨h3,h4⟩:=h.cell m hm i 2 hv
 obtain⟨h5,h6⟩:=h.cell m hm (i+1) v hv2
 rw[show(a:Int) +8* ((i+1:Nat) :Int) = (a:Int) +8* (i:Int) +8 by omega]at h5 h6
 have hu:Code.unpack 2= (2,0,true):=by decide
 unfold Img.ax
 rw[if_neg (by rw[h3];decide),h4,hu,if_neg (by simp),if_pos rfl,if_neg (by rw[h5];decide),h6]
end Vm
set_option maxRecDepth 100000
open Go.RowKit Go.Lib Go.Deep
namespace Vm
structure ET(c:Vc)(src:Value)(s:Mt)(gs:Nat)(L:List Asr) :Prop where
 at_:src = .pointer gs
 rest : ∀k,c.rest ⟨s.ext.text,k⟩ =gY gs s.ext.text k::L
 sz:s.ext.text.size<=60000
 le:s.ext.at_<=s.ext.text.size
def exW(e:Ext) :ByteArray:=e.text.extract (eB e.text.data.toList e.at_) (jx e.text.data.toList e.at_)
def exN(e:Ext) :Nat:=iK e.text.data.toList e.at_
def Mt.AM(s:Mt)(k:Nat) :Mt:={ s with ext:=⟨s.ext.text,k⟩ }
section
variable {w w':World}{F:Nat->Prop}{c:Vc}{g gs:Nat}{x:Rn}{src:Value}{s:Mt}{B:Asr}{L:List Asr}
theorem ET.word(h:ET c src s gs L)(hon:On F w (aa (B::vL c g x src s)) w') :
 Calls Tryz.prog 154 #[gs] w' (Got (.returned (.tuple #[.string (exW s.ext),((exN s.ext:Nat) - (s.ext.at_:Int) :Int)])) (aa (B::vL c g x src (s.AM (exN s.ext)))) F w):=by
 have e1:c.rest s.ext=gY gs s.ext.text s.ext.at_::L:=h.rest s.ext.at_
 have h1:=hon.bA (A:=gY gs s.ext.text s.ext.at_) (A':=gY gs s.ext.text (exN s.ext)) (e0:= .returned (.tuple #[.string (exW s.ext),((exN s.ext:Nat) - (s.ext.at_:Int) :Int)])) 10 (by show(c.rest s.ext)[0]? = _;rw[e1];rfl) (λF' ha=>(CC gs s.ext.text (by have:=h.sz;omega) s.ext.at_ h.le w' F' ha).mono λe w2 ⟨v,A',F2,⟨hv,hA⟩,he,hh,hk,hF⟩=>by subst hv hA;exact⟨he,F2,hh,hk,hF⟩)
 have e2: (B::vL c g x src s).set 10 (gY gs s.ext.text (exN s.ext)) =B::vL c g x src (s.AM (exN s.ext)):=by
  show B::yI c g x src::gA c s::_::_::_::_::_::_::_:: (c.rest s.ext).set 0 _=B::yI c g x src::gA c s::_::_::_::_::_::_::_::c.rest ⟨s.ext.text,exN s.ext⟩
  rw[e1,h.rest]
  rfl
 rw[e2]at h1
 exact h1
theorem ET.back{w2:World}{k:Nat}(h:ET c src s gs L)(B:Asr)(h2:On F w (aa (B::vL c g x src (s.AM k))) w2) :
 On F w (VA c g x src s) (((w2.setCell (gs,0) (.string s.ext.text)).setCell (gs,1) (.int .i64 (s.ext.at_:Int))).setCell (gs,2) (.int .i64 ((lfs (s.ext.text.data.toList.take s.ext.at_) :Nat) :Int))).drew:=by
 have e1:c.rest s.ext=gY gs s.ext.text s.ext.at_::L:=h.rest s.ext.at_
 have h3:On F w (aa (B::yI c g x src::gA c s::au c.gI s.S::cR c.gI c.gD s.pd s.d::cR c.gI c.gR s.pr s.r::de c.gT s.T::jO c.gI c.gS c.sfr c.sto s.hs s.ls::jO c.gI c.gK c.kfr c.kto s.hk s.lk::c.tl s.seen::gY gs s.ext.text k::L)) w2:=by
  rw[<-h.rest k]
  exact h2
 have h4:=((h3.setAt 10 rfl 0 (.string s.ext.text)).setAt 10 rfl 1 (.int .i64 (s.ext.at_:Int))).setAt 10 rfl 2 (.int .i64 ((lfs (s.ext.text.data.toList.take s.ext.at_) :Nat) :Int))
 refine On.drew ?_
 have h5:=h4.tail
 unfold VA vL
 rw[e1]
 exact h5
end
section
variable {w w1:World}{F:Nat->Prop}{g gb bg en cap:Nat}{cl:Bool}{D:Dc}{S:Img}
theorem IH: (((0:UInt8).toNat:Nat) :Int) =0:=rfl
theorem yH(l:List UInt8)(hb:On F w (bh g gb bg en cap false D S l) w1)(h8:At8 S D (bg+8) en)(n:Nat)(hn:n=up (D.h+l.length) - (D.h+l.length))(hl:D.h+l.length<=en) :
 Calls Tryz.prog 117 #[g] w1 (Got (.returned (.int .i64 0)) (bh g gb bg en cap false D S (l++List.replicate n 0)) F w):=by
 have hle:=h8.le
 have hlo:=h8.lo
 have h2:=h8.ok.al.1
 rw[h8.lim]at h2
 have hu:=ed (D.h+l.length)
 have hin:=λwr l (h:On F w (bh g gb bg en cap false D S l) wr)=>xM l h
 have hbt:=λwr l (hl:D.h+l.length<en) (h:On F w (bh g gb bg en cap false D S l) wr)=>vQ l h8 hl h
 have hmo:=λwr l (hl:D.h+l.length<en) (h:On F w (bh g gb bg en cap false D S l) wr) n hn=>uI l 0 h8 hl h n hn
 have htt : ∀j,j<n->((((D.h+l.length+j:Nat) :Int) % 8) != 0) =true:=λj hj=>by rw[bne_iff_ne];unfold up at hn;omega
 have htf: ((((D.h+l.length+n:Nat) :Int) % 8) != 0) =false:=by rw[bne_eq_false_iff_eq];omega
 have hnl:D.h+l.length+n<=en:=by omega
 have hlen : ∀j,(l++List.replicate j (0:UInt8)).length=l.length+j:=λj=>by simp
 have hsn : ∀j,(l++List.replicate j (0:UInt8)) ++ [0] =l++List.replicate (j+1) 0:=λj=>by rw[List.append_assoc,kh]
 replace hb:=hid hb
 replace hin:=hid hin
 replace hbt:=hid hbt
 replace hmo:=hid hmo
 replace htt:=hid htt
 replace hlen:=hid hlen
 replace hsn:=hid hsn
 clear h8 h2 hn hu
 go_enter Tryz.func117,Tryz.ntmps117
 go_wp2
 go_loopg [2] n (λm t wr=> ∃j:Nat,j+m=n∧t = .int .i64 0∧On F w (bh g gb bg en cap false D S (l++List.replicate j 0)) wr)
 case atStart=>exact⟨0,by omega,rfl,by rw[show List.replicate 0 (0:UInt8) = []from rfl,List.append_nil];exact hb.out⟩
 case round=>
  obtain⟨j,hj,rfl,hon⟩:=hrel
  obtain⟨c0,c1,c2,c3,c4,cf⟩:=hin.out _ _ hon
  have c3':wr.cell? (g,3) =some (((D.h+l.length+j:Nat) :Int) :Vl):=by rw[c3];unfold laidB;rw[hlen.out,Nat.add_assoc]
  by_cases hjn:j<n
  ·have ht:=htt.out j hjn
   obtain⟨⟨xo,cx⟩,cfr,hne⟩:=hbt.out _ _ (by rw[hlen.out];omega) hon
   have hfin:=hmo.out wr _ (by rw[hlen.out];omega) hon _ rfl
   rw[hsn.out,IH]at hfin
   rw[hlen.out,<-Nat.add_assoc]at cx hfin
   obtain⟨k,hk⟩ : ∃k,D.h+l.length+j=k:=⟨_,rfl⟩
   rw[hk]at c3' cx hfin ht
   have hk1:bg<=k:=by omega
   have hk2:k<en:=by omega
   have f3:=cf 3
   have fk:=cfr k
   replace hfin:=hid hfin
   clear c3 c4 cf cfr hon hk
   go_wp2
   go_region
   go_wp2
   go_roundg (gk-1)
   case measure=>omega
   case rel=>exact⟨j+1,by omega,rfl,hfin.out.drew⟩
  ·have hjj:j=n:=by omega
   subst hjj
   replace hon:=hid hon
   clear c0 c1 c2 c3 c4 cf
   go_wp2
   go_ret
   exact⟨rfl,hon.out⟩
theorem KJ(hb:On F w (aa [bz g gb bg en cap cl D,RbA gb S]) w1) :On F w (bh g gb bg en cap cl D S []) w1:=by
 unfold bh
 rw[Img.fP]
 exact hb
theorem KW(l:List UInt8)(n:Nat)(hn:l.length=n)(hb:On F w (bh g gb bg en cap cl D S l) w1) :On F w (aa [bz g gb bg en cap cl (laidB D n),RbA gb (S.put D.h l)]) w1:=by
 subst hn
 exact hb
theorem Fv(hb:On F w (aa [bz g gb bg en cap false D,RbA gb S]) w1)(h8:At8 S D (bg+8) en)(hsh:D.shut S=false)(v:Int)(hv:V64 v) :
 Calls Tryz.prog 76 #[g,v] w1 (Got (.returned (D.bo S)) (aa [bz g gb bg en cap false (D.bq S),RbA gb (D.bp S v)]) F w):=by
 have hle:=h8.le
 have hlo:=h8.lo
 have hin:=λwr (h:On F w (aa [bz g gb bg en cap false D,RbA gb S]) wr)=>sP h
 have hto:=λn=>kK ((hin _ hb).drewN n) oM oM
 have hlay:=λwr (hl:D.h+8<=en) (h:On F w (aa [bz g gb bg en cap false D,RbA gb S]) wr)=>HX [] (KJ h) h8 (by simpa using hl) v hv
 have hend:=λwr (h:On F w (bh g gb bg en cap false D S ([] ++toB v)) wr)=>KW _ 8 (by rw[List.nil_append,aJ]) h
 obtain⟨c0,c1,c2,c3,c4,cf⟩:=hin _ hb
 have hF:D.bo S=if en<D.h+8 then 9 else if D.h % 8≠0 then 6 else 0:=by
  unfold Dc.bo
  rw[h8.lim,hsh]
  simp
 have hzero:D.bo S=0->D.bq S=laidB D 8∧D.bp S v=S.put D.h ([] ++toB v):=λh=>by
  unfold Dc.bq Dc.bp
  rw[if_pos h,if_pos h]
  exact⟨rfl,rfl⟩
 have hone:D.bo S≠0->D.bq S=D∧D.bp S v=S:=λh=>by
  unfold Dc.bq Dc.bp
  rw[if_neg h,if_neg h]
  exact⟨rfl,rfl⟩
 by_cases h1:en<D.h+8
 ·rw[if_pos h1]at hF
  obtain⟨e1,e2⟩:=hone (by rw[hF];decide)
  rw[hF,e1,e2]
  have ht:decide ((en:Int) -8< (D.h:Int)) =true:=decide_eq_true oM
  replace hb:=hid hb
  replace hto:=hid hto
  clear hin hlay hend hzero hone hF e1 e2 h8
  go_enter Tryz.func76,Tryz.ntmps76
  go_wp2_with fail
  go_quiet ((go_at_call 83;exact Calls.quiet_of (hto.out _)))
  have hb2:=hid (hb.out.drewN nq)
  go_wp2
  go_ret
  exact⟨rfl,hb2.out⟩
 ·rw[if_neg h1]at hF
  have ht:decide ((en:Int) -8< (D.h:Int)) =false:=decide_eq_false oM
  by_cases h2:D.h % 8≠0
  ·rw[if_pos h2]at hF
   obtain⟨e1,e2⟩:=hone (by rw[hF];decide)
   rw[hF,e1,e2]
   have ht2: ((D.h:Int) % 8 != 0) =true:=by rw[bne_iff_ne];omega
   replace hb:=hid hb
   replace hto:=hid hto
   replace hin:=hid hin
   clear hlay hend hzero hone hF e1 e2 h8 h2
   go_enter Tryz.func76,Tryz.ntmps76
   go_wp2_with fail
   go_quiet ((go_at_call 83;exact Calls.quiet_of (hto.out _)))
   have hb2:=hb.out.drewN nq
   obtain⟨w2,hw2⟩ : ∃w2,w1.drewN nq=w2:=⟨_,rfl⟩
   rw[hw2]at hb2⊢
   clear hw2 c0 c1 c2 c3 c4 cf
   obtain⟨c0,c1,c2,c3,c4,cf⟩:=hin.out _ hb2
   replace hb2:=hid hb2
   go_wp2
   go_ret
   exact⟨rfl,hb2.out⟩
  ·rw[if_neg h2]at hF
   obtain⟨e1,e2⟩:=hzero hF
   rw[hF,e1,e2]
   have ht2: ((D.h:Int) % 8 != 0) =false:=by rw[bne_eq_false_iff_eq];omega
   replace hlay:=hid (λwr=>hlay wr oM)
   replace hb:=hid hb
   replace hto:=hid hto
   replace hin:=hid hin
   replace hend:=hid hend
   clear hzero hone hF e1 e2 h8 h2
   go_enter Tryz.func76,Tryz.ntmps76
   go_wp2_with fail
   go_quiet ((go_at_call 83;exact Calls.quiet_of (hto.out _)))
   have hb2:=hb.out.drewN nq
   obtain⟨w2,hw2⟩ : ∃w2,w1.drewN nq=w2:=⟨_,rfl⟩
   rw[hw2]at hb2⊢
   clear hw2 c0 c1 c2 c3 c4 cf
   obtain⟨c0,c1,c2,c3,c4,cf⟩:=hin.out _ hb2
   replace hlay:=hid (hlay.out _ hb2)
   clear hb2
   go_wp2_with fail
   refine hlay.out.mono ?_
   rintro e w3 ⟨rfl,h3⟩
   have h4:=hid (hend.out _ h3)
   clear h3
   go_wp2
   go_ret
   exact⟨rfl,h4.out⟩
end
def Flags(off on:Int)(t:UInt8->UInt8) :Prop:= ∀c:UInt8,bits .or .u8 (bits .andNot .u8 (c.toNat:Int) off) on= ((t c).toNat:Int)
theorem Aw:Flags 32 0 eL:=λc=>by
 have h : ∀b:Fin 256,bits .or .u8 (bits .andNot .u8 (b.val:Int) 32) 0= ((b.val &&& 223:Nat) :Int):=by decide +kernel
 rw[h ⟨c.toNat,c.toNat_lt⟩]
 unfold eL
 rw[UInt8.toNat_and]
 rfl
theorem EA:Flags 0 64 kk:=λc=>by
 have h : ∀b:Fin 256,bits .or .u8 (bits .andNot .u8 (b.val:Int) 0) 64= ((b.val ||| 64:Nat) :Int):=by decide +kernel
 rw[h ⟨c.toNat,c.toNat_lt⟩]
 unfold kk
 rw[UInt8.toNat_or]
 rfl
section
variable {w w1:World}{F:Nat->Prop}{g gb bg en cap:Nat}{D:Dc}{S:Img}
theorem vH(hb:On F w (aa [bz g gb bg en cap false D,RbA gb S]) w1)(hl:D.l=0)(off on:Int) :
 Calls Tryz.prog 73 #[g,off,on] w1 (Got (.returned (.tuple #[])) (aa [bz g gb bg en cap false D,RbA gb S]) F w):=by
 obtain⟨c0,c1,c2,c3,c4,cf⟩:=sP hb
 rw[hl]at c4
 replace hb:=hid hb
 clear hl
 go_enter Tryz.func73,Tryz.ntmps73
 go_wp2_with fail
 go_quiet (fail)
 have hb2:=hid (hb.out.drewN nq)
 go_wp2
 go_end0
 exact⟨rfl,hb2.out⟩
theorem vT(hb:On F w (aa [bz g gb bg en cap false D,RbA gb S]) w1)(h8:At8 S D (bg+8) en)(hsh:D.shut S=false)(hl:D.l≠0)(off on:Int)(t:UInt8->UInt8)(ht:Flags off on t)(ho:0<=off∧off<=255)(hn:0<=on∧on<=255) :
 Calls Tryz.prog 73 #[g,off,on] w1 (Got (.returned (.tuple #[])) (aa [bz g gb bg en cap false D,RbA gb (D.cq S t)]) F w):=by
 have hle:=h8.le
 have hlo:=h8.lo
 have hll:D.l % 8=0∧bg+8<=D.l∧D.l+16<=en:=by
  rcases h8.ok.l with h|h
  ·exact absurd h hl
  ·rw[h8.fr,h8.lim]at h;exact h
 have hall:=h8.ok.all
 rw[h8.lim]at hall
 have hin:=λwr (h:On F w (aa [bz g gb bg en cap false D,RbA gb S]) wr)=>sP h
 have hto:=λn=>kK ((hin _ hb).drewN n) oM oM
 have hbl:=λwr (h:On F w (aa [bz g gb bg en cap false D,RbA gb S]) wr)=>(by
  have hb:Blk wr gb 5 (ag S.b).toArray:=h.ab 1 rfl
  have hg:Blk wr g 145 (jh gb bg en cap false D):=h.ab 0 rfl
  have h2:D.l+8<S.b.length:=by rw[h8.img.len];omega
  refine⟨?_,hb.frozen _,hg.ne_ hb (by decide)⟩
  rw[hb.cell]
  simp[ag,h2] :wr.cell? ⟨gb,D.l+8,none⟩ =some (.int .u8 ((S.b.getD (D.l+8) 0).toNat:Int))∧wr.frozen? ⟨gb,D.l+8,none⟩ =false∧g≠gb)
 have hfin:=λwr (h:On F w (aa [bz g gb bg en cap false D,RbA gb S]) wr)=>(by
  have h2:=On.setAt 1 (g:=gb) (t:=5) (cs:=(ag S.b).toArray) h rfl (D.l+8) (.int .u8 ((t (S.b.getD (D.l+8) 0)).toNat:Int))
  rw[pM _ _ (t (S.b.getD (D.l+8) 0)) (by rw[h8.img.len];omega)]at h2
  have e:D.cq S t=S.put (D.l+8) [t (S.b.getD (D.l+8) 0)]:=by
   unfold Dc.cq
   rw[if_neg (by rintro(h|h);exact hl h;rw[hsh]at h;cases h)]
  rw[e]
  exact h2:On F w (aa [bz g gb bg en cap false D,RbA gb (D.cq S t)]) (wr.setCell ⟨gb,D.l+8,none⟩ (.int .u8 ((t (S.b.getD (D.l+8) 0)).toNat:Int))))
 have htc:=ht (S.b.getD (D.l+8) 0)
 generalize (S.b.getD (D.l+8) 0) =bc at *
 generalize ((t bc).toNat:Int) =tc at *
 generalize D.cq S t=S' at *
 have hbc: (bc.toNat:Int)<=255:=by have:=bc.toNat_lt;omega
 generalize (bc.toNat:Int) =b0 at *
 obtain⟨c0,c1,c2,c3,c4,cf⟩:=hin _ hb
 have hz: ((D.l:Int) ==0) =false:=by simpa using hl
 have hd:decide ((en:Int)<=(D.l:Int) +8) =false:=decide_eq_false oM
 replace hb:=hid hb
 replace hin:=hid hin
 replace hto:=hid hto
 replace hbl:=hid hbl
 replace hfin:=hid hfin
 clear h8 hsh ht
 go_enter Tryz.func73,Tryz.ntmps73
 go_wp2_with fail
 go_quiet ((go_at_call 83;exact Calls.quiet_of (hto.out _)))
 have hb2:=hb.out.drewN nq
 obtain⟨w2,hw2⟩ : ∃w2,w1.drewN nq=w2:=⟨_,rfl⟩
 rw[hw2]at hb2⊢
 clear hw2 c0 c1 c2 c3 c4 cf hb hto
 obtain⟨c0,c1,c2,c3,c4,cf⟩:=hin.out _ hb2
 replace hb2:=hid hb2
 go_wp2_with fail
 go_quiet (fail)
 have hb3:=hb2.out.drewN nq
 obtain⟨w3,hw3⟩ : ∃w3,w2.drewN nq=w3:=⟨_,rfl⟩
 rw[hw3]at hb3⊢
 clear hw3 c0 c1 c2 c3 c4 cf hb2
 obtain⟨c0,c1,c2,c3,c4,cf⟩:=hin.out _ hb3
 obtain⟨cb,fb,hne⟩:=hbl.out _ hb3
 have hfin2:=hid (hfin.out _ hb3)
 replace hb3:=hid hb3
 clear hin hbl hfin
 have he:bg+ (D.l+8-bg) =D.l+8:=by omega
 have hi1: (bg:Int)<=(D.l:Int) +8:=by omega
 have hi2: (D.l:Int) +8- (bg:Int) < ((en-bg:Nat) :Int):=by omega
 go_wp2_with fail
 go_region
 go_wp2
 go_end0
 exact⟨rfl,hfin2.out.drew⟩
theorem B6(hb:On F w (aa [bz g gb bg en cap false D,RbA gb S]) w1)(h8:At8 S D (bg+8) en)(hsh:D.shut S=false)(off on:Int)(t:UInt8->UInt8)(ht:Flags off on t)(ho:0<=off∧off<=255)(hn:0<=on∧on<=255) :
 Calls Tryz.prog 73 #[g,off,on] w1 (Got (.returned (.tuple #[])) (aa [bz g gb bg en cap false D,RbA gb (D.cq S t)]) F w):=by
 by_cases h0:D.l=0
 ·have e:D.cq S t=S:=by unfold Dc.cq;rw[if_pos (.inl h0)]
  rw[e]
  exact vH hb h0 off on
 ·exact vT hb h8 hsh h0 off on t ht ho hn
end
section
variable {w w1:World}{F:Nat->Prop}{g gb bg en cap:Nat}{D:Dc}{S:Img}
theorem sK(hb:On F w (aa [bz g gb bg en cap false D,RbA gb S]) w1)(s:ByteArray)(hsz:s.size<=9223372036854775807)(hn:Dc.dJ s.data.toList=false) :
 Calls Tryz.prog 71 #[g,.string s] w1 (Got (.returned (.tuple #[(0:Int),(15:Int)])) (aa [bz g gb bg en cap false D,RbA gb S]) F w):=by
 have hnm:=om s hsz w1
 rw[hn]at hnm
 replace hb:=hid hb
 replace hnm:=hid hnm
 clear hn
 go_enter Tryz.func71,Tryz.ntmps71
 go_wp2_with fail
 refine hnm.out.mono ?_
 rintro e w2 ⟨rfl,rfl⟩
 go_wp2
 go_ret2
 exact⟨rfl,hb.out⟩
theorem qi(hb:On F w (aa [bz g gb bg en cap false D,RbA gb S]) w1)(h8:At8 S D (bg+8) en)(s:ByteArray)(hn:Dc.dJ s.data.toList=true)(hf:en<up D.h+ (8+up (1+s.size))) :
 Calls Tryz.prog 71 #[g,.string s] w1 (Got (.returned (.tuple #[(0:Int),(9:Int)])) (aa [bz g gb bg en cap false D,RbA gb S]) F w):=by
 have hs2:=jf hn
 have hnm:=om s oM w1
 rw[hn]at hnm
 have h1:=h8.lo
 have hle:=h8.le
 have hu1:=ed D.h
 have hu2:=ed (1+s.size)
 have hup1:=λw=>uu D.h oM w
 have hup2:=λw=>uu (1+s.size) oM w
 rw[show((1+s.size:Nat) :Int) =1+ (s.size:Int)by omega]at hup2
 have hto:=λW (h:On F w (aa [bz g gb bg en cap false D,RbA gb S]) W)=>kK (sP h) oM oM
 obtain⟨c0,c1,c2,c3,c4,cf⟩:=sP hb
 replace hb:=hid hb
 replace hnm:=hid hnm
 replace hup1:=hid hup1
 replace hup2:=hid hup2
 replace hto:=hid hto
 generalize up (1+s.size) =u2 at *
 generalize hU1:up D.h=u1 at *
 clear hn h8 hU1
 have ht:decide ((en:Int) - (u1:Int) <8+ (u2:Int)) =true:=decide_eq_true oM
 go_enter Tryz.func71,Tryz.ntmps71
 go_wp2_with fail
 refine hnm.out.mono ?_
 rintro e w2 ⟨rfl,rfl⟩
 go_wp2_with fail
 refine(hup1.out _).mono ?_
 rintro e w3 ⟨rfl,rfl⟩
 go_wp2_with fail
 refine(hto.out _ hb.out).mono ?_
 rintro e w4 ⟨rfl,nq,rfl⟩
 have hb2:=hid (hb.out.drewN nq)
 go_wp2_with fail
 refine(hup2.out _).mono ?_
 rintro e w4 ⟨rfl,rfl⟩
 go_wp2
 go_ret2
 exact⟨rfl,hb2.out⟩
theorem yD(l:List UInt8)(c:UInt8)(v:Int)(hv:v= (c.toNat:Int))(hb:On F w (bh g gb bg en cap false D S l) w1)(h8:At8 S D (bg+8) en)(hl:D.h+l.length<en) :
 Calls Tryz.prog 119 #[g,.int .u8 v] w1 (Got (.returned (.int .i64 0)) (bh g gb bg en cap false D S (l ++ [c])) F w):=by
 subst hv
 exact tG l hb h8 hl c
theorem vw(hb:On F w (aa [bz g gb bg en cap false D,RbA gb S]) w1)(h8:At8 S D (bg+8) en)(s:ByteArray)(hn:Dc.dJ s.data.toList=true)(hf : ¬en<up D.h+ (8+up (1+s.size)))(hsh:D.shut S=false) :
 Calls Tryz.prog 71 #[g,.string s] w1 (Got (.returned (.tuple #[((up D.h+ (8+up (1+s.size)) :Nat) :Int),(0:Int)])) (aa [bz g gb bg en cap false { D with h:=up D.h+ (8+up (1+s.size)),l:=up D.h },RbA gb (S.put D.h (D.fi s.data.toList))]) F w):=by
 have hon:=KJ hb
 have hs2:=jf hn
 have hnl:s.data.toList.length=s.size:=by rw[Lib.size_eq]
 have hnm:=om s oM w1
 rw[hn]at hnm
 have h1:=h8.lo
 have hle:=h8.le
 have hu1:=ed D.h
 have hu2:=ed (1+s.size)
 have hup1:=λw=>uu D.h oM w
 have hup2:=λw=>uu (1+s.size) oM w
 rw[show((1+s.size:Nat) :Int) =1+ (s.size:Int)by omega]at hup2
 have hto:=λW (h:On F w (bh g gb bg en cap false D S []) W)=>kK (xM [] h) oM oM
 have hc:=λW l (h:On F w (bh g gb bg en cap false D S l) W)=>xM l h
 obtain⟨za,hza⟩ : ∃za:List UInt8,za=List.replicate (up D.h-D.h) 0:=⟨_,rfl⟩
 have hzl:za.length=up D.h-D.h:=by rw[hza];simp
 have hal1:=λW (h:On F w (bh g gb bg en cap false D S []) W)=>yH [] h h8 _ rfl (by simp;omega)
 simp only[List.length_nil,Nat.add_zero,List.nil_append]at hal1
 rw[<-hza]at hal1
 have hvl:V64 (D.l:Int):=by have:=h8.ok.l;rw[h8.lim]at this;unfold V64;omega
 have hcm:=λW (h:On F w (bh g gb bg en cap false D S za) W)=>HX za h h8 (by rw[hzl];omega) (D.l:Int) hvl
 have hl2: (za++toB (D.l:Int)).length=up D.h-D.h+8:=by simp[aJ,hzl]
 have hby: (32:Int) + (s.size:Int) = (((UInt8.ofNat (s.size+32)).toNat:Nat) :Int):=by rw[UInt8.toNat_ofNat'];omega
 have hcb:=λW (h:On F w (bh g gb bg en cap false D S (za++toB (D.l:Int))) W)=>yD (za++toB (D.l:Int)) (UInt8.ofNat (s.size+32)) (32+ (s.size:Int)) hby h h8 (by rw[hl2];omega)
 obtain⟨l3,hl3⟩ : ∃l3:List UInt8,l3=za++toB (D.l:Int) ++ [UInt8.ofNat (s.size+32)]:=⟨_,rfl⟩
 have hl3l:l3.length=up D.h-D.h+9:=by rw[hl3,List.length_append,hl2];rfl
 rw[<-hl3]at hcb
 have hcn:=λW (j:Nat) (hj:j<s.size) (h:On F w (bh g gb bg en cap false D S (l3++s.data.toList.take j)) W)=>tG (l3++s.data.toList.take j) h h8 (by rw[List.length_append,hl3l,List.length_take,hnl];omega) (s.data.toList.getD j 0)
 have htk : ∀j,j<s.size->(l3++s.data.toList.take j) ++ [s.data.toList.getD j 0] =l3++s.data.toList.take (j+1):=λj hj=>by
  rw[List.append_assoc,uz _ _ (by rw[hnl];exact hj)]
 have hl4l: (l3++s.data.toList).length=up D.h-D.h+9+s.size:=by rw[List.length_append,hl3l,hnl]
 have hal2:=λW (h:On F w (bh g gb bg en cap false D S (l3++s.data.toList)) W)=>yH (l3++s.data.toList) h h8 (up (1+s.size) - (1+s.size)) (by rw[hl4l];unfold up at *;omega) (by rw[hl4l];omega)
 have hlast:l3++s.data.toList++List.replicate (up (1+s.size) - (1+s.size)) 0=D.fi s.data.toList:=by
  unfold Dc.fi
  rw[hl3,hza,hnl]
  simp[List.append_assoc]
 rw[hlast]at hal2
 have hfl: (D.fi s.data.toList).length=up D.h-D.h+ (8+up (1+s.size)):=by rw[Dc.pW,hnl]
 have hend:=λW (h:On F w (bh g gb bg en cap false D S (D.fi s.data.toList)) W)=>(by
  have h1:=KW _ _ hfl h
  have h2:=h1.setAt 0 rfl 4 (.int .i64 (up D.h:Nat))
  rw[vN gb bg en cap false _ (up D.h) _ rfl]at h2
  have e: ({ laidB D (up D.h-D.h+ (8+up (1+s.size)))with l:=up D.h }:Dc) = { D with h:=up D.h+ (8+up (1+s.size)),l:=up D.h }:=by unfold laidB;simp;omega
  rw[e]at h2
  exact h2:On F w (aa [bz g gb bg en cap false { D with h:=up D.h+ (8+up (1+s.size)),l:=up D.h },RbA gb (S.put D.h (D.fi s.data.toList))]) (W.setCell (g,4) (.int .i64 (up D.h:Nat))))
 have hix:=λ(j:Nat) (h:j<s.size)=>gn s j h
 generalize D.fi s.data.toList=lf at *
 have hhf: ((laidB D lf.length).h:Int) = ((up D.h+ (8+up (1+s.size)) :Nat) :Int):=by unfold laidB;simp only[hfl];omega
 have hh0: ((laidB D ([] :List UInt8).length).h:Int) = (D.h:Int):=rfl
 replace hon:=hid hon
 replace hnm:=hid hnm
 replace hup1:=hid hup1
 replace hup2:=hid hup2
 replace hto:=hid hto
 replace hc:=hid hc
 replace hal1:=hid hal1
 replace hcm:=hid hcm
 replace hcb:=hid hcb
 replace hcn:=hid hcn
 replace htk:=hid htk
 replace hal2:=hid hal2
 replace hend:=hid hend
 replace hix:=hid hix
 replace hhf:=hid hhf
 replace hnl:=hid hnl
 generalize up (1+s.size) =u2 at *
 generalize hU1:up D.h=u1 at *
 clear hb hn h8 hsh hza hzl hvl hl2 hby hl3 hl3l hl4l hlast hfl hU1
 obtain⟨c0,c1,c2,c3,c4,cf⟩:=hc.out _ _ hon.out
 rw[hh0]at c3
 have ht:decide ((en:Int) - (u1:Int) <8+ (u2:Int)) =false:=decide_eq_false oM
 go_enter Tryz.func71,Tryz.ntmps71
 go_wp2_with fail
 refine hnm.out.mono ?_
 rintro e w2 ⟨rfl,rfl⟩
 go_wp2_with fail
 refine(hup1.out _).mono ?_
 rintro e w3 ⟨rfl,rfl⟩
 go_wp2_with fail
 refine(hto.out _ hon.out).mono ?_
 rintro e w4 ⟨rfl,nq,rfl⟩
 have hon2:=hon.out.drewN nq
 obtain⟨w4,hw4⟩ : ∃w4,w3.drewN nq=w4:=⟨_,rfl⟩
 rw[hw4]at hon2⊢
 clear hw4 c0 c1 c2 c3 c4 cf hon
 obtain⟨c0,c1,c2,c3,c4,cf⟩:=hc.out _ _ hon2
 replace hal1:=hid (hal1.out _ hon2)
 clear hon2 hto
 go_wp2_with fail
 refine(hup2.out _).mono ?_
 rintro e w5 ⟨rfl,rfl⟩
 go_wp2_with fail
 refine hal1.out.mono ?_
 rintro e w5 ⟨rfl,h5⟩
 clear c0 c1 c2 c3 c4 cf
 obtain⟨c0,c1,c2,c3,c4,cf⟩:=hc.out _ _ h5
 have c4':w5.cell? (g,4) =some ((D.l:Int) :Vl):=c4
 replace hcm:=hid (hcm.out _ h5)
 clear h5 c4
 go_wp2_with fail
 refine hcm.out.mono ?_
 rintro e w6 ⟨rfl,h6⟩
 replace hcb:=hid (hcb.out _ h6)
 clear h6 c0 c1 c2 c3 c4' cf
 go_wp2_with fail
 refine hcb.out.mono ?_
 rintro e w7 ⟨rfl,h7⟩
 replace h7:=hid h7
 go_wp2_with fail
 go_loopg [8] s.size (λk t wr=> ∃j:Nat,j+k=s.size∧t = .int .i64 (j:Int)∧On F w (bh g gb bg en cap false D S (l3++s.data.toList.take j)) wr)
 case atStart=>exact⟨0,by omega,rfl,by rw[List.take_zero,List.append_nil];exact h7.out⟩
 case round=>
  obtain⟨j,hj,rfl,hj7⟩:=hrel
  by_cases hjl:j<s.size
  ·have hq:=hcn.out _ j hjl hj7
   have hx:=hix.out j hjl wr
   rw[htk.out j hjl]at hq
   generalize s.data.toList.getD j 0=c at *
   replace hq:=hid hq
   replace hj7:=hid hj7
   go_wp2_with fail
   refine hq.out.mono ?_
   rintro e w8 ⟨rfl,h8⟩
   replace h8:=hid h8
   go_wp2
   go_roundg (gk-1)
   case measure=>omega
   case rel=>exact⟨j+1,by omega,by go_num,h8.out⟩
  ·have hjj:j=s.size:=by omega
   subst hjj
   rw[List.take_of_length_le (by rw[hnl.out];exact Nat.le_refl _)]at hj7
   replace hal2:=hid (hal2.out _ hj7)
   have hdec2:decide ((s.size:Int) < (s.size:Int)) =false:=by simp
   clear hj7
   go_wp2_with fail
   refine hal2.out.mono ?_
   rintro e w8 ⟨rfl,h8⟩
   obtain⟨c0,c1,c2,c3,c4,cf⟩:=hc.out _ _ h8
   have c4':w8.cell? (g,4) =some ((D.l:Int) :Vl):=c4
   have f4:=cf 4
   replace hend:=hid (hend.out _ h8)
   rw[hhf.out]at c3
   clear h8 c4 cf
   go_wp2
   go_ret2
   exact⟨rfl,hend.out⟩
theorem DQ(hb:On F w (aa [bz g gb bg en cap false D,RbA gb S]) w1)(h8:At8 S D (bg+8) en)(hsh:D.shut S=false)(s:ByteArray)(hsz:s.size<=9223372036854775807) :
 Calls Tryz.prog 71 #[g,.string s] w1 (Got (.returned (.tuple #[(D.iD S s.data.toList),(D.bZ S s.data.toList)])) (aa [bz g gb bg en cap false (D.cz S s.data.toList),RbA gb (D.cB S s.data.toList)]) F w):=by
 have hnl:s.data.toList.length=s.size:=by rw[Lib.size_eq]
 have hF:D.bZ S s.data.toList=if Dc.dJ s.data.toList=false then 15 else if en<up D.h+ (8+up (1+s.size))then 9 else 0:=by
  unfold Dc.bZ
  rw[h8.lim,hnl,hsh]
  simp
 unfold Dc.iD Dc.cz Dc.cB
 rw[hF]
 by_cases h1:Dc.dJ s.data.toList=false
 ·rw[if_pos h1,if_neg (by decide),if_neg (by decide),if_neg (by decide)]
  exact sK hb s hsz h1
 rw[if_neg h1]
 have h1':Dc.dJ s.data.toList=true:=by simpa using h1
 by_cases h2:en<up D.h+ (8+up (1+s.size))
 ·rw[if_pos h2,if_neg (by decide),if_neg (by decide),if_neg (by decide)]
  exact qi hb h8 s h1' h2
 rw[if_neg h2,if_pos rfl,if_pos rfl,if_pos rfl,hnl]
 exact vw hb h8 s h1' h2 hsh
end
structure cJ(S:Img) :Prop where
 k:S.k=16384
 s:S.s=64
 u:S.u=512
 d:S.d=128
 r:S.r=64
theorem cJ.fY{S:Img}(h:cJ S) :S.beg 2=16384∧S.beg 3=16448∧S.beg 4=16960∧S.beg 5=17088∧S.beg 6=17152:=by
 simp[Img.beg,h.k,h.s,h.u,h.d,h.r]
theorem cJ.alike{S T:Img}(h:cJ S)(ha:Alike S T) :cJ T:=⟨ha.k.trans h.k,ha.s.trans h.s,ha.u.trans h.u,ha.d.trans h.d,ha.r.trans h.r⟩
theorem xY:cJ bQ:=⟨rfl,rfl,rfl,rfl,rfl⟩
theorem Nd{S:Img}(hL:cJ S)(x:Nat)(h1:16960<=x)(h2:x+8<=17152)(h8:x % 8=0)(w:Bool) :S.az 0 (x:Int) w=0:=by
 obtain⟨b2,b3,b4,b5,b6⟩:=hL.fY
 have hr : ∃j,(j=4∨j=5)∧S.region (x:Int) =j∧x+8<=S.beg (j+1):=by
  by_cases h:x<17088
  ·exact⟨4,.inl rfl,S.eu oM oM oM oM (by show(x:Int) <S.beg 5;omega),by show x+8<=S.beg 5;omega⟩
  ·exact⟨5,.inr rfl,S.eu oM oM oM oM (by show(x:Int) <S.beg 6;omega),by show x+8<=S.beg 6;omega⟩
 obtain⟨j,hj,hr,hle⟩:=hr
 have hrow:S.aS 0 (x:Int) 8 w=true:=by
  unfold Img.aS Img.lets Img.may
  rw[hr]
  have h4:decide (((8:Nat) :Int)<=(S.beg (j+1) :Int) - (x:Int)) =true:=decide_eq_true oM
  rw[h4]
  rcases hj with rfl|rfl<;>cases w<;>simp
 unfold Img.az
 rw[if_neg oM,if_pos hrow]
def gO(fr i:Nat) :Prop:=(fr=16960∧i<16)∨(fr=17088∧i<8)
theorem mD{S:Img}(hL:cJ S){fr i:Nat}(h:gO fr i)(v:Int) :sset S fr i v=S.put (fr+8*i) (toB v):=by
 unfold gO at h
 unfold sset Img.setCell
 rw[show(fr:Int) +8* (i:Int) = ((fr+8*i:Nat) :Int)by omega,if_pos (Nd hL _ oM oM oM true),Int.toNat_natCast]
theorem te{S:Img}(hS:S.Ok)(hL:cJ S){fr i:Nat}(h:gO fr i)(v:Int)(hv:V64 v) :ja (S.put (fr+8*i) (toB v)) fr i=v:=by
 obtain⟨b2,b3,b4,b5,b6⟩:=hL.fY
 unfold gO at h
 unfold ja
 have hc:=Nd hL (fr+8*i) oM oM oM false
 rw[show(fr:Int) +8* (i:Int) = ((fr+8*i+0:Nat) :Int)by omega,vS S hS 0 (fr+8*i) 0 (toB v) (by rw[aJ];omega) (by rw[aJ];omega) hc]
 rw[List.drop_zero,List.take_of_length_le (by rw[aJ];omega)]
 exact B8 v hv
theorem my{S:Img}(hS:S.Ok)(hL:cJ S){fr i fr' i':Nat}(h:gO fr i)(h':gO fr' i')(hne:fr+8*i≠fr'+8*i')(v:Int) :ja (S.put (fr+8*i) (toB v)) fr' i'=ja S fr' i':=by
 obtain⟨b2,b3,b4,b5,b6⟩:=hL.fY
 unfold gO at h h'
 unfold ja
 exact lH S hS 0 _ (fr+8*i) (toB v) (by rw[aJ];omega) (by rw[aJ];omega)
theorem qL : ∀(l:List Int) (S:Img) (fr d:Nat),S.Ok->cJ S->(fr=16960∧d+l.length<=16∨fr=17088∧d+l.length<=8)->(bJ S fr d l).Ok
 | [],S,fr,d,hS,_,_=>hS
 | v::l,S,fr,d,hS,hL,h=>by
   rw[List.length_cons]at h
   have hi:gO fr d:=by
    rcases h with⟨h1,h2⟩ | ⟨h1,h2⟩
    ·exact .inl ⟨h1,by omega⟩
    ·exact .inr ⟨h1,by omega⟩
   obtain⟨b2,b3,b4,b5,b6⟩:=hL.fY
   have e:=mD hL hi v
   have hok: (S.put (fr+8*d) (toB v)).Ok:=cV hS _ _ (by rw[aJ];omega)
   show(bJ (sset S fr d v) fr (d+1) l).Ok
   rw[e]
   exact qL l (S.put (fr+8*d) (toB v)) fr (d+1) hok (hL.alike (Alike.put _ _ _)) oM
structure Rep(s:Mt)(a:Nat)(cs ds rs:List Int) :Prop where
 img:s.S.Ok
 lay:cJ s.S
 pd:s.pd= ⟨16960,16,1,2⟩
 pr:s.pr= ⟨17088,8,3,4⟩
 code:dq s.S a cs
 d:s.d=ds.length
 r:s.r=rs.length
 dle:ds.length<=16
 rle:rs.length<=8
 dv : ∀i v,ds[i]? = some v->ja s.S 16960 i=v
 rv : ∀i v,rs[i]? = some v->ja s.S 17088 i=v
section
variable {s:Mt}{a:Nat}{cs ds rs:List Int}
theorem Rep.ok(h:Rep s a cs ds rs) :s.Ok:=by
 refine⟨?_,?_,?_,?_,?_,?_,?_,?_⟩
 ·rw[h.pd];exact⟨by decide,by decide⟩
 ·rw[h.pr];exact⟨by decide,by decide⟩
 ·rw[h.pd,h.d];exact h.dle
 ·rw[h.pr,h.r];exact h.rle
 ·rw[h.pd]
 ·rw[h.pd]
 ·rw[h.pr]
 ·rw[h.pr]
theorem Rep.top(h:Rep s a cs ds rs)(n:Nat)(v:Int)(hn:n<ds.length)(hv:ds[ds.length-1-n]? = some v) :s.top (n:Int) =v:=by
 unfold Mt.top jY
 rw[h.d,h.pd,if_pos ⟨by omega,by omega⟩,Int.toNat_natCast]
 exact h.dv _ _ hv
theorem Rep.bH(h:Rep s a cs ds rs)(n:Nat)(v:Int)(hn:n<rs.length)(hv:rs[rs.length-1-n]? = some v) :s.bH (n:Int) =v:=by
 unfold Mt.bH jY
 rw[h.r,h.pr,if_pos ⟨by omega,by omega⟩,Int.toNat_natCast]
 exact h.rv _ _ hv
theorem Rep.arv(h:Rep s a cs ds rs)(n j:Nat)(v:Int)(hj:j<n)(hn:n<=ds.length)(hv:ds[ds.length-n+j]? = some v) :ar s n j=v:=by
 have e:ar s n j=s.top ((n-1-j:Nat) :Int):=by simp[Vm.ar,Mt.args,hj]
 rw[e]
 exact h.top _ _ oM (by rw[<-hv];congr 1;omega)
theorem yp{S:Img}(hS:S.Ok)(hL:cJ S){fr i:Nat}(h:gO fr i)(v:Int)(hc:dq S a cs) :dq (S.put (fr+8*i) (toB v)) a cs:=by
 obtain⟨b2,b3,b4,b5,b6⟩:=hL.fY
 have h1:=hc.hi
 unfold gO at h
 exact hc.put hS _ _ (by rw[aJ];omega) (by rw[aJ];omega)
theorem xq{l:List Int}{v u:Int}{i:Nat}(h: (l ++ [v])[i]? = some u) : (i=l.length∧u=v)∨(i<l.length∧l[i]? = some u):=by
 rw[List.getElem?_append]at h
 split at h
 ·exact .inr ⟨by assumption,h⟩
 ·left
  rcases hk:i-l.length with _|k
  ·rw[hk]at h
   simp at h
   exact⟨by omega,h.symm⟩
  ·rw[hk]at h
   simp at h
theorem Rep.Lp(h:Rep s a cs ds rs)(v:Int)(hv:V64 v)(hr:ds.length<16) :Rep (s.cY [v]) a cs (ds ++ [v]) rs:=by
 have hi:gO 16960 ds.length:= .inl ⟨rfl,hr⟩
 have hlen:=h.img.len
 obtain⟨b2,b3,b4,b5,b6⟩:=h.lay.fY
 have e: (s.cY [v]).S=s.S.put (16960+8*ds.length) (toB v):=by
  show sset s.S s.pd.fr s.d v=_
  rw[h.pd,h.d]
  exact mD h.lay hi v
 refine⟨?_,?_,h.pd,h.pr,?_,?_,h.r,by simp;omega,h.rle,?_,?_⟩
 ·rw[e];exact cV h.img _ _ (by rw[aJ];omega)
 ·rw[e];exact h.lay.alike (Alike.put _ _ _)
 ·rw[e];exact yp h.img h.lay hi v h.code
 ·show s.d+1=_
  rw[h.d];simp
 ·intro i u hu
  rw[e]
  rcases xq hu with⟨rfl,rfl⟩ | ⟨hlt,hu⟩
  ·exact te h.img h.lay hi _ hv
  ·rw[my h.img h.lay hi (.inl ⟨rfl,by omega⟩) oM v]
   exact h.dv i u hu
 ·intro i u hu
  have hlt:i<rs.length:=(List.getElem?_eq_some_iff.1 hu).1
  have:=h.rle
  rw[e,my h.img h.lay hi (.inr ⟨rfl,by omega⟩) oM v]
  exact h.rv i u hu
theorem Rep.EP(h:Rep s a cs ds rs)(v:Int)(hv:V64 v)(hr:rs.length<8) :Rep (s.aE [v]) a cs ds (rs ++ [v]):=by
 have hi:gO 17088 rs.length:= .inr ⟨rfl,hr⟩
 obtain⟨b2,b3,b4,b5,b6⟩:=h.lay.fY
 have e: (s.aE [v]).S=s.S.put (17088+8*rs.length) (toB v):=by
  show sset s.S s.pr.fr s.r v=_
  rw[h.pr,h.r]
  exact mD h.lay hi v
 refine⟨?_,?_,h.pd,h.pr,?_,h.d,?_,h.dle,by simp;omega,?_,?_⟩
 ·rw[e];exact cV h.img _ _ (by rw[aJ];omega)
 ·rw[e];exact h.lay.alike (Alike.put _ _ _)
 ·rw[e];exact yp h.img h.lay hi v h.code
 ·show s.r+1=_
  rw[h.r];simp
 ·intro i u hu
  have hlt:i<ds.length:=(List.getElem?_eq_some_iff.1 hu).1
  have:=h.dle
  rw[e,my h.img h.lay hi (.inl ⟨rfl,by omega⟩) oM v]
  exact h.dv i u hu
 ·intro i u hu
  rw[e]
  rcases xq hu with⟨rfl,rfl⟩ | ⟨hlt,hu⟩
  ·exact te h.img h.lay hi _ hv
  ·rw[my h.img h.lay hi (.inr ⟨rfl,by omega⟩) oM v]
   exact h.rv i u hu
theorem zD(s:Mt)(v:Int)(l:List Int) :s.cY (v::l) = (s.cY [v]).cY l:=by
 unfold Mt.cY
 congr 1
 show s.d+ (l.length+1) =s.d+1+l.length
 omega
theorem zt(s:Mt)(v:Int)(l:List Int) :s.aE (v::l) = (s.aE [v]).aE l:=by
 unfold Mt.aE
 congr 1
 show s.r+ (l.length+1) =s.r+1+l.length
 omega
end
theorem Rep.cY{a:Nat}{cs rs:List Int} : ∀{l ds:List Int} {s:Mt},Rep s a cs ds rs->(∀v∈l,V64 v)->ds.length+l.length<=16->Rep (s.cY l) a cs (ds++l) rs
 | [],ds,s,h,_,_=>by rw[List.append_nil];exact h
 | v::l,ds,s,h,hv,hl=>by
   rw[List.length_cons]at hl
   have h1:=h.Lp v (hv v (by simp)) oM
   have h2:=Rep.cY (l:=l) h1 (λu hu=>hv u (by simp[hu])) (by rw[List.length_append,List.length_singleton];omega)
   rw[List.append_assoc]at h2
   rw[zD]
   exact h2
theorem Rep.aE{a:Nat}{cs ds:List Int} : ∀{l rs:List Int} {s:Mt},Rep s a cs ds rs->(∀v∈l,V64 v)->rs.length+l.length<=8->Rep (s.aE l) a cs ds (rs++l)
 | [],rs,s,h,_,_=>by rw[List.append_nil];exact h
 | v::l,rs,s,h,hv,hl=>by
   rw[List.length_cons]at hl
   have h1:=h.EP v (hv v (by simp)) oM
   have h2:=Rep.aE (l:=l) h1 (λu hu=>hv u (by simp[hu])) (by rw[List.length_append,List.length_singleton];omega)
   rw[List.append_assoc]at h2
   rw[zt]
   exact h2
section
variable {s:Mt}{a:Nat}{cs ds rs:List Int}
theorem Rep.pG(h:Rep s a cs ds rs)(n:Nat)(hn:n<=ds.length) :Rep (s.pG n) a cs (ds.take n) rs:=
 ⟨h.img,h.lay,h.pd,h.pr,h.code,by show n=_;rw[List.length_take];omega,h.r,by rw[List.length_take];have:=h.dle;omega,h.rle,λi v hv=>h.dv i v (by
  rw[List.getElem?_take]at hv
  split at hv
  ·exact hv
  ·cases hv),h.rv⟩
theorem Rep.iB(h:Rep s a cs ds rs)(n:Nat)(hn:n<=rs.length) :Rep (s.iB n) a cs ds (rs.take n):=
 ⟨h.img,h.lay,h.pd,h.pr,h.code,h.d,by show n=_;rw[List.length_take];omega,h.dle,by rw[List.length_take];have:=h.rle;omega,h.dv,λi v hv=>h.rv i v (by
  rw[List.getElem?_take]at hv
  split at hv
  ·exact hv
  ·cases hv)⟩
theorem Rep.aq(h:Rep s a cs ds rs)(n:Nat)(hn:n<=ds.length)(l:List Int)(hl : ∀v∈l,V64 v)(hr:ds.length-n+l.length<=16) : (s.aq n l).1=0∧Rep (s.aq n l).2 a cs (ds.take (ds.length-n) ++l) rs∧(s.aq n l).2.seen=s.seen:=by
 have h1:=h.d
 have h2:s.pd.rm=16:=by rw[h.pd]
 have hc : ¬s.pd.rm- (s.d-n) <l.length:=by omega
 unfold Mt.aq
 rw[if_neg hc]
 refine⟨rfl,?_,rfl⟩
 rw[h1]
 exact(h.pG (ds.length-n) oM).cY hl (by rw[List.length_take];omega)
theorem Rep.told(h:Rep s a cs ds rs)(x:Rn)(op:Int) :Rep (s.told x op) a cs ds rs:=by
 unfold Mt.told
 split
 ·exact⟨h.img,h.lay,h.pd,h.pr,h.code,h.d,h.r,h.dle,h.rle,h.dv,h.rv⟩
 ·exact h
theorem wz(s:Mt)(x:Rn)(op:Int) : (s.told x op).seen.length=s.seen.length+ (if s.av then 1 else 0):=by
 unfold Mt.told
 split<;>simp
theorem Rep.asked(h:Rep s a cs ds rs)(i:ao)(x:Rn)(hn:ev i.op=0)(h1: (Code.ah i.op).1<=ds.length)(h26:i.op≠26)(h2: (ds.length:Int) - (Code.ah i.op).1+ (Code.ah i.op).2<=16)
 (h3: (returns i.op i.arg s.same).1<=(rs.length:Int) -x.base) (h4: (rs.length:Int) - (returns i.op i.arg s.same).1+ (returns i.op i.arg s.same).2<=8) :asks i x s=0:=by
 unfold Vm.asks
 rw[h.d,h.r,h.pd,h.pr,if_neg oM,if_neg oM,if_neg (by
  rw[if_neg (by rintro⟨h,_⟩;exact h26 h)]
  show¬((16:Nat) :Int) <_
  omega),if_neg (by show¬((8:Nat) :Int) <_;omega),if_neg (by rintro⟨h,_⟩;exact h hn)]
end
def ks:ByteArray:=⟨#[120]⟩
def Ng:List UInt8:=[0,0,0,0,0,0,0,0,1,120]
def fS(S:Img) :Prop:= ∀i,i<10->S.b.getD (16456+i) 0=Ng.getD i 0
theorem fS.put{S:Img}(h:fS S)(k:Nat)(l:List UInt8)(hk:k+l.length<=S.b.length)(hf:k+l.length<=16456∨16466<=k) :fS (S.put k l):=by
 intro i hi
 rw[S.ir k _ l hk,if_neg oM]
 exact h i hi
def H5:Wd:=⟨[120],16456,16472,false,false,false⟩
theorem ta(b:List UInt8)(k:Nat) : ∀(l:List UInt8),k+l.length<=b.length->(∀i,i<l.length->b.getD (k+i) 0=l.getD i 0)->(b.drop k).take l.length=l:=by
 intro l hk h
 apply List.ext_getElem
 ·simp;omega
 ·intro i h1 h2
  have e:=h i h2
  rw[List.getD_eq_getElem?_getD,List.getD_eq_getElem?_getD,List.getElem?_eq_getElem oM,List.getElem?_eq_getElem h2]at e
  simpa using e
theorem IB{S:Img}{D:Dc}(hS:S.Ok)(hL:cJ S)(h:fS S)(hrg:D.rg=3) :cL S D 16456=some (H5,0):=by
 obtain⟨b2,b3,b4,b5,b6⟩:=hL.fY
 have hlen:=hS.len
 have hfr:D.fr S=16456:=by unfold Dc.fr;rw[hrg,b3]
 have hlim:D.lim S=16960:=by unfold Dc.lim;rw[hrg];exact b4
 have h8:S.b.getD (16456+8) 0=1:=h 8 oM
 have e1: (S.b.drop 16456).take 8 = [0,0,0,0,0,0,0,0]:=ta S.b 16456 [0,0,0,0,0,0,0,0] (by simp;omega) (λi hi=>by
  have hi:i<8:=hi
  rw[h i oM]
  have:i=0∨i=1∨i=2∨i=3∨i=4∨i=5∨i=6∨i=7:=by omega
  rcases this with rfl|rfl|rfl|rfl|rfl|rfl|rfl|rfl<;>rfl)
 have e2: (S.b.drop 16465).take 1 = [120]:=ta S.b 16465 [120] (by simp;omega) (λi hi=>by
  have hi:i<1:=hi
  obtain rfl:i=0:=by omega
  exact h 9 oM)
 unfold cL
 rw[hfr,hlim,if_neg oM]
 have e3: (16456:Int).toNat=16456:=rfl
 simp only[e3,h8]
 rw[if_neg (by decide),show(1:UInt8).toNat % 32=1 from rfl,e2,e1]
 have hz:ofB [0,0,0,0,0,0,0,0] =0:=by decide +kernel
 have hu:up (16456+9+1) =16472:=by decide
 rw[hz,hu]
 rfl
theorem Ky{S:Img}{D:Dc}(hS:S.Ok)(hL:cJ S)(h:fS S)(hrg:D.rg=3)(hl:D.l=16456) :words S D = [H5]:=by
 unfold words
 rw[hl]
 unfold wordsF
 rw[show((16456:Nat) :Int) =16456 from rfl,IB hS hL h hrg]
 simp only
 rw[if_neg oM]
 obtain⟨b2,b3,b4,b5,b6⟩:=hL.fY
 have hfr:D.fr S=16456:=by unfold Dc.fr;rw[hrg,b3]
 unfold wordsF
 have:cL S D 0=none:=by
  unfold cL
  rw[if_pos (.inr (.inl (by rw[hfr];omega)))]
 rw[this]
theorem MX{S:Img}{D:Dc}(hS:S.Ok)(hL:cJ S)(h:fS S)(hrg:D.rg=3)(hl:D.l=16456) :nf S D ks.data.toList=some H5:=by
 unfold nf
 rw[Ky hS hL h hrg hl]
 rfl
def bC(cs:List Int)(data:List Int)(base:Int) :Setup:=⟨0,0,⟨#[]⟩,⟨#[]⟩,false,[],[⟨ks,false,false,cs⟩],base,data,[],0,0,0⟩
def ji:List UInt8:=[0,0,0,0,0,0,0,0,33,120,0,0,0,0,0,0]
theorem lY:iz.bZ bQ [120] =0:=by decide
theorem Hw:iz.fi [120] =ji:=by decide
theorem iC{S:Img}(h:cJ S)(k:Nat)(l:List UInt8) :cJ (S.put k l):=h.alike (Alike.put S k l)
def dV:Img:=(bQ.put 16456 ji).put 16464 [1]
theorem mG:dV.Ok:=cV (cV jy _ _ (by decide)) _ _ (by decide)
theorem Ek:cJ dV:=iC (iC xY _ _) _ _
theorem mq:bQ.b.length=17152:=by rw[jy.len];rfl
theorem IP:fS dV:=by
 intro i hi
 have h1: (bQ.put 16456 ji).b.length=17152:=by rw[bQ.jw _ _ (by rw[mq];decide),mq]
 unfold dV
 rw[Img.ir _ _ _ _ (by rw[h1];decide)]
 by_cases h8:i=8
 ·subst h8
  rw[if_pos (by simp)]
  rfl
 ·rw[if_neg (by simp;omega),Img.ir _ _ _ _ (by rw[mq];decide),if_pos (by
   have:ji.length=16:=rfl
   omega),show 16456+i-16456=i by omega]
  have:i=0∨i=1∨i=2∨i=3∨i=4∨i=5∨i=6∨i=7∨i=9:=by omega
  rcases this with rfl|rfl|rfl|rfl|rfl|rfl|rfl|rfl|rfl<;>rfl
def tM:Dc:=⟨3,16472,16456⟩
theorem K7(cs:List Int)(hc:16472+8*cs.length<=16960) :dD ⟨ks,false,false,cs⟩ (bQ,iz) = (dV.put 16472 (cM cs),⟨3,16472+8*cs.length,16456⟩):=by
 have e1:iz.cB bQ [120] =bQ.put 16456 ji:=by
  unfold Dc.cB
  rw[if_pos lY,Hw]
  rfl
 have e2:iz.cz bQ [120] =tM:=by
  unfold Dc.cz
  rw[if_pos lY]
  rfl
 have e3:p9 ⟨ks,false,false,cs⟩ (bQ.put 16456 ji) tM=dV:=by
  unfold p9
  simp only[Bool.false_eq_true,if_false]
  unfold Dc.cq
  rw[if_neg (by decide)]
  have h0: (bQ.put 16456 ji).b.getD 16464 0=33:=by
   rw[Img.ir _ _ _ _ (by rw[mq];decide),if_pos (by decide)]
   rfl
  show(bQ.put 16456 ji).put 16464 [eL ((bQ.put 16456 ji).b.getD 16464 0)] =_
  rw[h0]
  rfl
 unfold dD
 rw[show ks.data.toList = [120]from rfl,lY,if_neg (by decide),e1,e2,e3]
 have hD:tM.Ok dV:=by
  refine Dc.Ok.alike (S:=bQ) ⟨.inr rfl,by decide,by decide,.inr (by decide),by decide,by decide⟩ ((Alike.put _ _ _).trans (Alike.put _ _ _))
 have hlm:tM.lim dV=16960:=by decide
 have hhh:tM.h=16472:=rfl
 have:=sa cs dV tM mG hD (by decide) (by rw[hlm,hhh];omega) (by decide)
 exact this
section
variable (cs data:List Int)(base:Int)
theorem Bm: (bC cs data base).hid= ⟨#[]⟩:=by unfold Setup.hid;split<;>rfl
theorem tB(hc:16472+8*cs.length<=16960) : (bC cs data base).t1= (dV.put 16472 (cM cs),⟨3,16472+8*cs.length,16456⟩):=K7 cs hc
theorem dq.nZ{S:Img}{a:Nat}{cs:List Int}(h:dq S a cs) :dq S.eA a cs:=⟨h.al,h.lo,h.hi,h.at_⟩
theorem Img.Ok.nZ{S:Img}(h:S.Ok) :S.eA.Ok:=⟨h.len,h.small⟩
theorem cJ.nZ{S:Img}(h:cJ S) :cJ S.eA:=⟨h.k,h.s,h.u,h.d,h.r⟩
theorem fS.nZ{S:Img}(h:fS S) :fS S.eA:=h
structure Nz(S:Img)(cs:List Int) :Prop where
 ok:S.Ok
 lay:cJ S
 head:fS S
 code:dq S 16472 cs
theorem C7(hc:16472+8*cs.length<=16960)(hv : ∀v∈cs,V64 v) :Nz (bC cs data base).i3 cs:=by
 have e: (bC cs data base).i3= (((dV.put 16472 (cM cs)).put 16384 (List.replicate 64 0)).eA):=by
  have eo: (bC cs data base).opened=false:=rfl
  have hz:Setup.load (dV.put 16472 (cM cs)) (⟨#[]⟩ :ByteArray).data.toList= (dV.put 16472 (cM cs)).put 16384 (List.replicate 64 0):=by
   unfold Setup.load
   rw[show(dV.put 16472 (cM cs)).beg 2=16384 from rfl,show(dV.put 16472 (cM cs)).s=64 from rfl]
   rfl
  unfold Setup.i3 Setup.i2
  rw[Bm,tB cs data base hc,eo]
  simp only[Bool.false_eq_true,if_false]
  rw[hz]
 have hl:=l7 cs
 have hle:dV.b.length=17152:=by rw[mG.len];rfl
 have h1: (dV.put 16472 (cM cs)).Ok:=cV mG _ _ (by rw[hl];have:dV.beg 6=17152:=rfl;omega)
 have hle1: (dV.put 16472 (cM cs)).b.length=17152:=by rw[h1.len];rfl
 have h2: ((dV.put 16472 (cM cs)).put 16384 (List.replicate 64 0)).Ok:=cV h1 _ _ (by show 16384+ (List.replicate 64 (0:UInt8)).length<=17152;simp)
 have c1:dq (dV.put 16472 (cM cs)) 16472 cs:=Av dV mG 16472 cs hv (by decide) (by decide) (by have:dV.beg 4=16960:=rfl;omega)
 have c2:=c1.put h1 16384 (List.replicate 64 0) (by show 16384+ (List.replicate 64 (0:UInt8)).length<=17152;simp) (.inl (by simp))
 rw[e]
 refine⟨Img.Ok.nZ h2,cJ.nZ (iC (iC Ek _ _) _ _),fS.nZ ?_,dq.nZ c2⟩
 have g1:fS (dV.put 16472 (cM cs)):=IP.put _ _ (by rw[hl,hle];omega) (.inr oM)
 exact g1.put 16384 (List.replicate 64 0) (by rw[hle1];simp) (.inl (by simp))
end
theorem uD : ∀(l:List Int) (S:Img) (fr d:Nat),S.Ok->cJ S->(fr=16960∧d+l.length<=16∨fr=17088∧d+l.length<=8)->(bJ S fr d l).Ok∧∀i,i<16960->(bJ S fr d l).b.getD i 0=S.b.getD i 0
 | [],S,fr,d,hS,_,_=>⟨hS,λ_ _=>rfl⟩
 | v::l,S,fr,d,hS,hL,h=>by
   rw[List.length_cons]at h
   have hi:gO fr d:=by
    rcases h with⟨h1,h2⟩ | ⟨h1,h2⟩
    ·exact .inl ⟨h1,by omega⟩
    ·exact .inr ⟨h1,by omega⟩
   obtain⟨b2,b3,b4,b5,b6⟩:=hL.fY
   have e:=mD hL hi v
   have hfr:16960<=fr∧fr+8*d+8<=17152:=by omega
   have hok: (S.put (fr+8*d) (toB v)).Ok:=cV hS _ _ (by rw[aJ];omega)
   have hr:=uD l (S.put (fr+8*d) (toB v)) fr (d+1) hok (iC hL _ _) oM
   show(bJ (sset S fr d v) fr (d+1) l).Ok∧∀i,i<16960->(bJ (sset S fr d v) fr (d+1) l).b.getD i 0=S.b.getD i 0
   rw[e]
   refine⟨hr.1,λi hi2=> ?_⟩
   rw[hr.2 i hi2,Img.ir _ _ _ _ (by rw[aJ,hS.len];omega),if_neg oM]
theorem N3{S:Img}(hL:cJ S)(w:Bool) :S.az 0 16448 w=0:=by
 obtain⟨b2,b3,b4,b5,b6⟩:=hL.fY
 have hr:S.region (16448:Int) =3:=S.eu oM oM oM oM (by show(16448:Int) <S.beg 4;omega)
 have hrow:S.aS 0 (16448:Int) 8 w=true:=by
  unfold Img.aS Img.lets Img.may
  rw[hr]
  have h4:decide (((8:Nat) :Int)<=(S.beg (3+1) :Int) -16448) =true:=decide_eq_true (by show((8:Nat) :Int)<=(S.beg 4:Int) -_;omega)
  rw[h4]
  cases w<;>simp
 unfold Img.az
 rw[if_neg oM,if_pos hrow]
theorem rq{S:Img}(hL:cJ S)(v:Int) :S.setCell 0 16448 v=S.put 16448 (toB v):=by
 unfold Img.setCell
 rw[if_pos (N3 hL true)]
 rfl
theorem Rep.base{s:Mt}{a:Nat}{cs ds rs:List Int}(h:Rep s a cs ds rs)(ha:16456<=a)(v f u n:Int)(t:Bool) :Rep { s with S:=s.S.setCell 0 16448 v,fault:=f,used:=u,hidden:=n,av:=t } a cs ds rs:=by
 obtain⟨b2,b3,b4,b5,b6⟩:=h.lay.fY
 have e:=rq h.lay v
 have hd:=h.dle
 have hr:=h.rle
 have far : ∀fr i,gO fr i->ja (s.S.put 16448 (toB v)) fr i=ja s.S fr i:=λfr i hi=>by
  unfold gO at hi
  exact lH s.S h.img 0 _ 16448 (toB v) (by rw[aJ];omega) (by rw[aJ];omega)
 refine⟨?_,?_,h.pd,h.pr,?_,h.d,h.r,h.dle,h.rle,λi u hu=> ?_,λi u hu=> ?_⟩
 ·show(s.S.setCell 0 16448 v).Ok
  rw[e];exact cV h.img _ _ (by rw[aJ];omega)
 ·show cJ (s.S.setCell 0 16448 v)
  rw[e];exact iC h.lay _ _
 ·show dq (s.S.setCell 0 16448 v) a cs
  rw[e];exact h.code.put h.img _ _ (by rw[aJ];omega) (.inl (by rw[aJ];omega))
 ·show ja (s.S.setCell 0 16448 v) 16960 i=u
  have hlt:i<ds.length:=(List.getElem?_eq_some_iff.1 hu).1
  rw[e,far 16960 i (.inl ⟨rfl,by omega⟩)]
  exact h.dv i u hu
 ·show ja (s.S.setCell 0 16448 v) 17088 i=u
  have hlt:i<rs.length:=(List.getElem?_eq_some_iff.1 hu).1
  rw[e,far 17088 i (.inr ⟨rfl,by omega⟩)]
  exact h.rv i u hu
theorem zQ(cs data:List Int)(base:Int)(hc:16472+8*cs.length<=16960)(hv : ∀v∈cs,V64 v)(hdl:data.length<=16)(hdv : ∀v∈data,V64 v) :
 Rep (bC cs data base).mt 16472 cs data []∧fS (bC cs data base).mt.S∧(bC cs data base).mt.seen = []∧(bC cs data base).mt.av=true:=by
 have hM:=C7 cs data base hc hv
 have h0:Rep (bC cs data base).m0 16472 cs [] []:=⟨hM.ok,hM.lay,rfl,rfl,hM.code,rfl,rfl,by simp,by simp,λi v h=>by simp at h,λi v h=>by simp at h⟩
 have ht:data.take 16=data:=List.take_of_length_le hdl
 have h1:=h0.cY (l:=data.take 16) (by rw[ht];exact hdv) (by rw[ht];simpa using hdl)
 rw[List.nil_append,ht]at h1
 have h2:=h1.aE (l:=[]) (λv h=>by cases h) (by simp)
 have e1: (bC cs data base).m1= ((bC cs data base).m0.cY data).aE []:=by
  unfold Setup.m1
  show((bC cs data base).m0.cY (data.take 16)).aE [] =_
  rw[ht]
 have hS: (bC cs data base).m1.S=bJ (bC cs data base).i3 16960 0 data:=by rw[e1];rfl
 have hlow:=uD data (bC cs data base).i3 16960 0 hM.ok hM.lay (.inl ⟨rfl,by omega⟩)
 have hh:fS (bC cs data base).m1.S:=λi hi=>by
  rw[hS,hlow.2 _ oM]
  exact hM.head i hi
 rw[List.append_nil,<-e1]at h2
 have h3:=h2.base oM base 0 0 0 true
 refine⟨h3,?_,by show(bC cs data base).m1.seen = [];rw[e1];rfl,rfl⟩
 show fS ((bC cs data base).m1.S.setCell 0 16448 base)
 rw[rq h2.lay base]
 exact hh.put _ _ (by rw[aJ,h2.img.len];have:=h2.lay.fY;omega) (.inl (by rw[aJ];omega))
section
variable {w w1:World}{F:Nat->Prop}
theorem Hy(gb bg en cap:Nat)(hle:bg<=en)(hen:en<=143360)(rg:Nat)(w:World) :Calls Tryz.prog 45 #[.slice (some ⟨gb,bg,none⟩) (en-bg) cap,(bg:Int)] w
 (b8 (λe B=> ∃g,e = .returned (.pointer (some ⟨g,0,none⟩))∧B=bz g gb bg en cap false ⟨rg,bg+8,0⟩) Nob w):=by
 have hon:=(On.refl (A:=aa []) (F:=Nob) (w:=w) (λ_ h=>h)).box (jh gb bg en cap false ⟨rg,bg+8,0⟩) 145
 have e: (((bg+8:Nat)) :Int) = (bg:Int) +8:=by omega
 have hc:jh gb bg en cap false ⟨rg,bg+8,0⟩ = #[.slice (some ⟨gb,bg,none⟩) (en-bg) cap,.int .i64 (bg:Int),.bool false,.int .i64 ((bg:Int) +8),.int .i64 0]:=by
  unfold jh
  rw[e]
  rfl
 rw[hc]at hon
 replace hon:=hid hon
 replace hc:=hid hc
 clear e
 go_enter Tryz.func45,Tryz.ntmps45
 go_wp2
 go_ret
 have h:=hon.out.nc
 rw[<-hc.out]at h
 exact⟨_,⟨w.heap.size,rfl,rfl⟩,h⟩
def qZ(x y p q:Int)(d:Bool) :Array Value:= #[.int .i64 x,.int .i64 y,.int .i64 p,.int .i64 q,.bool d,.slice none 0 0]
theorem MO(w:World) :Calls Tryz.prog 43 #[] w (b8 (λe B=> ∃g,e = .returned (.pointer (some ⟨g,0,none⟩))∧B=ae g 166 (qZ 0 0 1 0 true)) Nob w):=by
 have hon:=(On.refl (A:=aa []) (F:=Nob) (w:=w) (λ_ h=>h)).box (qZ 0 0 1 0 true) 166
 unfold qZ at hon
 replace hon:=hid hon
 go_enter Tryz.func43,Tryz.ntmps43
 go_wp2
 go_ret
 exact⟨_,⟨w.heap.size,rfl,rfl⟩,hon.out.nc⟩
def mg:Array Value:= #[.complex .f64 0 0,.complex .f64 4607182418800017408 0,.bool true,.slice none 0 0]
theorem HU(w:World) :Calls Tryz.prog 21 #[] w (b8 (λe B=> ∃g,e = .returned (.pointer (some ⟨g,0,none⟩))∧B=ae g 140 mg) Nob w):=by
 have hon:=(On.refl (A:=aa []) (F:=Nob) (w:=w) (λ_ h=>h)).box mg 140
 unfold mg at hon
 replace hon:=hid hon
 go_enter Tryz.func21,Tryz.ntmps21
 go_wp2
 go_ret
 exact⟨_,⟨w.heap.size,rfl,rfl⟩,hon.out.nc⟩
end
structure Rc where
 gW:Nat
 gM:Nat
 gb:Nat
 gK:Nat
 gS:Nat
 gD:Nat
 gDr:Nat
 gR:Nat
 gRr:Nat
 gC:Nat
 gT:Nat
def fo(r:Rc)(list:Nat)(ws:Value)(f u h:Int)(t:Bool) :Array Value:=
 #[r.gM,r.gK,r.gS,list,ws,r.gD,r.gR,r.gC,r.gT,f,(u:Int),h,.bool t,.slice none 0 0]
theorem MC(k s u d r:Nat)(hf:Fits k s u d r)(w:World) :Calls Tryz.prog 42 #[iF k s u d r] w
 (b8 (λe B=> ∃g gb,e = .returned (.tuple #[.pointer (some ⟨g,0,none⟩),.bool true])∧B=aa [ae g 120 (aI gb (dM k s u d r)),RbA gb (dM k s u d r)]) Nob w):=by
 refine(Lx k s u d r hf w).mono ?_
 rintro e w' ⟨g,gb,he,h1,h2,hr,hb⟩
 refine⟨_,⟨g,gb,he,rfl⟩,λk=>k=g∨k=gb,?_,Kept.fU hb,λi hi=>by rcases hi with rfl|rfl<;>exact .inr (by assumption)⟩
 have hne:=hr.blk.ne_ hr.row (by decide)
 exact⟨λk=>k=g,λk=>k=gb,⟨hr.blk,λ_=>Iff.rfl⟩,All.one (A:=RbA gb (dM k s u d r)) ⟨hr.row,λ_=>Iff.rfl⟩,λk a b=>hne (a.symm.trans b),λ_=>Iff.rfl⟩
def ow:Value:= .agg #[(16384:Int),(64:Int),(512:Int),(128:Int),(64:Int)]
theorem se(w:World) :Calls Tryz.prog 16 #[] w (Quiet ow w):=by
 unfold ow
 go_enter Tryz.func16,Tryz.ntmps16
 go_wp2
 have hb:=Blk.new w 62 #[(16384:Int),(64:Int),(512:Int),(128:Int),(64:Int)]
 have c0:=hb.cell 0
 have c1:=hb.cell 1
 have c2:=hb.cell 2
 have c3:=hb.cell 3
 have c4:=hb.cell 4
 exact bodyPost_ret (v:= .agg #[(16384:Int),(64:Int),(512:Int),(128:Int),(64:Int)]) (by simp[results,Tryz.results16,go_sem,c0,c1,c2,c3,c4]) rfl ⟨rfl,(Below.refl _ _).alloc (Nat.le_refl _) _⟩
def Nu(r:Rc) :List Asr:=
 [sD r.gC (Caps.made 0 0 ⟨#[]⟩),aa (fe r.gR r.gRr 0 3 4 (List.replicate 8 0)),aa (fe r.gD r.gDr 0 1 2 (List.replicate 16 0)),
  bz r.gS r.gb 16448 16960 704 false iz,bz r.gK r.gb 0 16384 17152 false jX,ae r.gT 166 (qZ 0 0 1 0 true),
  ae r.gM 120 (aI r.gb bQ),RbA r.gb bQ]
def M0(e:Ending)(B:Asr) :Prop:= ∃(r:Rc) (gws:Nat),e = .returned (.tuple #[r.gW,.bool true])∧
 B=aa (ae r.gW 83 (fo r r.gK (.slice gws 1 1) 0 0 0 false) ::ae gws 77 #[r.gK] ::Nu r)
def wC0(gM gT:Nat)(a1 a2 a3 a4 a5 a6 a7:Value) :Array Value:= #[.pointer gM,a1,a2,a3,a4,a5,a6,a7,.pointer gT,.int .i64 0,.int .i64 0,.int .i64 0,.bool false,.slice none 0 0]
def AP:Value:= .pointer none
def N9:Value:= .slice none 0 0
theorem vu{w W:World}{F:Nat->Prop}{L:List Asr}{gM gb:Nat}{S:Img}(h:On F w (aa L) W)(i j:Nat)(hi:L[i]? = some (ae gM 120 (aI gb S)))(hj:L[j]? = some (RbA gb S))(hS:S.Ok) :cQ W gM gb S:=
 ⟨h.ab i hi,h.ab j hj,hS⟩
theorem BJ{w W:World}{F:Nat->Prop}{L:List Asr}{gM gb:Nat}(h:On F w (aa L) W)(i j:Nat)(hi:L[i]? = some (ae gM 120 (aI gb bQ)))(hj:L[j]? = some (RbA gb bQ))(r a b:Int)(ha:cT bQ r=a)(hb:fZ bQ r=b) :
 Calls Tryz.prog 44 #[gM,(r:Int)] W (Got (.returned (.tuple #[a,b])) (aa L) F w):=by
 have hs:=nx (vu h i j hi hj jy) r
 rw[ha,hb]at hs
 refine hs.mono ?_
 rintro e w' ⟨he,hb⟩
 exact⟨he,h.below hb⟩
theorem Om:Caps.cC 0 0 ⟨#[]⟩ =0:=by decide
theorem Nv(w:World) :Calls Tryz.prog 15 #[ow] w (b8 M0 Nob w):=by
 have hon0:=(On.refl (A:=aa []) (F:=Nob) (w:=w) (λ_ h=>h)).box #[(16384:Int),(64:Int),(512:Int),(128:Int),(64:Int)] 62
 have hr3:=λW=>(MC 16384 64 512 128 64 oA W:Calls Tryz.prog 42 #[ow] W (b8 (λe B=> ∃g gb,e = .returned (.tuple #[.pointer (some ⟨g,0,none⟩),.bool true])∧B=aa [ae g 120 (aI gb bQ),RbA gb bQ]) Nob W))
 unfold ow at hr3⊢
 replace hr3:=hid hr3
 replace hon0:=hid hon0
 go_enter Tryz.func15,Tryz.ntmps15
 go_wp2_with fail
 refine(hon0.out.make (hr3.out _)).mono ?_
 rintro e w1 ⟨B,⟨gM,gb,rfl,rfl⟩,hon1⟩
 replace hon1:=hid hon1.flat
 clear hon0 hr3
 go_wp2_with fail
 refine(hon1.out.make (MO _)).mono ?_
 rintro e w2 ⟨B,⟨gT,rfl,rfl⟩,hon2⟩
 have hon3:=hon2.box (wC0 gM gT AP AP AP N9 AP AP AP) 83
 obtain⟨gW,hgW⟩ : ∃gW,w2.heap.size=gW:=⟨_,rfl⟩
 rw[hgW]at hon3
 unfold wC0 AP N9 at hon3
 replace hon3:=hid hon3
 clear hon1 hon2
 go_wp2_with fail
 generalize w2.alloc (Obj.cells _ 83) =w3 at *
 clear hgW
 refine(BJ hon3.out 2 3 rfl rfl 1 0 16384 rfl rfl).mono ?_
 rintro e w4 ⟨rfl,hon4⟩
 have b5:w4.cell? (gM,5) =some (.slice gb 17152 17152):=(hon4.ab 2 rfl).cell 5
 have hk:=(Hy gb 0 16384 17152 oM oM 1 w4:Calls Tryz.prog 45 #[.slice gb 16384 17152,(0:Int)] w4 (b8 (λe B=> ∃g,e = .returned (.pointer (some ⟨g,0,none⟩))∧B=bz g gb 0 16384 17152 false jX) Nob w4))
 have hk2:=hid (hon4.make hk)
 replace hon4:=hid hon4
 clear hon3 hk
 go_wp2_with fail
 refine hk2.out.mono ?_
 rintro e w5 ⟨B,⟨gK,rfl,rfl⟩,hon5⟩
 have fW:=(hon5.ab 1 rfl).frozen 1
 have cW:w5.cell? (gW,1) =some (.pointer none):=(hon5.ab 1 rfl).cell 1
 have hon6:=hid (hon5.setAt 1 rfl 1 (.pointer gK))
 clear hk2 hon4 b5
 replace hon5:=hid hon5
 go_wp2_with fail
 generalize w5.setCell (gW,1) (.pointer gK) =w6 at *
 clear fW cW hon5
 refine(BJ hon6.out 3 4 rfl rfl 3 16448 16960 rfl rfl).mono ?_
 rintro e w7 ⟨rfl,hon7⟩
 have b5:w7.cell? (gM,5) =some (.slice gb 17152 17152):=(hon7.ab 3 rfl).cell 5
 have hk:=(Hy gb 16448 16960 704 oM oM 3 w7:Calls Tryz.prog 45 #[.slice (some ⟨gb,16448,none⟩) 512 704,(16448:Int)] w7 (b8 (λe B=> ∃g,e = .returned (.pointer (some ⟨g,0,none⟩))∧B=bz g gb 16448 16960 704 false iz) Nob w7))
 have hk2:=hid (hon7.make hk)
 replace hon7:=hid hon7
 clear hon6 hk
 go_wp2_with fail
 refine hk2.out.mono ?_
 rintro e w8 ⟨B,⟨gS,rfl,rfl⟩,hon8⟩
 clear hk2 hon7 b5
 have f2:=(hon8.ab 2 rfl).frozen 2
 have c2:w8.cell? (gW,2) =some (.pointer none):=(hon8.ab 2 rfl).cell 2
 have f3:=(hon8.ab 2 rfl).frozen 3
 have c3:w8.cell? (gW,3) =some (.pointer none):=(hon8.ab 2 rfl).cell 3
 have f4:=(hon8.ab 2 rfl).frozen 4
 have c4:w8.cell? (gW,4) =some (.slice none 0 0):=(hon8.ab 2 rfl).cell 4
 have c1:w8.cell? (gW,1) =some (gK:Vl):=(hon8.ab 2 rfl).cell 1
 have l0:=(hon8.ab 4 rfl).lt
 have hlW:=(hon8.ab 2 rfl).lt
 have hlw:w.heap.size<w8.heap.size:=(hon8.ab 6 rfl).lt
 have x3:w8.cell? (w.heap.size,3) =some (.int .i64 128):=(hon8.ab 6 rfl).cell 3
 have x4:w8.cell? (w.heap.size,4) =some (.int .i64 64):=(hon8.ab 6 rfl).cell 4
 have hneW:=hon8.sk 2 6 (by decide) rfl rfl
 have hon9:=(((hon8.setAt 2 rfl 2 (.pointer gS)).setAt 2 rfl 3 (.pointer gK)).setAt 2 rfl 4 (.slice w8.heap.size 1 1)).box #[gK] 77
 have hsz: (((w8.setCell (gW,2) (.pointer gS)).setCell (gW,3) (.pointer gK)).setCell (gW,4) (.slice w8.heap.size 1 1)).heap.size=w8.heap.size:=by simp
 rw[hsz]at hon9
 replace hon9:=hid hon9
 replace hon8:=hid hon8
 clear hsz
 go_wp2_with fail
 clear f2 c2 f3 c3 f4 c4 c1 x3 x4
 generalize (((w8.setCell (gW,2) (.pointer gS)).setCell (gW,3) (.pointer gK)).setCell (gW,4) (.slice w8.heap.size 1 1)).alloc (.cells #[gK] 77) =w9 at *
 have hs4:=(H7 4 16 oM 1 2 (.inl ⟨rfl,rfl,rfl⟩) w9:Calls Tryz.prog 46 #[(4:Int),(128:Int)] w9 (b8 (λe B=> ∃g gr,e = .returned (.tuple #[.pointer (some ⟨g,0,none⟩),.bool true])∧B=aa (fe g gr 0 1 2 (List.replicate 16 0))) Nob w9))
 replace hs4:=hon9.out.make hs4
 refine hs4.mono ?_
 rintro e w10 ⟨B,⟨gD,gDr,rfl,rfl⟩,hon10⟩
 have f5:=(hon10.ab 4 rfl).frozen 5
 have c5:w10.cell? (gW,5) =some (.pointer none):=(hon10.ab 4 rfl).cell 5
 have hon11:=hid (hon10.setAt 4 rfl 5 (.pointer gD))
 have x4: (w10.setCell (gW,5) (.pointer gD)).cell? (w.heap.size,4) =some (.int .i64 64):=(hon11.out.ab 8 rfl).cell 4
 clear hs4 hon9
 replace hon10:=hid hon10
 go_wp2_with fail
 generalize w10.setCell (gW,5) (.pointer gD) =w11 at *
 have hs5:=(H7 5 8 oM 3 4 (.inr ⟨rfl,rfl,rfl⟩) w11:Calls Tryz.prog 46 #[(5:Int),(64:Int)] w11 (b8 (λe B=> ∃g gr,e = .returned (.tuple #[.pointer (some ⟨g,0,none⟩),.bool true])∧B=aa (fe g gr 0 3 4 (List.replicate 8 0))) Nob w11))
 replace hs5:=hon11.out.make hs5
 refine hs5.mono ?_
 rintro e w12 ⟨B,⟨gR,gRr,rfl,rfl⟩,hon12⟩
 clear hs5 hon11 f5 c5 x4
 have f6:=(hon12.ab 5 rfl).frozen 6
 have c6:w12.cell? (gW,6) =some (.pointer none):=(hon12.ab 5 rfl).cell 6
 have hon13:=hid (hon12.setAt 5 rfl 6 (.pointer gR))
 replace hon12:=hid hon12
 go_wp2_with fail
 generalize w12.setCell (gW,6) (.pointer gR) =w13 at *
 clear f6 c6 hon12
 have hc9:=jt (w:=w13) (R:=λe B=> ∃g,e = .returned (.tuple #[.pointer (some ⟨g,0,none⟩),(0:Int)])∧B=sD g (Caps.made 0 0 ⟨#[]⟩)) (λw0 L h=>(KV h 0 0 ⟨#[]⟩ Om).mono λe w' ⟨g,he,h2⟩=>⟨_,⟨g,he,rfl⟩,h2⟩)
 replace hc9:=hon13.out.make hc9
 refine hc9.mono ?_
 rintro e w14 ⟨B,⟨gC,rfl,rfl⟩,hon14⟩
 clear hc9 hon13
 have f7:=(hon14.ab 6 rfl).frozen 7
 have c7:w14.cell? (gW,7) =some (.pointer none):=(hon14.ab 6 rfl).cell 7
 have hon15:=hon14.setAt 6 rfl 7 (.pointer gC)
 have hd:=((hon15.drop 10 rfl).front 3 rfl).front 6 rfl
 replace hd:=hid hd
 clear hon15
 replace hon14:=hid hon14
 go_wp2
 go_ret2
 exact⟨_,⟨⟨gW,gM,gb,gK,gS,gD,gDr,gR,gRr,gC,gT⟩,w8.heap.size,rfl,rfl⟩,hd.out⟩
structure Rw where
 S:Img
 K:Dc
 D:Dc
 kcl:Bool
 T:Caps.Tab
 dd:Nat
 da:List Int
 rd:Nat
 ra:List Int
 fault:Int
 used:Int
 hidden:Int
 av:Bool
def iP(r:Rc)(l:Nat)(ws:Value)(x:Rw) :List Asr:=
 [ae r.gW 83 (fo r l ws x.fault x.used x.hidden x.av),sD r.gC x.T,aa (fe r.gR r.gRr x.rd 3 4 x.ra),aa (fe r.gD r.gDr x.dd 1 2 x.da),
  bz r.gS r.gb 16448 16960 704 false x.D,bz r.gK r.gb 0 16384 17152 x.kcl x.K,ae r.gT 166 (qZ 0 0 1 0 true),
  ae r.gM 120 (aI r.gb x.S),RbA r.gb x.S]
def ik(r:Rc)(l:Nat)(ws:Value)(x:Rw) :Asr:=aa (iP r l ws x)
theorem mi(gb:Nat){S S':Img}(h:Alike S S') :aI gb S'=aI gb S:=by
 unfold aI
 rw[h.k,h.s,h.u,h.d,h.r,h.op,h.cl,h.beg]
section
variable {w w1:World}{F:Nat->Prop}{r:Rc}{l:Nat}{ws:Value}{x:Rw}
theorem oC(h:On F w (ik r l ws x) w1) :Blk w1 r.gW 83 (fo r l ws x.fault x.used x.hidden x.av):=On.ab (L:=iP r l ws x) 0 h rfl
theorem B3(h:On F w (ik r l ws x) w1)(hS:x.S.Ok) :cQ w1 r.gM r.gb x.S:=vu (L:=iP r l ws x) h 7 8 rfl rfl hS
theorem MQ(hb: (ik r l ws x).holds w F)(p rm:Int)(s:ByteArray)(h0:Caps.cC p rm s=0) :Calls Tryz.prog 19 #[r.gW,p,rm,.string s] w
 (b8 (λe B=> ∃g,e = .returned (.int .i64 0)∧B=ik { r with gC:=g } l ws { x with T:=Caps.made p rm s }) F w):=by
 have hon:On F w (aa (iP r l ws x)) w:=On.refl hb
 have hc9:=jt (w:=w) (R:=λe B=> ∃g,e = .returned (.tuple #[.pointer (some ⟨g,0,none⟩),(0:Int)])∧B=sD g (Caps.made p rm s)) (λw0 L h=>(KV h p rm s h0).mono λe w' ⟨g,he,h2⟩=>⟨_,⟨g,he,rfl⟩,h2⟩)
 replace hc9:=hid (hon.make hc9)
 clear hb hon h0
 go_enter Tryz.func19,Tryz.ntmps19
 go_wp2_with fail
 refine hc9.out.mono ?_
 rintro e w2 ⟨B,⟨g,rfl,rfl⟩,hon2⟩
 have f7:=(On.ab 1 hon2 rfl).frozen 7
 have c7:w2.cell? (r.gW,7) =some (r.gC:Vl):=(On.ab 1 hon2 rfl).cell 7
 have hon3:=On.setAt 1 hon2 rfl 7 (.pointer g)
 have hd:On F w (aa (iP { r with gC:=g } l ws { x with T:=Caps.made p rm s })) _:=(On.drop (On.front 1 hon3 rfl) 2 rfl)
 replace hd:=hid hd
 replace hon2:=hid hon2
 clear hon3
 go_wp2
 go_ret
 exact⟨_,⟨g,rfl,rfl⟩,hd.out⟩
theorem LQ(hb: (ik r l ws x).holds w F)(hS:x.S.Ok)(hc:x.S.cl=false) :Calls Tryz.prog 26 #[r.gW] w (Got (.returned (.tuple #[])) (ik r l ws { x with S:={ x.S with op:=true } }) F w):=by
 have hon:On F w (ik r l ws x) w:=On.refl hb
 have hop:=Mg (B3 hon hS) hc
 have c0:w.cell? (r.gW,0) =some (r.gM:Vl):=(oC hon).cell 0
 have hfin:On F w (aa (iP r l ws { x with S:={ x.S with op:=true } })) (w.setCell (r.gM,6) (.bool true)):=On.setAt (L:=iP r l ws x) 7 hon rfl 6 (.bool true)
 replace hop:=hid hop
 replace hfin:=hid hfin
 clear hb hon hS hc
 go_enter Tryz.func26,Tryz.ntmps26
 go_wp2_with fail
 refine hop.out.mono ?_
 rintro e w2 ⟨rfl,rfl⟩
 go_wp2
 go_end0
 exact⟨rfl,hfin.out⟩
theorem Li(hb: (ik r l ws x).holds w F)(hS:x.S.Ok)(hc:x.S.cl=false) :Calls Tryz.prog 30 #[r.gW] w (Got (.returned (.tuple #[])) (ik r l ws { x with S:=x.S.eA,kcl:=true }) F w):=by
 have hon:On F w (ik r l ws x) w:=On.refl hb
 have hop:=MD (B3 hon hS) hc
 have c0:w.cell? (r.gW,0) =some (r.gM:Vl):=(oC hon).cell 0
 have hmid:On F w (aa (iP r l ws { x with S:=x.S.eA })) (w.setCell (r.gM,7) (.bool true)):=On.setAt (L:=iP r l ws x) 7 hon rfl 7 (.bool true)
 have c1: (w.setCell (r.gM,7) (.bool true)).cell? (r.gW,1) =some (r.gK:Vl):=(oC (x:={ x with S:=x.S.eA }) hmid).cell 1
 have hbk:Blk (w.setCell (r.gM,7) (.bool true)) r.gK 145 (jh r.gb 0 16384 17152 x.kcl x.K):=On.ab (L:=iP r l ws { x with S:=x.S.eA }) 5 hmid rfl
 have ck: (w.setCell (r.gM,7) (.bool true)).cell? (r.gK,2) =some (.bool x.kcl):=hbk.cell 2
 have fk:=hbk.frozen 2
 have hfin:On F w (aa (iP r l ws { x with S:=x.S.eA,kcl:=true })) _:=On.setAt (L:=iP r l ws { x with S:=x.S.eA }) 5 hmid rfl 2 (.bool true)
 replace hop:=hid hop
 replace hfin:=hid hfin
 clear hb hon hS hc hmid hbk
 generalize w.setCell (r.gM,7) (.bool true) =wm at *
 go_enter Tryz.func30,Tryz.ntmps30
 go_wp2_with fail
 refine hop.out.mono ?_
 rintro e w2 ⟨rfl,rfl⟩
 go_wp2
 go_end0
 exact⟨rfl,hfin.out⟩
end
def yA(gM gb:Nat)(S:Img) :List Asr:=[ae gM 120 (aI gb S),RbA gb S]
section
variable {w w1:World}{F:Nat->Prop}{gM gb:Nat}{S:Img}
theorem Cf(h:On F w (aa (yA gM gb S)) w1)(hS:S.Ok) :cQ w1 gM gb S:=vu (L:=yA gM gb S) h 0 1 rfl rfl hS
theorem Jp{k:Nat}{l:List UInt8}(h:On F w (aa [ae gM 120 (aI gb S),RbA gb (S.put k l)]) w1) :On F w (aa (yA gM gb (S.put k l))) w1:=by
 unfold yA
 rw[mi gb (Alike.put S k l)]
 exact h
theorem Ij(S:Img)(l:List UInt8)(h:l.length<=S.s) : (l++List.replicate (S.s-l.length) (0:UInt8)).length=S.s:=by simp;omega
theorem LW(h:On F w (aa (yA gM gb S)) w1)(hS:S.Ok)(s:ByteArray)(hs:s.size<=S.s)(hs2:S.s<=4096) :
 Calls Tryz.prog 28 #[gM,.string s] w1 (Got (.returned (.int .i64 0)) (aa (yA gM gb (Setup.load S s.data.toList))) F w):=by
 have hnl:s.data.toList.length=s.size:=by rw[Lib.size_eq]
 have hspan:=nx (Cf h hS) 2
 have ha:cT S 2= (S.beg 2:Int):=by unfold cT;rw[if_pos oM];rfl
 have hb:fZ S 2= ((S.beg 2+S.s:Nat) :Int):=by unfold fZ;rw[if_pos oM];rfl
 rw[ha,hb]at hspan
 have hfl:=Ij S s.data.toList (by rw[hnl];exact hs)
 have hall:S.beg 2+S.s<=S.beg 6:=by simp only[Img.beg];omega
 have hsm:=hS.small
 have hlen:=hS.len
 have e:Setup.load S s.data.toList=S.put (S.beg 2) (s.data.toList++List.replicate (S.s-s.data.toList.length) 0):=rfl
 rw[e]
 have hgl : ∀j,j<s.size->(s.data.toList++List.replicate (S.s-s.data.toList.length) (0:UInt8)).getD j 0=s.data.toList.getD j 0:=λj hj=>by
  rw[List.getD_eq_getElem?_getD,List.getElem?_append_left (by rw[hnl];exact hj),List.getD_eq_getElem?_getD]
 have hgz : ∀j,s.size<=j->(s.data.toList++List.replicate (S.s-s.data.toList.length) (0:UInt8)).getD j 0=0:=λj hj=>by
  rw[List.getD_eq_getElem?_getD,List.getElem?_append_right (by rw[hnl];exact hj),List.getElem?_replicate]
  split<;>rfl
 have hix:=λ(j:Nat) (h:j<s.size)=>gn s j h
 generalize hfull:s.data.toList++List.replicate (S.s-s.data.toList.length) (0:UInt8) =full at *
 have hB : ∀(j:Nat) W,j<S.s->On F w (aa [ae gM 120 (aI gb S),RbA gb (S.put (S.beg 2) (full.take j))]) W->
  (W.cell? (gM,1) =some ((S.s:Int) :Vl)∧W.cell? (gM,5) =some (.slice gb (S.beg 6) (S.beg 6)))∧(∃x,W.cell? ⟨gb,S.beg 2+j,none⟩ =some (.int .u8 x))∧W.frozen? ⟨gb,S.beg 2+j,none⟩ =false∧gM≠gb:=λj W hj h=>by
  have h1:Blk W gM 120 (aI gb S):=h.ab 0 rfl
  have h2:Blk W gb 5 (ag (S.put (S.beg 2) (full.take j)).b).toArray:=h.ab 1 rfl
  have hl2: (S.put (S.beg 2) (full.take j)).b.length=S.b.length:=S.jw _ _ (by rw[List.length_take,hlen];omega)
  refine⟨⟨h1.cell 1,h1.cell 5⟩,⟨((S.put (S.beg 2) (full.take j)).b.getD (S.beg 2+j) 0).toNat,?_⟩,h2.frozen _,h1.ne_ h2 (by decide)⟩
  rw[h2.cell]
  have h3:S.beg 2+j< (S.put (S.beg 2) (full.take j)).b.length:=by omega
  simp[ag,h3]
 have hset : ∀(j:Nat) W,j<S.s->On F w (aa [ae gM 120 (aI gb S),RbA gb (S.put (S.beg 2) (full.take j))]) W->∀(W2:World),On F w (aa [ae gM 120 (aI gb S),ae gb 5 ((ag (S.put (S.beg 2) (full.take j)).b).toArray.setIfInBounds (S.beg 2+j) (.int .u8 ((full.getD j 0).toNat:Int)))]) W2->
  On F w (aa [ae gM 120 (aI gb S),RbA gb (S.put (S.beg 2) (full.take (j+1)))]) W2:=λj W hj h W2 h2=>by
  have e:=sW S.b (S.beg 2) full j (by rw[hfl];exact hj) (by rw[hlen];omega)
  have e2: (ag (S.put (S.beg 2) (full.take j)).b).toArray.setIfInBounds (S.beg 2+j) (.int .u8 ((full.getD j 0).toNat:Int)) = (ag (S.put (S.beg 2) (full.take (j+1))).b).toArray:=e
  rw[e2]at h2
  exact h2
 have hone : ∀(j:Nat) W,j<S.s->On F w (aa [ae gM 120 (aI gb S),RbA gb (S.put (S.beg 2) (full.take j))]) W->s.size<=j->On F w (aa [ae gM 120 (aI gb S),RbA gb (S.put (S.beg 2) (full.take (j+1)))]) (W.setCell ⟨gb,S.beg 2+j,none⟩ (.int .u8 0)):=λj W hj h hz=>by
  have h2:=h.setAt 1 rfl (S.beg 2+j) (.int .u8 0)
  refine hset j W hj h _ ?_
  rw[hgz j hz]
  exact h2
 have htwo : ∀(j:Nat) W,j<S.s->On F w (aa [ae gM 120 (aI gb S),RbA gb (S.put (S.beg 2) (full.take j))]) W->j<s.size->On F w (aa [ae gM 120 (aI gb S),RbA gb (S.put (S.beg 2) (full.take (j+1)))]) ((W.setCell ⟨gb,S.beg 2+j,none⟩ (.int .u8 0)).setCell ⟨gb,S.beg 2+j,none⟩ (.int .u8 ((s.data.toList.getD j 0).toNat:Int))):=λj W hj h hz=>by
  have h1:=h.setAt 1 rfl (S.beg 2+j) (.int .u8 0)
  have h2:=h1.setAt 1 rfl (S.beg 2+j) (.int .u8 ((s.data.toList.getD j 0).toNat:Int))
  refine hset j W hj h _ ?_
  rw[hgl j hz]
  rw[Array.setIfInBounds_setIfInBounds]at h2
  exact h2
 have hend:=λW (h:On F w (aa [ae gM 120 (aI gb S),RbA gb (S.put (S.beg 2) (full.take S.s))]) W)=>(by
  rw[List.take_of_length_le (by rw[hfl];exact Nat.le_refl _)]at h
  exact Jp h:On F w (aa (yA gM gb (S.put (S.beg 2) full))) W)
 have hst : ∀W,On F w (aa (yA gM gb S)) W->On F w (aa [ae gM 120 (aI gb S),RbA gb (S.put (S.beg 2) (full.take 0))]) W:=λW h=>by
  rw[List.take_zero,Img.fP]
  exact h
 have c1:w1.cell? (gM,1) =some ((S.s:Int) :Vl):=(Cf h hS).cells.2.1
 generalize S.put (S.beg 2) full=Sf at *
 generalize S.beg 2=b at *
 generalize S.beg 6=N at *
 generalize S.s=n at *
 replace h:=hid h
 replace hspan:=hid hspan
 replace hix:=hid hix
 replace hB:=hid hB
 replace hone:=hid hone
 replace htwo:=hid htwo
 replace hend:=hid hend
 replace hst:=hid hst
 clear hset hgl hgz ha hb hfl e hnl hfull hlen hS
 go_enter Tryz.func28,Tryz.ntmps28
 go_wp2_with fail
 refine hspan.out.mono ?_
 rintro e w2 ⟨rfl,hbl⟩
 have h2:=hid (hst.out _ (h.out.below hbl))
 clear hbl h c1
 go_wp2
 go_loopg [7] n (λk t wr=> ∃j:Nat,j+k=n∧t = .int .i64 (j:Int)∧On F w (aa [ae gM 120 (aI gb S),RbA gb (S.put b (full.take j))]) wr)
 case atStart=>exact⟨0,by omega,rfl,h2.out⟩
 case round=>
  obtain⟨j,hj,rfl,hon⟩:=hrel
  by_cases hjn:j<n
  ·obtain⟨⟨c1,c5⟩,⟨xo,cx⟩,fx,hne⟩:=hB.out j wr hjn hon
   by_cases hz:j<s.size
   ·have hf:=hid (htwo.out j wr hjn hon hz)
    have hx:=hix.out j hz (wr.setCell ⟨gb,b+j,none⟩ (.int .u8 0)).drew
    replace hon:=hid hon
    generalize ((s.data.toList.getD j 0).toNat:Int) =c at *
    go_wp2_with fail
    go_region
    go_wp2
    go_roundg (gk-1)
    case measure=>omega
    case rel=>exact⟨j+1,by omega,by go_num,hf.out.drew⟩
   ·have hf:=hid (hone.out j wr hjn hon oM)
    replace hon:=hid hon
    go_wp2
    go_roundg (gk-1)
    case measure=>omega
    case rel=>exact⟨j+1,by omega,by go_num,hf.out⟩
  ·have hjj:j=n:=by omega
   subst hjj
   replace hon:=hid (hend.out _ hon)
   go_wp2
   go_ret
   exact⟨rfl,hon.out⟩
end
end Vm
end Go.Proofs.YtjohhkikoejadaaGreatDoor
