/- Chapter 11. No condition. -/
import Derived.Test.YtilaogbkdbbdkaaGreatDoorZ21
import Derived.Test.YtilaogbkdbbdkaaGreatDoorZ26
open Go.Proofs.Tryz
namespace Go.Proofs.YtilaogbkdbbdkaaGreatDoor
set_option linter.unusedVariables false
set_option linter.unusedSimpArgs false
set_option maxHeartbeats 8000000
open Go.RowKit Go.Lib
namespace Vm
structure Wrd where
 name:ByteArray
 hid:Bool
 imm:Bool
 cells:List Int
def eO:List Int->Img×Dc->Img×Dc
 | [],q=>q
 | v::l,q=>if q.2.bm q.1=0 then eO l (q.2.bi q.1 v,q.2.bw q.1)else q
def lu(x:Wrd)(S:Img)(D:Dc):Img:=
 if x.imm then D.bO (if x.hid then S else D.bO S eH) lp else if x.hid then S else D.bO S eH
def db(x:Wrd)(q:Img×Dc):Img×Dc:=
 if q.2.bU q.1 x.name.data.toList≠0 then q
 else eO x.cells (lu x (q.2.bQ q.1 x.name.data.toList) (q.2.cg q.1 x.name.data.toList),q.2.cg q.1 x.name.data.toList)
def co(xs:List Wrd)(q:Img×Dc):Img×Dc:=(xs.take 20).foldl (λq x=>db x q) q
structure dX(q q':Img×Dc):Prop where
 img:q'.1.Ok
 dc:q'.2.Ok q'.1
 al:Alike q.1 q'.1
 rg:q'.2.rg=q.2.rg
theorem dX.refl{q:Img×Dc}(h1:q.1.Ok)(h2:q.2.Ok q.1):dX q q:=⟨h1,h2,Alike.refl _,rfl⟩
theorem dX.trans{a b c:Img×Dc}(h:dX a b)(g:dX b c):dX a c:=⟨g.img,g.dc,h.al.trans g.al,g.rg.trans h.rg⟩
theorem Ew(b:UInt8):eH b= (b &&& ~~~(32:UInt8) ||| 0):=by
 unfold eH
 rw[UInt8.or_zero]
 rfl
theorem HQ(b:UInt8):lp b= (b &&& ~~~(0:UInt8) ||| 64):=by
 unfold lp
 have h:b &&& ~~~(0:UInt8)=b:=by
  rw[show ~~~(0:UInt8)=255 from rfl]
  apply UInt8.toNat_inj.1
  rw[UInt8.toNat_and]
  have h1: ∀n:Fin 256,n.val &&& 255=n.val:=by decide +kernel
  exact h1 ⟨b.toNat,b.toNat_lt⟩
 rw[h]
theorem F0(S:Img)(D:Dc):D.bO S eH=D.cy S 32 0:=by
 unfold Dc.bO Dc.cy
 split
 ·rfl
 ·rw[Ew]
theorem He(S:Img)(D:Dc):D.bO S lp=D.cy S 0 64:=by
 unfold Dc.bO Dc.cy
 split
 ·rfl
 ·rw[HQ]
section
variable {S:Img}{D:Dc}
theorem oW(hS:S.Ok)(hD:D.Ok S):dX (S,D) (D.bO S eH,D):=by
 rw[F0]
 have h:=Dc.CC hS hD 32 0
 exact⟨h.1,h.2,Dc.nf _ _ _ _,rfl⟩
theorem xe(hS:S.Ok)(hD:D.Ok S):dX (S,D) (D.bO S lp,D):=by
 rw[He]
 have h:=Dc.CC hS hD 0 64
 exact⟨h.1,h.2,Dc.nf _ _ _ _,rfl⟩
theorem kh(hS:S.Ok)(hD:D.Ok S)(v:Int):dX (S,D) (D.bi S v,D.bw S):=by
 have h:=Dc.rR hS hD v
 refine⟨h.1,h.2,Dc.kW _ _ _,?_⟩
 show(D.bw S).rg=D.rg
 unfold Dc.bw
 split<;>rfl
theorem lj(hS:S.Ok)(hD:D.Ok S)(n:List UInt8):dX (S,D) (D.bQ S n,D.cg S n):=by
 have h:=Dc.FD hS hD n
 refine⟨h.1,h.2,Dc.np _ _ _,?_⟩
 show(D.cg S n).rg=D.rg
 unfold Dc.cg
 split<;>rfl
theorem uk(x:Wrd)(hS:S.Ok)(hD:D.Ok S):dX (S,D) (lu x S D,D):=by
 have h1:dX (S,D) (if x.hid then S else D.bO S eH,D):=by
  split
  ·exact dX.refl hS hD
  ·exact oW hS hD
 unfold lu
 split
 ·exact h1.trans (xe h1.img h1.dc)
 ·exact h1
end
theorem pM: ∀(l:List Int) (q:Img×Dc),q.1.Ok->q.2.Ok q.1->dX q (eO l q)
 | [],q,h1,h2=>dX.refl h1 h2
 | v::l,q,h1,h2=>by
   unfold eO
   split
   ·have h:=kh (S:=q.1) (D:=q.2) h1 h2 v
    exact h.trans (pM l _ h.img h.dc)
   ·exact dX.refl h1 h2
theorem uv(x:Wrd)(q:Img×Dc)(h1:q.1.Ok)(h2:q.2.Ok q.1):dX q (db x q):=by
 unfold db
 split
 ·exact dX.refl h1 h2
 ·have h:=lj (S:=q.1) (D:=q.2) h1 h2 x.name.data.toList
  have g:=uk x h.img h.dc
  exact(h.trans g).trans (pM _ _ g.img g.dc)
theorem oO: ∀(xs:List Wrd) (q:Img×Dc),q.1.Ok->q.2.Ok q.1->dX q (xs.foldl (λq x=>db x q) q)
 | [],q,h1,h2=>dX.refl h1 h2
 | x::xs,q,h1,h2=>by
   have h:=uv x q h1 h2
   exact h.trans (oO xs _ h.img h.dc)
theorem er(xs:List Wrd)(q:Img×Dc)(h1:q.1.Ok)(h2:q.2.Ok q.1):dX q (co xs q):=oO _ q h1 h2
theorem dX.shut{q q':Img×Dc}(h:dX q q'):q'.2.shut q'.1=q.2.shut q.1:=by
 unfold Dc.shut
 rw[h.al.cl,h.rg]
structure Setup where
 dp:Int
 room:Int
 input:ByteArray
 hidden:ByteArray
 opened:Bool
 kernel:List Wrd
 aT:List Wrd
 base:Int
 data:List Int
 ret:List Int
 fault:Int
 used:Int
 eF:Int
def ew(c n:Int):Int:=(if c<0 then -(c+1)else c) % n
def bk:Img:=ev 16384 64 512 128 64
def gH:Dc:=⟨1,8,0⟩
def iA:Dc:=⟨3,16456,0⟩
theorem oL:Fits 16384 64 512 128 64:=⟨by omega,by omega,by omega,by omega,by omega,by omega,by omega,by omega,by omega,by omega,by omega,by omega,by omega,by omega⟩
theorem gn:bk.Ok:=oB oL
theorem oj{S:Img}(h:Alike bk S):gH.Ok S:=
 Dc.Ok.alike (S:=bk) ⟨.inl rfl,by decide,by decide,.inl rfl,by decide,by decide⟩ h
theorem om{S:Img}(h:Alike bk S):iA.Ok S:=
 Dc.Ok.alike (S:=bk) ⟨.inr rfl,by decide,by decide,.inl rfl,by decide,by decide⟩ h
namespace Setup
variable (s:Setup)
def iy:Bool:=decide (4096<s.input.size) ||decide (64<s.hidden.size)
def inp:ByteArray:=if s.iy then⟨#[]⟩else s.input
def hid:ByteArray:=if s.iy then⟨#[]⟩else s.hidden
def k1:Img×Dc:=co s.kernel (bk,gH)
def t1:Img×Dc:=co s.aT (s.k1.1,iA)
def load(S:Img)(l:List UInt8):Img:=S.put (S.beg 2) (l++List.replicate (S.s-l.length) 0)
def i2:Img:=if s.opened then s.t1.1.opened else s.t1.1
def i3:Img:=(load s.i2 s.hid.data.toList).eR
def m0:Mt:=⟨s.i3,⟨16960,16,1,2⟩,⟨17088,8,3,4⟩,0,0,af.made (ew s.dp 32) (ew s.room 65537) s.inp,s.t1.2.h,s.t1.2.l,s.k1.2.h,s.k1.2.l,0,0,0,false,[],Ext.zero⟩
def m1:Mt:=(s.m0.dy (s.data.take 16)).az (s.ret.take 8)
def mt:Mt:={ s.m1 with S:=s.m1.S.setCell 0 16448 s.base,fault:=s.fault,used:=s.used,hidden:=s.eF,au:=true }
end Setup
def cC(l:List Int):List UInt8:=l.flatMap toB
theorem kj(l:List Int): (cC l).length=8*l.length:=by
 induction l with
 | nil=>rfl
 | cons v l ih=>
   show(toB v++cC l).length=_
   rw[List.length_append,aI,ih,List.length_cons]
   omega
theorem oR: ∀(l:List Int) (i:Nat) (v:Int),l[i]? = some v->((cC l).drop (8*i)).take 8=toB v
 | [],i,v,h=>by simp at h
 | u::l,0,v,h=>by
   obtain rfl:u=v:=by simpa using h
   show(toB u++cC l).take 8=_
   rw[List.take_append_of_le_length (by rw[aI];exact Nat.le_refl _),List.take_of_length_le (by rw[aI];exact Nat.le_refl _)]
 | u::l,i+1,v,h=>by
   show((toB u++cC l).drop (8* (i+1))).take 8=_
   rw[List.drop_append,List.drop_eq_nil_of_le (by rw[aI];omega),List.nil_append,aI,show 8* (i+1) -8=8*i by omega]
   exact oR l i v (by simpa using h)
theorem mO: ∀(l:List Int) (S:Img) (D:Dc),S.Ok->D.Ok S->D.h % 8=0->D.h+8*l.length<=D.lim S->D.shut S=false->
 eO l (S,D)= (S.put D.h (cC l),{ D with h:=D.h+8*l.length })
 | [],S,D,_,_,_,_,_=>by
   show(S,D)= (S.put D.h [],D)
   rw[Img.fK]
 | v::l,S,D,hS,hD,h8,hl,R7=>by
   have ZM:8* (v::l).length=8+8*l.length:=by rw[List.length_cons];omega
   have e:D.bm S=0:=by
    unfold Dc.bm
    rw[if_neg oM,if_neg oM,if_neg (by rw[R7];decide)]
   have g:=kh hS hD v
   have e1:D.bi S v=S.put D.h (toB v):=by unfold Dc.bi;rw[if_pos e]
   have e2:D.bw S = { D with h:=D.h+8 }:=by unfold Dc.bw;rw[if_pos e]
   rw[e1,e2]at g
   unfold eO
   rw[if_pos e,e1,e2,mO l _ _ g.img g.dc (by show(D.h+8) % 8=0;omega) (by
    show D.h+8+8*l.length<=_
    rw[Dc.jE (D:={ D with h:=D.h+8 }) (Alike.put S D.h (toB v))]
    show D.h+8+8*l.length<=D.lim S
    omega) (by
    rw[Dc.sH (D:={ D with h:=D.h+8 }) (Alike.put S D.h (toB v))]
    exact R7)]
   have hp: (S.put D.h (toB v)).put (D.h+8) (cC l)=S.put D.h (toB v++cC l):=by
    have:=S.iU D.h (toB v) (cC l) (by rw[aI,hS.len];have:=hD.all;omega)
    rw[aI]at this
    exact this
   rw[show({ D with h:=D.h+8 }:Dc).h=D.h+8 from rfl,hp,ZM,show D.h+ (8+8*l.length)=D.h+8+8*l.length by omega]
   rfl
structure di(S:Img)(a:Nat)(cs:List Int):Prop where
 al:a % 8=0
 lo:S.beg 3<=a
 hi:a+8*cs.length<=S.beg 4
 at_: ∀i v,cs[i]? = some v->ofB (S.bytes ((a+8*i:Nat):Int) 8)=v
theorem di.put{S:Img}{a:Nat}{cs:List Int}(h:di S a cs)(hS:S.Ok)(k:Nat)(l:List UInt8)(hk:k+l.length<=S.beg 6)(hf:k+l.length<=a∨a+8*cs.length<=k):di (S.put k l) a cs:=by
 have hb:=Alike.put S k l
 have h64:S.beg 4<=S.beg 6:=S.bN oM oM oM
 have ZA:=h.hi
 refine⟨h.al,by rw[hb.beg];exact h.lo,by rw[hb.beg];exact h.hi,λi v hv=> ?_⟩
 have hi:i<cs.length:=(List.getElem?_eq_some_iff.1 hv).1
 rw[S.mm k _ 8 l (by rw[hS.len];exact hk) (by rw[hS.len];omega) oM]
 exact h.at_ i v hv
theorem di.cell{S:Img}{a:Nat}{cs:List Int}(h:di S a cs)(m:Int)(hm:0<=m∧m<=2)(i:Nat)(v:Int)(hv:cs[i]? = some v):S.ay m ((a:Int) +8* (i:Int)) false=0∧S.aP m ((a:Int) +8* (i:Int))=v:=by
 have hi:i<cs.length:=(List.getElem?_eq_some_iff.1 hv).1
 have h1:=h.lo
 have h2:=h.hi
 have h3:=h.al
 rw[show(a:Int) +8* (i:Int)= ((a+8*i:Nat):Int)by omega]
 have hr:S.region ((a+8*i:Nat):Int)=3:=S.dn oM oM oM oM (by show _< ((S.beg 4:Nat):Int);omega)
 have An:S.aO m ((a+8*i:Nat):Int) 8 false=true:=by
  unfold Img.aO Img.lets Img.may
  rw[hr]
  have XV:S.beg (3+1)=S.beg 4:=rfl
  have h4:decide (((8:Nat):Int)<=(S.beg (3+1):Int) - ((a+8*i:Nat):Int))=true:=decide_eq_true (by rw[XV];omega)
  rw[h4]
  rcases(show m=0∨m=1∨m=2 by omega)with rfl|rfl|rfl<;>simp
 have hF:S.ay m ((a+8*i:Nat):Int) false=0:=by
  unfold Img.ay
  rw[if_neg oM,if_pos An]
 refine⟨hF,?_⟩
 unfold Img.aP
 rw[if_pos hF]
 exact h.at_ i v hv
theorem Ai(S:Img)(hS:S.Ok)(a:Nat)(cs:List Int)(hc: ∀v∈cs,V64 v)(h8:a % 8=0)(Sg:S.beg 3<=a)(ZA:a+8*cs.length<=S.beg 4):di (S.put a (cC cs)) a cs:=by
 have hb:=Alike.put S a (cC cs)
 have h64:S.beg 4<=S.beg 6:=S.bN oM oM oM
 refine⟨h8,by rw[hb.beg];exact Sg,by rw[hb.beg];exact ZA,λi v hv=> ?_⟩
 have hi:i<cs.length:=(List.getElem?_eq_some_iff.1 hv).1
 rw[S.kg a (8*i) 8 _ (by rw[kj,hS.len];omega) (by rw[kj];omega),oR cs i v hv]
 exact vK v (hc v (List.mem_of_getElem? hv))
theorem di.aE{S:Img}{a:Nat}{cs:List Int}(h:di S a cs)(m:Int)(hm:0<=m∧m<=2)(i:Nat)(v op arg:Int)(hv:cs[i]? = some v)(hu:Code.unpack v= (op,arg,true))(h2:op≠2)(h19:op≠19):S.aE m ((a:Int) +8* (i:Int))= (⟨op,arg,0,1⟩,0):=by
 obtain⟨h3,h4⟩:=h.cell m hm i v hv
 unfold Img.aE
 rw[if_neg (by rw[h3];decide),h4,hu,if_neg (by simp),if_neg h2,if_neg h19]
theorem di.sC{S:Img}{a:Nat}{cs:List Int}(h:di S a cs)(m:Int)(hm:0<=m∧m<=2)(i:Nat)(v:Int)(hv:cs[i]? = some 2)(Ry:cs[i+1]? = some v):S.aE m ((a:Int) +8* (i:Int))= (⟨2,0,v,2⟩,0):=by
 obtain⟨h3,h4⟩:=h.cell m hm i 2 hv
 obtain⟨h5,h6⟩:=h.cell m hm (i+1) v Ry
 rw[show(a:Int) +8* ((i+1:Nat):Int)= (a:Int) +8* (i:Int) +8 by omega]at h5 h6
 have hu:Code.unpack 2= (2,0,true):=by decide
 unfold Img.aE
 rw[if_neg (by rw[h3];decide),h4,hu,if_neg (by simp),if_pos rfl,if_neg (by rw[h5];decide),h6]
end Vm
set_option maxRecDepth 100000
open Go.RowKit Go.Lib Go.Deep
namespace Vm
structure HR(c:Vc)(src:Value)(s:Mt)(gs:Nat)(L:List Asr):Prop where
 at_:src = .pointer gs
 rest: ∀k,c.rest ⟨s.ext.text,k⟩=iS gs s.ext.text k::L
 sz:s.ext.text.size<=60000
 le:s.ext.at_<=s.ext.text.size
def exW(e:Ext):ByteArray:=e.text.extract (eV e.text.data.toList e.at_) (j4 e.text.data.toList e.at_)
def exN(e:Ext):Nat:=jq e.text.data.toList e.at_
def Mt.Bk(s:Mt)(k:Nat):Mt:={ s with ext:=⟨s.ext.text,k⟩ }
section
variable {w w':World}{F:Nat->Prop}{c:Vc}{g gs:Nat}{x:Rn}{src:Value}{s:Mt}{B:Asr}{L:List Asr}
theorem HR.word(h:HR c src s gs L)(so:On F w (aa (B::vL c g x src s)) w'):
 Calls prog 163 #[gs] w' (Got (.returned (.tuple #[.string (exW s.ext),((exN s.ext:Nat) - (s.ext.at_:Int):Int)])) (aa (B::vL c g x src (s.Bk (exN s.ext)))) F w):=by
 have e1:c.rest s.ext=iS gs s.ext.text s.ext.at_::L:=h.rest s.ext.at_
 have h1:=so.bG (A:=iS gs s.ext.text s.ext.at_) (A':=iS gs s.ext.text (exN s.ext)) (e0:= .returned (.tuple #[.string (exW s.ext),((exN s.ext:Nat) - (s.ext.at_:Int):Int)])) 10 (by show(c.rest s.ext)[0]? = _;rw[e1];rfl) (λF' ha=>(FK gs s.ext.text (by have:=h.sz;omega) s.ext.at_ h.le w' F' ha).mono λe w2 ⟨v,A',F2,⟨hv,hA⟩,he,hh,hk,hF⟩=>by subst hv hA;exact⟨he,F2,hh,hk,hF⟩)
 have e2: (B::vL c g x src s).set 10 (iS gs s.ext.text (exN s.ext))=B::vL c g x src (s.Bk (exN s.ext)):=by
  show B::nc c g x src::jQb c s::_::_::_::_::_::_::_:: (c.rest s.ext).set 0 _=B::nc c g x src::jQb c s::_::_::_::_::_::_::_::c.rest ⟨s.ext.text,exN s.ext⟩
  rw[e1,h.rest]
  rfl
 rw[e2]at h1
 exact h1
theorem HR.back{w2:World}{k:Nat}(h:HR c src s gs L)(B:Asr)(h2:On F w (aa (B::vL c g x src (s.Bk k))) w2):
 On F w (VA c g x src s) (((w2.setCell (gs,0) (.string s.ext.text)).setCell (gs,1) (.int .i64 (s.ext.at_:Int))).setCell (gs,2) (.int .i64 ((lfs (s.ext.text.data.toList.take s.ext.at_):Nat):Int))).drew:=by
 have e1:c.rest s.ext=iS gs s.ext.text s.ext.at_::L:=h.rest s.ext.at_
 have h3:On F w (aa (B::nc c g x src::jQb c s::av c.gI s.S::cS c.gI c.gD s.pd s.d::cS c.gI c.gR s.pr s.r::dF c.gT s.T::kD c.gI c.gS c.sfr c.sto s.hs s.ls::kD c.gI c.gK c.kfr c.kto s.hk s.lk::c.tl s.seen::iS gs s.ext.text k::L)) w2:=by
  rw[<-h.rest k]
  exact h2
 have h4:=((h3.setAt 10 rfl 0 (.string s.ext.text)).setAt 10 rfl 1 (.int .i64 (s.ext.at_:Int))).setAt 10 rfl 2 (.int .i64 ((lfs (s.ext.text.data.toList.take s.ext.at_):Nat):Int))
 refine On.drew ?_
 have h5:=h4.tail
 unfold VA vL
 rw[e1]
 exact h5
end
structure bH(S:Img):Prop where
 k:S.k=16384
 s:S.s=64
 u:S.u=512
 d:S.d=128
 r:S.r=64
theorem bH.dU{S:Img}(h:bH S):S.beg 2=16384∧S.beg 3=16448∧S.beg 4=16960∧S.beg 5=17088∧S.beg 6=17152:=by
 simp[Img.beg,h.k,h.s,h.u,h.d,h.r]
theorem bH.alike{S T:Img}(h:bH S)(ha:Alike S T):bH T:=⟨ha.k.trans h.k,ha.s.trans h.s,ha.u.trans h.u,ha.d.trans h.d,ha.r.trans h.r⟩
theorem zj:bH bk:=⟨rfl,rfl,rfl,rfl,rfl⟩
theorem Lx{S:Img}(hL:bH S)(x:Nat)(h1:16960<=x)(h2:x+8<=17152)(h8:x % 8=0)(w:Bool):S.ay 0 (x:Int) w=0:=by
 obtain⟨b2,b3,b4,b5,b6⟩:=hL.dU
 have hr: ∃j,(j=4∨j=5)∧S.region (x:Int)=j∧x+8<=S.beg (j+1):=by
  by_cases h:x<17088
  ·exact⟨4,.inl rfl,S.dn oM oM oM oM (by show(x:Int) <S.beg 5;omega),by show x+8<=S.beg 5;omega⟩
  ·exact⟨5,.inr rfl,S.dn oM oM oM oM (by show(x:Int) <S.beg 6;omega),by show x+8<=S.beg 6;omega⟩
 obtain⟨j,hj,hr,hle⟩:=hr
 have An:S.aO 0 (x:Int) 8 w=true:=by
  unfold Img.aO Img.lets Img.may
  rw[hr]
  have h4:decide (((8:Nat):Int)<=(S.beg (j+1):Int) - (x:Int))=true:=decide_eq_true oM
  rw[h4]
  rcases hj with rfl|rfl<;>cases w<;>simp
 unfold Img.ay
 rw[if_neg oM,if_pos An]
def gU(fr i:Nat):Prop:=(fr=16960∧i<16)∨(fr=17088∧i<8)
theorem nV{S:Img}(hL:bH S){fr i:Nat}(h:gU fr i)(v:Int):fh S fr i v=S.put (fr+8*i) (toB v):=by
 unfold gU at h
 unfold fh Img.setCell
 rw[show(fr:Int) +8* (i:Int)= ((fr+8*i:Nat):Int)by omega,if_pos (Lx hL _ oM oM oM true),Int.toNat_natCast]
theorem tL{S:Img}(hS:S.Ok)(hL:bH S){fr i:Nat}(h:gU fr i)(v:Int)(hv:V64 v):gv (S.put (fr+8*i) (toB v)) fr i=v:=by
 obtain⟨b2,b3,b4,b5,b6⟩:=hL.dU
 unfold gU at h
 unfold gv
 have hc:=Lx hL (fr+8*i) oM oM oM false
 rw[show(fr:Int) +8* (i:Int)= ((fr+8*i+0:Nat):Int)by omega,vJ S hS 0 (fr+8*i) 0 (toB v) (by rw[aI];omega) (by rw[aI];omega) hc]
 rw[List.drop_zero,List.take_of_length_le (by rw[aI];omega)]
 exact vK v hv
theorem nv{S:Img}(hS:S.Ok)(hL:bH S){fr i fr' i':Nat}(h:gU fr i)(h':gU fr' i')(RP:fr+8*i≠fr'+8*i')(v:Int):gv (S.put (fr+8*i) (toB v)) fr' i'=gv S fr' i':=by
 obtain⟨b2,b3,b4,b5,b6⟩:=hL.dU
 unfold gU at h h'
 unfold gv
 exact mv S hS 0 _ (fr+8*i) (toB v) (by rw[aI];omega) (by rw[aI];omega)
theorem qY: ∀(l:List Int) (S:Img) (fr d:Nat),S.Ok->bH S->(fr=16960∧d+l.length<=16∨fr=17088∧d+l.length<=8)->(aY S fr d l).Ok
 | [],S,fr,d,hS,_,_=>hS
 | v::l,S,fr,d,hS,hL,h=>by
   rw[List.length_cons]at h
   have hi:gU fr d:=by
    rcases h with⟨h1,h2⟩ | ⟨h1,h2⟩
    ·exact .inl ⟨h1,by omega⟩
    ·exact .inr ⟨h1,by omega⟩
   obtain⟨b2,b3,b4,b5,b6⟩:=hL.dU
   have e:=nV hL hi v
   have Rv: (S.put (fr+8*d) (toB v)).Ok:=cY hS _ _ (by rw[aI];omega)
   show(aY (fh S fr d v) fr (d+1) l).Ok
   rw[e]
   exact qY l (S.put (fr+8*d) (toB v)) fr (d+1) Rv (hL.alike (Alike.put _ _ _)) oM
structure Rep(s:Mt)(a:Nat)(cs ds rs:List Int):Prop where
 img:s.S.Ok
 lay:bH s.S
 pd:s.pd= ⟨16960,16,1,2⟩
 pr:s.pr= ⟨17088,8,3,4⟩
 code:di s.S a cs
 d:s.d=ds.length
 r:s.r=rs.length
 dle:ds.length<=16
 rle:rs.length<=8
 dv: ∀i v,ds[i]? = some v->gv s.S 16960 i=v
 rv: ∀i v,rs[i]? = some v->gv s.S 17088 i=v
section
variable {s:Mt}{a:Nat}{cs ds rs:List Int}
theorem Rep.ok(h:Rep s a cs ds rs):s.Ok:=by
 refine⟨?_,?_,?_,?_,?_,?_,?_,?_⟩
 ·rw[h.pd];exact⟨by decide,by decide⟩
 ·rw[h.pr];exact⟨by decide,by decide⟩
 ·rw[h.pd,h.d];exact h.dle
 ·rw[h.pr,h.r];exact h.rle
 ·rw[h.pd]
 ·rw[h.pd]
 ·rw[h.pr]
 ·rw[h.pr]
theorem Rep.top(h:Rep s a cs ds rs)(n:Nat)(v:Int)(hn:n<ds.length)(hv:ds[ds.length-1-n]? = some v):s.top (n:Int)=v:=by
 unfold Mt.top lc
 rw[h.d,h.pd,if_pos ⟨by omega,by omega⟩,Int.toNat_natCast]
 exact h.dv _ _ hv
theorem Rep.bu(h:Rep s a cs ds rs)(n:Nat)(v:Int)(hn:n<rs.length)(hv:rs[rs.length-1-n]? = some v):s.bu (n:Int)=v:=by
 unfold Mt.bu lc
 rw[h.r,h.pr,if_pos ⟨by omega,by omega⟩,Int.toNat_natCast]
 exact h.rv _ _ hv
theorem Rep.arv(h:Rep s a cs ds rs)(n j:Nat)(v:Int)(hj:j<n)(hn:n<=ds.length)(hv:ds[ds.length-n+j]? = some v):ar s n j=v:=by
 have e:ar s n j=s.top ((n-1-j:Nat):Int):=by simp[Vm.ar,Mt.args,hj]
 rw[e]
 exact h.top _ _ oM (by rw[<-hv];congr 1;omega)
theorem yg{S:Img}(hS:S.Ok)(hL:bH S){fr i:Nat}(h:gU fr i)(v:Int)(hc:di S a cs):di (S.put (fr+8*i) (toB v)) a cs:=by
 obtain⟨b2,b3,b4,b5,b6⟩:=hL.dU
 have h1:=hc.hi
 unfold gU at h
 exact hc.put hS _ _ (by rw[aI];omega) (by rw[aI];omega)
theorem xa{l:List Int}{v u:Int}{i:Nat}(h: (l ++ [v])[i]? = some u): (i=l.length∧u=v)∨(i<l.length∧l[i]? = some u):=by
 rw[List.getElem?_append]at h
 split at h
 ·exact .inr ⟨by assumption,h⟩
 ·left
  rcases hk:i-l.length with _|k
  ·rw[hk]at h
   simp at h
   exact⟨by omega,h.symm⟩
  ·rw[hk]at h
   simp at h
theorem Rep.NP(h:Rep s a cs ds rs)(v:Int)(hv:V64 v)(hr:ds.length<16):Rep (s.dy [v]) a cs (ds ++ [v]) rs:=by
 have hi:gU 16960 ds.length:= .inl ⟨rfl,hr⟩
 have hlen:=h.img.len
 obtain⟨b2,b3,b4,b5,b6⟩:=h.lay.dU
 have e: (s.dy [v]).S=s.S.put (16960+8*ds.length) (toB v):=by
  show fh s.S s.pd.fr s.d v=_
  rw[h.pd,h.d]
  exact nV h.lay hi v
 refine⟨?_,?_,h.pd,h.pr,?_,?_,h.r,by simp;omega,h.rle,?_,?_⟩
 ·rw[e];exact cY h.img _ _ (by rw[aI];omega)
 ·rw[e];exact h.lay.alike (Alike.put _ _ _)
 ·rw[e];exact yg h.img h.lay hi v h.code
 ·show s.d+1=_
  rw[h.d];simp
 ·intro i u hu
  rw[e]
  rcases xa hu with⟨rfl,rfl⟩ | ⟨Rd,hu⟩
  ·exact tL h.img h.lay hi _ hv
  ·rw[nv h.img h.lay hi (.inl ⟨rfl,by omega⟩) oM v]
   exact h.dv i u hu
 ·intro i u hu
  have Rd:i<rs.length:=(List.getElem?_eq_some_iff.1 hu).1
  have:=h.rle
  rw[e,nv h.img h.lay hi (.inr ⟨rfl,by omega⟩) oM v]
  exact h.rv i u hu
theorem Rep.wO(h:Rep s a cs ds rs)(v:Int)(hv:V64 v)(hr:rs.length<8):Rep (s.az [v]) a cs ds (rs ++ [v]):=by
 have hi:gU 17088 rs.length:= .inr ⟨rfl,hr⟩
 obtain⟨b2,b3,b4,b5,b6⟩:=h.lay.dU
 have e: (s.az [v]).S=s.S.put (17088+8*rs.length) (toB v):=by
  show fh s.S s.pr.fr s.r v=_
  rw[h.pr,h.r]
  exact nV h.lay hi v
 refine⟨?_,?_,h.pd,h.pr,?_,h.d,?_,h.dle,by simp;omega,?_,?_⟩
 ·rw[e];exact cY h.img _ _ (by rw[aI];omega)
 ·rw[e];exact h.lay.alike (Alike.put _ _ _)
 ·rw[e];exact yg h.img h.lay hi v h.code
 ·show s.r+1=_
  rw[h.r];simp
 ·intro i u hu
  have Rd:i<ds.length:=(List.getElem?_eq_some_iff.1 hu).1
  have:=h.dle
  rw[e,nv h.img h.lay hi (.inl ⟨rfl,by omega⟩) oM v]
  exact h.dv i u hu
 ·intro i u hu
  rw[e]
  rcases xa hu with⟨rfl,rfl⟩ | ⟨Rd,hu⟩
  ·exact tL h.img h.lay hi _ hv
  ·rw[nv h.img h.lay hi (.inr ⟨rfl,by omega⟩) oM v]
   exact h.rv i u hu
theorem BK(s:Mt)(v:Int)(l:List Int):s.dy (v::l)= (s.dy [v]).dy l:=by
 unfold Mt.dy
 congr 1
 show s.d+ (l.length+1)=s.d+1+l.length
 omega
theorem Bq(s:Mt)(v:Int)(l:List Int):s.az (v::l)= (s.az [v]).az l:=by
 unfold Mt.az
 congr 1
 show s.r+ (l.length+1)=s.r+1+l.length
 omega
end
theorem Rep.dy{a:Nat}{cs rs:List Int}: ∀{l ds:List Int} {s:Mt},Rep s a cs ds rs->(∀v∈l,V64 v)->ds.length+l.length<=16->Rep (s.dy l) a cs (ds++l) rs
 | [],ds,s,h,_,_=>by rw[List.append_nil];exact h
 | v::l,ds,s,h,hv,hl=>by
   rw[List.length_cons]at hl
   have h1:=h.NP v (hv v (by simp)) oM
   have h2:=Rep.dy (l:=l) h1 (λu hu=>hv u (by simp[hu])) (by rw[List.length_append,List.length_singleton];omega)
   rw[List.append_assoc]at h2
   rw[BK]
   exact h2
theorem Rep.az{a:Nat}{cs ds:List Int}: ∀{l rs:List Int} {s:Mt},Rep s a cs ds rs->(∀v∈l,V64 v)->rs.length+l.length<=8->Rep (s.az l) a cs ds (rs++l)
 | [],rs,s,h,_,_=>by rw[List.append_nil];exact h
 | v::l,rs,s,h,hv,hl=>by
   rw[List.length_cons]at hl
   have h1:=h.wO v (hv v (by simp)) oM
   have h2:=Rep.az (l:=l) h1 (λu hu=>hv u (by simp[hu])) (by rw[List.length_append,List.length_singleton];omega)
   rw[List.append_assoc]at h2
   rw[Bq]
   exact h2
section
variable {s:Mt}{a:Nat}{cs ds rs:List Int}
theorem Rep.jJ(h:Rep s a cs ds rs)(n:Nat)(hn:n<=ds.length):Rep (s.jJ n) a cs (ds.take n) rs:=
 ⟨h.img,h.lay,h.pd,h.pr,h.code,by show n=_;rw[List.length_take];omega,h.r,by rw[List.length_take];have:=h.dle;omega,h.rle,λi v hv=>h.dv i v (by
  rw[List.getElem?_take]at hv
  split at hv
  ·exact hv
  ·cases hv),h.rv⟩
theorem Rep.eu(h:Rep s a cs ds rs)(n:Nat)(hn:n<=rs.length):Rep (s.eu n) a cs ds (rs.take n):=
 ⟨h.img,h.lay,h.pd,h.pr,h.code,h.d,by show n=_;rw[List.length_take];omega,h.dle,by rw[List.length_take];have:=h.rle;omega,h.dv,λi v hv=>h.rv i v (by
  rw[List.getElem?_take]at hv
  split at hv
  ·exact hv
  ·cases hv)⟩
theorem Rep.ak(h:Rep s a cs ds rs)(n:Nat)(hn:n<=ds.length)(l:List Int)(hl: ∀v∈l,V64 v)(hr:ds.length-n+l.length<=16): (s.ak n l).1=0∧Rep (s.ak n l).2 a cs (ds.take (ds.length-n)++l) rs∧(s.ak n l).2.seen=s.seen:=by
 have h1:=h.d
 have h2:s.pd.rm=16:=by rw[h.pd]
 have hc: ¬s.pd.rm- (s.d-n) <l.length:=by omega
 unfold Mt.ak
 rw[if_neg hc]
 refine⟨rfl,?_,rfl⟩
 rw[h1]
 exact(h.jJ (ds.length-n) oM).dy hl (by rw[List.length_take];omega)
theorem Rep.told(h:Rep s a cs ds rs)(x:Rn)(op:Int):Rep (s.told x op) a cs ds rs:=by
 unfold Mt.told
 split
 ·exact⟨h.img,h.lay,h.pd,h.pr,h.code,h.d,h.r,h.dle,h.rle,h.dv,h.rv⟩
 ·exact h
theorem yM(s:Mt)(x:Rn)(op:Int): (s.told x op).seen.length=s.seen.length+ (if s.au then 1 else 0):=by
 unfold Mt.told
 split<;>simp
theorem Rep.asked(h:Rep s a cs ds rs)(i:aq)(x:Rn)(hn:dM i.op=0)(h1: (Code.ai i.op).1<=ds.length)(Zw:i.op≠26)(h2: (ds.length:Int) - (Code.ai i.op).1+ (Code.ai i.op).2<=16)
 (h3: (returns i.op i.arg s.same).1<=(rs.length:Int) -x.base) (h4: (rs.length:Int) - (returns i.op i.arg s.same).1+ (returns i.op i.arg s.same).2<=8):asks i x s=0:=by
 unfold Vm.asks
 rw[h.d,h.r,h.pd,h.pr,if_neg oM,if_neg oM,if_neg (by
  rw[if_neg (by rintro⟨h,_⟩;exact Zw h)]
  show¬((16:Nat):Int) <_
  omega),if_neg (by show¬((8:Nat):Int) <_;omega),if_neg (by rintro⟨h,_⟩;exact h hn)]
end
section
variable {w w1:World}{F:Nat->Prop}{g gb bg en cap:Nat}{cl:Bool}{D:Dc}{S:Img}
theorem MD: (((0:UInt8).toNat:Nat):Int)=0:=rfl
theorem xC(l:List UInt8)(hb:On F w (bl g gb bg en cap false D S l) w1)(h8:At8 S D (bg+8) en)(n:Nat)(hn:n=up (D.h+l.length) - (D.h+l.length))(hl:D.h+l.length<=en):
 Calls prog 126 #[g] w1 (Got (.returned (.int .i64 0)) (bl g gb bg en cap false D S (l++List.replicate n 0)) F w):=by
 have hle:=h8.le
 have Sg:=h8.lo
 have h2:=h8.ok.al.1
 rw[h8.lim]at h2
 have hu:=ee (D.h+l.length)
 have Se:=λwr l (h:On F w (bl g gb bg en cap false D S l) wr)=>zy l h
 have hbt:=λwr l (hl:D.h+l.length<en) (h:On F w (bl g gb bg en cap false D S l) wr)=>vP l h8 hl h
 have RU:=λwr l (hl:D.h+l.length<en) (h:On F w (bl g gb bg en cap false D S l) wr) n hn=>vV l 0 h8 hl h n hn
 have htt: ∀j,j<n->((((D.h+l.length+j:Nat):Int) % 8) != 0)=true:=λj hj=>by rw[bne_iff_ne];unfold up at hn;omega
 have htf: ((((D.h+l.length+n:Nat):Int) % 8) != 0)=false:=by rw[bne_eq_false_iff_eq];omega
 have R9:D.h+l.length+n<=en:=by omega
 have hlen: ∀j,(l++List.replicate j (0:UInt8)).length=l.length+j:=λj=>by simp
 have Sy: ∀j,(l++List.replicate j (0:UInt8))++ [0]=l++List.replicate (j+1) 0:=λj=>by rw[List.append_assoc,iV]
 replace hb:=Lib.hid hb
 replace Se:=Lib.hid Se
 replace hbt:=Lib.hid hbt
 replace RU:=Lib.hid RU
 replace htt:=Lib.hid htt
 replace hlen:=Lib.hid hlen
 replace Sy:=Lib.hid Sy
 clear h8 h2 hn hu
 go_enter func126,ntmps126
 go_wp2
 go_loopg [2] n (λm t wr=> ∃j:Nat,j+m=n∧t = .int .i64 0∧On F w (bl g gb bg en cap false D S (l++List.replicate j 0)) wr)
 case atStart=>exact⟨0,by omega,rfl,by rw[show List.replicate 0 (0:UInt8)= []from rfl,List.append_nil];exact hb.out⟩
 case round=>
  obtain⟨j,hj,rfl,so⟩:=hrel
  obtain⟨c0,c1,c2,c3,c4,cf⟩:=Se.out _ _ so
  have c3':wr.cell? (g,3)=some (((D.h+l.length+j:Nat):Int):Vl):=by rw[c3];unfold laidB;rw[hlen.out,Nat.add_assoc]
  by_cases YM:j<n
  ·have ht:=htt.out j YM
   obtain⟨⟨xo,cx⟩,cfr,RP⟩:=hbt.out _ _ (by rw[hlen.out];omega) so
   have IS:=RU.out wr _ (by rw[hlen.out];omega) so _ rfl
   rw[Sy.out,MD]at IS
   rw[hlen.out,<-Nat.add_assoc]at cx IS
   obtain⟨k,hk⟩: ∃k,D.h+l.length+j=k:=⟨_,rfl⟩
   rw[hk]at c3' cx IS ht
   have Zr:bg<=k:=by omega
   have SS:k<en:=by omega
   have f3:=cf 3
   have fk:=cfr k
   replace IS:=Lib.hid IS
   clear c3 c4 cf cfr so hk
   go_wp2
   go_region
   go_wp2
   go_roundg (gk-1)
   case measure=>omega
   case rel=>exact⟨j+1,by omega,rfl,IS.out.drew⟩
  ·have TJ:j=n:=by omega
   subst TJ
   replace so:=Lib.hid so
   clear c0 c1 c2 c3 c4 cf
   go_wp2
   go_ret
   exact⟨rfl,so.out⟩
theorem Nk(hb:On F w (aa [bD g gb bg en cap cl D,RbA gb S]) w1):On F w (bl g gb bg en cap cl D S []) w1:=by
 unfold bl
 rw[Img.fK]
 exact hb
theorem MX(l:List UInt8)(n:Nat)(hn:l.length=n)(hb:On F w (bl g gb bg en cap cl D S l) w1):On F w (aa [bD g gb bg en cap cl (laidB D n),RbA gb (S.put D.h l)]) w1:=by
 subst hn
 exact hb
theorem Js(hb:On F w (aa [bD g gb bg en cap false D,RbA gb S]) w1)(h8:At8 S D (bg+8) en)(R7:D.shut S=false)(v:Int)(hv:V64 v):
 Calls prog 84 #[g,v] w1 (Got (.returned (D.bm S)) (aa [bD g gb bg en cap false (D.bw S),RbA gb (D.bi S v)]) F w):=by
 have hle:=h8.le
 have Sg:=h8.lo
 have Se:=λwr (h:On F w (aa [bD g gb bg en cap false D,RbA gb S]) wr)=>uB h
 have Uc:=λn=>zg ((Se _ hb).drewN n) oM oM
 have Ro:=λwr (hl:D.h+8<=en) (h:On F w (aa [bD g gb bg en cap false D,RbA gb S]) wr)=>Gx [] (Nk h) h8 (by simpa using hl) v hv
 have R4:=λwr (h:On F w (bl g gb bg en cap false D S ([]++toB v)) wr)=>MX _ 8 (by rw[List.nil_append,aI]) h
 obtain⟨c0,c1,c2,c3,c4,cf⟩:=Se _ hb
 have hF:D.bm S=if en<D.h+8 then 9 else if D.h % 8≠0 then 6 else 0:=by
  unfold Dc.bm
  rw[h8.lim,R7]
  simp
 have hzero:D.bm S=0->D.bw S=laidB D 8∧D.bi S v=S.put D.h ([]++toB v):=λh=>by
  unfold Dc.bw Dc.bi
  rw[if_pos h,if_pos h]
  exact⟨rfl,rfl⟩
 have SM:D.bm S≠0->D.bw S=D∧D.bi S v=S:=λh=>by
  unfold Dc.bw Dc.bi
  rw[if_neg h,if_neg h]
  exact⟨rfl,rfl⟩
 by_cases h1:en<D.h+8
 ·rw[if_pos h1]at hF
  obtain⟨e1,e2⟩:=SM (by rw[hF];decide)
  rw[hF,e1,e2]
  have ht:decide ((en:Int) -8< (D.h:Int))=true:=decide_eq_true oM
  replace hb:=Lib.hid hb
  replace Uc:=Lib.hid Uc
  clear Se Ro R4 hzero SM hF e1 e2 h8
  go_enter func84,ntmps84
  go_wp2_with fail
  go_quiet ((go_at_call 115;exact Calls.quiet_of (Uc.out _)))
  have Rm:=Lib.hid (hb.out.drewN nq)
  go_wp2
  go_ret
  exact⟨rfl,Rm.out⟩
 ·rw[if_neg h1]at hF
  have ht:decide ((en:Int) -8< (D.h:Int))=false:=decide_eq_false oM
  by_cases h2:D.h % 8≠0
  ·rw[if_pos h2]at hF
   obtain⟨e1,e2⟩:=SM (by rw[hF];decide)
   rw[hF,e1,e2]
   have ht2: ((D.h:Int) % 8 != 0)=true:=by rw[bne_iff_ne];omega
   replace hb:=Lib.hid hb
   replace Uc:=Lib.hid Uc
   replace Se:=Lib.hid Se
   clear Ro R4 hzero SM hF e1 e2 h8 h2
   go_enter func84,ntmps84
   go_wp2_with fail
   go_quiet ((go_at_call 115;exact Calls.quiet_of (Uc.out _)))
   have Rm:=hb.out.drewN nq
   obtain⟨w2,Q8⟩: ∃w2,w1.drewN nq=w2:=⟨_,rfl⟩
   rw[Q8]at Rm⊢
   clear Q8 c0 c1 c2 c3 c4 cf
   obtain⟨c0,c1,c2,c3,c4,cf⟩:=Se.out _ Rm
   replace Rm:=Lib.hid Rm
   go_wp2
   go_ret
   exact⟨rfl,Rm.out⟩
  ·rw[if_neg h2]at hF
   obtain⟨e1,e2⟩:=hzero hF
   rw[hF,e1,e2]
   have ht2: ((D.h:Int) % 8 != 0)=false:=by rw[bne_eq_false_iff_eq];omega
   replace Ro:=Lib.hid (λwr=>Ro wr oM)
   replace hb:=Lib.hid hb
   replace Uc:=Lib.hid Uc
   replace Se:=Lib.hid Se
   replace R4:=Lib.hid R4
   clear hzero SM hF e1 e2 h8 h2
   go_enter func84,ntmps84
   go_wp2_with fail
   go_quiet ((go_at_call 115;exact Calls.quiet_of (Uc.out _)))
   have Rm:=hb.out.drewN nq
   obtain⟨w2,Q8⟩: ∃w2,w1.drewN nq=w2:=⟨_,rfl⟩
   rw[Q8]at Rm⊢
   clear Q8 c0 c1 c2 c3 c4 cf
   obtain⟨c0,c1,c2,c3,c4,cf⟩:=Se.out _ Rm
   replace Ro:=Lib.hid (Ro.out _ Rm)
   clear Rm
   go_wp2_with fail
   refine mo Ro.out λw3 h3=>?_
   have h4:=Lib.hid (R4.out _ h3)
   clear h3
   go_wp2
   go_ret
   exact⟨rfl,h4.out⟩
end
def Flags(off on:Int)(t:UInt8->UInt8):Prop:= ∀c:UInt8,bits .or .u8 (bits .andNot .u8 (c.toNat:Int) off) on= ((t c).toNat:Int)
theorem Az:Flags 32 0 eH:=λc=>by
 have h: ∀b:Fin 256,bits .or .u8 (bits .andNot .u8 (b.val:Int) 32) 0= ((b.val &&& 223:Nat):Int):=by decide +kernel
 rw[h ⟨c.toNat,c.toNat_lt⟩]
 unfold eH
 rw[UInt8.toNat_and]
 rfl
theorem D6:Flags 0 64 lp:=λc=>by
 have h: ∀b:Fin 256,bits .or .u8 (bits .andNot .u8 (b.val:Int) 0) 64= ((b.val ||| 64:Nat):Int):=by decide +kernel
 rw[h ⟨c.toNat,c.toNat_lt⟩]
 unfold lp
 rw[UInt8.toNat_or]
 rfl
section
variable {w w1:World}{F:Nat->Prop}{g gb bg en cap:Nat}{D:Dc}{S:Img}
theorem vy(hb:On F w (aa [bD g gb bg en cap false D,RbA gb S]) w1)(hl:D.l=0)(off on:Int):
 Calls prog 81 #[g,off,on] w1 (Got (.returned (.tuple #[])) (aa [bD g gb bg en cap false D,RbA gb S]) F w):=by
 obtain⟨c0,c1,c2,c3,c4,cf⟩:=uB hb
 rw[hl]at c4
 replace hb:=Lib.hid hb
 clear hl
 go_enter func81,ntmps81
 go_wp2_with fail
 go_quiet (fail)
 have Rm:=Lib.hid (hb.out.drewN nq)
 go_wp2
 go_end0
 exact⟨rfl,Rm.out⟩
theorem wG(hb:On F w (aa [bD g gb bg en cap false D,RbA gb S]) w1)(h8:At8 S D (bg+8) en)(R7:D.shut S=false)(hl:D.l≠0)(off on:Int)(t:UInt8->UInt8)(ht:Flags off on t)(ho:0<=off∧off<=255)(hn:0<=on∧on<=255):
 Calls prog 81 #[g,off,on] w1 (Got (.returned (.tuple #[])) (aa [bD g gb bg en cap false D,RbA gb (D.bO S t)]) F w):=by
 have hle:=h8.le
 have Sg:=h8.lo
 have hll:D.l % 8=0∧bg+8<=D.l∧D.l+16<=en:=by
  rcases h8.ok.l with h|h
  ·exact absurd h hl
  ·rw[h8.fr,h8.lim]at h;exact h
 have hall:=h8.ok.all
 rw[h8.lim]at hall
 have Se:=λwr (h:On F w (aa [bD g gb bg en cap false D,RbA gb S]) wr)=>uB h
 have Uc:=λn=>zg ((Se _ hb).drewN n) oM oM
 have Q9:=λwr (h:On F w (aa [bD g gb bg en cap false D,RbA gb S]) wr)=>(by
  have hb:Blk wr gb 5 (ah S.b).toArray:=h.ab 1 rfl
  have hg:Blk wr g 154 (kB gb bg en cap false D):=h.ab 0 rfl
  have h2:D.l+8<S.b.length:=by rw[h8.img.len];omega
  refine⟨?_,hb.frozen _,hg.ne_ hb (by decide)⟩
  rw[hb.cell]
  simp[ah,h2]:wr.cell? ⟨gb,D.l+8,none⟩=some (.int .u8 ((S.b.getD (D.l+8) 0).toNat:Int))∧wr.frozen? ⟨gb,D.l+8,none⟩=false∧g≠gb)
 have IS:=λwr (h:On F w (aa [bD g gb bg en cap false D,RbA gb S]) wr)=>(by
  have h2:=On.setAt 1 (g:=gb) (t:=5) (cs:=(ah S.b).toArray) h rfl (D.l+8) (.int .u8 ((t (S.b.getD (D.l+8) 0)).toNat:Int))
  rw[qC _ _ (t (S.b.getD (D.l+8) 0)) (by rw[h8.img.len];omega)]at h2
  have e:D.bO S t=S.put (D.l+8) [t (S.b.getD (D.l+8) 0)]:=by
   unfold Dc.bO
   rw[if_neg (by rintro(h|h);exact hl h;rw[R7]at h;cases h)]
  rw[e]
  exact h2:On F w (aa [bD g gb bg en cap false D,RbA gb (D.bO S t)]) (wr.setCell ⟨gb,D.l+8,none⟩ (.int .u8 ((t (S.b.getD (D.l+8) 0)).toNat:Int))))
 have htc:=ht (S.b.getD (D.l+8) 0)
 generalize (S.b.getD (D.l+8) 0)=bc at *
 generalize ((t bc).toNat:Int)=tc at *
 generalize D.bO S t=S' at *
 have hbc: (bc.toNat:Int)<=255:=by have:=bc.toNat_lt;omega
 generalize (bc.toNat:Int)=b0 at *
 obtain⟨c0,c1,c2,c3,c4,cf⟩:=Se _ hb
 have hz: ((D.l:Int) ==0)=false:=by simpa using hl
 have hd:decide ((en:Int)<=(D.l:Int) +8)=false:=decide_eq_false oM
 replace hb:=Lib.hid hb
 replace Se:=Lib.hid Se
 replace Uc:=Lib.hid Uc
 replace Q9:=Lib.hid Q9
 replace IS:=Lib.hid IS
 clear h8 R7 ht
 go_enter func81,ntmps81
 go_wp2_with fail
 go_quiet ((go_at_call 115;exact Calls.quiet_of (Uc.out _)))
 have Rm:=hb.out.drewN nq
 obtain⟨w2,Q8⟩: ∃w2,w1.drewN nq=w2:=⟨_,rfl⟩
 rw[Q8]at Rm⊢
 clear Q8 c0 c1 c2 c3 c4 cf hb Uc
 obtain⟨c0,c1,c2,c3,c4,cf⟩:=Se.out _ Rm
 replace Rm:=Lib.hid Rm
 go_wp2_with fail
 go_quiet (fail)
 have So:=Rm.out.drewN nq
 obtain⟨w3,Sx⟩: ∃w3,w2.drewN nq=w3:=⟨_,rfl⟩
 rw[Sx]at So⊢
 clear Sx c0 c1 c2 c3 c4 cf Rm
 obtain⟨c0,c1,c2,c3,c4,cf⟩:=Se.out _ So
 obtain⟨cb,fb,RP⟩:=Q9.out _ So
 have RL:=Lib.hid (IS.out _ So)
 replace So:=Lib.hid So
 clear Se Q9 IS
 have he:bg+ (D.l+8-bg)=D.l+8:=by omega
 have hi1: (bg:Int)<=(D.l:Int) +8:=by omega
 have YN: (D.l:Int) +8- (bg:Int) < ((en-bg:Nat):Int):=by omega
 go_wp2_with fail
 go_region
 go_wp2
 go_end0
 exact⟨rfl,RL.out.drew⟩
theorem Cw(hb:On F w (aa [bD g gb bg en cap false D,RbA gb S]) w1)(h8:At8 S D (bg+8) en)(R7:D.shut S=false)(off on:Int)(t:UInt8->UInt8)(ht:Flags off on t)(ho:0<=off∧off<=255)(hn:0<=on∧on<=255):
 Calls prog 81 #[g,off,on] w1 (Got (.returned (.tuple #[])) (aa [bD g gb bg en cap false D,RbA gb (D.bO S t)]) F w):=by
 by_cases h0:D.l=0
 ·have e:D.bO S t=S:=by unfold Dc.bO;rw[if_pos (.inl h0)]
  rw[e]
  exact vy hb h0 off on
 ·exact wG hb h8 R7 h0 off on t ht ho hn
end
section
variable {w w1:World}{F:Nat->Prop}{g gb bg en cap:Nat}{D:Dc}{S:Img}
theorem tE(hb:On F w (aa [bD g gb bg en cap false D,RbA gb S]) w1)(s:ByteArray)(hsz:s.size<=9223372036854775807)(hn:Dc.ea s.data.toList=false):
 Calls prog 79 #[g,.string s] w1 (Got (.returned (.tuple #[(0:Int),(15:Int)])) (aa [bD g gb bg en cap false D,RbA gb S]) F w):=by
 have T9:=oo s hsz w1
 rw[hn]at T9
 replace hb:=Lib.hid hb
 replace T9:=Lib.hid T9
 clear hn
 go_enter func79,ntmps79
 go_wp2_with fail
 refine T9.out.mono ?_
 rintro e w2 ⟨rfl,rfl⟩
 go_wp2
 go_ret2
 exact⟨rfl,hb.out⟩
theorem sK(hb:On F w (aa [bD g gb bg en cap false D,RbA gb S]) w1)(h8:At8 S D (bg+8) en)(s:ByteArray)(hn:Dc.ea s.data.toList=true)(hf:en<up D.h+ (8+up (1+s.size))):
 Calls prog 79 #[g,.string s] w1 (Got (.returned (.tuple #[(0:Int),(9:Int)])) (aa [bD g gb bg en cap false D,RbA gb S]) F w):=by
 have Sw:=jD hn
 have T9:=oo s oM w1
 rw[hn]at T9
 have h1:=h8.lo
 have hle:=h8.le
 have hu1:=ee D.h
 have hu2:=ee (1+s.size)
 have T0:=λw=>CW D.h oM w
 have Sm:=λw=>CW (1+s.size) oM w
 rw[show((1+s.size:Nat):Int)=1+ (s.size:Int)by omega]at Sm
 have Uc:=λW (h:On F w (aa [bD g gb bg en cap false D,RbA gb S]) W)=>zg (uB h) oM oM
 obtain⟨c0,c1,c2,c3,c4,cf⟩:=uB hb
 replace hb:=Lib.hid hb
 replace T9:=Lib.hid T9
 replace T0:=Lib.hid T0
 replace Sm:=Lib.hid Sm
 replace Uc:=Lib.hid Uc
 generalize up (1+s.size)=u2 at *
 generalize hU1:up D.h=u1 at *
 clear hn h8 hU1
 have ht:decide ((en:Int) - (u1:Int) <8+ (u2:Int))=true:=decide_eq_true oM
 go_enter func79,ntmps79
 go_wp2_with fail
 refine T9.out.mono ?_
 rintro e w2 ⟨rfl,rfl⟩
 go_wp2_with fail
 refine(T0.out _).mono ?_
 rintro e w3 ⟨rfl,rfl⟩
 go_wp2_with fail
 refine(Uc.out _ hb.out).mono ?_
 rintro e w4 ⟨rfl,nq,rfl⟩
 have Rm:=Lib.hid (hb.out.drewN nq)
 go_wp2_with fail
 refine(Sm.out _).mono ?_
 rintro e w4 ⟨rfl,rfl⟩
 go_wp2
 go_ret2
 exact⟨rfl,Rm.out⟩
theorem yo(l:List UInt8)(c:UInt8)(v:Int)(hv:v= (c.toNat:Int))(hb:On F w (bl g gb bg en cap false D S l) w1)(h8:At8 S D (bg+8) en)(hl:D.h+l.length<en):
 Calls prog 128 #[g,.int .u8 v] w1 (Got (.returned (.int .i64 0)) (bl g gb bg en cap false D S (l ++ [c])) F w):=by
 subst hv
 exact uo l hb h8 hl c
theorem wj(hb:On F w (aa [bD g gb bg en cap false D,RbA gb S]) w1)(h8:At8 S D (bg+8) en)(s:ByteArray)(hn:Dc.ea s.data.toList=true)(hf: ¬en<up D.h+ (8+up (1+s.size)))(R7:D.shut S=false):
 Calls prog 79 #[g,.string s] w1 (Got (.returned (.tuple #[((up D.h+ (8+up (1+s.size)):Nat):Int),(0:Int)])) (aa [bD g gb bg en cap false { D with h:=up D.h+ (8+up (1+s.size)),l:=up D.h },RbA gb (S.put D.h (D.eW s.data.toList))]) F w):=by
 have so:=Nk hb
 have Sw:=jD hn
 have R9:s.data.toList.length=s.size:=by rw[Lib.size_eq]
 have T9:=oo s oM w1
 rw[hn]at T9
 have h1:=h8.lo
 have hle:=h8.le
 have hu1:=ee D.h
 have hu2:=ee (1+s.size)
 have T0:=λw=>CW D.h oM w
 have Sm:=λw=>CW (1+s.size) oM w
 rw[show((1+s.size:Nat):Int)=1+ (s.size:Int)by omega]at Sm
 have Uc:=λW (h:On F w (bl g gb bg en cap false D S []) W)=>zg (zy [] h) oM oM
 have hc:=λW l (h:On F w (bl g gb bg en cap false D S l) W)=>zy l h
 obtain⟨za,hza⟩: ∃za:List UInt8,za=List.replicate (up D.h-D.h) 0:=⟨_,rfl⟩
 have hzl:za.length=up D.h-D.h:=by rw[hza];simp
 have Ss:=λW (h:On F w (bl g gb bg en cap false D S []) W)=>xC [] h h8 _ rfl (by simp;omega)
 simp only[List.length_nil,Nat.add_zero,List.nil_append]at Ss
 rw[<-hza]at Ss
 have ZT:V64 (D.l:Int):=by have:=h8.ok.l;rw[h8.lim]at this;unfold V64;omega
 have Wt:=λW (h:On F w (bl g gb bg en cap false D S za) W)=>Gx za h h8 (by rw[hzl];omega) (D.l:Int) ZT
 have Ug: (za++toB (D.l:Int)).length=up D.h-D.h+8:=by simp[aI,hzl]
 have Sv: (32:Int) + (s.size:Int)= (((UInt8.ofNat (s.size+32)).toNat:Nat):Int):=by rw[UInt8.toNat_ofNat'];omega
 have SI:=λW (h:On F w (bl g gb bg en cap false D S (za++toB (D.l:Int))) W)=>yo (za++toB (D.l:Int)) (UInt8.ofNat (s.size+32)) (32+ (s.size:Int)) Sv h h8 (by rw[Ug];omega)
 obtain⟨l3,hl3⟩: ∃l3:List UInt8,l3=za++toB (D.l:Int)++ [UInt8.ofNat (s.size+32)]:=⟨_,rfl⟩
 have ZO:l3.length=up D.h-D.h+9:=by rw[hl3,List.length_append,Ug];rfl
 rw[<-hl3]at SI
 have hcn:=λW (j:Nat) (hj:j<s.size) (h:On F w (bl g gb bg en cap false D S (l3++s.data.toList.take j)) W)=>uo (l3++s.data.toList.take j) h h8 (by rw[List.length_append,ZO,List.length_take,R9];omega) (s.data.toList.getD j 0)
 have Wy: ∀j,j<s.size->(l3++s.data.toList.take j)++ [s.data.toList.getD j 0]=l3++s.data.toList.take (j+1):=λj hj=>by
  rw[List.append_assoc,tS _ _ (by rw[R9];exact hj)]
 have ZL: (l3++s.data.toList).length=up D.h-D.h+9+s.size:=by rw[List.length_append,ZO,R9]
 have We:=λW (h:On F w (bl g gb bg en cap false D S (l3++s.data.toList)) W)=>xC (l3++s.data.toList) h h8 (up (1+s.size) - (1+s.size)) (by rw[ZL];unfold up at *;omega) (by rw[ZL];omega)
 have Uy:l3++s.data.toList++List.replicate (up (1+s.size) - (1+s.size)) 0=D.eW s.data.toList:=by
  unfold Dc.eW
  rw[hl3,hza,R9]
  simp[List.append_assoc]
 rw[Uy]at We
 have ZD: (D.eW s.data.toList).length=up D.h-D.h+ (8+up (1+s.size)):=by rw[Dc.qZ,R9]
 have R4:=λW (h:On F w (bl g gb bg en cap false D S (D.eW s.data.toList)) W)=>(by
  have h1:=MX _ _ ZD h
  have h2:=h1.setAt 0 rfl 4 (.int .i64 (up D.h:Nat))
  rw[vC gb bg en cap false _ (up D.h) _ rfl]at h2
  have e: ({ laidB D (up D.h-D.h+ (8+up (1+s.size)))with l:=up D.h }:Dc)= { D with h:=up D.h+ (8+up (1+s.size)),l:=up D.h }:=by unfold laidB;simp;omega
  rw[e]at h2
  exact h2:On F w (aa [bD g gb bg en cap false { D with h:=up D.h+ (8+up (1+s.size)),l:=up D.h },RbA gb (S.put D.h (D.eW s.data.toList))]) (W.setCell (g,4) (.int .i64 (up D.h:Nat))))
 have V3:=λ(j:Nat) (h:j<s.size)=>gp s j h
 generalize D.eW s.data.toList=lf at *
 have hhf: ((laidB D lf.length).h:Int)= ((up D.h+ (8+up (1+s.size)):Nat):Int):=by unfold laidB;simp only[ZD];omega
 have hh0: ((laidB D ([]:List UInt8).length).h:Int)= (D.h:Int):=rfl
 replace so:=Lib.hid so
 replace T9:=Lib.hid T9
 replace T0:=Lib.hid T0
 replace Sm:=Lib.hid Sm
 replace Uc:=Lib.hid Uc
 replace hc:=Lib.hid hc
 replace Ss:=Lib.hid Ss
 replace Wt:=Lib.hid Wt
 replace SI:=Lib.hid SI
 replace hcn:=Lib.hid hcn
 replace Wy:=Lib.hid Wy
 replace We:=Lib.hid We
 replace R4:=Lib.hid R4
 replace V3:=Lib.hid V3
 replace hhf:=Lib.hid hhf
 replace R9:=Lib.hid R9
 generalize up (1+s.size)=u2 at *
 generalize hU1:up D.h=u1 at *
 clear hb hn h8 R7 hza hzl ZT Ug Sv hl3 ZO ZL Uy ZD hU1
 obtain⟨c0,c1,c2,c3,c4,cf⟩:=hc.out _ _ so.out
 rw[hh0]at c3
 have ht:decide ((en:Int) - (u1:Int) <8+ (u2:Int))=false:=decide_eq_false oM
 go_enter func79,ntmps79
 go_wp2_with fail
 refine T9.out.mono ?_
 rintro e w2 ⟨rfl,rfl⟩
 go_wp2_with fail
 refine(T0.out _).mono ?_
 rintro e w3 ⟨rfl,rfl⟩
 go_wp2_with fail
 refine(Uc.out _ so.out).mono ?_
 rintro e w4 ⟨rfl,nq,rfl⟩
 have BY:=so.out.drewN nq
 obtain⟨w4,Zq⟩: ∃w4,w3.drewN nq=w4:=⟨_,rfl⟩
 rw[Zq]at BY⊢
 clear Zq c0 c1 c2 c3 c4 cf so
 obtain⟨c0,c1,c2,c3,c4,cf⟩:=hc.out _ _ BY
 replace Ss:=Lib.hid (Ss.out _ BY)
 clear BY Uc
 go_wp2_with fail
 refine(Sm.out _).mono ?_
 rintro e w5 ⟨rfl,rfl⟩
 go_wp2_with fail
 refine mo Ss.out λw5 h5=>?_
 clear c0 c1 c2 c3 c4 cf
 obtain⟨c0,c1,c2,c3,c4,cf⟩:=hc.out _ _ h5
 have c4':w5.cell? (g,4)=some ((D.l:Int):Vl):=c4
 replace Wt:=Lib.hid (Wt.out _ h5)
 clear h5 c4
 go_wp2_with fail
 refine mo Wt.out λw6 h6=>?_
 replace SI:=Lib.hid (SI.out _ h6)
 clear h6 c0 c1 c2 c3 c4' cf
 go_wp2_with fail
 refine mo SI.out λw7 h7=>?_
 replace h7:=Lib.hid h7
 go_wp2_with fail
 go_loopg [8] s.size (λk t wr=> ∃j:Nat,j+k=s.size∧t = .int .i64 (j:Int)∧On F w (bl g gb bg en cap false D S (l3++s.data.toList.take j)) wr)
 case atStart=>exact⟨0,by omega,rfl,by rw[List.take_zero,List.append_nil];exact h7.out⟩
 case round=>
  obtain⟨j,hj,rfl,hj7⟩:=hrel
  by_cases RQ:j<s.size
  ·have hq:=hcn.out _ j RQ hj7
   have hx:=V3.out j RQ wr
   rw[Wy.out j RQ]at hq
   generalize s.data.toList.getD j 0=c at *
   replace hq:=Lib.hid hq
   replace hj7:=Lib.hid hj7
   go_wp2_with fail
   refine mo hq.out λw8 h8=>?_
   replace h8:=Lib.hid h8
   go_wp2
   go_roundg (gk-1)
   case measure=>omega
   case rel=>exact⟨j+1,by omega,by go_num,h8.out⟩
  ·have TJ:j=s.size:=by omega
   subst TJ
   rw[List.take_of_length_le (by rw[R9.out];exact Nat.le_refl _)]at hj7
   replace We:=Lib.hid (We.out _ hj7)
   have hfw:decide ((s.size:Int) < (s.size:Int))=false:=by simp
   clear hj7
   go_wp2_with fail
   refine mo We.out λw8 h8=>?_
   obtain⟨c0,c1,c2,c3,c4,cf⟩:=hc.out _ _ h8
   have c4':w8.cell? (g,4)=some ((D.l:Int):Vl):=c4
   have f4:=cf 4
   replace R4:=Lib.hid (R4.out _ h8)
   rw[hhf.out]at c3
   clear h8 c4 cf
   go_wp2
   go_ret2
   exact⟨rfl,R4.out⟩
theorem FI(hb:On F w (aa [bD g gb bg en cap false D,RbA gb S]) w1)(h8:At8 S D (bg+8) en)(R7:D.shut S=false)(s:ByteArray)(hsz:s.size<=9223372036854775807):
 Calls prog 79 #[g,.string s] w1 (Got (.returned (.tuple #[(D.jo S s.data.toList),(D.bU S s.data.toList)])) (aa [bD g gb bg en cap false (D.cg S s.data.toList),RbA gb (D.bQ S s.data.toList)]) F w):=by
 have R9:s.data.toList.length=s.size:=by rw[Lib.size_eq]
 have hF:D.bU S s.data.toList=if Dc.ea s.data.toList=false then 15 else if en<up D.h+ (8+up (1+s.size))then 9 else 0:=by
  unfold Dc.bU
  rw[h8.lim,R9,R7]
  simp
 unfold Dc.jo Dc.cg Dc.bQ
 rw[hF]
 by_cases h1:Dc.ea s.data.toList=false
 ·rw[if_pos h1,if_neg (by decide),if_neg (by decide),if_neg (by decide)]
  exact tE hb s hsz h1
 rw[if_neg h1]
 have h1':Dc.ea s.data.toList=true:=by simpa using h1
 by_cases h2:en<up D.h+ (8+up (1+s.size))
 ·rw[if_pos h2,if_neg (by decide),if_neg (by decide),if_neg (by decide)]
  exact sK hb h8 s h1' h2
 rw[if_neg h2,if_pos rfl,if_pos rfl,if_pos rfl,R9]
 exact wj hb h8 s h1' h2 R7
end
def lE:ByteArray:=⟨#[120]⟩
def Qa:List UInt8:=[0,0,0,0,0,0,0,0,1,120]
def gQ(S:Img):Prop:= ∀i,i<10->S.b.getD (16456+i) 0=Qa.getD i 0
theorem gQ.put{S:Img}(h:gQ S)(k:Nat)(l:List UInt8)(hk:k+l.length<=S.b.length)(hf:k+l.length<=16456∨16466<=k):gQ (S.put k l):=by
 intro i hi
 rw[S.dZ k _ l hk,if_neg oM]
 exact h i hi
def Kc:Wd:=⟨[120],16456,16472,false,false,false⟩
theorem lK(b:List UInt8)(k:Nat): ∀(l:List UInt8),k+l.length<=b.length->(∀i,i<l.length->b.getD (k+i) 0=l.getD i 0)->(b.drop k).take l.length=l:=by
 intro l hk h
 apply List.ext_getElem
 ·simp;omega
 ·intro i h1 h2
  have e:=h i h2
  rw[List.getD_eq_getElem?_getD,List.getD_eq_getElem?_getD,List.getElem?_eq_getElem oM,List.getElem?_eq_getElem h2]at e
  simpa using e
theorem LB{S:Img}{D:Dc}(hS:S.Ok)(hL:bH S)(h:gQ S)(WB:D.rg=3):eB S D 16456=some (Kc,0):=by
 obtain⟨b2,b3,b4,b5,b6⟩:=hL.dU
 have hlen:=hS.len
 have Z9:D.fr S=16456:=by unfold Dc.fr;rw[WB,b3]
 have hdX:D.lim S=16960:=by unfold Dc.lim;rw[WB];exact b4
 have h8:S.b.getD (16456+8) 0=1:=h 8 oM
 have e1: (S.b.drop 16456).take 8 = [0,0,0,0,0,0,0,0]:=lK S.b 16456 [0,0,0,0,0,0,0,0] (by simp;omega) (λi hi=>by
  have hi:i<8:=hi
  rw[h i oM]
  have:i=0∨i=1∨i=2∨i=3∨i=4∨i=5∨i=6∨i=7:=by omega
  rcases this with rfl|rfl|rfl|rfl|rfl|rfl|rfl|rfl<;>rfl)
 have e2: (S.b.drop 16465).take 1 = [120]:=lK S.b 16465 [120] (by simp;omega) (λi hi=>by
  have hi:i<1:=hi
  obtain rfl:i=0:=by omega
  exact h 9 oM)
 unfold eB
 rw[Z9,hdX,if_neg oM]
 have e3: (16456:Int).toNat=16456:=rfl
 simp only[e3,h8]
 rw[if_neg (by decide),show(1:UInt8).toNat % 32=1 from rfl,e2,e1]
 have hz:ofB [0,0,0,0,0,0,0,0]=0:=by decide +kernel
 have hu:up (16456+9+1)=16472:=by decide
 rw[hz,hu]
 rfl
theorem LK{S:Img}{D:Dc}(hS:S.Ok)(hL:bH S)(h:gQ S)(WB:D.rg=3)(hl:D.l=16456):words S D = [Kc]:=by
 unfold words
 rw[hl]
 unfold eI
 rw[show((16456:Nat):Int)=16456 from rfl,LB hS hL h WB]
 simp only
 rw[if_neg oM]
 obtain⟨b2,b3,b4,b5,b6⟩:=hL.dU
 have Z9:D.fr S=16456:=by unfold Dc.fr;rw[WB,b3]
 unfold eI
 have:eB S D 0=none:=by
  unfold eB
  rw[if_pos (.inr (.inl (by rw[Z9];omega)))]
 rw[this]
theorem Pa{S:Img}{D:Dc}(hS:S.Ok)(hL:bH S)(h:gQ S)(WB:D.rg=3)(hl:D.l=16456):gV S D lE.data.toList=some Kc:=by
 unfold gV
 rw[LK hS hL h WB hl]
 rfl
def bJ(cs:List Int)(data:List Int)(base:Int):Setup:=⟨0,0,⟨#[]⟩,⟨#[]⟩,false,[],[⟨lE,false,false,cs⟩],base,data,[],0,0,0⟩
def jY:List UInt8:=[0,0,0,0,0,0,0,0,33,120,0,0,0,0,0,0]
theorem mE:iA.bU bk [120]=0:=by decide
theorem JZ:iA.eW [120]=jY:=by decide
theorem jV{S:Img}(h:bH S)(k:Nat)(l:List UInt8):bH (S.put k l):=h.alike (Alike.put S k l)
def eC:Img:=(bk.put 16456 jY).put 16464 [1]
theorem nt:eC.Ok:=cY (cY gn _ _ (by decide)) _ _ (by decide)
theorem DX:bH eC:=jV (jV zj _ _) _ _
theorem gG:bk.b.length=17152:=by rw[gn.len];rfl
theorem Lt:gQ eC:=by
 intro i hi
 have h1: (bk.put 16456 jY).b.length=17152:=by rw[bk.iz _ _ (by rw[gG];decide),gG]
 unfold eC
 rw[Img.dZ _ _ _ _ (by rw[h1];decide)]
 by_cases h8:i=8
 ·subst h8
  rw[if_pos (by simp)]
  rfl
 ·rw[if_neg (by simp;omega),Img.dZ _ _ _ _ (by rw[gG];decide),if_pos (by
   have:jY.length=16:=rfl
   omega),show 16456+i-16456=i by omega]
  have:i=0∨i=1∨i=2∨i=3∨i=4∨i=5∨i=6∨i=7∨i=9:=by omega
  rcases this with rfl|rfl|rfl|rfl|rfl|rfl|rfl|rfl|rfl<;>rfl
def tJ:Dc:=⟨3,16472,16456⟩
theorem PG(cs:List Int)(hc:16472+8*cs.length<=16960):db ⟨lE,false,false,cs⟩ (bk,iA)= (eC.put 16472 (cC cs),⟨3,16472+8*cs.length,16456⟩):=by
 have e1:iA.bQ bk [120]=bk.put 16456 jY:=by
  unfold Dc.bQ
  rw[if_pos mE,JZ]
  rfl
 have e2:iA.cg bk [120]=tJ:=by
  unfold Dc.cg
  rw[if_pos mE]
  rfl
 have e3:lu ⟨lE,false,false,cs⟩ (bk.put 16456 jY) tJ=eC:=by
  unfold lu
  simp only[Bool.false_eq_true,if_false]
  unfold Dc.bO
  rw[if_neg (by decide)]
  have h0: (bk.put 16456 jY).b.getD 16464 0=33:=by
   rw[Img.dZ _ _ _ _ (by rw[gG];decide),if_pos (by decide)]
   rfl
  show(bk.put 16456 jY).put 16464 [eH ((bk.put 16456 jY).b.getD 16464 0)]=_
  rw[h0]
  rfl
 unfold db
 rw[show lE.data.toList = [120]from rfl,mE,if_neg (by decide),e1,e2,e3]
 have hD:tJ.Ok eC:=by
  refine Dc.Ok.alike (S:=bk) ⟨.inr rfl,by decide,by decide,.inr (by decide),by decide,by decide⟩ ((Alike.put _ _ _).trans (Alike.put _ _ _))
 have hlm:tJ.lim eC=16960:=by decide
 have hhh:tJ.h=16472:=rfl
 have:=mO cs eC tJ nt hD (by decide) (by rw[hlm,hhh];omega) (by decide)
 exact this
section
variable (cs data:List Int)(base:Int)
theorem Bp: (bJ cs data base).hid= ⟨#[]⟩:=by unfold Setup.hid;split<;>rfl
theorem ve(hc:16472+8*cs.length<=16960): (bJ cs data base).t1= (eC.put 16472 (cC cs),⟨3,16472+8*cs.length,16456⟩):=PG cs hc
theorem di.pz{S:Img}{a:Nat}{cs:List Int}(h:di S a cs):di S.eR a cs:=⟨h.al,h.lo,h.hi,h.at_⟩
theorem Img.Ok.pz{S:Img}(h:S.Ok):S.eR.Ok:=⟨h.len,h.small⟩
theorem bH.pz{S:Img}(h:bH S):bH S.eR:=⟨h.k,h.s,h.u,h.d,h.r⟩
theorem gQ.pz{S:Img}(h:gQ S):gQ S.eR:=h
structure QL(S:Img)(cs:List Int):Prop where
 ok:S.Ok
 lay:bH S
 head:gQ S
 code:di S 16472 cs
theorem Fa(hc:16472+8*cs.length<=16960)(hv: ∀v∈cs,V64 v):QL (bJ cs data base).i3 cs:=by
 have e: (bJ cs data base).i3= (((eC.put 16472 (cC cs)).put 16384 (List.replicate 64 0)).eR):=by
  have eo: (bJ cs data base).opened=false:=rfl
  have hz:Setup.load (eC.put 16472 (cC cs)) (⟨#[]⟩:ByteArray).data.toList= (eC.put 16472 (cC cs)).put 16384 (List.replicate 64 0):=by
   unfold Setup.load
   rw[show(eC.put 16472 (cC cs)).beg 2=16384 from rfl,show(eC.put 16472 (cC cs)).s=64 from rfl]
   rfl
  unfold Setup.i3 Setup.i2
  rw[Bp,ve cs data base hc,eo]
  simp only[Bool.false_eq_true,if_false]
  rw[hz]
 have hl:=kj cs
 have hle:eC.b.length=17152:=by rw[nt.len];rfl
 have h1: (eC.put 16472 (cC cs)).Ok:=cY nt _ _ (by rw[hl];have:eC.beg 6=17152:=rfl;omega)
 have hio: (eC.put 16472 (cC cs)).b.length=17152:=by rw[h1.len];rfl
 have h2: ((eC.put 16472 (cC cs)).put 16384 (List.replicate 64 0)).Ok:=cY h1 _ _ (by show 16384+ (List.replicate 64 (0:UInt8)).length<=17152;simp)
 have c1:di (eC.put 16472 (cC cs)) 16472 cs:=Ai eC nt 16472 cs hv (by decide) (by decide) (by have:eC.beg 4=16960:=rfl;omega)
 have c2:=c1.put h1 16384 (List.replicate 64 0) (by show 16384+ (List.replicate 64 (0:UInt8)).length<=17152;simp) (.inl (by simp))
 rw[e]
 refine⟨Img.Ok.pz h2,bH.pz (jV (jV DX _ _) _ _),gQ.pz ?_,di.pz c2⟩
 have g1:gQ (eC.put 16472 (cC cs)):=Lt.put _ _ (by rw[hl,hle];omega) (.inr oM)
 exact g1.put 16384 (List.replicate 64 0) (by rw[hio];simp) (.inl (by simp))
end
theorem lW: ∀(l:List Int) (S:Img) (fr d:Nat),S.Ok->bH S->(fr=16960∧d+l.length<=16∨fr=17088∧d+l.length<=8)->(aY S fr d l).Ok∧∀i,i<16960->(aY S fr d l).b.getD i 0=S.b.getD i 0
 | [],S,fr,d,hS,_,_=>⟨hS,λ_ _=>rfl⟩
 | v::l,S,fr,d,hS,hL,h=>by
   rw[List.length_cons]at h
   have hi:gU fr d:=by
    rcases h with⟨h1,h2⟩ | ⟨h1,h2⟩
    ·exact .inl ⟨h1,by omega⟩
    ·exact .inr ⟨h1,by omega⟩
   obtain⟨b2,b3,b4,b5,b6⟩:=hL.dU
   have e:=nV hL hi v
   have Z9:16960<=fr∧fr+8*d+8<=17152:=by omega
   have Rv: (S.put (fr+8*d) (toB v)).Ok:=cY hS _ _ (by rw[aI];omega)
   have hr:=lW l (S.put (fr+8*d) (toB v)) fr (d+1) Rv (jV hL _ _) oM
   show(aY (fh S fr d v) fr (d+1) l).Ok∧∀i,i<16960->(aY (fh S fr d v) fr (d+1) l).b.getD i 0=S.b.getD i 0
   rw[e]
   refine⟨hr.1,λi YN=> ?_⟩
   rw[hr.2 i YN,Img.dZ _ _ _ _ (by rw[aI,hS.len];omega),if_neg oM]
theorem QJ{S:Img}(hL:bH S)(w:Bool):S.ay 0 16448 w=0:=by
 obtain⟨b2,b3,b4,b5,b6⟩:=hL.dU
 have hr:S.region (16448:Int)=3:=S.dn oM oM oM oM (by show(16448:Int) <S.beg 4;omega)
 have An:S.aO 0 (16448:Int) 8 w=true:=by
  unfold Img.aO Img.lets Img.may
  rw[hr]
  have h4:decide (((8:Nat):Int)<=(S.beg (3+1):Int) -16448)=true:=decide_eq_true (by show((8:Nat):Int)<=(S.beg 4:Int) -_;omega)
  rw[h4]
  cases w<;>simp
 unfold Img.ay
 rw[if_neg oM,if_pos An]
theorem s6{S:Img}(hL:bH S)(v:Int):S.setCell 0 16448 v=S.put 16448 (toB v):=by
 unfold Img.setCell
 rw[if_pos (QJ hL true)]
 rfl
theorem Rep.base{s:Mt}{a:Nat}{cs ds rs:List Int}(h:Rep s a cs ds rs)(ha:16456<=a)(v f u n:Int)(t:Bool):Rep { s with S:=s.S.setCell 0 16448 v,fault:=f,used:=u,hidden:=n,au:=t } a cs ds rs:=by
 obtain⟨b2,b3,b4,b5,b6⟩:=h.lay.dU
 have e:=s6 h.lay v
 have hd:=h.dle
 have hr:=h.rle
 have far: ∀fr i,gU fr i->gv (s.S.put 16448 (toB v)) fr i=gv s.S fr i:=λfr i hi=>by
  unfold gU at hi
  exact mv s.S h.img 0 _ 16448 (toB v) (by rw[aI];omega) (by rw[aI];omega)
 refine⟨?_,?_,h.pd,h.pr,?_,h.d,h.r,h.dle,h.rle,λi u hu=> ?_,λi u hu=> ?_⟩
 ·show(s.S.setCell 0 16448 v).Ok
  rw[e];exact cY h.img _ _ (by rw[aI];omega)
 ·show bH (s.S.setCell 0 16448 v)
  rw[e];exact jV h.lay _ _
 ·show di (s.S.setCell 0 16448 v) a cs
  rw[e];exact h.code.put h.img _ _ (by rw[aI];omega) (.inl (by rw[aI];omega))
 ·show gv (s.S.setCell 0 16448 v) 16960 i=u
  have Rd:i<ds.length:=(List.getElem?_eq_some_iff.1 hu).1
  rw[e,far 16960 i (.inl ⟨rfl,by omega⟩)]
  exact h.dv i u hu
 ·show gv (s.S.setCell 0 16448 v) 17088 i=u
  have Rd:i<rs.length:=(List.getElem?_eq_some_iff.1 hu).1
  rw[e,far 17088 i (.inr ⟨rfl,by omega⟩)]
  exact h.rv i u hu
theorem BD(cs data:List Int)(base:Int)(hc:16472+8*cs.length<=16960)(hv: ∀v∈cs,V64 v)(hdl:data.length<=16)(WA: ∀v∈data,V64 v):
 Rep (bJ cs data base).mt 16472 cs data []∧gQ (bJ cs data base).mt.S∧(bJ cs data base).mt.seen = []∧(bJ cs data base).mt.au=true:=by
 have hM:=Fa cs data base hc hv
 have h0:Rep (bJ cs data base).m0 16472 cs [] []:=⟨hM.ok,hM.lay,rfl,rfl,hM.code,rfl,rfl,by simp,by simp,λi v h=>by simp at h,λi v h=>by simp at h⟩
 have ht:data.take 16=data:=List.take_of_length_le hdl
 have h1:=h0.dy (l:=data.take 16) (by rw[ht];exact WA) (by rw[ht];simpa using hdl)
 rw[List.nil_append,ht]at h1
 have h2:=h1.az (l:=[]) (λv h=>by cases h) (by simp)
 have e1: (bJ cs data base).m1= ((bJ cs data base).m0.dy data).az []:=by
  unfold Setup.m1
  show((bJ cs data base).m0.dy (data.take 16)).az []=_
  rw[ht]
 have hS: (bJ cs data base).m1.S=aY (bJ cs data base).i3 16960 0 data:=by rw[e1];rfl
 have hcO:=lW data (bJ cs data base).i3 16960 0 hM.ok hM.lay (.inl ⟨rfl,by omega⟩)
 have hh:gQ (bJ cs data base).m1.S:=λi hi=>by
  rw[hS,hcO.2 _ oM]
  exact hM.head i hi
 rw[List.append_nil,<-e1]at h2
 have h3:=h2.base oM base 0 0 0 true
 refine⟨h3,?_,by show(bJ cs data base).m1.seen = [];rw[e1];rfl,rfl⟩
 show gQ ((bJ cs data base).m1.S.setCell 0 16448 base)
 rw[s6 h2.lay base]
 exact hh.put _ _ (by rw[aI,h2.img.len];have:=h2.lay.dU;omega) (.inl (by rw[aI];omega))
section
variable {w w1:World}{F:Nat->Prop}
theorem IP(gb bg en cap:Nat)(hle:bg<=en)(hen:en<=143360)(rg:Nat)(w:World):Calls prog 52 #[.slice (some ⟨gb,bg,none⟩) (en-bg) cap,(bg:Int)] w
 (cz (λe B=> ∃g,e = .returned (.pointer (some ⟨g,0,none⟩))∧B=bD g gb bg en cap false ⟨rg,bg+8,0⟩) Nob w):=by
 have so:=(On.refl (A:=aa []) (F:=Nob) (w:=w) (λ_ h=>h)).box (kB gb bg en cap false ⟨rg,bg+8,0⟩) 154
 have e: (((bg+8:Nat)):Int)= (bg:Int) +8:=by omega
 have hc:kB gb bg en cap false ⟨rg,bg+8,0⟩=#[.slice (some ⟨gb,bg,none⟩) (en-bg) cap,.int .i64 (bg:Int),.bool false,.int .i64 ((bg:Int) +8),.int .i64 0]:=by
  unfold kB
  rw[e]
  rfl
 rw[hc]at so
 replace so:=Lib.hid so
 replace hc:=Lib.hid hc
 clear e
 go_enter func52,ntmps52
 go_wp2
 go_ret
 have h:=so.out.nX
 rw[<-hc.out]at h
 exact⟨_,⟨w.heap.size,rfl,rfl⟩,h⟩
def rO(x y p q:Int)(d:Bool):Array Value:=#[.int .i64 x,.int .i64 y,.int .i64 p,.int .i64 q,.bool d,.slice none 0 0]
theorem Pc(w:World):Calls prog 50 #[] w (cz (λe B=> ∃g,e = .returned (.pointer (some ⟨g,0,none⟩))∧B=ae g 184 (rO 0 0 1 0 true)) Nob w):=by
 have so:=(On.refl (A:=aa []) (F:=Nob) (w:=w) (λ_ h=>h)).box (rO 0 0 1 0 true) 184
 unfold rO at so
 replace so:=Lib.hid so
 go_enter func50,ntmps50
 go_wp2
 go_ret
 exact⟨_,⟨w.heap.size,rfl,rfl⟩,so.out.nX⟩
def mX:Array Value:=#[.complex .f64 0 0,.complex .f64 4607182418800017408 0,.bool true,.slice none 0 0]
theorem HO(w:World):Calls prog 25 #[] w (cz (λe B=> ∃g,e = .returned (.pointer (some ⟨g,0,none⟩))∧B=ae g 149 mX) Nob w):=by
 have so:=(On.refl (A:=aa []) (F:=Nob) (w:=w) (λ_ h=>h)).box mX 149
 unfold mX at so
 replace so:=Lib.hid so
 go_enter func25,ntmps25
 go_wp2
 go_ret
 exact⟨_,⟨w.heap.size,rfl,rfl⟩,so.out.nX⟩
end
structure Rc where
 gW:Nat
 gM:Nat
 gb:Nat
 gK:Nat
 gS:Nat
 gD:Nat
 gDr:Nat
 gR:Nat
 gRr:Nat
 gC:Nat
 gT:Nat
def hO(r:Rc)(list:Nat)(ws:Value)(f u h:Int)(t:Bool):Array Value:=
 #[r.gM,r.gK,r.gS,list,ws,r.gD,r.gR,r.gC,r.gT,f,(u:Int),h,.bool t,.slice none 0 0]
theorem O9(k s u d r:Nat)(hf:Fits k s u d r)(w:World):Calls prog 49 #[jk k s u d r] w
 (cz (λe B=> ∃g gb,e = .returned (.tuple #[.pointer (some ⟨g,0,none⟩),.bool true])∧B=aa [ae g 131 (aL gb (ev k s u d r)),RbA gb (ev k s u d r)]) Nob w):=by
 refine(O2 k s u d r hf w).mono ?_
 rintro e w' ⟨g,gb,he,h1,h2,hr,hb⟩
 refine⟨_,⟨g,gb,he,rfl⟩,λk=>k=g∨k=gb,?_,Kept.gZ hb,λi hi=>by rcases hi with rfl|rfl<;>exact .inr (by assumption)⟩
 have RP:=hr.blk.ne_ hr.row (by decide)
 exact⟨λk=>k=g,λk=>k=gb,⟨hr.blk,λ_=>Iff.rfl⟩,All.one (A:=RbA gb (ev k s u d r)) ⟨hr.row,λ_=>Iff.rfl⟩,λk a b=>RP (a.symm.trans b),λ_=>Iff.rfl⟩
def oN:Value:= .agg #[(16384:Int),(64:Int),(512:Int),(128:Int),(64:Int)]
theorem rG(w:World):Calls prog 20 #[] w (Quiet oN w):=by
 unfold oN
 go_enter func20,ntmps20
 go_wp2
 have hb:=Blk.new w 65 #[(16384:Int),(64:Int),(512:Int),(128:Int),(64:Int)]
 have c0:=hb.cell 0
 have c1:=hb.cell 1
 have c2:=hb.cell 2
 have c3:=hb.cell 3
 have c4:=hb.cell 4
 exact bodyPost_ret (v:= .agg #[(16384:Int),(64:Int),(512:Int),(128:Int),(64:Int)]) (by simp[results,results20,go_sem,c0,c1,c2,c3,c4]) rfl ⟨rfl,(Below.refl _ _).alloc (Nat.le_refl _) _⟩
def PL(r:Rc):List Asr:=
 [tD r.gC (af.made 0 0 ⟨#[]⟩),aa (fC r.gR r.gRr 0 3 4 (List.replicate 8 0)),aa (fC r.gD r.gDr 0 1 2 (List.replicate 16 0)),
  bD r.gS r.gb 16448 16960 704 false iA,bD r.gK r.gb 0 16384 17152 false gH,ae r.gT 184 (rO 0 0 1 0 true),
  ae r.gM 131 (aL r.gb bk),RbA r.gb bk]
def Oo(e:Ending)(B:Asr):Prop:= ∃(r:Rc) (gws:Nat),e = .returned (.tuple #[r.gW,.bool true])∧
 B=aa (ae r.gW 86 (hO r r.gK (.slice gws 1 1) 0 0 0 false)::ae gws 80 #[r.gK]::PL r)
def wC0(gM gT:Nat)(a1 a2 a3 a4 a5 a6 a7:Value):Array Value:=#[.pointer gM,a1,a2,a3,a4,a5,a6,a7,.pointer gT,.int .i64 0,.int .i64 0,.int .i64 0,.bool false,.slice none 0 0]
def AV:Value:= .pointer none
def Qi:Value:= .slice none 0 0
theorem wo{w W:World}{F:Nat->Prop}{L:List Asr}{gM gb:Nat}{S:Img}(h:On F w (aa L) W)(i j:Nat)(hi:L[i]? = some (ae gM 131 (aL gb S)))(hj:L[j]? = some (RbA gb S))(hS:S.Ok):cX W gM gb S:=
 ⟨h.ab i hi,h.ab j hj,hS⟩
theorem Cr{w W:World}{F:Nat->Prop}{L:List Asr}{gM gb:Nat}(h:On F w (aa L) W)(i j:Nat)(hi:L[i]? = some (ae gM 131 (aL gb bk)))(hj:L[j]? = some (RbA gb bk))(r a b:Int)(ha:dq bk r=a)(hb:ic bk r=b):
 Calls prog 51 #[gM,(r:Int)] W (Got (.returned (.tuple #[a,b])) (aa L) F w):=by
 have hs:=pB (wo h i j hi hj gn) r
 rw[ha,hb]at hs
 refine hs.mono ?_
 rintro e w' ⟨he,hb⟩
 exact⟨he,h.below hb⟩
theorem QY:af.cI 0 0 ⟨#[]⟩=0:=by decide
theorem PZ(w:World):Calls prog 19 #[oN] w (cz Oo Nob w):=by
 have Ub:=(On.refl (A:=aa []) (F:=Nob) (w:=w) (λ_ h=>h)).box #[(16384:Int),(64:Int),(512:Int),(128:Int),(64:Int)] 65
 have hr3:=λW=>(O9 16384 64 512 128 64 oL W:Calls prog 49 #[oN] W (cz (λe B=> ∃g gb,e = .returned (.tuple #[.pointer (some ⟨g,0,none⟩),.bool true])∧B=aa [ae g 131 (aL gb bk),RbA gb bk]) Nob W))
 unfold oN at hr3⊢
 replace hr3:=Lib.hid hr3
 replace Ub:=Lib.hid Ub
 go_enter func19,ntmps19
 go_wp2_with fail
 refine(Ub.out.make (hr3.out _)).mono ?_
 rintro e w1 ⟨B,⟨gM,gb,rfl,rfl⟩,M0⟩
 replace M0:=Lib.hid M0.flat
 clear Ub hr3
 go_wp2_with fail
 refine(M0.out.make (Pc _)).mono ?_
 rintro e w2 ⟨B,⟨gT,rfl,rfl⟩,BY⟩
 have Rb:=BY.box (wC0 gM gT AV AV AV Qi AV AV AV) 86
 obtain⟨gW,hgW⟩: ∃gW,w2.heap.size=gW:=⟨_,rfl⟩
 rw[hgW]at Rb
 unfold wC0 AV Qi at Rb
 replace Rb:=Lib.hid Rb
 clear M0 BY
 go_wp2_with fail
 generalize w2.alloc (Obj.cells _ 86)=w3 at *
 clear hgW
 refine mo (Cr Rb.out 2 3 rfl rfl 1 0 16384 rfl rfl) λw4 Ra=>?_
 have b5:w4.cell? (gM,5)=some (.slice gb 17152 17152):=(Ra.ab 2 rfl).cell 5
 have hk:=(IP gb 0 16384 17152 oM oM 1 w4:Calls prog 52 #[.slice gb 16384 17152,(0:Int)] w4 (cz (λe B=> ∃g,e = .returned (.pointer (some ⟨g,0,none⟩))∧B=bD g gb 0 16384 17152 false gH) Nob w4))
 have SS:=Lib.hid (Ra.make hk)
 replace Ra:=Lib.hid Ra
 clear Rb hk
 go_wp2_with fail
 refine SS.out.mono ?_
 rintro e w5 ⟨B,⟨gK,rfl,rfl⟩,Rf⟩
 have fW:=(Rf.ab 1 rfl).frozen 1
 have cW:w5.cell? (gW,1)=some (.pointer none):=(Rf.ab 1 rfl).cell 1
 have Rz:=Lib.hid (Rf.setAt 1 rfl 1 (.pointer gK))
 clear SS Ra b5
 replace Rf:=Lib.hid Rf
 go_wp2_with fail
 generalize w5.setCell (gW,1) (.pointer gK)=w6 at *
 clear fW cW Rf
 refine mo (Cr Rz.out 3 4 rfl rfl 3 16448 16960 rfl rfl) λw7 Ri=>?_
 have b5:w7.cell? (gM,5)=some (.slice gb 17152 17152):=(Ri.ab 3 rfl).cell 5
 have hk:=(IP gb 16448 16960 704 oM oM 3 w7:Calls prog 52 #[.slice (some ⟨gb,16448,none⟩) 512 704,(16448:Int)] w7 (cz (λe B=> ∃g,e = .returned (.pointer (some ⟨g,0,none⟩))∧B=bD g gb 16448 16960 704 false iA) Nob w7))
 have SS:=Lib.hid (Ri.make hk)
 replace Ri:=Lib.hid Ri
 clear Rz hk
 go_wp2_with fail
 refine SS.out.mono ?_
 rintro e w8 ⟨B,⟨gS,rfl,rfl⟩,Sa⟩
 clear SS Ri b5
 have f2:=(Sa.ab 2 rfl).frozen 2
 have c2:w8.cell? (gW,2)=some (.pointer none):=(Sa.ab 2 rfl).cell 2
 have f3:=(Sa.ab 2 rfl).frozen 3
 have c3:w8.cell? (gW,3)=some (.pointer none):=(Sa.ab 2 rfl).cell 3
 have f4:=(Sa.ab 2 rfl).frozen 4
 have c4:w8.cell? (gW,4)=some (.slice none 0 0):=(Sa.ab 2 rfl).cell 4
 have c1:w8.cell? (gW,1)=some (gK:Vl):=(Sa.ab 2 rfl).cell 1
 have l0:=(Sa.ab 4 rfl).lt
 have hlW:=(Sa.ab 2 rfl).lt
 have hlw:w.heap.size<w8.heap.size:=(Sa.ab 6 rfl).lt
 have x3:w8.cell? (w.heap.size,3)=some (.int .i64 128):=(Sa.ab 6 rfl).cell 3
 have x4:w8.cell? (w.heap.size,4)=some (.int .i64 64):=(Sa.ab 6 rfl).cell 4
 have hneW:=Sa.rY 2 6 (by decide) rfl rfl
 have V6:=(((Sa.setAt 2 rfl 2 (.pointer gS)).setAt 2 rfl 3 (.pointer gK)).setAt 2 rfl 4 (.slice w8.heap.size 1 1)).box #[gK] 80
 have hsz: (((w8.setCell (gW,2) (.pointer gS)).setCell (gW,3) (.pointer gK)).setCell (gW,4) (.slice w8.heap.size 1 1)).heap.size=w8.heap.size:=by simp
 rw[hsz]at V6
 replace V6:=Lib.hid V6
 replace Sa:=Lib.hid Sa
 clear hsz
 go_wp2_with fail
 clear f2 c2 f3 c3 f4 c4 c1 x3 x4
 generalize (((w8.setCell (gW,2) (.pointer gS)).setCell (gW,3) (.pointer gK)).setCell (gW,4) (.slice w8.heap.size 1 1)).alloc (.cells #[gK] 80)=w9 at *
 have Zj:=(IK 4 16 oM 1 2 (.inl ⟨rfl,rfl,rfl⟩) w9:Calls prog 53 #[(4:Int),(128:Int)] w9 (cz (λe B=> ∃g gr,e = .returned (.tuple #[.pointer (some ⟨g,0,none⟩),.bool true])∧B=aa (fC g gr 0 1 2 (List.replicate 16 0))) Nob w9))
 replace Zj:=V6.out.make Zj
 refine Zj.mono ?_
 rintro e w10 ⟨B,⟨gD,gDr,rfl,rfl⟩,Uh⟩
 have f5:=(Uh.ab 4 rfl).frozen 5
 have c5:w10.cell? (gW,5)=some (.pointer none):=(Uh.ab 4 rfl).cell 5
 have Wl:=Lib.hid (Uh.setAt 4 rfl 5 (.pointer gD))
 have x4: (w10.setCell (gW,5) (.pointer gD)).cell? (w.heap.size,4)=some (.int .i64 64):=(Wl.out.ab 8 rfl).cell 4
 clear Zj V6
 replace Uh:=Lib.hid Uh
 go_wp2_with fail
 generalize w10.setCell (gW,5) (.pointer gD)=w11 at *
 have hs5:=(IK 5 8 oM 3 4 (.inr ⟨rfl,rfl,rfl⟩) w11:Calls prog 53 #[(5:Int),(64:Int)] w11 (cz (λe B=> ∃g gr,e = .returned (.tuple #[.pointer (some ⟨g,0,none⟩),.bool true])∧B=aa (fC g gr 0 3 4 (List.replicate 8 0))) Nob w11))
 replace hs5:=Wl.out.make hs5
 refine hs5.mono ?_
 rintro e w12 ⟨B,⟨gR,gRr,rfl,rfl⟩,Wp⟩
 clear hs5 Wl f5 c5 x4
 have f6:=(Wp.ab 5 rfl).frozen 6
 have c6:w12.cell? (gW,6)=some (.pointer none):=(Wp.ab 5 rfl).cell 6
 have hdz:=Lib.hid (Wp.setAt 5 rfl 6 (.pointer gR))
 replace Wp:=Lib.hid Wp
 go_wp2_with fail
 generalize w12.setCell (gW,6) (.pointer gR)=w13 at *
 clear f6 c6 Wp
 have hc9:=j7 (w:=w13) (R:=λe B=> ∃g,e = .returned (.tuple #[.pointer (some ⟨g,0,none⟩),(0:Int)])∧B=tD g (af.made 0 0 ⟨#[]⟩)) (λw0 L h=>(M8 h 0 0 ⟨#[]⟩ QY).mono λe w' ⟨g,he,h2⟩=>⟨_,⟨g,he,rfl⟩,h2⟩)
 replace hc9:=hdz.out.make hc9
 refine hc9.mono ?_
 rintro e w14 ⟨B,⟨gC,rfl,rfl⟩,YW⟩
 clear hc9 hdz
 have f7:=(YW.ab 6 rfl).frozen 7
 have c7:w14.cell? (gW,7)=some (.pointer none):=(YW.ab 6 rfl).cell 7
 have hdk:=YW.setAt 6 rfl 7 (.pointer gC)
 have hd:=((hdk.drop 10 rfl).front 3 rfl).front 6 rfl
 replace hd:=Lib.hid hd
 clear hdk
 replace YW:=Lib.hid YW
 go_wp2
 go_ret2
 exact⟨_,⟨⟨gW,gM,gb,gK,gS,gD,gDr,gR,gRr,gC,gT⟩,w8.heap.size,rfl,rfl⟩,hd.out⟩
structure Rw where
 S:Img
 K:Dc
 D:Dc
 kcl:Bool
 T:af.Tab
 dd:Nat
 da:List Int
 rd:Nat
 ra:List Int
 fault:Int
 used:Int
 hidden:Int
 au:Bool
def ju(r:Rc)(l:Nat)(ws:Value)(x:Rw):List Asr:=
 [ae r.gW 86 (hO r l ws x.fault x.used x.hidden x.au),tD r.gC x.T,aa (fC r.gR r.gRr x.rd 3 4 x.ra),aa (fC r.gD r.gDr x.dd 1 2 x.da),
  bD r.gS r.gb 16448 16960 704 false x.D,bD r.gK r.gb 0 16384 17152 x.kcl x.K,ae r.gT 184 (rO 0 0 1 0 true),
  ae r.gM 131 (aL r.gb x.S),RbA r.gb x.S]
def iT(r:Rc)(l:Nat)(ws:Value)(x:Rw):Asr:=aa (ju r l ws x)
theorem ng(gb:Nat){S S':Img}(h:Alike S S'):aL gb S'=aL gb S:=by
 unfold aL
 rw[h.k,h.s,h.u,h.d,h.r,h.op,h.cl,h.beg]
section
variable {w w1:World}{F:Nat->Prop}{r:Rc}{l:Nat}{ws:Value}{x:Rw}
theorem oU(h:On F w (iT r l ws x) w1):Blk w1 r.gW 86 (hO r l ws x.fault x.used x.hidden x.au):=On.ab (L:=ju r l ws x) 0 h rfl
theorem CX(h:On F w (iT r l ws x) w1)(hS:x.S.Ok):cX w1 r.gM r.gb x.S:=wo (L:=ju r l ws x) h 7 8 rfl rfl hS
theorem Pn(hb: (iT r l ws x).holds w F)(p rm:Int)(s:ByteArray)(h0:af.cI p rm s=0):Calls prog 23 #[r.gW,p,rm,.string s] w
 (cz (λe B=> ∃g,e = .returned (.int .i64 0)∧B=iT { r with gC:=g } l ws { x with T:=af.made p rm s }) F w):=by
 have so:On F w (aa (ju r l ws x)) w:=On.refl hb
 have hc9:=j7 (w:=w) (R:=λe B=> ∃g,e = .returned (.tuple #[.pointer (some ⟨g,0,none⟩),(0:Int)])∧B=tD g (af.made p rm s)) (λw0 L h=>(M8 h p rm s h0).mono λe w' ⟨g,he,h2⟩=>⟨_,⟨g,he,rfl⟩,h2⟩)
 replace hc9:=Lib.hid (so.make hc9)
 clear hb so h0
 go_enter func23,ntmps23
 go_wp2_with fail
 refine hc9.out.mono ?_
 rintro e w2 ⟨B,⟨g,rfl,rfl⟩,BY⟩
 have f7:=(On.ab 1 BY rfl).frozen 7
 have c7:w2.cell? (r.gW,7)=some (r.gC:Vl):=(On.ab 1 BY rfl).cell 7
 have Rb:=On.setAt 1 BY rfl 7 (.pointer g)
 have hd:On F w (aa (ju { r with gC:=g } l ws { x with T:=af.made p rm s })) _:=(On.drop (On.front 1 Rb rfl) 2 rfl)
 replace hd:=Lib.hid hd
 replace BY:=Lib.hid BY
 clear Rb
 go_wp2
 go_ret
 exact⟨_,⟨g,rfl,rfl⟩,hd.out⟩
theorem O0(hb: (iT r l ws x).holds w F)(hS:x.S.Ok)(hc:x.S.cl=false):Calls prog 29 #[r.gW] w (Got (.returned (.tuple #[])) (iT r l ws { x with S:={ x.S with op:=true } }) F w):=by
 have so:On F w (iT r l ws x) w:=On.refl hb
 have RH:=N9 (CX so hS) hc
 have c0:w.cell? (r.gW,0)=some (r.gM:Vl):=(oU so).cell 0
 have IS:On F w (aa (ju r l ws { x with S:={ x.S with op:=true } })) (w.setCell (r.gM,6) (.bool true)):=On.setAt (L:=ju r l ws x) 7 so rfl 6 (.bool true)
 replace RH:=Lib.hid RH
 replace IS:=Lib.hid IS
 clear hb so hS hc
 go_enter func29,ntmps29
 go_wp2_with fail
 refine RH.out.mono ?_
 rintro e w2 ⟨rfl,rfl⟩
 go_wp2
 go_end0
 exact⟨rfl,IS.out⟩
theorem Nq(hb: (iT r l ws x).holds w F)(hS:x.S.Ok)(hc:x.S.cl=false):Calls prog 33 #[r.gW] w (Got (.returned (.tuple #[])) (iT r l ws { x with S:=x.S.eR,kcl:=true }) F w):=by
 have so:On F w (iT r l ws x) w:=On.refl hb
 have RH:=O1 (CX so hS) hc
 have c0:w.cell? (r.gW,0)=some (r.gM:Vl):=(oU so).cell 0
 have Va:On F w (aa (ju r l ws { x with S:=x.S.eR })) (w.setCell (r.gM,7) (.bool true)):=On.setAt (L:=ju r l ws x) 7 so rfl 7 (.bool true)
 have c1: (w.setCell (r.gM,7) (.bool true)).cell? (r.gW,1)=some (r.gK:Vl):=(oU (x:={ x with S:=x.S.eR }) Va).cell 1
 have Vu:Blk (w.setCell (r.gM,7) (.bool true)) r.gK 154 (kB r.gb 0 16384 17152 x.kcl x.K):=On.ab (L:=ju r l ws { x with S:=x.S.eR }) 5 Va rfl
 have ck: (w.setCell (r.gM,7) (.bool true)).cell? (r.gK,2)=some (.bool x.kcl):=Vu.cell 2
 have fk:=Vu.frozen 2
 have IS:On F w (aa (ju r l ws { x with S:=x.S.eR,kcl:=true })) _:=On.setAt (L:=ju r l ws { x with S:=x.S.eR }) 5 Va rfl 2 (.bool true)
 replace RH:=Lib.hid RH
 replace IS:=Lib.hid IS
 clear hb so hS hc Va Vu
 generalize w.setCell (r.gM,7) (.bool true)=wm at *
 go_enter func33,ntmps33
 go_wp2_with fail
 refine RH.out.mono ?_
 rintro e w2 ⟨rfl,rfl⟩
 go_wp2
 go_end0
 exact⟨rfl,IS.out⟩
end
def wT(gM gb:Nat)(S:Img):List Asr:=[ae gM 131 (aL gb S),RbA gb S]
section
variable {w w1:World}{F:Nat->Prop}{gM gb:Nat}{S:Img}
theorem Cy(h:On F w (aa (wT gM gb S)) w1)(hS:S.Ok):cX w1 gM gb S:=wo (L:=wT gM gb S) h 0 1 rfl rfl hS
theorem MC{k:Nat}{l:List UInt8}(h:On F w (aa [ae gM 131 (aL gb S),RbA gb (S.put k l)]) w1):On F w (aa (wT gM gb (S.put k l))) w1:=by
 unfold wT
 rw[ng gb (Alike.put S k l)]
 exact h
theorem JT(S:Img)(l:List UInt8)(h:l.length<=S.s): (l++List.replicate (S.s-l.length) (0:UInt8)).length=S.s:=by simp;omega
theorem OL(h:On F w (aa (wT gM gb S)) w1)(hS:S.Ok)(s:ByteArray)(hs:s.size<=S.s)(Sw:S.s<=4096):
 Calls prog 31 #[gM,.string s] w1 (Got (.returned (.int .i64 0)) (aa (wT gM gb (Setup.load S s.data.toList))) F w):=by
 have R9:s.data.toList.length=s.size:=by rw[Lib.size_eq]
 have Ru:=pB (Cy h hS) 2
 have ha:dq S 2= (S.beg 2:Int):=by unfold dq;rw[if_pos oM];rfl
 have hb:ic S 2= ((S.beg 2+S.s:Nat):Int):=by unfold ic;rw[if_pos oM];rfl
 rw[ha,hb]at Ru
 have ZD:=JT S s.data.toList (by rw[R9];exact hs)
 have hall:S.beg 2+S.s<=S.beg 6:=by simp only[Img.beg];omega
 have Zs:=hS.small
 have hlen:=hS.len
 have e:Setup.load S s.data.toList=S.put (S.beg 2) (s.data.toList++List.replicate (S.s-s.data.toList.length) 0):=rfl
 rw[e]
 have Z0: ∀j,j<s.size->(s.data.toList++List.replicate (S.s-s.data.toList.length) (0:UInt8)).getD j 0=s.data.toList.getD j 0:=λj hj=>by
  rw[List.getD_eq_getElem?_getD,List.getElem?_append_left (by rw[R9];exact hj),List.getD_eq_getElem?_getD]
 have hgz: ∀j,s.size<=j->(s.data.toList++List.replicate (S.s-s.data.toList.length) (0:UInt8)).getD j 0=0:=λj hj=>by
  rw[List.getD_eq_getElem?_getD,List.getElem?_append_right (by rw[R9];exact hj),List.getElem?_replicate]
  split<;>rfl
 have V3:=λ(j:Nat) (h:j<s.size)=>gp s j h
 generalize Z4:s.data.toList++List.replicate (S.s-s.data.toList.length) (0:UInt8)=full at *
 have hB: ∀(j:Nat) W,j<S.s->On F w (aa [ae gM 131 (aL gb S),RbA gb (S.put (S.beg 2) (full.take j))]) W->
  (W.cell? (gM,1)=some ((S.s:Int):Vl)∧W.cell? (gM,5)=some (.slice gb (S.beg 6) (S.beg 6)))∧(∃x,W.cell? ⟨gb,S.beg 2+j,none⟩=some (.int .u8 x))∧W.frozen? ⟨gb,S.beg 2+j,none⟩=false∧gM≠gb:=λj W hj h=>by
  have h1:Blk W gM 131 (aL gb S):=h.ab 0 rfl
  have h2:Blk W gb 5 (ah (S.put (S.beg 2) (full.take j)).b).toArray:=h.ab 1 rfl
  have Ug: (S.put (S.beg 2) (full.take j)).b.length=S.b.length:=S.iz _ _ (by rw[List.length_take,hlen];omega)
  refine⟨⟨h1.cell 1,h1.cell 5⟩,⟨((S.put (S.beg 2) (full.take j)).b.getD (S.beg 2+j) 0).toNat,?_⟩,h2.frozen _,h1.ne_ h2 (by decide)⟩
  rw[h2.cell]
  have h3:S.beg 2+j< (S.put (S.beg 2) (full.take j)).b.length:=by omega
  simp[ah,h3]
 have ON: ∀(j:Nat) W,j<S.s->On F w (aa [ae gM 131 (aL gb S),RbA gb (S.put (S.beg 2) (full.take j))]) W->∀(W2:World),On F w (aa [ae gM 131 (aL gb S),ae gb 5 ((ah (S.put (S.beg 2) (full.take j)).b).toArray.setIfInBounds (S.beg 2+j) (.int .u8 ((full.getD j 0).toNat:Int)))]) W2->
  On F w (aa [ae gM 131 (aL gb S),RbA gb (S.put (S.beg 2) (full.take (j+1)))]) W2:=λj W hj h W2 h2=>by
  have e:=tO S.b (S.beg 2) full j (by rw[ZD];exact hj) (by rw[hlen];omega)
  have e2: (ah (S.put (S.beg 2) (full.take j)).b).toArray.setIfInBounds (S.beg 2+j) (.int .u8 ((full.getD j 0).toNat:Int))= (ah (S.put (S.beg 2) (full.take (j+1))).b).toArray:=e
  rw[e2]at h2
  exact h2
 have SM: ∀(j:Nat) W,j<S.s->On F w (aa [ae gM 131 (aL gb S),RbA gb (S.put (S.beg 2) (full.take j))]) W->s.size<=j->On F w (aa [ae gM 131 (aL gb S),RbA gb (S.put (S.beg 2) (full.take (j+1)))]) (W.setCell ⟨gb,S.beg 2+j,none⟩ (.int .u8 0)):=λj W hj h hz=>by
  have h2:=h.setAt 1 rfl (S.beg 2+j) (.int .u8 0)
  refine ON j W hj h _ ?_
  rw[hgz j hz]
  exact h2
 have heV: ∀(j:Nat) W,j<S.s->On F w (aa [ae gM 131 (aL gb S),RbA gb (S.put (S.beg 2) (full.take j))]) W->j<s.size->On F w (aa [ae gM 131 (aL gb S),RbA gb (S.put (S.beg 2) (full.take (j+1)))]) ((W.setCell ⟨gb,S.beg 2+j,none⟩ (.int .u8 0)).setCell ⟨gb,S.beg 2+j,none⟩ (.int .u8 ((s.data.toList.getD j 0).toNat:Int))):=λj W hj h hz=>by
  have h1:=h.setAt 1 rfl (S.beg 2+j) (.int .u8 0)
  have h2:=h1.setAt 1 rfl (S.beg 2+j) (.int .u8 ((s.data.toList.getD j 0).toNat:Int))
  refine ON j W hj h _ ?_
  rw[Z0 j hz]
  rw[Array.setIfInBounds_setIfInBounds]at h2
  exact h2
 have R4:=λW (h:On F w (aa [ae gM 131 (aL gb S),RbA gb (S.put (S.beg 2) (full.take S.s))]) W)=>(by
  rw[List.take_of_length_le (by rw[ZD];exact Nat.le_refl _)]at h
  exact MC h:On F w (aa (wT gM gb (S.put (S.beg 2) full))) W)
 have Rj: ∀W,On F w (aa (wT gM gb S)) W->On F w (aa [ae gM 131 (aL gb S),RbA gb (S.put (S.beg 2) (full.take 0))]) W:=λW h=>by
  rw[List.take_zero,Img.fK]
  exact h
 have c1:w1.cell? (gM,1)=some ((S.s:Int):Vl):=(Cy h hS).cells.2.1
 generalize S.put (S.beg 2) full=Sf at *
 generalize S.beg 2=b at *
 generalize S.beg 6=N at *
 generalize S.s=n at *
 replace h:=Lib.hid h
 replace Ru:=Lib.hid Ru
 replace V3:=Lib.hid V3
 replace hB:=Lib.hid hB
 replace SM:=Lib.hid SM
 replace heV:=Lib.hid heV
 replace R4:=Lib.hid R4
 replace Rj:=Lib.hid Rj
 clear ON Z0 hgz ha hb ZD e R9 Z4 hlen hS
 go_enter func31,ntmps31
 go_wp2_with fail
 refine mo Ru.out λw2 Q9=>?_
 have h2:=Lib.hid (Rj.out _ (h.out.below Q9))
 clear Q9 h c1
 go_wp2
 go_loopg [7] n (λk t wr=> ∃j:Nat,j+k=n∧t = .int .i64 (j:Int)∧On F w (aa [ae gM 131 (aL gb S),RbA gb (S.put b (full.take j))]) wr)
 case atStart=>exact⟨0,by omega,rfl,h2.out⟩
 case round=>
  obtain⟨j,hj,rfl,so⟩:=hrel
  by_cases YM:j<n
  ·obtain⟨⟨c1,c5⟩,⟨xo,cx⟩,fx,RP⟩:=hB.out j wr YM so
   by_cases hz:j<s.size
   ·have hf:=Lib.hid (heV.out j wr YM so hz)
    have hx:=V3.out j hz (wr.setCell ⟨gb,b+j,none⟩ (.int .u8 0)).drew
    replace so:=Lib.hid so
    generalize ((s.data.toList.getD j 0).toNat:Int)=c at *
    go_wp2_with fail
    go_region
    go_wp2
    go_roundg (gk-1)
    case measure=>omega
    case rel=>exact⟨j+1,by omega,by go_num,hf.out.drew⟩
   ·have hf:=Lib.hid (SM.out j wr YM so oM)
    replace so:=Lib.hid so
    go_wp2
    go_roundg (gk-1)
    case measure=>omega
    case rel=>exact⟨j+1,by omega,by go_num,hf.out⟩
  ·have TJ:j=n:=by omega
   subst TJ
   replace so:=Lib.hid (R4.out _ so)
   go_wp2
   go_ret
   exact⟨rfl,so.out⟩
