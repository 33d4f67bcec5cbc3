/- Chapter 11: what is made ahead of each law, as plain functions; the code of a word in an image. No condition. -/
import Derived.Test.YteaijdgnagkllaaGreatDoorZd22
import Derived.Test.YteaijdgnagkllaaGreatDoorZd23
open Go.Proofs.Tryz
namespace Go.Proofs.YteaijdgnagkllaaGreatDoor
set_option linter.unusedVariables false
set_option linter.unusedSimpArgs false
set_option maxHeartbeats 8000000
open Go.RowKit Go.Lib
namespace Vm
structure Wrd where
 name:ByteArray
 hid:Bool
 imm:Bool
 cells:List Int
def commasS:List Int->Img×Dc->Img×Dc
 | [],q=>q
 | v::l,q=>if q.2.commaF q.1=0 then commasS l (q.2.commaS q.1 v,q.2.commaD q.1)else q
def markS(x:Wrd)(S:Img)(D:Dc):Img:=
 if x.imm then D.turnS (if x.hid then S else D.turnS S showT) immT else if x.hid then S else D.turnS S showT
def laidS(x:Wrd)(q:Img×Dc):Img×Dc:=
 if q.2.createF q.1 x.name.data.toList≠0 then q
 else commasS x.cells (markS x (q.2.createS q.1 x.name.data.toList) (q.2.createD q.1 x.name.data.toList),q.2.createD q.1 x.name.data.toList)
def listS(xs:List Wrd)(q:Img×Dc):Img×Dc:=(xs.take 20).foldl (λq x=>laidS x q) q
structure Grew(q q':Img×Dc):Prop where
 img:q'.1.Ok
 dc:q'.2.Ok q'.1
 al:Alike q.1 q'.1
 rg:q'.2.rg=q.2.rg
theorem Grew.refl{q:Img×Dc}(h1:q.1.Ok)(h2:q.2.Ok q.1):Grew q q:=⟨h1,h2,Alike.refl _,rfl⟩
theorem Grew.trans{a b c:Img×Dc}(h:Grew a b)(g:Grew b c):Grew a c:=⟨g.img,g.dc,h.al.trans g.al,g.rg.trans h.rg⟩
theorem show_flag(b:UInt8):showT b= (b &&& ~~~(32:UInt8) ||| 0):=by
 unfold showT
 rw[UInt8.or_zero]
 rfl
theorem turn_show(S:Img)(D:Dc):D.turnS S showT=D.flagS S 32 0:=by
 unfold Dc.turnS Dc.flagS
 split
 ·rfl
 ·rw[show_flag]
section
variable {S:Img}{D:Dc}
theorem grew_show(hS:S.Ok)(hD:D.Ok S):Grew (S,D) (D.turnS S showT,D):=by
 rw[turn_show]
 have h:=Dc.ok_flag hS hD 32 0
 exact⟨h.1,h.2,Dc.alike_flag _ _ _ _,rfl⟩
theorem grew_comma(hS:S.Ok)(hD:D.Ok S)(v:Int):Grew (S,D) (D.commaS S v,D.commaD S):=by
 have h:=Dc.ok_comma hS hD v
 refine⟨h.1,h.2,Dc.alike_comma _ _ _,?_⟩
 show(D.commaD S).rg=D.rg
 unfold Dc.commaD
 split<;>rfl
theorem grew_create(hS:S.Ok)(hD:D.Ok S)(n:List UInt8):Grew (S,D) (D.createS S n,D.createD S n):=by
 have h:=Dc.ok_create hS hD n
 refine⟨h.1,h.2,Dc.alike_create _ _ _,?_⟩
 show(D.createD S n).rg=D.rg
 unfold Dc.createD
 split<;>rfl
end
theorem Grew.shut{q q':Img×Dc}(h:Grew q q'):q'.2.shut q'.1=q.2.shut q.1:=by
 unfold Dc.shut
 rw[h.al.cl,h.rg]
structure Setup where
 caps:Int
 room:Int
 input:ByteArray
 hidden:ByteArray
 opened:Bool
 kernel:List Wrd
 student:List Wrd
 base:Int
 data:List Int
 ret:List Int
 fault:Int
 used:Int
 hiddenAs:Int
def pickS(c n:Int):Int:=(if c<0 then -(c+1)else c) % n
def img0:Img:=newImg 16384 64 512 128 64
def ker0:Dc:=⟨1,8,0⟩
def stu0:Dc:=⟨3,16456,0⟩
namespace Setup
variable (s:Setup)
def tooLong:Bool:=decide (4096<s.input.size) ||decide (64<s.hidden.size)
def inp:ByteArray:=if s.tooLong then⟨#[]⟩else s.input
def hid:ByteArray:=if s.tooLong then⟨#[]⟩else s.hidden
def k1:Img×Dc:=listS s.kernel (img0,ker0)
def t1:Img×Dc:=listS s.student (s.k1.1,stu0)
def load(S:Img)(l:List UInt8):Img:=S.put (S.beg 2) (l++List.replicate (S.s-l.length) 0)
def i2:Img:=if s.opened then s.t1.1.opened else s.t1.1
def i3:Img:=(load s.i2 s.hid.data.toList).sealed
def m0:Mt:=⟨s.i3,⟨16960,16,1,2⟩,⟨17088,8,3,4⟩,0,0,Caps.made (pickS s.caps 32) (pickS s.room 65537) s.inp,s.t1.2.h,s.t1.2.l,s.k1.2.h,s.k1.2.l,0,0,0,false,[],Ext.zero⟩
def m1:Mt:=(s.m0.pushD (s.data.take 16)).pushR (s.ret.take 8)
def mt:Mt:={ s.m1 with S:=s.m1.S.setCell 0 16448 s.base,fault:=s.fault,used:=s.used,hidden:=s.hiddenAs,tells:=true }
end Setup
def cellsB(l:List Int):List UInt8:=l.flatMap toB
theorem cellsB_len(l:List Int): (cellsB l).length=8*l.length:=by
 induction l with
 | nil=>rfl
 | cons v l ih=>
   show(toB v++cellsB l).length=_
   rw[List.length_append,toB_len,ih,List.length_cons]
   omega
theorem cellsB_at: ∀(l:List Int) (i:Nat) (v:Int),l[i]? = some v->((cellsB l).drop (8*i)).take 8=toB v
 | [],i,v,h=>by simp at h
 | u::l,0,v,h=>by
   obtain rfl:u=v:=by simpa using h
   show(toB u++cellsB l).take 8=_
   rw[List.take_append_of_le_length (by rw[toB_len];exact Nat.le_refl _),List.take_of_length_le (by rw[toB_len];exact Nat.le_refl _)]
 | u::l,i+1,v,h=>by
   show((toB u++cellsB l).drop (8* (i+1))).take 8=_
   rw[List.drop_append,List.drop_eq_nil_of_le (by rw[toB_len];omega),List.nil_append,toB_len,show 8* (i+1) -8=8*i by omega]
   exact cellsB_at l i v (by simpa using h)
theorem commas_put: ∀(l:List Int) (S:Img) (D:Dc),S.Ok->D.Ok S->D.h % 8=0->D.h+8*l.length<=D.lim S->D.shut S=false->
 commasS l (S,D)= (S.put D.h (cellsB l),{ D with h:=D.h+8*l.length })
 | [],S,D,_,_,_,_,_=>by
   show(S,D)= (S.put D.h [],D)
   rw[Img.put_nil]
 | v::l,S,D,hS,hD,h8,hl,hsh=>by
   have hl1:8* (v::l).length=8+8*l.length:=by rw[List.length_cons];omega
   have e:D.commaF S=0:=by
    unfold Dc.commaF
    rw[if_neg oM,if_neg oM,if_neg (by rw[hsh];decide)]
   have g:=grew_comma hS hD v
   have e1:D.commaS S v=S.put D.h (toB v):=by unfold Dc.commaS;rw[if_pos e]
   have e2:D.commaD S = { D with h:=D.h+8 }:=by unfold Dc.commaD;rw[if_pos e]
   rw[e1,e2]at g
   unfold commasS
   rw[if_pos e,e1,e2,commas_put l _ _ g.img g.dc (by show(D.h+8) % 8=0;omega) (by
    show D.h+8+8*l.length<=_
    rw[Dc.lim_alike (D:={ D with h:=D.h+8 }) (Alike.put S D.h (toB v))]
    show D.h+8+8*l.length<=D.lim S
    omega) (by
    rw[Dc.shut_alike (D:={ D with h:=D.h+8 }) (Alike.put S D.h (toB v))]
    exact hsh)]
   have hp: (S.put D.h (toB v)).put (D.h+8) (cellsB l)=S.put D.h (toB v++cellsB l):=by
    have:=S.put_append D.h (toB v) (cellsB l) (by rw[toB_len,hS.len];have:=hD.all;omega)
    rw[toB_len]at this
    exact this
   rw[show({ D with h:=D.h+8 }:Dc).h=D.h+8 from rfl,hp,hl1,show D.h+ (8+8*l.length)=D.h+8+8*l.length by omega]
   rfl
structure CodeAt(S:Img)(a:Nat)(cs:List Int):Prop where
 al:a % 8=0
 lo:S.beg 3<=a
 hi:a+8*cs.length<=S.beg 4
 at_: ∀i v,cs[i]? = some v->ofB (S.bytes ((a+8*i:Nat):Int) 8)=v
theorem CodeAt.put{S:Img}{a:Nat}{cs:List Int}(h:CodeAt S a cs)(hS:S.Ok)(k:Nat)(l:List UInt8)(hk:k+l.length<=S.beg 6)(hf:k+l.length<=a∨a+8*cs.length<=k):CodeAt (S.put k l) a cs:=by
 have hb:=Alike.put S k l
 have h64:S.beg 4<=S.beg 6:=S.beg_mono oM oM oM
 have hhi:=h.hi
 refine⟨h.al,by rw[hb.beg];exact h.lo,by rw[hb.beg];exact h.hi,λi v hv=> ?_⟩
 have hi:i<cs.length:=(List.getElem?_eq_some_iff.1 hv).1
 rw[S.bytes_put_far k _ 8 l (by rw[hS.len];exact hk) (by rw[hS.len];omega) oM]
 exact h.at_ i v hv
theorem CodeAt.cell{S:Img}{a:Nat}{cs:List Int}(h:CodeAt S a cs)(m:Int)(hm:0<=m∧m<=2)(i:Nat)(v:Int)(hv:cs[i]? = some v):S.cellF m ((a:Int) +8* (i:Int)) false=0∧S.cellV m ((a:Int) +8* (i:Int))=v:=by
 have hi:i<cs.length:=(List.getElem?_eq_some_iff.1 hv).1
 have h1:=h.lo
 have h2:=h.hi
 have h3:=h.al
 rw[show(a:Int) +8* (i:Int)= ((a+8*i:Nat):Int)by omega]
 have hr:S.region ((a+8*i:Nat):Int)=3:=S.region_eq oM oM oM oM (by show _< ((S.beg 4:Nat):Int);omega)
 have hrow:S.rowOk m ((a+8*i:Nat):Int) 8 false=true:=by
  unfold Img.rowOk Img.lets Img.may
  rw[hr]
  have hb4:S.beg (3+1)=S.beg 4:=rfl
  have h4:decide (((8:Nat):Int)<=(S.beg (3+1):Int) - ((a+8*i:Nat):Int))=true:=decide_eq_true (by rw[hb4];omega)
  rw[h4]
  rcases(show m=0∨m=1∨m=2 by omega)with rfl|rfl|rfl<;>simp
 have hF:S.cellF m ((a+8*i:Nat):Int) false=0:=by
  unfold Img.cellF
  rw[if_neg oM,if_pos hrow]
 refine⟨hF,?_⟩
 unfold Img.cellV
 rw[if_pos hF]
 exact h.at_ i v hv
theorem CodeAt.fetch{S:Img}{a:Nat}{cs:List Int}(h:CodeAt S a cs)(m:Int)(hm:0<=m∧m<=2)(i:Nat)(v op arg:Int)(hv:cs[i]? = some v)(hu:Code.unpack v= (op,arg,true))(h2:op≠2)(h19:op≠19):S.fetch m ((a:Int) +8* (i:Int))= (⟨op,arg,0,1⟩,0):=by
 obtain⟨h3,h4⟩:=h.cell m hm i v hv
 unfold Img.fetch
 rw[if_neg (by rw[h3];decide),h4,hu,if_neg (by simp),if_neg h2,if_neg h19]
theorem CodeAt.fetchLit{S:Img}{a:Nat}{cs:List Int}(h:CodeAt S a cs)(m:Int)(hm:0<=m∧m<=2)(i:Nat)(v:Int)(hv:cs[i]? = some 2)(hv2:cs[i+1]? = some v):S.fetch m ((a:Int) +8* (i:Int))= (⟨2,0,v,2⟩,0):=by
 obtain⟨h3,h4⟩:=h.cell m hm i 2 hv
 obtain⟨h5,h6⟩:=h.cell m hm (i+1) v hv2
 rw[show(a:Int) +8* ((i+1:Nat):Int)= (a:Int) +8* (i:Int) +8 by omega]at h5 h6
 have hu:Code.unpack 2= (2,0,true):=by decide
 unfold Img.fetch
 rw[if_neg (by rw[h3];decide),h4,hu,if_neg (by simp),if_pos rfl,if_neg (by rw[h5];decide),h6]
end Vm
set_option maxRecDepth 100000
open Go.RowKit Go.Lib Go.Deep
namespace Vm
structure Srcd(c:Vc)(src:Value)(s:Mt)(gs:Nat)(L:List Asr):Prop where
 at_:src = .pointer gs
 rest: ∀k,c.rest ⟨s.ext.text,k⟩=SrcA gs s.ext.text k::L
 sz:s.ext.text.size<=60000
 le:s.ext.at_<=s.ext.text.size
def exW(e:Ext):ByteArray:=e.text.extract (wordFrom e.text.data.toList e.at_) (wordTo e.text.data.toList e.at_)
def exN(e:Ext):Nat:=wordEnd e.text.data.toList e.at_
def Mt.readTo(s:Mt)(k:Nat):Mt:={ s with ext:=⟨s.ext.text,k⟩ }
section
variable {w w':World}{F:Nat->Prop}{c:Vc}{g gs:Nat}{x:Rn}{src:Value}{s:Mt}{B:Asr}{L:List Asr}
theorem Srcd.word(h:Srcd c src s gs L)(hon:On F w (AllA (B::vL c g x src s)) w'):
 Calls prog 95 #[gs] w' (Got (.returned (.tuple #[.string (exW s.ext),((exN s.ext:Nat) - (s.ext.at_:Int):Int)])) (AllA (B::vL c g x src (s.readTo (exN s.ext)))) F w):=by
 have e1:c.rest s.ext=SrcA gs s.ext.text s.ext.at_::L:=h.rest s.ext.at_
 have h1:=hon.callAtG (A:=SrcA gs s.ext.text s.ext.at_) (A':=SrcA gs s.ext.text (exN s.ext)) (e0:= .returned (.tuple #[.string (exW s.ext),((exN s.ext:Nat) - (s.ext.at_:Int):Int)])) 10 (by show(c.rest s.ext)[0]? = _;rw[e1];rfl) (λF' ha=>(word_walk gs s.ext.text (by have:=h.sz;omega) s.ext.at_ h.le w' F' ha).mono λe w2 ⟨v,A',F2,⟨hv,hA⟩,he,hh,hk,hF⟩=>by subst hv hA;exact⟨he,F2,hh,hk,hF⟩)
 have e2: (B::vL c g x src s).set 10 (SrcA gs s.ext.text (exN s.ext))=B::vL c g x src (s.readTo (exN s.ext)):=by
  show B::RunA c g x src::MachA c s::_::_::_::_::_::_::_:: (c.rest s.ext).set 0 _=B::RunA c g x src::MachA c s::_::_::_::_::_::_::_::c.rest ⟨s.ext.text,exN s.ext⟩
  rw[e1,h.rest]
  rfl
 rw[e2]at h1
 exact h1
def exC(e:Ext):Int:=(exN e:Int) -e.at_+ (if exW e= ⟨#[]⟩then 0 else 1)
theorem ex_bounds{e:Ext}(hs:e.text.size<=60000)(hl:e.at_<=e.text.size):e.at_<=exN e∧exN e<=e.text.size∧(exW e).size<=60000:=by
 have hsz:e.text.data.toList.length=e.text.size:=by rw[Lib.size_eq]
 have b1:wordFrom e.text.data.toList e.at_<=e.text.size:=by unfold wordFrom;rw[<-hsz];exact goesTo_le oM
 have b2:wordTo e.text.data.toList e.at_<=e.text.size:=by unfold wordTo;rw[<-hsz];exact goesTo_le (by rw[hsz];exact b1)
 have b3:exN e<=e.text.size:=by unfold exN wordEnd;rw[<-hsz];exact stepTo_le (by rw[hsz];exact b2)
 have b4:e.at_<=exN e:=Nat.le_trans (le_goesTo isLow _ _) (Nat.le_trans (le_goesTo isHigh _ _) (le_stepTo _ _))
 refine⟨b4,b3,?_⟩
 unfold exW
 rw[ByteArray.size_extract]
 omega
theorem ne_list{b:ByteArray}(h: ¬b= ⟨#[]⟩):b.toList.isEmpty=false:=by
 rw[Lib.toList_data]
 obtain⟨a⟩:=b
 rcases hl:a.toList with _| ⟨x,l⟩
 ·exact absurd (by rw[show a=#[]from Array.toList_eq_nil_iff.1 hl]) h
 ·rfl
theorem Srcd.back{w2:World}{k:Nat}(h:Srcd c src s gs L)(B:Asr)(h2:On F w (AllA (B::vL c g x src (s.readTo k))) w2):
 On F w (VA c g x src s) (((w2.setCell (gs,0) (.string s.ext.text)).setCell (gs,1) (.int .i64 (s.ext.at_:Int))).setCell (gs,2) (.int .i64 ((lfs (s.ext.text.data.toList.take s.ext.at_):Nat):Int))).drew:=by
 have e1:c.rest s.ext=SrcA gs s.ext.text s.ext.at_::L:=h.rest s.ext.at_
 have h3:On F w (AllA (B::RunA c g x src::MachA c s::ImgA c.gI s.S::StkA c.gI c.gD s.pd s.d::StkA c.gI c.gR s.pr s.r::TabA c.gT s.T::DictA c.gI c.gS c.sfr c.sto s.hs s.ls::DictA c.gI c.gK c.kfr c.kto s.hk s.lk::c.tl s.seen::SrcA gs s.ext.text k::L)) w2:=by
  rw[<-h.rest k]
  exact h2
 have h4:=((h3.setAt 10 rfl 0 (.string s.ext.text)).setAt 10 rfl 1 (.int .i64 (s.ext.at_:Int))).setAt 10 rfl 2 (.int .i64 ((lfs (s.ext.text.data.toList.take s.ext.at_):Nat):Int))
 refine On.drew ?_
 have h5:=h4.tail
 unfold VA vL
 rw[e1]
 exact h5
theorem Dcs.onGrew{S':Img}{D':Dc}(hp:Dcs c src s)(hg:Grew (s.S,dS s) (S',D')):Dcs c src (s.onDict S' D')∧dS (s.onDict S' D')=D':=by
 have e:dS (s.onDict S' D')=D':=by
  obtain⟨rg,h,l⟩:=D'
  have h3:rg=3:=hg.rg
  subst h3
  unfold dS Mt.onDict
  simp
 refine⟨⟨Int.natCast_nonneg _,Int.natCast_nonneg _,?_⟩,e⟩
 rw[e]
 exact hp.at8.next hg.img hg.dc hg.al hg.rg
end
structure Lay0(S:Img):Prop where
 k:S.k=16384
 s:S.s=64
 u:S.u=512
 d:S.d=128
 r:S.r=64
theorem Lay0.begs{S:Img}(h:Lay0 S):S.beg 2=16384∧S.beg 3=16448∧S.beg 4=16960∧S.beg 5=17088∧S.beg 6=17152:=by
 simp[Img.beg,h.k,h.s,h.u,h.d,h.r]
theorem Lay0.alike{S T:Img}(h:Lay0 S)(ha:Alike S T):Lay0 T:=⟨ha.k.trans h.k,ha.s.trans h.s,ha.u.trans h.u,ha.d.trans h.d,ha.r.trans h.r⟩
theorem sysF{S:Img}(hL:Lay0 S)(x:Nat)(h1:16960<=x)(h2:x+8<=17152)(h8:x % 8=0)(w:Bool):S.cellF 0 (x:Int) w=0:=by
 obtain⟨b2,b3,b4,b5,b6⟩:=hL.begs
 have hr: ∃j,(j=4∨j=5)∧S.region (x:Int)=j∧x+8<=S.beg (j+1):=by
  by_cases h:x<17088
  ·exact⟨4,.inl rfl,S.region_eq oM oM oM oM (by show(x:Int) <S.beg 5;omega),by show x+8<=S.beg 5;omega⟩
  ·exact⟨5,.inr rfl,S.region_eq oM oM oM oM (by show(x:Int) <S.beg 6;omega),by show x+8<=S.beg 6;omega⟩
 obtain⟨j,hj,hr,hle⟩:=hr
 have hrow:S.rowOk 0 (x:Int) 8 w=true:=by
  unfold Img.rowOk Img.lets Img.may
  rw[hr]
  have h4:decide (((8:Nat):Int)<=(S.beg (j+1):Int) - (x:Int))=true:=decide_eq_true oM
  rw[h4]
  rcases hj with rfl|rfl<;>cases w<;>simp
 unfold Img.cellF
 rw[if_neg oM,if_pos hrow]
def InStk(fr i:Nat):Prop:=(fr=16960∧i<16)∨(fr=17088∧i<8)
theorem sset_put{S:Img}(hL:Lay0 S){fr i:Nat}(h:InStk fr i)(v:Int):sset S fr i v=S.put (fr+8*i) (toB v):=by
 unfold InStk at h
 unfold sset Img.setCell
 rw[show(fr:Int) +8* (i:Int)= ((fr+8*i:Nat):Int)by omega,if_pos (sysF hL _ oM oM oM true),Int.toNat_natCast]
theorem sget_same{S:Img}(hS:S.Ok)(hL:Lay0 S){fr i:Nat}(h:InStk fr i)(v:Int)(hv:V64 v):sget (S.put (fr+8*i) (toB v)) fr i=v:=by
 obtain⟨b2,b3,b4,b5,b6⟩:=hL.begs
 unfold InStk at h
 unfold sget
 have hc:=sysF hL (fr+8*i) oM oM oM false
 rw[show(fr:Int) +8* (i:Int)= ((fr+8*i+0:Nat):Int)by omega,cellV_put_in S hS 0 (fr+8*i) 0 (toB v) (by rw[toB_len];omega) (by rw[toB_len];omega) hc]
 rw[List.drop_zero,List.take_of_length_le (by rw[toB_len];omega)]
 exact ofB_toB v hv
theorem sget_far{S:Img}(hS:S.Ok)(hL:Lay0 S){fr i fr' i':Nat}(h:InStk fr i)(h':InStk fr' i')(hne:fr+8*i≠fr'+8*i')(v:Int):sget (S.put (fr+8*i) (toB v)) fr' i'=sget S fr' i':=by
 obtain⟨b2,b3,b4,b5,b6⟩:=hL.begs
 unfold InStk at h h'
 unfold sget
 exact cellV_put_far S hS 0 _ (fr+8*i) (toB v) (by rw[toB_len];omega) (by rw[toB_len];omega)
structure Rep(s:Mt)(a:Nat)(cs ds rs:List Int):Prop where
 img:s.S.Ok
 lay:Lay0 s.S
 pd:s.pd= ⟨16960,16,1,2⟩
 pr:s.pr= ⟨17088,8,3,4⟩
 code:CodeAt s.S a cs
 d:s.d=ds.length
 r:s.r=rs.length
 dle:ds.length<=16
 rle:rs.length<=8
 dv: ∀i v,ds[i]? = some v->sget s.S 16960 i=v
 rv: ∀i v,rs[i]? = some v->sget s.S 17088 i=v
section
variable {s:Mt}{a:Nat}{cs ds rs:List Int}
theorem Rep.ok(h:Rep s a cs ds rs):s.Ok:=by
 refine⟨?_,?_,?_,?_,?_,?_,?_,?_⟩
 ·rw[h.pd];exact⟨by decide,by decide⟩
 ·rw[h.pr];exact⟨by decide,by decide⟩
 ·rw[h.pd,h.d];exact h.dle
 ·rw[h.pr,h.r];exact h.rle
 ·rw[h.pd]
 ·rw[h.pd]
 ·rw[h.pr]
 ·rw[h.pr]
theorem Rep.top(h:Rep s a cs ds rs)(n:Nat)(v:Int)(hn:n<ds.length)(hv:ds[ds.length-1-n]? = some v):s.top (n:Int)=v:=by
 unfold Mt.top stopv
 rw[h.d,h.pd,if_pos ⟨by omega,by omega⟩,Int.toNat_natCast]
 exact h.dv _ _ hv
theorem Rep.rtop(h:Rep s a cs ds rs)(n:Nat)(v:Int)(hn:n<rs.length)(hv:rs[rs.length-1-n]? = some v):s.rtop (n:Int)=v:=by
 unfold Mt.rtop stopv
 rw[h.r,h.pr,if_pos ⟨by omega,by omega⟩,Int.toNat_natCast]
 exact h.rv _ _ hv
theorem Rep.arv(h:Rep s a cs ds rs)(n j:Nat)(v:Int)(hj:j<n)(hn:n<=ds.length)(hv:ds[ds.length-n+j]? = some v):ar s n j=v:=by
 have e:ar s n j=s.top ((n-1-j:Nat):Int):=by simp[Vm.ar,Mt.args,hj]
 rw[e]
 exact h.top _ _ oM (by rw[<-hv];congr 1;omega)
theorem stk_code{S:Img}(hS:S.Ok)(hL:Lay0 S){fr i:Nat}(h:InStk fr i)(v:Int)(hc:CodeAt S a cs):CodeAt (S.put (fr+8*i) (toB v)) a cs:=by
 obtain⟨b2,b3,b4,b5,b6⟩:=hL.begs
 have h1:=hc.hi
 unfold InStk at h
 exact hc.put hS _ _ (by rw[toB_len];omega) (by rw[toB_len];omega)
theorem get_snoc{l:List Int}{v u:Int}{i:Nat}(h: (l ++ [v])[i]? = some u): (i=l.length∧u=v)∨(i<l.length∧l[i]? = some u):=by
 rw[List.getElem?_append]at h
 split at h
 ·exact .inr ⟨by assumption,h⟩
 ·left
  rcases hk:i-l.length with _|k
  ·rw[hk]at h
   simp at h
   exact⟨by omega,h.symm⟩
  ·rw[hk]at h
   simp at h
theorem Rep.pushD1(h:Rep s a cs ds rs)(v:Int)(hv:V64 v)(hr:ds.length<16):Rep (s.pushD [v]) a cs (ds ++ [v]) rs:=by
 have hi:InStk 16960 ds.length:= .inl ⟨rfl,hr⟩
 have hlen:=h.img.len
 obtain⟨b2,b3,b4,b5,b6⟩:=h.lay.begs
 have e: (s.pushD [v]).S=s.S.put (16960+8*ds.length) (toB v):=by
  show sset s.S s.pd.fr s.d v=_
  rw[h.pd,h.d]
  exact sset_put h.lay hi v
 refine⟨?_,?_,h.pd,h.pr,?_,?_,h.r,by simp;omega,h.rle,?_,?_⟩
 ·rw[e];exact put_ok h.img _ _ (by rw[toB_len];omega)
 ·rw[e];exact h.lay.alike (Alike.put _ _ _)
 ·rw[e];exact stk_code h.img h.lay hi v h.code
 ·show s.d+1=_
  rw[h.d];simp
 ·intro i u hu
  rw[e]
  rcases get_snoc hu with⟨rfl,rfl⟩ | ⟨hlt,hu⟩
  ·exact sget_same h.img h.lay hi _ hv
  ·rw[sget_far h.img h.lay hi (.inl ⟨rfl,by omega⟩) oM v]
   exact h.dv i u hu
 ·intro i u hu
  have hlt:i<rs.length:=(List.getElem?_eq_some_iff.1 hu).1
  have:=h.rle
  rw[e,sget_far h.img h.lay hi (.inr ⟨rfl,by omega⟩) oM v]
  exact h.rv i u hu
theorem Rep.pushR1(h:Rep s a cs ds rs)(v:Int)(hv:V64 v)(hr:rs.length<8):Rep (s.pushR [v]) a cs ds (rs ++ [v]):=by
 have hi:InStk 17088 rs.length:= .inr ⟨rfl,hr⟩
 obtain⟨b2,b3,b4,b5,b6⟩:=h.lay.begs
 have e: (s.pushR [v]).S=s.S.put (17088+8*rs.length) (toB v):=by
  show sset s.S s.pr.fr s.r v=_
  rw[h.pr,h.r]
  exact sset_put h.lay hi v
 refine⟨?_,?_,h.pd,h.pr,?_,h.d,?_,h.dle,by simp;omega,?_,?_⟩
 ·rw[e];exact put_ok h.img _ _ (by rw[toB_len];omega)
 ·rw[e];exact h.lay.alike (Alike.put _ _ _)
 ·rw[e];exact stk_code h.img h.lay hi v h.code
 ·show s.r+1=_
  rw[h.r];simp
 ·intro i u hu
  have hlt:i<ds.length:=(List.getElem?_eq_some_iff.1 hu).1
  have:=h.dle
  rw[e,sget_far h.img h.lay hi (.inl ⟨rfl,by omega⟩) oM v]
  exact h.dv i u hu
 ·intro i u hu
  rw[e]
  rcases get_snoc hu with⟨rfl,rfl⟩ | ⟨hlt,hu⟩
  ·exact sget_same h.img h.lay hi _ hv
  ·rw[sget_far h.img h.lay hi (.inr ⟨rfl,by omega⟩) oM v]
   exact h.rv i u hu
theorem pushD_cons(s:Mt)(v:Int)(l:List Int):s.pushD (v::l)= (s.pushD [v]).pushD l:=by
 unfold Mt.pushD
 congr 1
 show s.d+ (l.length+1)=s.d+1+l.length
 omega
theorem pushR_cons(s:Mt)(v:Int)(l:List Int):s.pushR (v::l)= (s.pushR [v]).pushR l:=by
 unfold Mt.pushR
 congr 1
 show s.r+ (l.length+1)=s.r+1+l.length
 omega
end
theorem Rep.pushD{a:Nat}{cs rs:List Int}: ∀{l ds:List Int} {s:Mt},Rep s a cs ds rs->(∀v∈l,V64 v)->ds.length+l.length<=16->Rep (s.pushD l) a cs (ds++l) rs
 | [],ds,s,h,_,_=>by rw[List.append_nil];exact h
 | v::l,ds,s,h,hv,hl=>by
   rw[List.length_cons]at hl
   have h1:=h.pushD1 v (hv v (by simp)) oM
   have h2:=Rep.pushD (l:=l) h1 (λu hu=>hv u (by simp[hu])) (by rw[List.length_append,List.length_singleton];omega)
   rw[List.append_assoc]at h2
   rw[pushD_cons]
   exact h2
theorem Rep.pushR{a:Nat}{cs ds:List Int}: ∀{l rs:List Int} {s:Mt},Rep s a cs ds rs->(∀v∈l,V64 v)->rs.length+l.length<=8->Rep (s.pushR l) a cs ds (rs++l)
 | [],rs,s,h,_,_=>by rw[List.append_nil];exact h
 | v::l,rs,s,h,hv,hl=>by
   rw[List.length_cons]at hl
   have h1:=h.pushR1 v (hv v (by simp)) oM
   have h2:=Rep.pushR (l:=l) h1 (λu hu=>hv u (by simp[hu])) (by rw[List.length_append,List.length_singleton];omega)
   rw[List.append_assoc]at h2
   rw[pushR_cons]
   exact h2
section
variable {s:Mt}{a:Nat}{cs ds rs:List Int}
theorem Rep.cutD(h:Rep s a cs ds rs)(n:Nat)(hn:n<=ds.length):Rep (s.cutD n) a cs (ds.take n) rs:=
 ⟨h.img,h.lay,h.pd,h.pr,h.code,by show n=_;rw[List.length_take];omega,h.r,by rw[List.length_take];have:=h.dle;omega,h.rle,λi v hv=>h.dv i v (by
  rw[List.getElem?_take]at hv
  split at hv
  ·exact hv
  ·cases hv),h.rv⟩
theorem Rep.cutR(h:Rep s a cs ds rs)(n:Nat)(hn:n<=rs.length):Rep (s.cutR n) a cs ds (rs.take n):=
 ⟨h.img,h.lay,h.pd,h.pr,h.code,h.d,by show n=_;rw[List.length_take];omega,h.dle,by rw[List.length_take];have:=h.rle;omega,h.dv,λi v hv=>h.rv i v (by
  rw[List.getElem?_take]at hv
  split at hv
  ·exact hv
  ·cases hv)⟩
theorem Rep.lays(h:Rep s a cs ds rs)(n:Nat)(hn:n<=ds.length)(l:List Int)(hl: ∀v∈l,V64 v)(hr:ds.length-n+l.length<=16): (s.lays n l).1=0∧Rep (s.lays n l).2 a cs (ds.take (ds.length-n)++l) rs∧(s.lays n l).2.seen=s.seen:=by
 have h1:=h.d
 have h2:s.pd.rm=16:=by rw[h.pd]
 have hc: ¬s.pd.rm- (s.d-n) <l.length:=by omega
 unfold Mt.lays
 rw[if_neg hc]
 refine⟨rfl,?_,rfl⟩
 rw[h1]
 exact(h.cutD (ds.length-n) oM).pushD hl (by rw[List.length_take];omega)
theorem Rep.told(h:Rep s a cs ds rs)(x:Rn)(op:Int):Rep (s.told x op) a cs ds rs:=by
 unfold Mt.told
 split
 ·exact⟨h.img,h.lay,h.pd,h.pr,h.code,h.d,h.r,h.dle,h.rle,h.dv,h.rv⟩
 ·exact h
theorem Rep.asked(h:Rep s a cs ds rs)(i:Inst)(x:Rn)(hn:needs i.op=0)(h1: (Code.wants i.op).1<=ds.length)(h26:i.op≠26)(h2: (ds.length:Int) - (Code.wants i.op).1+ (Code.wants i.op).2<=16)
 (h3: (returns i.op i.arg s.same).1<=(rs.length:Int) -x.base) (h4: (rs.length:Int) - (returns i.op i.arg s.same).1+ (returns i.op i.arg s.same).2<=8):asks i x s=0:=by
 unfold Vm.asks
 rw[h.d,h.r,h.pd,h.pr,if_neg oM,if_neg oM,if_neg (by
  rw[if_neg (by rintro⟨h,_⟩;exact h26 h)]
  show¬((16:Nat):Int) <_
  omega),if_neg (by show¬((8:Nat):Int) <_;omega),if_neg (by rintro⟨h,_⟩;exact h hn)]
end
def headX:List UInt8:=[0,0,0,0,0,0,0,0,1,120]
def HeadX(S:Img):Prop:= ∀i,i<10->S.b.getD (16456+i) 0=headX.getD i 0
theorem HeadX.put{S:Img}(h:HeadX S)(k:Nat)(l:List UInt8)(hk:k+l.length<=S.b.length)(hf:k+l.length<=16456∨16466<=k):HeadX (S.put k l):=by
 intro i hi
 rw[S.put_getD k _ l hk,if_neg oM]
 exact h i hi
theorem take_getD(b:List UInt8)(k:Nat): ∀(l:List UInt8),k+l.length<=b.length->(∀i,i<l.length->b.getD (k+i) 0=l.getD i 0)->(b.drop k).take l.length=l:=by
 intro l hk h
 apply List.ext_getElem
 ·simp;omega
 ·intro i h1 h2
  have e:=h i h2
  rw[List.getD_eq_getElem?_getD,List.getD_eq_getElem?_getD,List.getElem?_eq_getElem oM,List.getElem?_eq_getElem h2]at e
  simpa using e
theorem lay_put{S:Img}(h:Lay0 S)(k:Nat)(l:List UInt8):Lay0 (S.put k l):=h.alike (Alike.put S k l)
section
variable (cs data:List Int)(base:Int)
theorem CodeAt.seal{S:Img}{a:Nat}{cs:List Int}(h:CodeAt S a cs):CodeAt S.sealed a cs:=⟨h.al,h.lo,h.hi,h.at_⟩
theorem Img.Ok.seal{S:Img}(h:S.Ok):S.sealed.Ok:=⟨h.len,h.small⟩
theorem Lay0.seal{S:Img}(h:Lay0 S):Lay0 S.sealed:=⟨h.k,h.s,h.u,h.d,h.r⟩
theorem HeadX.seal{S:Img}(h:HeadX S):HeadX S.sealed:=h
structure MadeX(S:Img)(cs:List Int):Prop where
 ok:S.Ok
 lay:Lay0 S
 head:HeadX S
 code:CodeAt S 16472 cs
end
theorem baseF{S:Img}(hL:Lay0 S)(w:Bool):S.cellF 0 16448 w=0:=by
 obtain⟨b2,b3,b4,b5,b6⟩:=hL.begs
 have hr:S.region (16448:Int)=3:=S.region_eq oM oM oM oM (by show(16448:Int) <S.beg 4;omega)
 have hrow:S.rowOk 0 (16448:Int) 8 w=true:=by
  unfold Img.rowOk Img.lets Img.may
  rw[hr]
  have h4:decide (((8:Nat):Int)<=(S.beg (3+1):Int) -16448)=true:=decide_eq_true (by show((8:Nat):Int)<=(S.beg 4:Int) -_;omega)
  rw[h4]
  cases w<;>simp
 unfold Img.cellF
 rw[if_neg oM,if_pos hrow]
theorem base_put{S:Img}(hL:Lay0 S)(v:Int):S.setCell 0 16448 v=S.put 16448 (toB v):=by
 unfold Img.setCell
 rw[if_pos (baseF hL true)]
 rfl
theorem Rep.base{s:Mt}{a:Nat}{cs ds rs:List Int}(h:Rep s a cs ds rs)(ha:16456<=a)(v f u n:Int)(t:Bool):Rep { s with S:=s.S.setCell 0 16448 v,fault:=f,used:=u,hidden:=n,tells:=t } a cs ds rs:=by
 obtain⟨b2,b3,b4,b5,b6⟩:=h.lay.begs
 have e:=base_put h.lay v
 have hd:=h.dle
 have hr:=h.rle
 have far: ∀fr i,InStk fr i->sget (s.S.put 16448 (toB v)) fr i=sget s.S fr i:=λfr i hi=>by
  unfold InStk at hi
  exact cellV_put_far s.S h.img 0 _ 16448 (toB v) (by rw[toB_len];omega) (by rw[toB_len];omega)
 refine⟨?_,?_,h.pd,h.pr,?_,h.d,h.r,h.dle,h.rle,λi u hu=> ?_,λi u hu=> ?_⟩
 ·show(s.S.setCell 0 16448 v).Ok
  rw[e];exact put_ok h.img _ _ (by rw[toB_len];omega)
 ·show Lay0 (s.S.setCell 0 16448 v)
  rw[e];exact lay_put h.lay _ _
 ·show CodeAt (s.S.setCell 0 16448 v) a cs
  rw[e];exact h.code.put h.img _ _ (by rw[toB_len];omega) (.inl (by rw[toB_len];omega))
 ·show sget (s.S.setCell 0 16448 v) 16960 i=u
  have hlt:i<ds.length:=(List.getElem?_eq_some_iff.1 hu).1
  rw[e,far 16960 i (.inl ⟨rfl,by omega⟩)]
  exact h.dv i u hu
 ·show sget (s.S.setCell 0 16448 v) 17088 i=u
  have hlt:i<rs.length:=(List.getElem?_eq_some_iff.1 hu).1
  rw[e,far 17088 i (.inr ⟨rfl,by omega⟩)]
  exact h.rv i u hu
structure AgreeTo(N:Nat)(S T:Img):Prop where
 al:Alike S T
 len:T.b.length=S.b.length
 at_: ∀i,i<N->T.b.getD i 0=S.b.getD i 0
theorem AgreeTo.refl(N:Nat)(S:Img):AgreeTo N S S:=⟨Alike.refl _,rfl,λ_ _=>rfl⟩
theorem AgreeTo.trans{N:Nat}{S T U:Img}(h:AgreeTo N S T)(g:AgreeTo N T U):AgreeTo N S U:=⟨h.al.trans g.al,g.len.trans h.len,λi hi=>(g.at_ i hi).trans (h.at_ i hi)⟩
theorem AgreeTo.mono{N M:Nat}{S T:Img}(h:AgreeTo N S T)(hm:M<=N):AgreeTo M S T:=⟨h.al,h.len,λi hi=>h.at_ i oM⟩
theorem AgreeTo.put{N:Nat}{S:Img}(k:Nat)(l:List UInt8)(hk:N<=k)(hl:k+l.length<=S.b.length):AgreeTo N S (S.put k l):=
 ⟨Alike.put _ _ _,S.put_len _ _ hl,λi hi=>by rw[S.put_getD _ _ _ hl,if_neg oM]⟩
theorem AgreeTo.slice{N:Nat}{S T:Img}(h:AgreeTo N S T)(k n:Nat)(hk:k+n<=N)(hN:k+n<=S.b.length): (T.b.drop k).take n= (S.b.drop k).take n:=
 slice_ext _ _ _ _ _ (by rw[h.len];exact hN) hN λi hi=>h.at_ _ oM
theorem headW_rg{S:Img}{D D':Dc}(h:D'.rg=D.rg)(a:Int):headW S D' a=headW S D a:=by
 unfold headW Dc.fr Dc.lim
 rw[h]
theorem headW_agree{N:Nat}{S T:Img}{D:Dc}{a:Int}{wd:Wd}{nx:Int}(hS:S.Ok)(hD:D.lim S<=S.beg 6)(h:AgreeTo N S T)(hh:headW S D a=some (wd,nx))(hx:wd.xt<=N):headW T D a=some (wd,nx):=by
 have hfr:D.fr T=D.fr S:=Dc.fr_alike h.al
 have hlim:D.lim T=D.lim S:=Dc.lim_alike h.al
 have hlen:=hS.len
 unfold headW at hh⊢
 rw[hfr,hlim]
 by_cases h1:a % 8≠0∨a<D.fr S∨(D.lim S:Int) <a+16
 ·rw[if_pos h1]at hh;cases hh
 rw[if_neg h1]at hh⊢
 simp only at hh⊢
 generalize hp:a.toNat=p at *
 by_cases h2: (S.b.getD (p+8) 0).toNat % 32=0∨D.lim S<up (p+9+ (S.b.getD (p+8) 0).toNat % 32)
 ·rw[if_pos h2]at hh;cases hh
 rw[if_neg h2]at hh
 have hq:=Option.some.inj hh
 have hxt:up (p+9+ (S.b.getD (p+8) 0).toNat % 32)=wd.xt:=by rw[show wd= (wd,nx).1 from rfl,<-hq]
 have hup:=(up_ge (p+9+ (S.b.getD (p+8) 0).toNat % 32)).1
 have hb:T.b.getD (p+8) 0=S.b.getD (p+8) 0:=h.at_ _ oM
 rw[hb,if_neg h2,h.slice (p+9) _ oM oM,h.slice p 8 oM oM]
 exact hh
inductive Chain(S:Img)(D:Dc)(b:Nat):Nat->List Wd->Prop
 | nil:Chain S D b 0 []
 | cons {a:Nat} {wd:Wd} {nx:Nat} {l:List Wd} (h:headW S D (a:Int)=some (wd,(nx:Int))) (hn:nx<a) (hx:wd.xt<=b) (t:Chain S D b nx l):Chain S D b a (wd::l)
theorem Chain.agree{S T:Img}{D:Dc}{b N:Nat}(hS:S.Ok)(hD:D.lim S<=S.beg 6)(h:AgreeTo N S T)(hb:b<=N): ∀{a:Nat} {l:List Wd},Chain S D b a l->Chain T D b a l
 | _,_,.nil=> .nil
 | _,_,.cons h1 h2 h3 t=> .cons (headW_agree hS hD h h1 oM) h2 h3 (Chain.agree hS hD h hb t)
theorem Chain.rg{S:Img}{D D':Dc}{b:Nat}(h:D'.rg=D.rg): ∀{a:Nat} {l:List Wd},Chain S D b a l->Chain S D' b a l
 | _,_,.nil=> .nil
 | _,_,.cons h1 h2 h3 t=> .cons (by rw[headW_rg h];exact h1) h2 h3 (Chain.rg h t)
theorem Chain.mono{S:Img}{D:Dc}{b c:Nat}(h:b<=c): ∀{a:Nat} {l:List Wd},Chain S D b a l->Chain S D c a l
 | _,_,.nil=> .nil
 | _,_,.cons h1 h2 h3 t=> .cons h1 h2 oM (Chain.mono h t)
theorem Chain.wordsF{S:Img}{D:Dc}{b:Nat}: ∀{a:Nat} {l:List Wd},Chain S D b a l->∀k,a<=k->Vm.wordsF S D (k+1) (a:Int)=l
 | _,_,.nil,k,_=>by
   show(match headW S D ((0:Nat):Int)with|none=>[] |some (w,next)=>if((0:Nat):Int)<=next then [w]else w::Vm.wordsF S D k next)= []
   have:headW S D ((0:Nat):Int)=none:=by
    unfold headW
    rw[if_pos (.inr (.inl (by unfold Dc.fr;omega)))]
   rw[this]
 | a,_,.cons (wd:=wd) (nx:=nx) (l:=l) h1 h2 h3 t,k,hk=>by
   show(match headW S D (a:Int)with|none=>[] |some (w,next)=>if(a:Int)<=next then [w]else w::Vm.wordsF S D k next)=_
   rw[h1]
   show(if(a:Int)<=(nx:Int)then [wd]else wd::Vm.wordsF S D k (nx:Int))=_
   rw[if_neg oM]
   rcases k with _|k
   ·omega
   ·rw[Chain.wordsF t k oM]
theorem Chain.words{S:Img}{D:Dc}{b:Nat}{l:List Wd}(h:Chain S D b D.l l):Vm.words S D=l:=by
 unfold Vm.words
 exact h.wordsF D.l (Nat.le_refl _)
theorem headW_lies{S:Img}{D:Dc}(hS:S.Ok)(hD:D.lim S<=S.beg 6)(a:Nat)(n lk:List UInt8)(c:UInt8)(h8:a % 8=0)(h1:D.fr S<=a)(hn:1<=n.length∧n.length<=31)(hle:up (a+9+n.length)<=D.lim S)(hlk:lk.length=8)(hc:c.toNat % 32=n.length)
 (h: ∀i,i<9+n.length->S.b.getD (a+i) 0= (lk++c::n).getD i 0):headW S D (a:Int)=some (⟨n,a,up (a+9+n.length),c.toNat/64 % 2==1,c.toNat/32 % 2==1,c.toNat/128==1⟩,ofB lk):=by
 have hlen:=hS.len
 have hup:=up_ge (a+9+n.length)
 have hb8:S.b.getD (a+8) 0=c:=by
  rw[h 8 oM,List.getD_eq_getElem?_getD,List.getElem?_append_right oM,hlk]
  rfl
 have e1: (S.b.drop a).take 8=lk:=by
  rw[<-hlk]
  refine take_getD S.b a lk oM λi hi=> ?_
  rw[h i oM,List.getD_eq_getElem?_getD,List.getD_eq_getElem?_getD,List.getElem?_append_left oM]
 have e2: (S.b.drop (a+9)).take n.length=n:=by
  refine take_getD S.b (a+9) n oM λi hi=> ?_
  rw[show a+9+i=a+ (9+i)by omega,h (9+i) oM,List.getD_eq_getElem?_getD,List.getD_eq_getElem?_getD,List.getElem?_append_right oM,hlk,show 9+i-8=i+1 by omega,List.getElem?_cons_succ]
 unfold headW
 rw[if_neg oM,Int.toNat_natCast]
 simp only[hb8]
 rw[hc,if_neg oM,e1,e2]
structure KW where
 name:List UInt8
 inl:Bool
 cells:List Int
def inlT(b:UInt8):UInt8:=b ||| 128
def kwS(x:KW)(q:Img×Dc):Img×Dc:=
 let S1:=q.2.createS q.1 x.name
 let D1:=q.2.createD q.1 x.name
 let S2:=D1.turnS S1 showT
 let S3:=if x.inl then D1.turnS S2 inlT else S2
 commasS x.cells (S3,D1)
def kwXt(h:Nat)(x:KW):Nat:=h+8+up (1+x.name.length)
def kwEnd(h:Nat)(x:KW):Nat:=kwXt h x+8*x.cells.length
def kwWd(h:Nat)(x:KW):Wd:=⟨x.name,h,kwXt h x,false,false,x.inl⟩
theorem up_add8(h n:Nat)(h8:h % 8=0):up (h+9+n)=h+8+up (1+n):=by unfold up;omega
theorem byte_show(n:Nat)(h:1<=n∧n<=31):showT (UInt8.ofNat (n+32))=UInt8.ofNat n∧(UInt8.ofNat n).toNat=n∧(inlT (UInt8.ofNat n)).toNat=n+128:=by
 have: ∀k:Fin 32,showT (UInt8.ofNat (k.val+32))=UInt8.ofNat k.val∧(UInt8.ofNat k.val).toNat=k.val∧(inlT (UInt8.ofNat k.val)).toNat=k.val+128:=by decide +kernel
 exact this ⟨n,by omega⟩
structure Grows(q:Img×Dc)(l:List Wd):Prop where
 img:q.1.Ok
 dc:q.2.Ok q.1
 al8:q.2.h % 8=0
 shut:q.2.shut q.1=false
 ch:Chain q.1 q.2 q.2.h q.2.l l
 lt:q.2.l<q.2.h
theorem kw_create{q:Img×Dc}{l:List Wd}(h:Grows q l)(x:KW)(hn:Dc.nameB x.name=true)(hr:kwEnd q.2.h x<=q.2.lim q.1):
 q.2.createF q.1 x.name=0∧q.2.createS q.1 x.name=q.1.put q.2.h (q.2.headB x.name)∧q.2.createD q.1 x.name= ⟨q.2.rg,kwXt q.2.h x,q.2.h⟩ ∧(q.2.headB x.name).length=8+up (1+x.name.length)∧
 q.2.headB x.name=toB q.2.l++ (UInt8.ofNat (x.name.length+32):: (x.name++List.replicate (up (1+x.name.length) - (1+x.name.length)) 0)):=by
 have hu:=up_id q.2.h h.al8
 have hx:=up_ge (1+x.name.length)
 unfold kwEnd kwXt at hr
 have f:q.2.createF q.1 x.name=0:=by
  unfold Dc.createF
  rw[if_neg (by rw[hn];decide),if_neg (by rw[hu];omega),if_neg (by rw[h.shut];decide)]
 have hb:q.2.headB x.name=toB q.2.l++ (UInt8.ofNat (x.name.length+32):: (x.name++List.replicate (up (1+x.name.length) - (1+x.name.length)) 0)):=by
  unfold Dc.headB
  rw[hu,Nat.sub_self]
  rfl
 refine⟨f,by unfold Dc.createS;rw[if_pos f],?_,?_,hb⟩
 ·unfold Dc.createD
  rw[if_pos f,hu]
  unfold kwXt
  congr 1
  omega
 ·rw[hb]
  simp only[List.length_append,List.length_cons,List.length_replicate,toB_len]
  omega
theorem ofB_toBn(n:Nat)(h:n<=143360):ofB (toB (n:Int))=n:=ofB_toB _ ⟨by omega,by omega⟩
def kwHead(q:Img×Dc)(x:KW):Img:=
 let S2:=(q.1.put q.2.h (q.2.headB x.name)).put (q.2.h+8) [UInt8.ofNat x.name.length]
 if x.inl then S2.put (q.2.h+8) [inlT (UInt8.ofNat x.name.length)]else S2
theorem nameB_len{n:List UInt8}(h:Dc.nameB n=true):1<=n.length∧n.length<=31:=by
 unfold Dc.nameB at h
 simp only[Bool.and_eq_true,decide_eq_true_eq]at h
 exact⟨h.1.1,h.1.2⟩
theorem kw_laid{q:Img×Dc}{l:List Wd}(h:Grows q l)(x:KW)(hn:Dc.nameB x.name=true)(hr:kwEnd q.2.h x<=q.2.lim q.1):
 kwS x q= ((kwHead q x).put (kwXt q.2.h x) (cellsB x.cells),⟨q.2.rg,kwEnd q.2.h x,q.2.h⟩)∧Grows (kwS x q) (kwWd q.2.h x::l)∧AgreeTo q.2.h q.1 (kwS x q).1∧kwXt q.2.h x+ (cellsB x.cells).length<=(kwHead q x).b.length:=by
 obtain⟨f,e1,e2,hl,hb⟩:=kw_create h x hn hr
 obtain⟨n1,n2⟩:=nameB_len hn
 have hlim:q.2.lim q.1<=q.1.beg 6:=h.dc.all
 have hlen:=h.img.len
 have h8:=h.al8
 have hxu:=up_ge (1+x.name.length)
 obtain⟨b1,b2,b3⟩:=byte_show x.name.length ⟨n1,n2⟩
 have hfr:q.2.fr q.1<=q.2.h:=h.dc.lo
 have hfr8:8<=q.2.h:=by unfold Dc.fr at hfr;omega
 unfold kwEnd kwXt at hr
 have l0:q.2.h+ (q.2.headB x.name).length<=q.1.b.length:=by omega
 have p1: (q.1.put q.2.h (q.2.headB x.name)).Ok:=put_ok h.img _ _ oM
 have a1:AgreeTo q.2.h q.1 (q.1.put q.2.h (q.2.headB x.name)):=AgreeTo.put _ _ (Nat.le_refl _) l0
 have hsh: ∀(T:Img) (D:Dc),Alike q.1 T->D.rg=q.2.rg->D.shut T=false:=λT D ha hd=>by
  have:=h.shut
  unfold Dc.shut at this⊢
  rw[ha.cl,hd]
  exact this
 have g8: (q.1.put q.2.h (q.2.headB x.name)).b.getD (q.2.h+8) 0=UInt8.ofNat (x.name.length+32):=by
  rw[q.1.put_getD _ _ _ l0,if_pos ⟨by omega,by omega⟩,show q.2.h+8-q.2.h=8 by omega,hb,List.getD_eq_getElem?_getD,List.getElem?_append_right (by rw[toB_len];omega),toB_len]
  rfl
 have e3: (⟨q.2.rg,kwXt q.2.h x,q.2.h⟩:Dc).turnS (q.1.put q.2.h (q.2.headB x.name)) showT= (q.1.put q.2.h (q.2.headB x.name)).put (q.2.h+8) [UInt8.ofNat x.name.length]:=by
  unfold Dc.turnS
  rw[if_neg (by
   rintro(h0|h0)
   ·have:q.2.h=0:=h0
    omega
   ·exact absurd (hsh _ ⟨q.2.rg,kwXt q.2.h x,q.2.h⟩ a1.al rfl) (by rw[h0];decide))]
  show(q.1.put q.2.h (q.2.headB x.name)).put (q.2.h+8) [showT ((q.1.put q.2.h (q.2.headB x.name)).b.getD (q.2.h+8) 0)]=_
  rw[g8,b1]
 have l1:q.2.h+8 + [UInt8.ofNat x.name.length].length<=(q.1.put q.2.h (q.2.headB x.name)).b.length:=by rw[a1.len];simp;omega
 obtain⟨S2,hS2⟩: ∃S2,(q.1.put q.2.h (q.2.headB x.name)).put (q.2.h+8) [UInt8.ofNat x.name.length]=S2:=⟨_,rfl⟩
 have p2:S2.Ok:=by rw[<-hS2];exact put_ok p1 _ _ (by rw[(Alike.put q.1 _ _).beg];simp;omega)
 have a2:AgreeTo q.2.h q.1 S2:=by rw[<-hS2];exact a1.trans (AgreeTo.put _ _ oM l1)
 have g28:S2.b.getD (q.2.h+8) 0=UInt8.ofNat x.name.length:=by rw[<-hS2,Img.put_getD _ _ _ _ l1,if_pos (by simp),Nat.sub_self];rfl
 have e4: (⟨q.2.rg,kwXt q.2.h x,q.2.h⟩:Dc).turnS S2 inlT=S2.put (q.2.h+8) [inlT (UInt8.ofNat x.name.length)]:=by
  unfold Dc.turnS
  rw[if_neg (by
   rintro(h0|h0)
   ·have:q.2.h=0:=h0
    omega
   ·exact absurd (hsh _ ⟨q.2.rg,kwXt q.2.h x,q.2.h⟩ a2.al rfl) (by rw[h0];decide))]
  show S2.put (q.2.h+8) [inlT (S2.b.getD (q.2.h+8) 0)]=_
  rw[g28]
 have l2:q.2.h+8 + [inlT (UInt8.ofNat x.name.length)].length<=S2.b.length:=by rw[a2.len];simp;omega
 have hK:kwHead q x=if x.inl then S2.put (q.2.h+8) [inlT (UInt8.ofNat x.name.length)]else S2:=by unfold kwHead;rw[hS2]
 have e5: (if x.inl then(⟨q.2.rg,kwXt q.2.h x,q.2.h⟩:Dc).turnS S2 inlT else S2)=kwHead q x:=by rw[hK,e4]
 have p3: (kwHead q x).Ok:=by
  rw[hK]
  split
  ·exact put_ok p2 _ _ (by rw[a2.al.beg];simp;omega)
  ·exact p2
 have a3:AgreeTo q.2.h q.1 (kwHead q x):=by
  rw[hK]
  split
  ·exact a2.trans (AgreeTo.put _ _ oM l2)
  ·exact a2
 have gz: ∀i,i<9+x.name.length->i≠8->S2.b.getD (q.2.h+i) 0= (q.2.headB x.name).getD i 0:=λi hi hne=>by
  rw[<-hS2,Img.put_getD _ _ _ _ l1,if_neg (by simp;omega),q.1.put_getD _ _ _ l0,if_pos ⟨by omega,by omega⟩,show q.2.h+i-q.2.h=i by omega]
 obtain⟨c,hc⟩: ∃c:UInt8,(if x.inl then inlT (UInt8.ofNat x.name.length)else UInt8.ofNat x.name.length)=c:=⟨_,rfl⟩
 have gk: ∀i,i<9+x.name.length->(kwHead q x).b.getD (q.2.h+i) 0= (toB q.2.l++c::x.name).getD i 0:=by
  intro i hi
  have hmid: ∀(c1:UInt8) (r:List UInt8),i≠8->(toB q.2.l++c1:: (x.name++r)).getD i 0= (toB q.2.l++c::x.name).getD i 0:=λc1 r hne=>by
   rw[List.getD_eq_getElem?_getD,List.getD_eq_getElem?_getD]
   rcases Nat.lt_or_ge i 8 with h1|h1
   ·rw[List.getElem?_append_left (by rw[toB_len];exact h1),List.getElem?_append_left (by rw[toB_len];exact h1)]
   ·rw[List.getElem?_append_right (by rw[toB_len];exact h1),List.getElem?_append_right (by rw[toB_len];exact h1),toB_len,show i-8= (i-9) +1 by omega,List.getElem?_cons_succ,List.getElem?_cons_succ,List.getElem?_append_left oM]
  have h9: ∀(c1:UInt8),(toB q.2.l++c1::x.name).getD 8 0=c1:=λc1=>by
   rw[List.getD_eq_getElem?_getD,List.getElem?_append_right (by rw[toB_len];omega),toB_len]
   rfl
  rw[hK]
  by_cases hi8:i=8
  ·subst hi8
   rw[h9,<-hc]
   cases x.inl with
   | true=>simp only[if_true];rw[Img.put_getD _ _ _ _ l2,if_pos (by simp),Nat.sub_self];rfl
   | false=>simp only[Bool.false_eq_true,if_false];exact g28
  ·have e:=gz i hi hi8
   rw[hb,hmid _ _ hi8]at e
   split
   ·rw[Img.put_getD _ _ _ _ l2,if_neg (by simp;omega)]
    exact e
   ·exact e
 have hcn:c.toNat % 32=x.name.length∧(c.toNat/64 % 2==1)=false∧(c.toNat/32 % 2==1)=false∧(c.toNat/128==1)=x.inl:=by
  rw[<-hc]
  cases x.inl with
  | true=>
    simp only[if_true]
    rw[b3]
    refine⟨by omega,?_,?_,?_⟩
    ·rw[beq_eq_false_iff_ne];omega
    ·rw[beq_eq_false_iff_ne];omega
    ·rw[beq_iff_eq];omega
  | false=>
    simp only[Bool.false_eq_true,if_false]
    rw[b2]
    refine⟨by omega,?_,?_,?_⟩
    ·rw[beq_eq_false_iff_ne];omega
    ·rw[beq_eq_false_iff_ne];omega
    ·rw[beq_eq_false_iff_ne];omega
 have hDk: (⟨q.2.rg,kwXt q.2.h x,q.2.h⟩:Dc).Ok (kwHead q x):=by
  refine Dc.Ok.alike (S:=q.1) ⟨h.dc.rg,?_,?_,.inr ⟨h8,hfr,?_⟩,h.dc.al,h.dc.room⟩ a3.al
  ·show q.2.fr q.1<=kwXt q.2.h x
   unfold kwXt;omega
  ·show kwXt q.2.h x<=q.2.lim q.1
   unfold kwXt;omega
  ·show q.2.h+16<=q.2.lim q.1
   unfold up at hxu hr
   omega
 have hxt8:kwXt q.2.h x % 8=0:=by unfold kwXt;omega
 have hlk: (⟨q.2.rg,kwXt q.2.h x,q.2.h⟩:Dc).lim (kwHead q x)=q.2.lim q.1:=Dc.lim_alike (D:=⟨q.2.rg,kwXt q.2.h x,q.2.h⟩) a3.al
 have hcm:=commas_put x.cells (kwHead q x) ⟨q.2.rg,kwXt q.2.h x,q.2.h⟩ p3 hDk hxt8 (by rw[hlk];show kwXt q.2.h x+8*x.cells.length<=_;unfold kwXt;omega) (hsh _ _ a3.al rfl)
 have hq:kwS x q= ((kwHead q x).put (kwXt q.2.h x) (cellsB x.cells),⟨q.2.rg,kwEnd q.2.h x,q.2.h⟩):=by
  unfold kwS
  simp only
  rw[e1,e2,e3,hS2,e5,hcm]
  rfl
 have l3:kwXt q.2.h x+ (cellsB x.cells).length<=(kwHead q x).b.length:=by rw[cellsB_len,a3.len,hlen];unfold kwXt;omega
 have a4:AgreeTo (kwXt q.2.h x) (kwHead q x) ((kwHead q x).put (kwXt q.2.h x) (cellsB x.cells)):=AgreeTo.put _ _ (Nat.le_refl _) l3
 have hle9:q.2.h+9+x.name.length<=kwXt q.2.h x:=by unfold kwXt;omega
 have a5:AgreeTo q.2.h q.1 ((kwHead q x).put (kwXt q.2.h x) (cellsB x.cells)):=a3.trans (a4.mono oM)
 have p5: ((kwHead q x).put (kwXt q.2.h x) (cellsB x.cells)).Ok:=put_ok p3 _ _ (by rw[cellsB_len,a3.al.beg];unfold kwXt;omega)
 refine⟨hq,?_,by rw[hq];exact a5,l3⟩
 rw[hq]
 have hlim5: (⟨q.2.rg,kwEnd q.2.h x,q.2.h⟩:Dc).lim ((kwHead q x).put (kwXt q.2.h x) (cellsB x.cells))=q.2.lim q.1:=Dc.lim_alike (D:=⟨q.2.rg,kwEnd q.2.h x,q.2.h⟩) a5.al
 have hfr5: (⟨q.2.rg,kwEnd q.2.h x,q.2.h⟩:Dc).fr ((kwHead q x).put (kwXt q.2.h x) (cellsB x.cells))=q.2.fr q.1:=Dc.fr_alike (D:=⟨q.2.rg,kwEnd q.2.h x,q.2.h⟩) a5.al
 have hend:kwEnd q.2.h x=kwXt q.2.h x+8*x.cells.length:=rfl
 refine⟨p5,?_,by show kwEnd q.2.h x % 8=0;omega,hsh _ _ a5.al rfl,?_,by show q.2.h<kwEnd q.2.h x;omega⟩
 ·refine Dc.Ok.alike (S:=kwHead q x) ⟨hDk.rg,?_,?_,hDk.l,hDk.al,hDk.room⟩ a4.al
  ·have:=hDk.lo
   show Dc.fr _ _<=kwEnd q.2.h x
   have e: (⟨q.2.rg,kwEnd q.2.h x,q.2.h⟩:Dc).fr (kwHead q x)= (⟨q.2.rg,kwXt q.2.h x,q.2.h⟩:Dc).fr (kwHead q x):=rfl
   rw[e]
   have e9: (⟨q.2.rg,kwXt q.2.h x,q.2.h⟩:Dc).h=kwXt q.2.h x:=rfl
   omega
  ·show kwEnd q.2.h x<=_
   rw[show(⟨q.2.rg,kwEnd q.2.h x,q.2.h⟩:Dc).lim (kwHead q x)=q.2.lim q.1 from hlk,hend]
   unfold kwXt;omega
 ·have hh:=headW_lies (S:=(kwHead q x).put (kwXt q.2.h x) (cellsB x.cells)) (D:=⟨q.2.rg,kwEnd q.2.h x,q.2.h⟩) p5 (by rw[hlim5,a5.al.beg];exact hlim) q.2.h x.name (toB q.2.l) c h8 (by rw[hfr5];exact hfr) ⟨n1,n2⟩
   (by rw[hlim5,up_add8 _ _ h8];omega) (toB_len _) hcn.1 (λi hi=>by rw[a4.at_ _ oM];exact gk i hi)
  rw[hcn.2.1,hcn.2.2.1,hcn.2.2.2,up_add8 _ _ h8,ofB_toBn q.2.l (by have:=h.lt;have:=h.img.small;omega)]at hh
  refine Chain.cons hh h.lt ?_ ?_
  ·show kwXt q.2.h x<=kwEnd q.2.h x
   omega
  ·exact Chain.mono (by show q.2.h<=kwEnd q.2.h x;omega) (Chain.rg (D:=q.2) (D':=⟨q.2.rg,kwEnd q.2.h x,q.2.h⟩) rfl (Chain.agree h.img hlim a5 (Nat.le_refl _) h.ch))
def opNames:List (List UInt8):=
 [[],[40,101,120,105,116,41],[40,108,105,116,41],[40,99,97,108,108,41],[40,106,117,109,112,41],[40,122,101,114,111,41],[40,100,111,41],[40,63,100,111,41],
  [40,108,111,111,112,41],[40,43,108,111,111,112,41],[85,78,76,79,79,80],[73],[74],[62,82],[82,62],[82,64],
  [69,88,69,67,85,84,69],[40,99,114,101,97,116,101,100,41],[40,100,111,101,115,41],[40,116,101,120,116,41],[40,115,112,101,99,105,97,108,41],[68,85,80],[68,82,79,80],[83,87,65,80],
  [79,86,69,82],[82,79,84],[63,68,85,80],[78,73,80],[84,85,67,75],[80,73,67,75],[68,69,80,84,72],[43],
  [45],[42],[47],[77,79,68],[47,77,79,68],[42,47],[42,47,77,79,68],[78,69,71,65,84,69],
  [65,66,83],[77,73,78],[77,65,88],[49,43],[49,45],[50,42],[50,47],[65,78,68],
  [79,82],[88,79,82],[73,78,86,69,82,84],[76,83,72,73,70,84],[82,83,72,73,70,84],[77,42],[85,77,42],[85,77,47,77,79,68],
  [83,77,47,82,69,77],[70,77,47,77,79,68],[61],[60,62],[60],[62],[85,60],[48,61],
  [48,60],[64],[33],[67,64],[67,33],[43,33],[77,79,86,69],[70,73,76,76],
  [72,69,82,69],[65,76,76,79,84],[44],[67,44],[65,76,73,71,78],[66,65,83,69],[69,77,73,84],[84,89,80,69],
  [46],[85,46],[46,82],[75,69,89],[65,67,67,69,80,84],[67,82,69,65,84,69],[70,73,78,68],[83,69,67,82,69,84],
  [86,69,82,68,73,67,84],[82,69,83,85,76,84],[85,83,69,68],[79,85,84,35],[79,85,84,64],[65,83,75],[90,43],[90,45],
  [90,42],[90,67,79,78,74],[90,78,79,82,77],[90,84,85,82,78],[70,79,82,87,65,82,68],[84,85,82,78],[80,69,78],[72,79,77,69],
  [87,72,69,82,69],[65,66,79,82,84],[78,79,80]]
def spNames:List (List UInt8):=
 [[58],[59],[73,77,77,69,68,73,65,84,69],[91],[93],[76,73,84,69,82,65,76],
  [39],[91,39,93],[67,72,65,82],[91,67,72,65,82,93],[82,69,67,85,82,83,69],[68,79,69,83,62],
  [86,65,82,73,65,66,76,69],[67,79,78,83,84,65,78,84],[40],[92],[83,34],[46,34],
  [73,70],[69,76,83,69],[84,72,69,78],[66,69,71,73,78],[65,71,65,73,78],[85,78,84,73,76],
  [87,72,73,76,69],[82,69,80,69,65,84],[68,79],[63,68,79],[76,79,79,80],[43,76,79,79,80],
  [76,69,65,86,69],[67,65,83,69],[79,70],[69,78,68,79,70],[69,78,68,67,65,83,69],[69,88,73,84]]
def opNums:List Nat:=((List.range 107).drop 10).filter λop=>decide (op<17) ||decide (20<op)
def opW(op:Nat):KW:=⟨opNames.getD op [],true,[(op:Int),1]⟩
def spW(k:Nat):KW:=⟨spNames.getD k [],false,[256* ((k:Int) +1) +20]⟩
def kernelW:List KW:=opNums.map opW++ (List.range 36).map spW
def kwsS(xs:List KW)(q:Img×Dc):Img×Dc:=xs.foldl (λq x=>kwS x q) q
def kwsEnd(xs:List KW)(h:Nat):Nat:=xs.foldl kwEnd h
def wdsOf:List KW->Nat->List Wd->List Wd
 | [],_,l=>l
 | x::xs,h,l=>wdsOf xs (kwEnd h x) (kwWd h x::l)
def placed:List KW->Nat->List (Nat×KW)
 | [],_=>[]
 | x::xs,h=>(h,x)::placed xs (kwEnd h x)
theorem kwEnd_le(h:Nat)(x:KW):h<=kwEnd h x:=by unfold kwEnd kwXt;omega
theorem kwsEnd_le: ∀(xs:List KW) (h:Nat),h<=kwsEnd xs h
 | [],_=>Nat.le_refl _
 | x::xs,h=>Nat.le_trans (kwEnd_le h x) (kwsEnd_le xs _)
structure KCode(S:Img)(a:Nat)(cs:List Int):Prop where
 al:a % 8=0
 hi:a+8*cs.length<=S.b.length
 at_: ∀i v,cs[i]? = some v->ofB (S.bytes ((a+8*i:Nat):Int) 8)=v
theorem KCode.agree{S T:Img}{N a:Nat}{cs:List Int}(h:KCode S a cs)(g:AgreeTo N S T)(ha:a+8*cs.length<=N):KCode T a cs:=by
 refine⟨h.al,by rw[g.len];exact h.hi,λi v hv=> ?_⟩
 have hi:i<cs.length:=(List.getElem?_eq_some_iff.1 hv).1
 have:=h.hi
 unfold Img.bytes
 rw[Int.toNat_natCast,g.slice (a+8*i) 8 oM oM]
 exact h.at_ i v hv
theorem kcode_put(S:Img)(a:Nat)(cs:List Int)(hc: ∀v∈cs,V64 v)(h8:a % 8=0)(hl:a+8*cs.length<=S.b.length):KCode (S.put a (cellsB cs)) a cs:=by
 refine⟨h8,by rw[S.put_len _ _ (by rw[cellsB_len];exact hl)];exact hl,λi v hv=> ?_⟩
 have hi:i<cs.length:=(List.getElem?_eq_some_iff.1 hv).1
 rw[S.bytes_put_in a (8*i) 8 _ (by rw[cellsB_len];omega) (by rw[cellsB_len];omega),cellsB_at cs i v hv]
 exact ofB_toB v (hc v (List.mem_of_getElem? hv))
def KwFine(x:KW):Prop:=Dc.nameB x.name=true∧∀v∈x.cells,V64 v
theorem kws_laid: ∀(xs:List KW) {q:Img×Dc} {l:List Wd},Grows q l->(∀x∈xs,KwFine x)->kwsEnd xs q.2.h<=q.2.lim q.1->
 Grows (kwsS xs q) (wdsOf xs q.2.h l)∧AgreeTo q.2.h q.1 (kwsS xs q).1∧(kwsS xs q).2.h=kwsEnd xs q.2.h∧(kwsS xs q).2.rg=q.2.rg∧∀p∈placed xs q.2.h,KCode (kwsS xs q).1 (kwXt p.1 p.2) p.2.cells
 | [],q,l,h,_,_=>⟨h,AgreeTo.refl _ _,rfl,rfl,λp hp=>by cases hp⟩
 | x::xs,q,l,h,hx,hr=>by
   have hr1:kwEnd q.2.h x<=q.2.lim q.1:=Nat.le_trans (kwsEnd_le xs _) hr
   obtain⟨h1,h2,h3,h4⟩:=kw_laid h x (hx x (List.mem_cons_self ..)).1 hr1
   have e2: (kwS x q).2= ⟨q.2.rg,kwEnd q.2.h x,q.2.h⟩:=by rw[h1]
   have el: (kwS x q).2.lim (kwS x q).1=q.2.lim q.1:=by rw[e2];exact Dc.lim_alike (D:=⟨q.2.rg,kwEnd q.2.h x,q.2.h⟩) h3.al
   have hh: (kwS x q).2.h=kwEnd q.2.h x:=by rw[e2]
   obtain⟨g1,g2,g3,g4,g5⟩:=kws_laid xs h2 (λy hy=>hx y (List.mem_cons_of_mem _ hy)) (by rw[hh,el];exact hr)
   rw[hh]at g1 g2 g3 g5
   refine⟨g1,h3.trans (g2.mono (kwEnd_le _ _)),g3,by show(kwsS xs (kwS x q)).2.rg=_;rw[g4,e2],λp hp=> ?_⟩
   rcases List.mem_cons.1 hp with rfl|hp
   ·have hc:KCode (kwS x q).1 (kwXt q.2.h x) x.cells:=by
     rw[h1]
     refine kcode_put _ _ _ (hx x (List.mem_cons_self ..)).2 ?_ ?_
     ·have h8:=h.al8;have:=up_ge (1+x.name.length);unfold kwXt;omega
     ·rw[cellsB_len]at h4
      exact h4
    exact hc.agree g2 (by unfold kwEnd;exact Nat.le_refl _)
   ·exact g5 p hp
def img13:Img:=newImg 16384 64 2656 296 296
structure Lay3(S:Img):Prop where
 k:S.k=16384
 s:S.s=64
 u:S.u=2656
 d:S.d=296
 r:S.r=296
theorem Lay3.begs{S:Img}(h:Lay3 S):S.beg 2=16384∧S.beg 3=16448∧S.beg 4=19104∧S.beg 5=19400∧S.beg 6=19696:=by
 simp[Img.beg,h.k,h.s,h.u,h.d,h.r]
theorem Lay3.alike{S T:Img}(h:Lay3 S)(ha:Alike S T):Lay3 T:=⟨ha.k.trans h.k,ha.s.trans h.s,ha.u.trans h.u,ha.d.trans h.d,ha.r.trans h.r⟩
theorem lay3_img:Lay3 img13:=⟨rfl,rfl,rfl,rfl,rfl⟩
theorem sysF3{S:Img}(hL:Lay3 S)(x:Nat)(h1:19104<=x)(h2:x+8<=19696)(h8:x % 8=0)(w:Bool):S.cellF 0 (x:Int) w=0:=by
 obtain⟨b2,b3,b4,b5,b6⟩:=hL.begs
 have hr: ∃j,(j=4∨j=5)∧S.region (x:Int)=j∧x+8<=S.beg (j+1):=by
  by_cases h:x<19400
  ·exact⟨4,.inl rfl,S.region_eq oM oM oM oM (by show(x:Int) <S.beg 5;omega),by show x+8<=S.beg 5;omega⟩
  ·exact⟨5,.inr rfl,S.region_eq oM oM oM oM (by show(x:Int) <S.beg 6;omega),by show x+8<=S.beg 6;omega⟩
 obtain⟨j,hj,hr,hle⟩:=hr
 have hrow:S.rowOk 0 (x:Int) 8 w=true:=by
  unfold Img.rowOk Img.lets Img.may
  rw[hr]
  have h4:decide (((8:Nat):Int)<=(S.beg (j+1):Int) - (x:Int))=true:=decide_eq_true oM
  rw[h4]
  rcases hj with rfl|rfl<;>cases w<;>simp
 unfold Img.cellF
 rw[if_neg oM,if_pos hrow]
def InStk3(fr i:Nat):Prop:=(fr=19104∧i<37)∨(fr=19400∧i<37)
theorem sset_put3{S:Img}(hL:Lay3 S){fr i:Nat}(h:InStk3 fr i)(v:Int):sset S fr i v=S.put (fr+8*i) (toB v):=by
 unfold InStk3 at h
 unfold sset Img.setCell
 rw[show(fr:Int) +8* (i:Int)= ((fr+8*i:Nat):Int)by omega,if_pos (sysF3 hL _ oM oM oM true),Int.toNat_natCast]
theorem sget_same3{S:Img}(hS:S.Ok)(hL:Lay3 S){fr i:Nat}(h:InStk3 fr i)(v:Int)(hv:V64 v):sget (S.put (fr+8*i) (toB v)) fr i=v:=by
 obtain⟨b2,b3,b4,b5,b6⟩:=hL.begs
 unfold InStk3 at h
 unfold sget
 have hc:=sysF3 hL (fr+8*i) oM oM oM false
 rw[show(fr:Int) +8* (i:Int)= ((fr+8*i+0:Nat):Int)by omega,cellV_put_in S hS 0 (fr+8*i) 0 (toB v) (by rw[toB_len];omega) (by rw[toB_len];omega) hc]
 rw[List.drop_zero,List.take_of_length_le (by rw[toB_len];omega)]
 exact ofB_toB v hv
theorem sget_far3{S:Img}(hS:S.Ok)(hL:Lay3 S){fr i fr' i':Nat}(h:InStk3 fr i)(h':InStk3 fr' i')(hne:fr+8*i≠fr'+8*i')(v:Int):sget (S.put (fr+8*i) (toB v)) fr' i'=sget S fr' i':=by
 obtain⟨b2,b3,b4,b5,b6⟩:=hL.begs
 unfold InStk3 at h h'
 unfold sget
 exact cellV_put_far S hS 0 _ (fr+8*i) (toB v) (by rw[toB_len];omega) (by rw[toB_len];omega)
structure Rep3(s:Mt)(ds rs:List Int):Prop where
 img:s.S.Ok
 lay:Lay3 s.S
 pd:s.pd= ⟨19104,37,1,2⟩
 pr:s.pr= ⟨19400,37,3,4⟩
 d:s.d=ds.length
 r:s.r=rs.length
 dle:ds.length<=37
 rle:rs.length<=37
 dv: ∀i v,ds[i]? = some v->sget s.S 19104 i=v
 rv: ∀i v,rs[i]? = some v->sget s.S 19400 i=v
section
variable {s:Mt}{ds rs:List Int}
theorem Rep3.ok(h:Rep3 s ds rs):s.Ok:=by
 refine⟨?_,?_,?_,?_,?_,?_,?_,?_⟩
 ·rw[h.pd];exact⟨by decide,by decide⟩
 ·rw[h.pr];exact⟨by decide,by decide⟩
 ·rw[h.pd,h.d];exact h.dle
 ·rw[h.pr,h.r];exact h.rle
 ·rw[h.pd]
 ·rw[h.pd]
 ·rw[h.pr]
 ·rw[h.pr]
theorem Rep3.top(h:Rep3 s ds rs)(n:Nat)(v:Int)(hn:n<ds.length)(hv:ds[ds.length-1-n]? = some v):s.top (n:Int)=v:=by
 unfold Mt.top stopv
 rw[h.d,h.pd,if_pos ⟨by omega,by omega⟩,Int.toNat_natCast]
 exact h.dv _ _ hv
theorem Rep3.rtop(h:Rep3 s ds rs)(n:Nat)(v:Int)(hn:n<rs.length)(hv:rs[rs.length-1-n]? = some v):s.rtop (n:Int)=v:=by
 unfold Mt.rtop stopv
 rw[h.r,h.pr,if_pos ⟨by omega,by omega⟩,Int.toNat_natCast]
 exact h.rv _ _ hv
theorem Rep3.arv(h:Rep3 s ds rs)(n j:Nat)(v:Int)(hj:j<n)(hn:n<=ds.length)(hv:ds[ds.length-n+j]? = some v):ar s n j=v:=by
 have e:ar s n j=s.top ((n-1-j:Nat):Int):=by simp[Vm.ar,Mt.args,hj]
 rw[e]
 exact h.top _ _ oM (by rw[<-hv];congr 1;omega)
theorem Rep3.pushD1(h:Rep3 s ds rs)(v:Int)(hv:V64 v)(hr:ds.length<37):Rep3 (s.pushD [v]) (ds ++ [v]) rs:=by
 have hi:InStk3 19104 ds.length:= .inl ⟨rfl,hr⟩
 have hlen:=h.img.len
 obtain⟨b2,b3,b4,b5,b6⟩:=h.lay.begs
 have e: (s.pushD [v]).S=s.S.put (19104+8*ds.length) (toB v):=by
  show sset s.S s.pd.fr s.d v=_
  rw[h.pd,h.d]
  exact sset_put3 h.lay hi v
 refine⟨?_,?_,h.pd,h.pr,?_,h.r,by simp;omega,h.rle,?_,?_⟩
 ·rw[e];exact put_ok h.img _ _ (by rw[toB_len];omega)
 ·rw[e];exact h.lay.alike (Alike.put _ _ _)
 ·show s.d+1=_
  rw[h.d];simp
 ·intro i u hu
  rw[e]
  rcases get_snoc hu with⟨rfl,rfl⟩ | ⟨hlt,hu⟩
  ·exact sget_same3 h.img h.lay hi _ hv
  ·rw[sget_far3 h.img h.lay hi (.inl ⟨rfl,by omega⟩) oM v]
   exact h.dv i u hu
 ·intro i u hu
  have hlt:i<rs.length:=(List.getElem?_eq_some_iff.1 hu).1
  have:=h.rle
  rw[e,sget_far3 h.img h.lay hi (.inr ⟨rfl,by omega⟩) oM v]
  exact h.rv i u hu
theorem Rep3.pushR1(h:Rep3 s ds rs)(v:Int)(hv:V64 v)(hr:rs.length<37):Rep3 (s.pushR [v]) ds (rs ++ [v]):=by
 have hi:InStk3 19400 rs.length:= .inr ⟨rfl,hr⟩
 obtain⟨b2,b3,b4,b5,b6⟩:=h.lay.begs
 have e: (s.pushR [v]).S=s.S.put (19400+8*rs.length) (toB v):=by
  show sset s.S s.pr.fr s.r v=_
  rw[h.pr,h.r]
  exact sset_put3 h.lay hi v
 refine⟨?_,?_,h.pd,h.pr,h.d,?_,h.dle,by simp;omega,?_,?_⟩
 ·rw[e];exact put_ok h.img _ _ (by rw[toB_len];omega)
 ·rw[e];exact h.lay.alike (Alike.put _ _ _)
 ·show s.r+1=_
  rw[h.r];simp
 ·intro i u hu
  have hlt:i<ds.length:=(List.getElem?_eq_some_iff.1 hu).1
  have:=h.dle
  rw[e,sget_far3 h.img h.lay hi (.inl ⟨rfl,by omega⟩) oM v]
  exact h.dv i u hu
 ·intro i u hu
  rw[e]
  rcases get_snoc hu with⟨rfl,rfl⟩ | ⟨hlt,hu⟩
  ·exact sget_same3 h.img h.lay hi _ hv
  ·rw[sget_far3 h.img h.lay hi (.inr ⟨rfl,by omega⟩) oM v]
   exact h.rv i u hu
end
theorem Rep3.pushD{rs:List Int}: ∀{l ds:List Int} {s:Mt},Rep3 s ds rs->(∀v∈l,V64 v)->ds.length+l.length<=37->Rep3 (s.pushD l) (ds++l) rs
 | [],ds,s,h,_,_=>by rw[List.append_nil];exact h
 | v::l,ds,s,h,hv,hl=>by
   rw[List.length_cons]at hl
   have h1:=h.pushD1 v (hv v (by simp)) oM
   have h2:=Rep3.pushD (l:=l) h1 (λu hu=>hv u (by simp[hu])) (by rw[List.length_append,List.length_singleton];omega)
   rw[List.append_assoc]at h2
   rw[pushD_cons]
   exact h2
theorem Rep3.pushR{ds:List Int}: ∀{l rs:List Int} {s:Mt},Rep3 s ds rs->(∀v∈l,V64 v)->rs.length+l.length<=37->Rep3 (s.pushR l) ds (rs++l)
 | [],rs,s,h,_,_=>by rw[List.append_nil];exact h
 | v::l,rs,s,h,hv,hl=>by
   rw[List.length_cons]at hl
   have h1:=h.pushR1 v (hv v (by simp)) oM
   have h2:=Rep3.pushR (l:=l) h1 (λu hu=>hv u (by simp[hu])) (by rw[List.length_append,List.length_singleton];omega)
   rw[List.append_assoc]at h2
   rw[pushR_cons]
   exact h2
section
variable {s:Mt}{ds rs:List Int}
theorem Rep3.cutD(h:Rep3 s ds rs)(n:Nat)(hn:n<=ds.length):Rep3 (s.cutD n) (ds.take n) rs:=
 ⟨h.img,h.lay,h.pd,h.pr,by show n=_;rw[List.length_take];omega,h.r,by rw[List.length_take];have:=h.dle;omega,h.rle,λi v hv=>h.dv i v (by
  rw[List.getElem?_take]at hv
  split at hv
  ·exact hv
  ·cases hv),h.rv⟩
theorem Rep3.cutR(h:Rep3 s ds rs)(n:Nat)(hn:n<=rs.length):Rep3 (s.cutR n) ds (rs.take n):=
 ⟨h.img,h.lay,h.pd,h.pr,h.d,by show n=_;rw[List.length_take];omega,h.dle,by rw[List.length_take];have:=h.rle;omega,h.dv,λi v hv=>h.rv i v (by
  rw[List.getElem?_take]at hv
  split at hv
  ·exact hv
  ·cases hv)⟩
theorem Rep3.lays(h:Rep3 s ds rs)(n:Nat)(hn:n<=ds.length)(l:List Int)(hl: ∀v∈l,V64 v)(hr:ds.length-n+l.length<=37): (s.lays n l).1=0∧Rep3 (s.lays n l).2 (ds.take (ds.length-n)++l) rs∧(s.lays n l).2.seen=s.seen:=by
 have h1:=h.d
 have h2:s.pd.rm=37:=by rw[h.pd]
 have hc: ¬s.pd.rm- (s.d-n) <l.length:=by omega
 unfold Mt.lays
 rw[if_neg hc]
 refine⟨rfl,?_,rfl⟩
 rw[h1]
 exact(h.cutD (ds.length-n) oM).pushD hl (by rw[List.length_take];omega)
theorem Rep3.told(h:Rep3 s ds rs)(x:Rn)(op:Int):Rep3 (s.told x op) ds rs:=by
 unfold Mt.told
 split
 ·exact⟨h.img,h.lay,h.pd,h.pr,h.d,h.r,h.dle,h.rle,h.dv,h.rv⟩
 ·exact h
theorem Rep3.asked(h:Rep3 s ds rs)(i:Inst)(x:Rn)(hn:needs i.op=0)(h1: (Code.wants i.op).1<=ds.length)(h26:i.op≠26)(h2: (ds.length:Int) - (Code.wants i.op).1+ (Code.wants i.op).2<=37)
 (h3: (returns i.op i.arg s.same).1<=(rs.length:Int) -x.base) (h4: (rs.length:Int) - (returns i.op i.arg s.same).1+ (returns i.op i.arg s.same).2<=37):asks i x s=0:=by
 unfold Vm.asks
 rw[h.d,h.r,h.pd,h.pr,if_neg oM,if_neg oM,if_neg (by
  rw[if_neg (by rintro⟨h,_⟩;exact h26 h)]
  show¬((37:Nat):Int) <_
  omega),if_neg (by show¬((37:Nat):Int) <_;omega),if_neg (by rintro⟨h,_⟩;exact h hn)]
end
theorem spush_low3: ∀(l:List Int) (S:Img) (fr d:Nat),S.Ok->Lay3 S->(fr=19104∧d+l.length<=37∨fr=19400∧d+l.length<=37)->AgreeTo 19104 S (spush S fr d l)
 | [],S,fr,d,hS,_,_=>AgreeTo.refl _ _
 | v::l,S,fr,d,hS,hL,h=>by
   rw[List.length_cons]at h
   have hi:InStk3 fr d:=by
    rcases h with⟨h1,h2⟩ | ⟨h1,h2⟩
    ·exact .inl ⟨h1,by omega⟩
    ·exact .inr ⟨h1,by omega⟩
   obtain⟨b2,b3,b4,b5,b6⟩:=hL.begs
   have e:=sset_put3 hL hi v
   have hok: (S.put (fr+8*d) (toB v)).Ok:=put_ok hS _ _ (by rw[toB_len];omega)
   show AgreeTo 19104 S (spush (sset S fr d v) fr (d+1) l)
   rw[e]
   exact(AgreeTo.put _ _ oM (by rw[toB_len,hS.len];omega)).trans (spush_low3 l (S.put (fr+8*d) (toB v)) fr (d+1) hok (hL.alike (Alike.put _ _ _)) oM)
section
variable {s:Mt}{ds rs:List Int}
theorem Rep3.low_pushD(h:Rep3 s ds rs)(l:List Int)(hl:ds.length+l.length<=37):AgreeTo 19104 s.S (s.pushD l).S:=by
 have h1:=spush_low3 l s.S s.pd.fr s.d h.img h.lay (.inl ⟨by rw[h.pd],by rw[h.d];exact hl⟩)
 exact h1
theorem Rep3.low_pushR(h:Rep3 s ds rs)(l:List Int)(hl:rs.length+l.length<=37):AgreeTo 19104 s.S (s.pushR l).S:=by
 have h1:=spush_low3 l s.S s.pr.fr s.r h.img h.lay (.inr ⟨by rw[h.pr],by rw[h.r];exact hl⟩)
 exact h1
theorem Rep3.low_lays(h:Rep3 s ds rs)(n:Nat)(hn:n<=ds.length)(l:List Int)(hr:ds.length-n+l.length<=37):AgreeTo 19104 s.S (s.lays n l).2.S:=by
 have h1:=h.d
 have h2:s.pd.rm=37:=by rw[h.pd]
 have hc: ¬s.pd.rm- (s.d-n) <l.length:=by omega
 unfold Mt.lays
 rw[if_neg hc]
 rw[h1]
 exact(h.cutD (ds.length-n) oM).low_pushD l (by rw[List.length_take];omega)
end
section
variable {w w1:World}{F:Nat->Prop}{g gb bg en cap:Nat}{cl:Bool}{D:Dc}{S:Img}
theorem zero_u8: (((0:UInt8).toNat:Nat):Int)=0:=rfl
theorem rd_align(l:List UInt8)(hb:On F w (RLaidA g gb bg en cap false D S l) w1)(h8:At8 S D (bg+8) en)(n:Nat)(hn:n=up (D.h+l.length) - (D.h+l.length))(hl:D.h+l.length<=en):
 Calls prog 134 #[g] w1 (Got (.returned (.int .i64 0)) (RLaidA g gb bg en cap false D S (l++List.replicate n 0)) F w):=by
 have hle:=h8.le
 have hlo:=h8.lo
 have h2:=h8.ok.al.1
 rw[h8.lim]at h2
 have hu:=up_ge (D.h+l.length)
 have hin:=λwr l (h:On F w (RLaidA g gb bg en cap false D S l) wr)=>rl_in l h
 have hbt:=λwr l (hl:D.h+l.length<en) (h:On F w (RLaidA g gb bg en cap false D S l) wr)=>rl_byte l h8 hl h
 have hmo:=λwr l (hl:D.h+l.length<en) (h:On F w (RLaidA g gb bg en cap false D S l) wr) n hn=>rl_more l 0 h8 hl h n hn
 have htt: ∀j,j<n->((((D.h+l.length+j:Nat):Int) % 8) != 0)=true:=λj hj=>by rw[bne_iff_ne];unfold up at hn;omega
 have htf: ((((D.h+l.length+n:Nat):Int) % 8) != 0)=false:=by rw[bne_eq_false_iff_eq];omega
 have hnl:D.h+l.length+n<=en:=by omega
 have hlen: ∀j,(l++List.replicate j (0:UInt8)).length=l.length+j:=λj=>by simp
 have hsn: ∀j,(l++List.replicate j (0:UInt8))++ [0]=l++List.replicate (j+1) 0:=λj=>by rw[List.append_assoc,replicate_snoc]
 replace hb:=Lib.hid hb
 replace hin:=Lib.hid hin
 replace hbt:=Lib.hid hbt
 replace hmo:=Lib.hid hmo
 replace htt:=Lib.hid htt
 replace hlen:=Lib.hid hlen
 replace hsn:=Lib.hid hsn
 clear h8 h2 hn hu
 go_enter func134,ntmps134
 go_wp2
 go_loopg [2] n (λm t wr=> ∃j:Nat,j+m=n∧t = .int .i64 0∧On F w (RLaidA g gb bg en cap false D S (l++List.replicate j 0)) wr)
 case atStart=>exact⟨0,by omega,rfl,by rw[show List.replicate 0 (0:UInt8)= []from rfl,List.append_nil];exact hb.out⟩
 case round=>
  obtain⟨j,hj,rfl,hon⟩:=hrel
  obtain⟨c0,c1,c2,c3,c4,cf⟩:=hin.out _ _ hon
  have c3':wr.cell? (g,3)=some (((D.h+l.length+j:Nat):Int):Vl):=by rw[c3];unfold laidB;rw[hlen.out,Nat.add_assoc]
  by_cases hjn:j<n
  ·have ht:=htt.out j hjn
   obtain⟨⟨xo,cx⟩,cfr,hne⟩:=hbt.out _ _ (by rw[hlen.out];omega) hon
   have hfin:=hmo.out wr _ (by rw[hlen.out];omega) hon _ rfl
   rw[hsn.out,zero_u8]at hfin
   rw[hlen.out,<-Nat.add_assoc]at cx hfin
   obtain⟨k,hk⟩: ∃k,D.h+l.length+j=k:=⟨_,rfl⟩
   rw[hk]at c3' cx hfin ht
   have hk1:bg<=k:=by omega
   have hk2:k<en:=by omega
   have f3:=cf 3
   have fk:=cfr k
   replace hfin:=Lib.hid hfin
   clear c3 c4 cf cfr hon hk
   go_wp2
   go_region
   go_wp2
   go_roundg (gk-1)
   case measure=>omega
   case rel=>exact⟨j+1,by omega,rfl,hfin.out.drew⟩
  ·have hjj:j=n:=by omega
   subst hjj
   replace hon:=Lib.hid hon
   clear c0 c1 c2 c3 c4 cf
   go_wp2
   go_ret
   exact⟨rfl,hon.out⟩
theorem rl_of(hb:On F w (AllA [RDicA g gb bg en cap cl D,RbA gb S]) w1):On F w (RLaidA g gb bg en cap cl D S []) w1:=by
 unfold RLaidA
 rw[Img.put_nil]
 exact hb
theorem rl_to(l:List UInt8)(n:Nat)(hn:l.length=n)(hb:On F w (RLaidA g gb bg en cap cl D S l) w1):On F w (AllA [RDicA g gb bg en cap cl (laidB D n),RbA gb (S.put D.h l)]) w1:=by
 subst hn
 exact hb
theorem rd_comma(hb:On F w (AllA [RDicA g gb bg en cap false D,RbA gb S]) w1)(h8:At8 S D (bg+8) en)(hsh:D.shut S=false)(v:Int)(hv:V64 v):
 Calls prog 92 #[g,v] w1 (Got (.returned (D.commaF S)) (AllA [RDicA g gb bg en cap false (D.commaD S),RbA gb (D.commaS S v)]) F w):=by
 have hle:=h8.le
 have hlo:=h8.lo
 have hin:=λwr (h:On F w (AllA [RDicA g gb bg en cap false D,RbA gb S]) wr)=>rd_in h
 have hto:=λn=>rd_to ((hin _ hb).drewN n) oM oM
 have hlay:=λwr (hl:D.h+8<=en) (h:On F w (AllA [RDicA g gb bg en cap false D,RbA gb S]) wr)=>rd_lay [] (rl_of h) h8 (by simpa using hl) v hv
 have hend:=λwr (h:On F w (RLaidA g gb bg en cap false D S ([]++toB v)) wr)=>rl_to _ 8 (by rw[List.nil_append,toB_len]) h
 obtain⟨c0,c1,c2,c3,c4,cf⟩:=hin _ hb
 have hF:D.commaF S=if en<D.h+8 then 9 else if D.h % 8≠0 then 6 else 0:=by
  unfold Dc.commaF
  rw[h8.lim,hsh]
  simp
 have hzero:D.commaF S=0->D.commaD S=laidB D 8∧D.commaS S v=S.put D.h ([]++toB v):=λh=>by
  unfold Dc.commaD Dc.commaS
  rw[if_pos h,if_pos h]
  exact⟨rfl,rfl⟩
 have hone:D.commaF S≠0->D.commaD S=D∧D.commaS S v=S:=λh=>by
  unfold Dc.commaD Dc.commaS
  rw[if_neg h,if_neg h]
  exact⟨rfl,rfl⟩
 by_cases h1:en<D.h+8
 ·rw[if_pos h1]at hF
  obtain⟨e1,e2⟩:=hone (by rw[hF];decide)
  rw[hF,e1,e2]
  have ht:decide ((en:Int) -8< (D.h:Int))=true:=decide_eq_true oM
  replace hb:=Lib.hid hb
  replace hto:=Lib.hid hto
  clear hin hlay hend hzero hone hF e1 e2 h8
  go_enter func92,ntmps92
  go_wp2_with fail
  go_quiet ((go_at_call 133;exact Calls.quiet_of (hto.out _)))
  have hb2:=Lib.hid (hb.out.drewN nq)
  go_wp2
  go_ret
  exact⟨rfl,hb2.out⟩
 ·rw[if_neg h1]at hF
  have ht:decide ((en:Int) -8< (D.h:Int))=false:=decide_eq_false oM
  by_cases h2:D.h % 8≠0
  ·rw[if_pos h2]at hF
   obtain⟨e1,e2⟩:=hone (by rw[hF];decide)
   rw[hF,e1,e2]
   have ht2: ((D.h:Int) % 8 != 0)=true:=by rw[bne_iff_ne];omega
   replace hb:=Lib.hid hb
   replace hto:=Lib.hid hto
   replace hin:=Lib.hid hin
   clear hlay hend hzero hone hF e1 e2 h8 h2
   go_enter func92,ntmps92
   go_wp2_with fail
   go_quiet ((go_at_call 133;exact Calls.quiet_of (hto.out _)))
   have hb2:=hb.out.drewN nq
   obtain⟨w2,hw2⟩: ∃w2,w1.drewN nq=w2:=⟨_,rfl⟩
   rw[hw2]at hb2⊢
   clear hw2 c0 c1 c2 c3 c4 cf
   obtain⟨c0,c1,c2,c3,c4,cf⟩:=hin.out _ hb2
   replace hb2:=Lib.hid hb2
   go_wp2
   go_ret
   exact⟨rfl,hb2.out⟩
  ·rw[if_neg h2]at hF
   obtain⟨e1,e2⟩:=hzero hF
   rw[hF,e1,e2]
   have ht2: ((D.h:Int) % 8 != 0)=false:=by rw[bne_eq_false_iff_eq];omega
   replace hlay:=Lib.hid (λwr=>hlay wr oM)
   replace hb:=Lib.hid hb
   replace hto:=Lib.hid hto
   replace hin:=Lib.hid hin
   replace hend:=Lib.hid hend
   clear hzero hone hF e1 e2 h8 h2
   go_enter func92,ntmps92
   go_wp2_with fail
   go_quiet ((go_at_call 133;exact Calls.quiet_of (hto.out _)))
   have hb2:=hb.out.drewN nq
   obtain⟨w2,hw2⟩: ∃w2,w1.drewN nq=w2:=⟨_,rfl⟩
   rw[hw2]at hb2⊢
   clear hw2 c0 c1 c2 c3 c4 cf
   obtain⟨c0,c1,c2,c3,c4,cf⟩:=hin.out _ hb2
   replace hlay:=Lib.hid (hlay.out _ hb2)
   clear hb2
   go_wp2_with fail
   refine mo hlay.out λw3 h3=>?_
   have h4:=Lib.hid (hend.out _ h3)
   clear h3
   go_wp2
   go_ret
   exact⟨rfl,h4.out⟩
end
def Flags(off on:Int)(t:UInt8->UInt8):Prop:= ∀c:UInt8,bits .or .u8 (bits .andNot .u8 (c.toNat:Int) off) on= ((t c).toNat:Int)
theorem flags_show:Flags 32 0 showT:=λc=>by
 have h: ∀b:Fin 256,bits .or .u8 (bits .andNot .u8 (b.val:Int) 32) 0= ((b.val &&& 223:Nat):Int):=by decide +kernel
 rw[h ⟨c.toNat,c.toNat_lt⟩]
 unfold showT
 rw[UInt8.toNat_and]
 rfl
section
variable {w w1:World}{F:Nat->Prop}{g gb bg en cap:Nat}{D:Dc}{S:Img}
theorem rd_flag_none(hb:On F w (AllA [RDicA g gb bg en cap false D,RbA gb S]) w1)(hl:D.l=0)(off on:Int):
 Calls prog 89 #[g,off,on] w1 (Got (.returned (.tuple #[])) (AllA [RDicA g gb bg en cap false D,RbA gb S]) F w):=by
 obtain⟨c0,c1,c2,c3,c4,cf⟩:=rd_in hb
 rw[hl]at c4
 replace hb:=Lib.hid hb
 clear hl
 go_enter func89,ntmps89
 go_wp2_with fail
 go_quiet (fail)
 have hb2:=Lib.hid (hb.out.drewN nq)
 go_wp2
 go_end0
 exact⟨rfl,hb2.out⟩
theorem rd_flag_some(hb:On F w (AllA [RDicA g gb bg en cap false D,RbA gb S]) w1)(h8:At8 S D (bg+8) en)(hsh:D.shut S=false)(hl:D.l≠0)(off on:Int)(t:UInt8->UInt8)(ht:Flags off on t)(ho:0<=off∧off<=255)(hn:0<=on∧on<=255):
 Calls prog 89 #[g,off,on] w1 (Got (.returned (.tuple #[])) (AllA [RDicA g gb bg en cap false D,RbA gb (D.turnS S t)]) F w):=by
 have hle:=h8.le
 have hlo:=h8.lo
 have hll:D.l % 8=0∧bg+8<=D.l∧D.l+16<=en:=by
  rcases h8.ok.l with h|h
  ·exact absurd h hl
  ·rw[h8.fr,h8.lim]at h;exact h
 have hall:=h8.ok.all
 rw[h8.lim]at hall
 have hin:=λwr (h:On F w (AllA [RDicA g gb bg en cap false D,RbA gb S]) wr)=>rd_in h
 have hto:=λn=>rd_to ((hin _ hb).drewN n) oM oM
 have hbl:=λwr (h:On F w (AllA [RDicA g gb bg en cap false D,RbA gb S]) wr)=>(by
  have hb:Blk wr gb 5 (bcells S.b).toArray:=h.blkAt 1 rfl
  have hg:Blk wr g 157 (rdicC gb bg en cap false D):=h.blkAt 0 rfl
  have h2:D.l+8<S.b.length:=by rw[h8.img.len];omega
  refine⟨?_,hb.frozen _,hg.ne_ hb (by decide)⟩
  rw[hb.cell]
  simp[bcells,h2]:wr.cell? ⟨gb,D.l+8,none⟩=some (.int .u8 ((S.b.getD (D.l+8) 0).toNat:Int))∧wr.frozen? ⟨gb,D.l+8,none⟩=false∧g≠gb)
 have hfin:=λwr (h:On F w (AllA [RDicA g gb bg en cap false D,RbA gb S]) wr)=>(by
  have h2:=On.setAt 1 (g:=gb) (t:=5) (cs:=(bcells S.b).toArray) h rfl (D.l+8) (.int .u8 ((t (S.b.getD (D.l+8) 0)).toNat:Int))
  rw[set_put _ _ (t (S.b.getD (D.l+8) 0)) (by rw[h8.img.len];omega)]at h2
  have e:D.turnS S t=S.put (D.l+8) [t (S.b.getD (D.l+8) 0)]:=by
   unfold Dc.turnS
   rw[if_neg (by rintro(h|h);exact hl h;rw[hsh]at h;cases h)]
  rw[e]
  exact h2:On F w (AllA [RDicA g gb bg en cap false D,RbA gb (D.turnS S t)]) (wr.setCell ⟨gb,D.l+8,none⟩ (.int .u8 ((t (S.b.getD (D.l+8) 0)).toNat:Int))))
 have htc:=ht (S.b.getD (D.l+8) 0)
 generalize (S.b.getD (D.l+8) 0)=bc at *
 generalize ((t bc).toNat:Int)=tc at *
 generalize D.turnS S t=S' at *
 have hbc: (bc.toNat:Int)<=255:=by have:=bc.toNat_lt;omega
 generalize (bc.toNat:Int)=b0 at *
 obtain⟨c0,c1,c2,c3,c4,cf⟩:=hin _ hb
 have hz: ((D.l:Int) ==0)=false:=by simpa using hl
 have hd:decide ((en:Int)<=(D.l:Int) +8)=false:=decide_eq_false oM
 replace hb:=Lib.hid hb
 replace hin:=Lib.hid hin
 replace hto:=Lib.hid hto
 replace hbl:=Lib.hid hbl
 replace hfin:=Lib.hid hfin
 clear h8 hsh ht
 go_enter func89,ntmps89
 go_wp2_with fail
 go_quiet ((go_at_call 133;exact Calls.quiet_of (hto.out _)))
 have hb2:=hb.out.drewN nq
 obtain⟨w2,hw2⟩: ∃w2,w1.drewN nq=w2:=⟨_,rfl⟩
 rw[hw2]at hb2⊢
 clear hw2 c0 c1 c2 c3 c4 cf hb hto
 obtain⟨c0,c1,c2,c3,c4,cf⟩:=hin.out _ hb2
 replace hb2:=Lib.hid hb2
 go_wp2_with fail
 go_quiet (fail)
 have hb3:=hb2.out.drewN nq
 obtain⟨w3,hw3⟩: ∃w3,w2.drewN nq=w3:=⟨_,rfl⟩
 rw[hw3]at hb3⊢
 clear hw3 c0 c1 c2 c3 c4 cf hb2
 obtain⟨c0,c1,c2,c3,c4,cf⟩:=hin.out _ hb3
 obtain⟨cb,fb,hne⟩:=hbl.out _ hb3
 have hfin2:=Lib.hid (hfin.out _ hb3)
 replace hb3:=Lib.hid hb3
 clear hin hbl hfin
 have he:bg+ (D.l+8-bg)=D.l+8:=by omega
 have hi1: (bg:Int)<=(D.l:Int) +8:=by omega
 have hi2: (D.l:Int) +8- (bg:Int) < ((en-bg:Nat):Int):=by omega
 go_wp2_with fail
 go_region
 go_wp2
 go_end0
 exact⟨rfl,hfin2.out.drew⟩
theorem rd_flag(hb:On F w (AllA [RDicA g gb bg en cap false D,RbA gb S]) w1)(h8:At8 S D (bg+8) en)(hsh:D.shut S=false)(off on:Int)(t:UInt8->UInt8)(ht:Flags off on t)(ho:0<=off∧off<=255)(hn:0<=on∧on<=255):
 Calls prog 89 #[g,off,on] w1 (Got (.returned (.tuple #[])) (AllA [RDicA g gb bg en cap false D,RbA gb (D.turnS S t)]) F w):=by
 by_cases h0:D.l=0
 ·have e:D.turnS S t=S:=by unfold Dc.turnS;rw[if_pos (.inl h0)]
  rw[e]
  exact rd_flag_none hb h0 off on
 ·exact rd_flag_some hb h8 hsh h0 off on t ht ho hn
end
section
variable {w w1:World}{F:Nat->Prop}{g gb bg en cap:Nat}{D:Dc}{S:Img}
theorem rd_create_bad(hb:On F w (AllA [RDicA g gb bg en cap false D,RbA gb S]) w1)(s:ByteArray)(hsz:s.size<=9223372036854775807)(hn:Dc.nameB s.data.toList=false):
 Calls prog 87 #[g,.string s] w1 (Got (.returned (.tuple #[(0:Int),(15:Int)])) (AllA [RDicA g gb bg en cap false D,RbA gb S]) F w):=by
 have hnm:=name_walk s hsz w1
 rw[hn]at hnm
 replace hb:=Lib.hid hb
 replace hnm:=Lib.hid hnm
 clear hn
 go_enter func87,ntmps87
 go_wp2_with fail
 refine hnm.out.mono ?_
 rintro e w2 ⟨rfl,rfl⟩
 go_wp2
 go_ret2
 exact⟨rfl,hb.out⟩
theorem rd_create_full(hb:On F w (AllA [RDicA g gb bg en cap false D,RbA gb S]) w1)(h8:At8 S D (bg+8) en)(s:ByteArray)(hn:Dc.nameB s.data.toList=true)(hf:en<up D.h+ (8+up (1+s.size))):
 Calls prog 87 #[g,.string s] w1 (Got (.returned (.tuple #[(0:Int),(9:Int)])) (AllA [RDicA g gb bg en cap false D,RbA gb S]) F w):=by
 have hs2:=name_size hn
 have hnm:=name_walk s oM w1
 rw[hn]at hnm
 have h1:=h8.lo
 have hle:=h8.le
 have hu1:=up_ge D.h
 have hu2:=up_ge (1+s.size)
 have hup1:=λw=>rd_up D.h oM w
 have hup2:=λw=>rd_up (1+s.size) oM w
 rw[show((1+s.size:Nat):Int)=1+ (s.size:Int)by omega]at hup2
 have hto:=λW (h:On F w (AllA [RDicA g gb bg en cap false D,RbA gb S]) W)=>rd_to (rd_in h) oM oM
 obtain⟨c0,c1,c2,c3,c4,cf⟩:=rd_in hb
 replace hb:=Lib.hid hb
 replace hnm:=Lib.hid hnm
 replace hup1:=Lib.hid hup1
 replace hup2:=Lib.hid hup2
 replace hto:=Lib.hid hto
 generalize up (1+s.size)=u2 at *
 generalize hU1:up D.h=u1 at *
 clear hn h8 hU1
 have ht:decide ((en:Int) - (u1:Int) <8+ (u2:Int))=true:=decide_eq_true oM
 go_enter func87,ntmps87
 go_wp2_with fail
 refine hnm.out.mono ?_
 rintro e w2 ⟨rfl,rfl⟩
 go_wp2_with fail
 refine(hup1.out _).mono ?_
 rintro e w3 ⟨rfl,rfl⟩
 go_wp2_with fail
 refine(hto.out _ hb.out).mono ?_
 rintro e w4 ⟨rfl,nq,rfl⟩
 have hb2:=Lib.hid (hb.out.drewN nq)
 go_wp2_with fail
 refine(hup2.out _).mono ?_
 rintro e w4 ⟨rfl,rfl⟩
 go_wp2
 go_ret2
 exact⟨rfl,hb2.out⟩
theorem rl_ccomma_f(l:List UInt8)(c:UInt8)(v:Int)(hv:v= (c.toNat:Int))(hb:On F w (RLaidA g gb bg en cap false D S l) w1)(h8:At8 S D (bg+8) en)(hl:D.h+l.length<en):
 Calls prog 136 #[g,.int .u8 v] w1 (Got (.returned (.int .i64 0)) (RLaidA g gb bg en cap false D S (l ++ [c])) F w):=by
 subst hv
 exact rd_ccomma l hb h8 hl c
theorem rd_create_ok(hb:On F w (AllA [RDicA g gb bg en cap false D,RbA gb S]) w1)(h8:At8 S D (bg+8) en)(s:ByteArray)(hn:Dc.nameB s.data.toList=true)(hf: ¬en<up D.h+ (8+up (1+s.size)))(hsh:D.shut S=false):
 Calls prog 87 #[g,.string s] w1 (Got (.returned (.tuple #[((up D.h+ (8+up (1+s.size)):Nat):Int),(0:Int)])) (AllA [RDicA g gb bg en cap false { D with h:=up D.h+ (8+up (1+s.size)),l:=up D.h },RbA gb (S.put D.h (D.headB s.data.toList))]) F w):=by
 have hon:=rl_of hb
 have hs2:=name_size hn
 have hnl:s.data.toList.length=s.size:=by rw[Lib.size_eq]
 have hnm:=name_walk s oM w1
 rw[hn]at hnm
 have h1:=h8.lo
 have hle:=h8.le
 have hu1:=up_ge D.h
 have hu2:=up_ge (1+s.size)
 have hup1:=λw=>rd_up D.h oM w
 have hup2:=λw=>rd_up (1+s.size) oM w
 rw[show((1+s.size:Nat):Int)=1+ (s.size:Int)by omega]at hup2
 have hto:=λW (h:On F w (RLaidA g gb bg en cap false D S []) W)=>rd_to (rl_in [] h) oM oM
 have hc:=λW l (h:On F w (RLaidA g gb bg en cap false D S l) W)=>rl_in l h
 obtain⟨za,hza⟩: ∃za:List UInt8,za=List.replicate (up D.h-D.h) 0:=⟨_,rfl⟩
 have hzl:za.length=up D.h-D.h:=by rw[hza];simp
 have hal1:=λW (h:On F w (RLaidA g gb bg en cap false D S []) W)=>rd_align [] h h8 _ rfl (by simp;omega)
 simp only[List.length_nil,Nat.add_zero,List.nil_append]at hal1
 rw[<-hza]at hal1
 have hvl:V64 (D.l:Int):=by have:=h8.ok.l;rw[h8.lim]at this;unfold V64;omega
 have hcm:=λW (h:On F w (RLaidA g gb bg en cap false D S za) W)=>rd_lay za h h8 (by rw[hzl];omega) (D.l:Int) hvl
 have hl2: (za++toB (D.l:Int)).length=up D.h-D.h+8:=by simp[toB_len,hzl]
 have hby: (32:Int) + (s.size:Int)= (((UInt8.ofNat (s.size+32)).toNat:Nat):Int):=by rw[UInt8.toNat_ofNat'];omega
 have hcb:=λW (h:On F w (RLaidA g gb bg en cap false D S (za++toB (D.l:Int))) W)=>rl_ccomma_f (za++toB (D.l:Int)) (UInt8.ofNat (s.size+32)) (32+ (s.size:Int)) hby h h8 (by rw[hl2];omega)
 obtain⟨l3,hl3⟩: ∃l3:List UInt8,l3=za++toB (D.l:Int)++ [UInt8.ofNat (s.size+32)]:=⟨_,rfl⟩
 have hl3l:l3.length=up D.h-D.h+9:=by rw[hl3,List.length_append,hl2];rfl
 rw[<-hl3]at hcb
 have hcn:=λW (j:Nat) (hj:j<s.size) (h:On F w (RLaidA g gb bg en cap false D S (l3++s.data.toList.take j)) W)=>rd_ccomma (l3++s.data.toList.take j) h h8 (by rw[List.length_append,hl3l,List.length_take,hnl];omega) (s.data.toList.getD j 0)
 have htk: ∀j,j<s.size->(l3++s.data.toList.take j)++ [s.data.toList.getD j 0]=l3++s.data.toList.take (j+1):=λj hj=>by
  rw[List.append_assoc,take_snoc _ _ (by rw[hnl];exact hj)]
 have hl4l: (l3++s.data.toList).length=up D.h-D.h+9+s.size:=by rw[List.length_append,hl3l,hnl]
 have hal2:=λW (h:On F w (RLaidA g gb bg en cap false D S (l3++s.data.toList)) W)=>rd_align (l3++s.data.toList) h h8 (up (1+s.size) - (1+s.size)) (by rw[hl4l];unfold up at *;omega) (by rw[hl4l];omega)
 have hlast:l3++s.data.toList++List.replicate (up (1+s.size) - (1+s.size)) 0=D.headB s.data.toList:=by
  unfold Dc.headB
  rw[hl3,hza,hnl]
  simp[List.append_assoc]
 rw[hlast]at hal2
 have hfl: (D.headB s.data.toList).length=up D.h-D.h+ (8+up (1+s.size)):=by rw[Dc.head_len,hnl]
 have hend:=λW (h:On F w (RLaidA g gb bg en cap false D S (D.headB s.data.toList)) W)=>(by
  have h1:=rl_to _ _ hfl h
  have h2:=h1.setAt 0 rfl 4 (.int .i64 (up D.h:Nat))
  rw[rdicC_latest gb bg en cap false _ (up D.h) _ rfl]at h2
  have e: ({ laidB D (up D.h-D.h+ (8+up (1+s.size)))with l:=up D.h }:Dc)= { D with h:=up D.h+ (8+up (1+s.size)),l:=up D.h }:=by unfold laidB;simp;omega
  rw[e]at h2
  exact h2:On F w (AllA [RDicA g gb bg en cap false { D with h:=up D.h+ (8+up (1+s.size)),l:=up D.h },RbA gb (S.put D.h (D.headB s.data.toList))]) (W.setCell (g,4) (.int .i64 (up D.h:Nat))))
 have hix:=λ(j:Nat) (h:j<s.size)=>idx_str s j h
 generalize D.headB s.data.toList=lf at *
 have hhf: ((laidB D lf.length).h:Int)= ((up D.h+ (8+up (1+s.size)):Nat):Int):=by unfold laidB;simp only[hfl];omega
 have hh0: ((laidB D ([]:List UInt8).length).h:Int)= (D.h:Int):=rfl
 replace hon:=Lib.hid hon
 replace hnm:=Lib.hid hnm
 replace hup1:=Lib.hid hup1
 replace hup2:=Lib.hid hup2
 replace hto:=Lib.hid hto
 replace hc:=Lib.hid hc
 replace hal1:=Lib.hid hal1
 replace hcm:=Lib.hid hcm
 replace hcb:=Lib.hid hcb
 replace hcn:=Lib.hid hcn
 replace htk:=Lib.hid htk
 replace hal2:=Lib.hid hal2
 replace hend:=Lib.hid hend
 replace hix:=Lib.hid hix
 replace hhf:=Lib.hid hhf
 replace hnl:=Lib.hid hnl
 generalize up (1+s.size)=u2 at *
 generalize hU1:up D.h=u1 at *
 clear hb hn h8 hsh hza hzl hvl hl2 hby hl3 hl3l hl4l hlast hfl hU1
 obtain⟨c0,c1,c2,c3,c4,cf⟩:=hc.out _ _ hon.out
 rw[hh0]at c3
 have ht:decide ((en:Int) - (u1:Int) <8+ (u2:Int))=false:=decide_eq_false oM
 go_enter func87,ntmps87
 go_wp2_with fail
 refine hnm.out.mono ?_
 rintro e w2 ⟨rfl,rfl⟩
 go_wp2_with fail
 refine(hup1.out _).mono ?_
 rintro e w3 ⟨rfl,rfl⟩
 go_wp2_with fail
 refine(hto.out _ hon.out).mono ?_
 rintro e w4 ⟨rfl,nq,rfl⟩
 have hon2:=hon.out.drewN nq
 obtain⟨w4,hw4⟩: ∃w4,w3.drewN nq=w4:=⟨_,rfl⟩
 rw[hw4]at hon2⊢
 clear hw4 c0 c1 c2 c3 c4 cf hon
 obtain⟨c0,c1,c2,c3,c4,cf⟩:=hc.out _ _ hon2
 replace hal1:=Lib.hid (hal1.out _ hon2)
 clear hon2 hto
 go_wp2_with fail
 refine(hup2.out _).mono ?_
 rintro e w5 ⟨rfl,rfl⟩
 go_wp2_with fail
 refine mo hal1.out λw5 h5=>?_
 clear c0 c1 c2 c3 c4 cf
 obtain⟨c0,c1,c2,c3,c4,cf⟩:=hc.out _ _ h5
 have c4':w5.cell? (g,4)=some ((D.l:Int):Vl):=c4
 replace hcm:=Lib.hid (hcm.out _ h5)
 clear h5 c4
 go_wp2_with fail
 refine mo hcm.out λw6 h6=>?_
 replace hcb:=Lib.hid (hcb.out _ h6)
 clear h6 c0 c1 c2 c3 c4' cf
 go_wp2_with fail
 refine mo hcb.out λw7 h7=>?_
 replace h7:=Lib.hid h7
 go_wp2_with fail
 go_loopg [8] s.size (λk t wr=> ∃j:Nat,j+k=s.size∧t = .int .i64 (j:Int)∧On F w (RLaidA g gb bg en cap false D S (l3++s.data.toList.take j)) wr)
 case atStart=>exact⟨0,by omega,rfl,by rw[List.take_zero,List.append_nil];exact h7.out⟩
 case round=>
  obtain⟨j,hj,rfl,hj7⟩:=hrel
  by_cases hjl:j<s.size
  ·have hq:=hcn.out _ j hjl hj7
   have hx:=hix.out j hjl wr
   rw[htk.out j hjl]at hq
   generalize s.data.toList.getD j 0=c at *
   replace hq:=Lib.hid hq
   replace hj7:=Lib.hid hj7
   go_wp2_with fail
   refine mo hq.out λw8 h8=>?_
   replace h8:=Lib.hid h8
   go_wp2
   go_roundg (gk-1)
   case measure=>omega
   case rel=>exact⟨j+1,by omega,by go_num,h8.out⟩
  ·have hjj:j=s.size:=by omega
   subst hjj
   rw[List.take_of_length_le (by rw[hnl.out];exact Nat.le_refl _)]at hj7
   replace hal2:=Lib.hid (hal2.out _ hj7)
   have hdec2:decide ((s.size:Int) < (s.size:Int))=false:=by simp
   clear hj7
   go_wp2_with fail
   refine mo hal2.out λw8 h8=>?_
   obtain⟨c0,c1,c2,c3,c4,cf⟩:=hc.out _ _ h8
   have c4':w8.cell? (g,4)=some ((D.l:Int):Vl):=c4
   have f4:=cf 4
   replace hend:=Lib.hid (hend.out _ h8)
   rw[hhf.out]at c3
   clear h8 c4 cf
   go_wp2
   go_ret2
   exact⟨rfl,hend.out⟩
theorem rd_create(hb:On F w (AllA [RDicA g gb bg en cap false D,RbA gb S]) w1)(h8:At8 S D (bg+8) en)(hsh:D.shut S=false)(s:ByteArray)(hsz:s.size<=9223372036854775807):
 Calls prog 87 #[g,.string s] w1 (Got (.returned (.tuple #[(D.createV S s.data.toList),(D.createF S s.data.toList)])) (AllA [RDicA g gb bg en cap false (D.createD S s.data.toList),RbA gb (D.createS S s.data.toList)]) F w):=by
 have hnl:s.data.toList.length=s.size:=by rw[Lib.size_eq]
 have hF:D.createF S s.data.toList=if Dc.nameB s.data.toList=false then 15 else if en<up D.h+ (8+up (1+s.size))then 9 else 0:=by
  unfold Dc.createF
  rw[h8.lim,hnl,hsh]
  simp
 unfold Dc.createV Dc.createD Dc.createS
 rw[hF]
 by_cases h1:Dc.nameB s.data.toList=false
 ·rw[if_pos h1,if_neg (by decide),if_neg (by decide),if_neg (by decide)]
  exact rd_create_bad hb s hsz h1
 rw[if_neg h1]
 have h1':Dc.nameB s.data.toList=true:=by simpa using h1
 by_cases h2:en<up D.h+ (8+up (1+s.size))
 ·rw[if_pos h2,if_neg (by decide),if_neg (by decide),if_neg (by decide)]
  exact rd_create_full hb h8 s h1' h2
 rw[if_neg h2,if_pos rfl,if_pos rfl,if_pos rfl,hnl]
 exact rd_create_ok hb h8 s h1' h2 hsh
end
section
variable {w w1:World}{F:Nat->Prop}
theorem rd_new(gb bg en cap:Nat)(hle:bg<=en)(hen:en<=143360)(rg:Nat)(w:World):Calls prog 55 #[.slice (some ⟨gb,bg,none⟩) (en-bg) cap,(bg:Int)] w
 (PostE (λe B=> ∃g,e = .returned (.pointer (some ⟨g,0,none⟩))∧B=RDicA g gb bg en cap false ⟨rg,bg+8,0⟩) Nob w):=by
 have hon:=(On.refl (A:=AllA []) (F:=Nob) (w:=w) (λ_ h=>h)).box (rdicC gb bg en cap false ⟨rg,bg+8,0⟩) 157
 have e: (((bg+8:Nat)):Int)= (bg:Int) +8:=by omega
 have hc:rdicC gb bg en cap false ⟨rg,bg+8,0⟩=#[.slice (some ⟨gb,bg,none⟩) (en-bg) cap,.int .i64 (bg:Int),.bool false,.int .i64 ((bg:Int) +8),.int .i64 0]:=by
  unfold rdicC
  rw[e]
  rfl
 rw[hc]at hon
 replace hon:=Lib.hid hon
 replace hc:=Lib.hid hc
 clear e
 go_enter func55,ntmps55
 go_wp2
 go_ret
 have h:=hon.out.ofOne
 rw[<-hc.out]at h
 exact⟨_,⟨w.heap.size,rfl,rfl⟩,h⟩
def rturC(x y p q:Int)(d:Bool):Array Value:=#[.int .i64 x,.int .i64 y,.int .i64 p,.int .i64 q,.bool d,.slice none 0 0]
theorem rt_new(w:World):Calls prog 53 #[] w (PostE (λe B=> ∃g,e = .returned (.pointer (some ⟨g,0,none⟩))∧B=BlkA g 197 (rturC 0 0 1 0 true)) Nob w):=by
 have hon:=(On.refl (A:=AllA []) (F:=Nob) (w:=w) (λ_ h=>h)).box (rturC 0 0 1 0 true) 197
 unfold rturC at hon
 replace hon:=Lib.hid hon
 go_enter func53,ntmps53
 go_wp2
 go_ret
 exact⟨_,⟨w.heap.size,rfl,rfl⟩,hon.out.ofOne⟩
def turC:Array Value:=#[.complex .f64 0 0,.complex .f64 4607182418800017408 0,.bool true,.slice none 0 0]
theorem n_turtle(w:World):Calls prog 30 #[] w (PostE (λe B=> ∃g,e = .returned (.pointer (some ⟨g,0,none⟩))∧B=BlkA g 150 turC) Nob w):=by
 have hon:=(On.refl (A:=AllA []) (F:=Nob) (w:=w) (λ_ h=>h)).box turC 150
 unfold turC at hon
 replace hon:=Lib.hid hon
 go_enter func30,ntmps30
 go_wp2
 go_ret
 exact⟨_,⟨w.heap.size,rfl,rfl⟩,hon.out.ofOne⟩
end
structure Rc where
 gW:Nat
 gM:Nat
 gb:Nat
 gK:Nat
 gS:Nat
 gD:Nat
 gDr:Nat
 gR:Nat
 gRr:Nat
 gC:Nat
 gT:Nat
def worldC(r:Rc)(list:Nat)(ws:Value)(f u h:Int)(t:Bool):Array Value:=
 #[r.gM,r.gK,r.gS,list,ws,r.gD,r.gR,r.gC,r.gT,f,(u:Int),h,.bool t,.slice none 0 0]
theorem r3_new(k s u d r:Nat)(hf:Fits k s u d r)(w:World):Calls prog 52 #[layoutV k s u d r] w
 (PostE (λe B=> ∃g gb,e = .returned (.tuple #[.pointer (some ⟨g,0,none⟩),.bool true])∧B=AllA [BlkA g 130 (rimgCells gb (newImg k s u d r)),RbA gb (newImg k s u d r)]) Nob w):=by
 refine(ir_new k s u d r hf w).mono ?_
 rintro e w' ⟨g,gb,he,h1,h2,hr,hb⟩
 refine⟨_,⟨g,gb,he,rfl⟩,λk=>k=g∨k=gb,?_,Kept.ofBelow0 hb,λi hi=>by rcases hi with rfl|rfl<;>exact .inr (by assumption)⟩
 have hne:=hr.blk.ne_ hr.row (by decide)
 exact⟨λk=>k=g,λk=>k=gb,⟨hr.blk,λ_=>Iff.rfl⟩,All.one (A:=RbA gb (newImg k s u d r)) ⟨hr.row,λ_=>Iff.rfl⟩,λk a b=>hne (a.symm.trans b),λ_=>Iff.rfl⟩
def wC0(gM gT:Nat)(a1 a2 a3 a4 a5 a6 a7:Value):Array Value:=#[.pointer gM,a1,a2,a3,a4,a5,a6,a7,.pointer gT,.int .i64 0,.int .i64 0,.int .i64 0,.bool false,.slice none 0 0]
def nilP:Value:= .pointer none
def nilS:Value:= .slice none 0 0
theorem rep_of{w W:World}{F:Nat->Prop}{L:List Asr}{gM gb:Nat}{S:Img}(h:On F w (AllA L) W)(i j:Nat)(hi:L[i]? = some (BlkA gM 130 (rimgCells gb S)))(hj:L[j]? = some (RbA gb S))(hS:S.Ok):IRRep W gM gb S:=
 ⟨h.blkAt i hi,h.blkAt j hj,hS⟩
theorem err0:Caps.newErr 0 0 ⟨#[]⟩=0:=by decide
structure Rw where
 S:Img
 K:Dc
 D:Dc
 kcl:Bool
 T:Caps.Tab
 dd:Nat
 da:List Int
 rd:Nat
 ra:List Int
 fault:Int
 used:Int
 hidden:Int
 tells:Bool
theorem rimg_alike(gb:Nat){S S':Img}(h:Alike S S'):rimgCells gb S'=rimgCells gb S:=by
 unfold rimgCells
 rw[h.k,h.s,h.u,h.d,h.r,h.op,h.cl,h.beg]
section
variable {w w1:World}{F:Nat->Prop}{r:Rc}{l:Nat}{ws:Value}{x:Rw}
end
end Vm
end Go.Proofs.YteaijdgnagkllaaGreatDoor
