/- Chapter 11: what is made ahead of each law, as plain functions; the code of a word in an image. No condition. -/
import Derived.Test.YtngdikikclfgjaaGreatDoorZ18
import Derived.Test.YtngdikikclfgjaaGreatDoorZ19
open Go.Proofs.Tryz
namespace Go.Proofs.YtngdikikclfgjaaGreatDoor
set_option linter.unusedVariables false
set_option linter.unusedSimpArgs false
set_option maxHeartbeats 8000000
open Go.RowKit Go.Lib
namespace Vm
structure Wrd where
 name:ByteArray
 hid:Bool
 imm:Bool
 cells:List Int
def commasS:List Int->Img×Dc->Img×Dc
 | [],q=>q
 | v::l,q=>if q.2.commaF q.1=0 then commasS l (q.2.commaS q.1 v,q.2.commaD q.1)else q
def markS(x:Wrd)(S:Img)(D:Dc):Img:=
 if x.imm then D.turnS (if x.hid then S else D.turnS S showT) immT else if x.hid then S else D.turnS S showT
def laidS(x:Wrd)(q:Img×Dc):Img×Dc:=
 if q.2.createF q.1 x.name.data.toList≠0 then q
 else commasS x.cells (markS x (q.2.createS q.1 x.name.data.toList) (q.2.createD q.1 x.name.data.toList),q.2.createD q.1 x.name.data.toList)
def listS(xs:List Wrd)(q:Img×Dc):Img×Dc:=(xs.take 20).foldl (λq x=>laidS x q) q
structure Grew(q q':Img×Dc):Prop where
 img:q'.1.Ok
 dc:q'.2.Ok q'.1
 al:Alike q.1 q'.1
 rg:q'.2.rg=q.2.rg
theorem Grew.refl{q:Img×Dc}(h1:q.1.Ok)(h2:q.2.Ok q.1):Grew q q:=⟨h1,h2,Alike.refl _,rfl⟩
theorem Grew.trans{a b c:Img×Dc}(h:Grew a b)(g:Grew b c):Grew a c:=⟨g.img,g.dc,h.al.trans g.al,g.rg.trans h.rg⟩
theorem show_flag(b:UInt8):showT b= (b &&& ~~~(32:UInt8) ||| 0):=by
 unfold showT
 rw[UInt8.or_zero]
 rfl
theorem imm_flag(b:UInt8):immT b= (b &&& ~~~(0:UInt8) ||| 64):=by
 unfold immT
 have h:b &&& ~~~(0:UInt8)=b:=by
  rw[show ~~~(0:UInt8)=255 from rfl]
  apply UInt8.toNat_inj.1
  rw[UInt8.toNat_and]
  have h1: ∀n:Fin 256,n.val &&& 255=n.val:=by decide +kernel
  exact h1 ⟨b.toNat,b.toNat_lt⟩
 rw[h]
theorem turn_show(S:Img)(D:Dc):D.turnS S showT=D.flagS S 32 0:=by
 unfold Dc.turnS Dc.flagS
 split
 ·rfl
 ·rw[show_flag]
theorem turn_imm(S:Img)(D:Dc):D.turnS S immT=D.flagS S 0 64:=by
 unfold Dc.turnS Dc.flagS
 split
 ·rfl
 ·rw[imm_flag]
section
variable {S:Img}{D:Dc}
theorem grew_show(hS:S.Ok)(hD:D.Ok S):Grew (S,D) (D.turnS S showT,D):=by
 rw[turn_show]
 have h:=Dc.ok_flag hS hD 32 0
 exact⟨h.1,h.2,Dc.alike_flag _ _ _ _,rfl⟩
theorem grew_imm(hS:S.Ok)(hD:D.Ok S):Grew (S,D) (D.turnS S immT,D):=by
 rw[turn_imm]
 have h:=Dc.ok_flag hS hD 0 64
 exact⟨h.1,h.2,Dc.alike_flag _ _ _ _,rfl⟩
theorem grew_comma(hS:S.Ok)(hD:D.Ok S)(v:Int):Grew (S,D) (D.commaS S v,D.commaD S):=by
 have h:=Dc.ok_comma hS hD v
 refine⟨h.1,h.2,Dc.alike_comma _ _ _,?_⟩
 show(D.commaD S).rg=D.rg
 unfold Dc.commaD
 split<;>rfl
theorem grew_create(hS:S.Ok)(hD:D.Ok S)(n:List UInt8):Grew (S,D) (D.createS S n,D.createD S n):=by
 have h:=Dc.ok_create hS hD n
 refine⟨h.1,h.2,Dc.alike_create _ _ _,?_⟩
 show(D.createD S n).rg=D.rg
 unfold Dc.createD
 split<;>rfl
theorem grew_mark(x:Wrd)(hS:S.Ok)(hD:D.Ok S):Grew (S,D) (markS x S D,D):=by
 have h1:Grew (S,D) (if x.hid then S else D.turnS S showT,D):=by
  split
  ·exact Grew.refl hS hD
  ·exact grew_show hS hD
 unfold markS
 split
 ·exact h1.trans (grew_imm h1.img h1.dc)
 ·exact h1
end
theorem grew_commas: ∀(l:List Int) (q:Img×Dc),q.1.Ok->q.2.Ok q.1->Grew q (commasS l q)
 | [],q,h1,h2=>Grew.refl h1 h2
 | v::l,q,h1,h2=>by
   unfold commasS
   split
   ·have h:=grew_comma (S:=q.1) (D:=q.2) h1 h2 v
    exact h.trans (grew_commas l _ h.img h.dc)
   ·exact Grew.refl h1 h2
theorem grew_laid(x:Wrd)(q:Img×Dc)(h1:q.1.Ok)(h2:q.2.Ok q.1):Grew q (laidS x q):=by
 unfold laidS
 split
 ·exact Grew.refl h1 h2
 ·have h:=grew_create (S:=q.1) (D:=q.2) h1 h2 x.name.data.toList
  have g:=grew_mark x h.img h.dc
  exact(h.trans g).trans (grew_commas _ _ g.img g.dc)
theorem grew_fold: ∀(xs:List Wrd) (q:Img×Dc),q.1.Ok->q.2.Ok q.1->Grew q (xs.foldl (λq x=>laidS x q) q)
 | [],q,h1,h2=>Grew.refl h1 h2
 | x::xs,q,h1,h2=>by
   have h:=grew_laid x q h1 h2
   exact h.trans (grew_fold xs _ h.img h.dc)
theorem grew_list(xs:List Wrd)(q:Img×Dc)(h1:q.1.Ok)(h2:q.2.Ok q.1):Grew q (listS xs q):=grew_fold _ q h1 h2
theorem Grew.shut{q q':Img×Dc}(h:Grew q q'):q'.2.shut q'.1=q.2.shut q.1:=by
 unfold Dc.shut
 rw[h.al.cl,h.rg]
structure Setup where
 caps:Int
 room:Int
 input:ByteArray
 hidden:ByteArray
 opened:Bool
 kernel:List Wrd
 student:List Wrd
 base:Int
 data:List Int
 ret:List Int
 fault:Int
 used:Int
 hiddenAs:Int
def pickS(c n:Int):Int:=(if c<0 then -(c+1)else c) % n
def img0:Img:=newImg 16384 64 512 128 64
def ker0:Dc:=⟨1,8,0⟩
def stu0:Dc:=⟨3,16456,0⟩
theorem img0_fits:Fits 16384 64 512 128 64:=⟨by omega,by omega,by omega,by omega,by omega,by omega,by omega,by omega,by omega,by omega,by omega,by omega,by omega,by omega⟩
theorem img0_ok:img0.Ok:=newImg_ok img0_fits
theorem ker0_ok{S:Img}(h:Alike img0 S):ker0.Ok S:=
 Dc.Ok.alike (S:=img0) ⟨.inl rfl,by decide,by decide,.inl rfl,by decide,by decide⟩ h
theorem stu0_ok{S:Img}(h:Alike img0 S):stu0.Ok S:=
 Dc.Ok.alike (S:=img0) ⟨.inr rfl,by decide,by decide,.inl rfl,by decide,by decide⟩ h
namespace Setup
variable (s:Setup)
def tooLong:Bool:=decide (4096<s.input.size) ||decide (64<s.hidden.size)
def inp:ByteArray:=if s.tooLong then⟨#[]⟩else s.input
def hid:ByteArray:=if s.tooLong then⟨#[]⟩else s.hidden
def k1:Img×Dc:=listS s.kernel (img0,ker0)
def t1:Img×Dc:=listS s.student (s.k1.1,stu0)
def load(S:Img)(l:List UInt8):Img:=S.put (S.beg 2) (l++List.replicate (S.s-l.length) 0)
def i2:Img:=if s.opened then s.t1.1.opened else s.t1.1
def i3:Img:=(load s.i2 s.hid.data.toList).sealed
def m0:Mt:=⟨s.i3,⟨16960,16,1,2⟩,⟨17088,8,3,4⟩,0,0,Caps.made (pickS s.caps 32) (pickS s.room 65537) s.inp,s.t1.2.h,s.t1.2.l,s.k1.2.h,s.k1.2.l,0,0,0,false,[],Ext.zero⟩
def m1:Mt:=(s.m0.pushD (s.data.take 16)).pushR (s.ret.take 8)
def mt:Mt:={ s.m1 with S:=s.m1.S.setCell 0 16448 s.base,fault:=s.fault,used:=s.used,hidden:=s.hiddenAs,tells:=true }
def ri:Img:=s.i3.setCell 0 16448 s.base
end Setup
def cellsB(l:List Int):List UInt8:=l.flatMap toB
theorem cellsB_len(l:List Int): (cellsB l).length=8*l.length:=by
 induction l with
 | nil=>rfl
 | cons v l ih=>
   show(toB v++cellsB l).length=_
   rw[List.length_append,toB_len,ih,List.length_cons]
   omega
theorem cellsB_at: ∀(l:List Int) (i:Nat) (v:Int),l[i]? = some v->((cellsB l).drop (8*i)).take 8=toB v
 | [],i,v,h=>by simp at h
 | u::l,0,v,h=>by
   obtain rfl:u=v:=by simpa using h
   show(toB u++cellsB l).take 8=_
   rw[List.take_append_of_le_length (by rw[toB_len];exact Nat.le_refl _),List.take_of_length_le (by rw[toB_len];exact Nat.le_refl _)]
 | u::l,i+1,v,h=>by
   show((toB u++cellsB l).drop (8* (i+1))).take 8=_
   rw[List.drop_append,List.drop_eq_nil_of_le (by rw[toB_len];omega),List.nil_append,toB_len,show 8* (i+1) -8=8*i by omega]
   exact cellsB_at l i v (by simpa using h)
theorem commas_put: ∀(l:List Int) (S:Img) (D:Dc),S.Ok->D.Ok S->D.h % 8=0->D.h+8*l.length<=D.lim S->D.shut S=false->
 commasS l (S,D)= (S.put D.h (cellsB l),{ D with h:=D.h+8*l.length })
 | [],S,D,_,_,_,_,_=>by
   show(S,D)= (S.put D.h [],D)
   rw[Img.put_nil]
 | v::l,S,D,hS,hD,h8,hl,hsh=>by
   have hl1:8* (v::l).length=8+8*l.length:=by rw[List.length_cons];omega
   have e:D.commaF S=0:=by
    unfold Dc.commaF
    rw[if_neg oM,if_neg oM,if_neg (by rw[hsh];decide)]
   have g:=grew_comma hS hD v
   have e1:D.commaS S v=S.put D.h (toB v):=by unfold Dc.commaS;rw[if_pos e]
   have e2:D.commaD S = { D with h:=D.h+8 }:=by unfold Dc.commaD;rw[if_pos e]
   rw[e1,e2]at g
   unfold commasS
   rw[if_pos e,e1,e2,commas_put l _ _ g.img g.dc (by show(D.h+8) % 8=0;omega) (by
    show D.h+8+8*l.length<=_
    rw[Dc.lim_alike (D:={ D with h:=D.h+8 }) (Alike.put S D.h (toB v))]
    show D.h+8+8*l.length<=D.lim S
    omega) (by
    rw[Dc.shut_alike (D:={ D with h:=D.h+8 }) (Alike.put S D.h (toB v))]
    exact hsh)]
   have hp: (S.put D.h (toB v)).put (D.h+8) (cellsB l)=S.put D.h (toB v++cellsB l):=by
    have:=S.put_append D.h (toB v) (cellsB l) (by rw[toB_len,hS.len];have:=hD.all;omega)
    rw[toB_len]at this
    exact this
   rw[show({ D with h:=D.h+8 }:Dc).h=D.h+8 from rfl,hp,hl1,show D.h+ (8+8*l.length)=D.h+8+8*l.length by omega]
   rfl
structure CodeAt(S:Img)(a:Nat)(cs:List Int):Prop where
 al:a % 8=0
 lo:S.beg 3<=a
 hi:a+8*cs.length<=S.beg 4
 at_: ∀i v,cs[i]? = some v->ofB (S.bytes ((a+8*i:Nat):Int) 8)=v
theorem CodeAt.put{S:Img}{a:Nat}{cs:List Int}(h:CodeAt S a cs)(hS:S.Ok)(k:Nat)(l:List UInt8)(hk:k+l.length<=S.beg 6)(hf:k+l.length<=a∨a+8*cs.length<=k):CodeAt (S.put k l) a cs:=by
 have hb:=Alike.put S k l
 have h64:S.beg 4<=S.beg 6:=S.beg_mono oM oM oM
 have hhi:=h.hi
 refine⟨h.al,by rw[hb.beg];exact h.lo,by rw[hb.beg];exact h.hi,λi v hv=> ?_⟩
 have hi:i<cs.length:=(List.getElem?_eq_some_iff.1 hv).1
 rw[S.bytes_put_far k _ 8 l (by rw[hS.len];exact hk) (by rw[hS.len];omega) oM]
 exact h.at_ i v hv
theorem CodeAt.cell{S:Img}{a:Nat}{cs:List Int}(h:CodeAt S a cs)(m:Int)(hm:0<=m∧m<=2)(i:Nat)(v:Int)(hv:cs[i]? = some v):S.cellF m ((a:Int) +8* (i:Int)) false=0∧S.cellV m ((a:Int) +8* (i:Int))=v:=by
 have hi:i<cs.length:=(List.getElem?_eq_some_iff.1 hv).1
 have h1:=h.lo
 have h2:=h.hi
 have h3:=h.al
 rw[show(a:Int) +8* (i:Int)= ((a+8*i:Nat):Int)by omega]
 have hr:S.region ((a+8*i:Nat):Int)=3:=S.region_eq oM oM oM oM (by show _< ((S.beg 4:Nat):Int);omega)
 have hrow:S.rowOk m ((a+8*i:Nat):Int) 8 false=true:=by
  unfold Img.rowOk Img.lets Img.may
  rw[hr]
  have hb4:S.beg (3+1)=S.beg 4:=rfl
  have h4:decide (((8:Nat):Int)<=(S.beg (3+1):Int) - ((a+8*i:Nat):Int))=true:=decide_eq_true (by rw[hb4];omega)
  rw[h4]
  rcases(show m=0∨m=1∨m=2 by omega)with rfl|rfl|rfl<;>simp
 have hF:S.cellF m ((a+8*i:Nat):Int) false=0:=by
  unfold Img.cellF
  rw[if_neg oM,if_pos hrow]
 refine⟨hF,?_⟩
 unfold Img.cellV
 rw[if_pos hF]
 exact h.at_ i v hv
theorem codeAt_put(S:Img)(hS:S.Ok)(a:Nat)(cs:List Int)(hc: ∀v∈cs,V64 v)(h8:a % 8=0)(hlo:S.beg 3<=a)(hhi:a+8*cs.length<=S.beg 4):CodeAt (S.put a (cellsB cs)) a cs:=by
 have hb:=Alike.put S a (cellsB cs)
 have h64:S.beg 4<=S.beg 6:=S.beg_mono oM oM oM
 refine⟨h8,by rw[hb.beg];exact hlo,by rw[hb.beg];exact hhi,λi v hv=> ?_⟩
 have hi:i<cs.length:=(List.getElem?_eq_some_iff.1 hv).1
 rw[S.bytes_put_in a (8*i) 8 _ (by rw[cellsB_len,hS.len];omega) (by rw[cellsB_len];omega),cellsB_at cs i v hv]
 exact ofB_toB v (hc v (List.mem_of_getElem? hv))
theorem CodeAt.fetch{S:Img}{a:Nat}{cs:List Int}(h:CodeAt S a cs)(m:Int)(hm:0<=m∧m<=2)(i:Nat)(v op arg:Int)(hv:cs[i]? = some v)(hu:Code.unpack v= (op,arg,true))(h2:op≠2)(h19:op≠19):S.fetch m ((a:Int) +8* (i:Int))= (⟨op,arg,0,1⟩,0):=by
 obtain⟨h3,h4⟩:=h.cell m hm i v hv
 unfold Img.fetch
 rw[if_neg (by rw[h3];decide),h4,hu,if_neg (by simp),if_neg h2,if_neg h19]
theorem CodeAt.fetchLit{S:Img}{a:Nat}{cs:List Int}(h:CodeAt S a cs)(m:Int)(hm:0<=m∧m<=2)(i:Nat)(v:Int)(hv:cs[i]? = some 2)(hv2:cs[i+1]? = some v):S.fetch m ((a:Int) +8* (i:Int))= (⟨2,0,v,2⟩,0):=by
 obtain⟨h3,h4⟩:=h.cell m hm i 2 hv
 obtain⟨h5,h6⟩:=h.cell m hm (i+1) v hv2
 rw[show(a:Int) +8* ((i+1:Nat):Int)= (a:Int) +8* (i:Int) +8 by omega]at h5 h6
 have hu:Code.unpack 2= (2,0,true):=by decide
 unfold Img.fetch
 rw[if_neg (by rw[h3];decide),h4,hu,if_neg (by simp),if_pos rfl,if_neg (by rw[h5];decide),h6]
end Vm
set_option maxRecDepth 100000
open Go.RowKit Go.Lib Go.Deep
namespace Vm
structure Srcd(c:Vc)(src:Value)(s:Mt)(gs:Nat)(L:List Asr):Prop where
 at_:src = .pointer gs
 rest: ∀k,c.rest ⟨s.ext.text,k⟩=SrcA gs s.ext.text k::L
 sz:s.ext.text.size<=60000
 le:s.ext.at_<=s.ext.text.size
def exW(e:Ext):ByteArray:=e.text.extract (wordFrom e.text.data.toList e.at_) (wordTo e.text.data.toList e.at_)
def exN(e:Ext):Nat:=wordEnd e.text.data.toList e.at_
def Mt.readTo(s:Mt)(k:Nat):Mt:={ s with ext:=⟨s.ext.text,k⟩ }
section
variable {w w':World}{F:Nat->Prop}{c:Vc}{g gs:Nat}{x:Rn}{src:Value}{s:Mt}{B:Asr}{L:List Asr}
theorem Srcd.word(h:Srcd c src s gs L)(hon:On F w (AllA (B::vL c g x src s)) w'):
 Calls prog 164 #[gs] w' (Got (.returned (.tuple #[.string (exW s.ext),((exN s.ext:Nat) - (s.ext.at_:Int):Int)])) (AllA (B::vL c g x src (s.readTo (exN s.ext)))) F w):=by
 have e1:c.rest s.ext=SrcA gs s.ext.text s.ext.at_::L:=h.rest s.ext.at_
 have h1:=hon.callAtG (A:=SrcA gs s.ext.text s.ext.at_) (A':=SrcA gs s.ext.text (exN s.ext)) (e0:= .returned (.tuple #[.string (exW s.ext),((exN s.ext:Nat) - (s.ext.at_:Int):Int)])) 10 (by show(c.rest s.ext)[0]? = _;rw[e1];rfl) (λF' ha=>(word_walk gs s.ext.text (by have:=h.sz;omega) s.ext.at_ h.le w' F' ha).mono λe w2 ⟨v,A',F2,⟨hv,hA⟩,he,hh,hk,hF⟩=>by subst hv hA;exact⟨he,F2,hh,hk,hF⟩)
 have e2: (B::vL c g x src s).set 10 (SrcA gs s.ext.text (exN s.ext))=B::vL c g x src (s.readTo (exN s.ext)):=by
  show B::RunA c g x src::MachA c s::_::_::_::_::_::_::_:: (c.rest s.ext).set 0 _=B::RunA c g x src::MachA c s::_::_::_::_::_::_::_::c.rest ⟨s.ext.text,exN s.ext⟩
  rw[e1,h.rest]
  rfl
 rw[e2]at h1
 exact h1
def exC(e:Ext):Int:=(exN e:Int) -e.at_+ (if exW e= ⟨#[]⟩then 0 else 1)
theorem ex_bounds{e:Ext}(hs:e.text.size<=60000)(hl:e.at_<=e.text.size):e.at_<=exN e∧exN e<=e.text.size∧(exW e).size<=60000:=by
 have hsz:e.text.data.toList.length=e.text.size:=by rw[Lib.size_eq]
 have b1:wordFrom e.text.data.toList e.at_<=e.text.size:=by unfold wordFrom;rw[<-hsz];exact goesTo_le oM
 have b2:wordTo e.text.data.toList e.at_<=e.text.size:=by unfold wordTo;rw[<-hsz];exact goesTo_le (by rw[hsz];exact b1)
 have b3:exN e<=e.text.size:=by unfold exN wordEnd;rw[<-hsz];exact stepTo_le (by rw[hsz];exact b2)
 have b4:e.at_<=exN e:=Nat.le_trans (le_goesTo isLow _ _) (Nat.le_trans (le_goesTo isHigh _ _) (le_stepTo _ _))
 refine⟨b4,b3,?_⟩
 unfold exW
 rw[ByteArray.size_extract]
 omega
theorem ne_list{b:ByteArray}(h: ¬b= ⟨#[]⟩):b.toList.isEmpty=false:=by
 rw[Lib.toList_data]
 obtain⟨a⟩:=b
 rcases hl:a.toList with _| ⟨x,l⟩
 ·exact absurd (by rw[show a=#[]from Array.toList_eq_nil_iff.1 hl]) h
 ·rfl
theorem Srcd.back{w2:World}{k:Nat}(h:Srcd c src s gs L)(B:Asr)(h2:On F w (AllA (B::vL c g x src (s.readTo k))) w2):
 On F w (VA c g x src s) (((w2.setCell (gs,0) (.string s.ext.text)).setCell (gs,1) (.int .i64 (s.ext.at_:Int))).setCell (gs,2) (.int .i64 ((lfs (s.ext.text.data.toList.take s.ext.at_):Nat):Int))).drew:=by
 have e1:c.rest s.ext=SrcA gs s.ext.text s.ext.at_::L:=h.rest s.ext.at_
 have h3:On F w (AllA (B::RunA c g x src::MachA c s::ImgA c.gI s.S::StkA c.gI c.gD s.pd s.d::StkA c.gI c.gR s.pr s.r::TabA c.gT s.T::DictA c.gI c.gS c.sfr c.sto s.hs s.ls::DictA c.gI c.gK c.kfr c.kto s.hk s.lk::c.tl s.seen::SrcA gs s.ext.text k::L)) w2:=by
  rw[<-h.rest k]
  exact h2
 have h4:=((h3.setAt 10 rfl 0 (.string s.ext.text)).setAt 10 rfl 1 (.int .i64 (s.ext.at_:Int))).setAt 10 rfl 2 (.int .i64 ((lfs (s.ext.text.data.toList.take s.ext.at_):Nat):Int))
 refine On.drew ?_
 have h5:=h4.tail
 unfold VA vL
 rw[e1]
 exact h5
theorem v_create_far(hb: (VA c g x src s).holds w F)(hx:x.Ok)(hr:Srcd c src s gs L)(hfar:x.left<exC s.ext):
 Calls prog 108 #[g] w (Got (.panicked [flt 13]) (VA c g x src s) F w):=by
 have hon:=On.refl hb
 have r0:=hon.r0
 have r8:=hon.r8
 have r2:=hon.r2
 rw[hr.at_]at r8
 have e1:c.rest s.ext=SrcA gs s.ext.text s.ext.at_::L:=hr.rest s.ext.at_
 have hsb:Blk w gs 160 #[.string s.ext.text,(s.ext.at_:Int),((lfs (s.ext.text.data.toList.take s.ext.at_):Nat):Int)]:=hon.blkAt 9 (by show(c.rest s.ext)[0]? = _;rw[e1];rfl)
 have s0:=hsb.cell 0
 have s1:=hsb.cell 1
 have s2:=hsb.cell 2
 simp only[List.getElem?_toArray,List.getElem?_cons_zero,List.getElem?_cons_succ]at s0 s1 s2
 have hlt:=hon.rlt
 have hlt2:=hsb.lt
 have hbo:=ex_bounds hr.sz hr.le
 have hsz:=hr.sz
 have hle:=hr.le
 have hl1:=hx.left
 have hl2:=hx.left2
 have hbx:=hon.box #[.string s.ext.text,(s.ext.at_:Int),((lfs (s.ext.text.data.toList.take s.ext.at_):Nat):Int)] 160
 have hback:=Lib.hid (λW=>Srcd.back (w:=w) (w2:=W) (F:=F) (g:=g) (x:=x) (k:=exN s.ext) hr (BlkA w.heap.size 160 #[.string s.ext.text,(s.ext.at_:Int),((lfs (s.ext.text.data.toList.take s.ext.at_):Nat):Int)]))
 replace hon:=Lib.hid hon
 replace hr:=Lib.hid hr
 clear hb
 go_enter func108,ntmps108
 go_wp2_with fail
 refine(must_ok _ _).mono ?_
 rintro e w1 ⟨rfl,rfl⟩
 simp only[]
 go_wp2_with fail
 refine mo (hr.out.word hbx) λw2 h2=>?_
 simp only[]
 have e3:c.rest (s.readTo (exN s.ext)).ext=SrcA gs s.ext.text (exN s.ext)::L:=hr.out.rest _
 have hsb2:Blk w2 gs 160 #[.string s.ext.text,(exN s.ext:Int),((lfs (s.ext.text.data.toList.take (exN s.ext)):Nat):Int)]:=h2.blkAt 10 (by show(c.rest (s.readTo (exN s.ext)).ext)[0]? = _;rw[e3];rfl)
 have f0:=hsb2.frozen 0
 have f1:=hsb2.frozen 1
 have f2:=hsb2.frozen 2
 have q0:=h2.tail.r0
 have q2:=h2.tail.r2
 have q8:=h2.tail.r8
 rw[hr.out.at_]at q8
 have z0:=(h2.blkAt 0 rfl).cell 0
 have z1:=(h2.blkAt 0 rfl).cell 1
 have z2:=(h2.blkAt 0 rfl).cell 2
 have y0:=hsb2.cell 0
 have y1:=hsb2.cell 1
 have y2:=hsb2.cell 2
 simp only[List.getElem?_toArray,List.getElem?_cons_zero,List.getElem?_cons_succ]at z0 z1 z2 y0 y1 y2
 have hlt3:=hsb2.lt
 replace h2:=Lib.hid h2
 obtain⟨C,hC⟩: ∃C,exC s.ext=C:=⟨_,rfl⟩
 have hC2:=hC
 unfold exC at hC2
 rw[hC]at hfar
 have ht:decide (x.left<C)=true:=decide_eq_true hfar
 by_cases hw:exW s.ext= ⟨#[]⟩
 ·rw[if_pos hw]at hC2
  rw[hw]
  have ht:decide (x.left< (exN s.ext:Int) -s.ext.at_)=true:=decide_eq_true oM
  go_wp2_with fail
  go_region
  all_goals go_wp2_with fail
  all_goals exact⟨rfl,rfl,hback.out _ h2.out⟩
 ·rw[if_neg hw]at hC2
  have ht:decide (x.left< (exN s.ext:Int) -s.ext.at_+1)=true:=decide_eq_true oM
  have hne: (exW s.ext).toList.isEmpty=false:=ne_list hw
  generalize exW s.ext=W at *
  go_wp2_with fail
  go_region
  all_goals go_wp2_with fail
  all_goals exact⟨rfl,rfl,hback.out _ h2.out⟩
theorem Dcs.onGrew{S':Img}{D':Dc}(hp:Dcs c src s)(hg:Grew (s.S,dS s) (S',D')):Dcs c src (s.onDict S' D')∧dS (s.onDict S' D')=D':=by
 have e:dS (s.onDict S' D')=D':=by
  obtain⟨rg,h,l⟩:=D'
  have h3:rg=3:=hg.rg
  subst h3
  unfold dS Mt.onDict
  simp
 refine⟨⟨Int.natCast_nonneg _,Int.natCast_nonneg _,?_⟩,e⟩
 rw[e]
 exact hp.at8.next hg.img hg.dc hg.al hg.rg
def crS1(s:Mt):Mt:=(s.readTo (exN s.ext)).onDict ((dS s).createS s.S (exW s.ext).data.toList) ((dS s).createD s.S (exW s.ext).data.toList)
def crS2(s:Mt):Mt:=s.onDict ((dS s).turnS s.S showT) (dS s)
def crS3(v:Int)(s:Mt):Mt:=s.onDict ((dS s).commaS s.S v) ((dS s).commaD s.S)
def createQ(x:Rn)(s:Mt):Rs:=
 if x.left<exC s.ext then⟨13,x,s⟩
 else
  let x1:={ x with left:=x.left-exC s.ext }
  let f1:=(dS s).createF s.S (exW s.ext).data.toList
  if f1≠0 then⟨f1,x1,crS1 s⟩
  else
   let s2:=crS2 (crS1 s)
   let f2:=(dS s2).commaF s2.S
   if f2≠0 then⟨f2,x1,crS3 17 s2⟩
   else⟨(dS (crS3 17 s2)).commaF (crS3 17 s2).S,x1,crS3 0 (crS3 17 s2)⟩
theorem crS1_ok(hp:Dcs c src s):Dcs c src (crS1 s):=by
 have hp1:Dcs c src (s.readTo (exN s.ext)):=⟨hp.h,hp.l,hp.at8⟩
 exact(hp1.onGrew (grew_create hp.at8.img hp.at8.ok _)).1
theorem crS2_ok(hp:Dcs c src s):Dcs c src (crS2 s):=(hp.onGrew (grew_show hp.at8.img hp.at8.ok)).1
theorem crS3_ok(hp:Dcs c src s)(v:Int):Dcs c src (crS3 v s):=(hp.onGrew (grew_comma hp.at8.img hp.at8.ok v)).1
theorem v_create_near(hb: (VA c g x src s).holds w F)(hx:x.Ok)(hp:Dcs c src s)(hr:Srcd c src s gs L)(hnear: ¬x.left<exC s.ext):
 Calls prog 108 #[g] w (Got (tryE (createQ x s).f) (VA c g (createQ x s).x src (createQ x s).s) F w):=by
 have hon:=On.refl hb
 have r0:=hon.r0
 have r8:=hon.r8
 have r2:=hon.r2
 rw[hr.at_]at r8
 have e1:c.rest s.ext=SrcA gs s.ext.text s.ext.at_::L:=hr.rest s.ext.at_
 have hsb:Blk w gs 160 #[.string s.ext.text,(s.ext.at_:Int),((lfs (s.ext.text.data.toList.take s.ext.at_):Nat):Int)]:=hon.blkAt 9 (by show(c.rest s.ext)[0]? = _;rw[e1];rfl)
 have s0:=hsb.cell 0
 have s1:=hsb.cell 1
 have s2:=hsb.cell 2
 simp only[List.getElem?_toArray,List.getElem?_cons_zero,List.getElem?_cons_succ]at s0 s1 s2
 have hlt:=hon.rlt
 have hlt2:=hsb.lt
 have hbo:=ex_bounds hr.sz hr.le
 have hsz:=hr.sz
 have hle:=hr.le
 have hl1:=hx.left
 have hl2:=hx.left2
 have hbx:=hon.box #[.string s.ext.text,(s.ext.at_:Int),((lfs (s.ext.text.data.toList.take s.ext.at_):Nat):Int)] 160
 obtain⟨q,hq⟩: ∃q,createQ x s=q:=⟨_,rfl⟩
 rw[hq]
 unfold createQ at hq
 rw[if_neg hnear]at hq
 simp only at hq
 have hp1:Dcs c src (s.readTo (exN s.ext)):=⟨hp.h,hp.l,hp.at8⟩
 have hpc:=crS1_ok hp
 have hps:=crS2_ok hpc
 have hpd:=crS3_ok hps 17
 have k1: ∀(x1:Rn) W,On F w (AllA ((BlkA w.heap.size 160 #[.string s.ext.text,(s.ext.at_:Int),((lfs (s.ext.text.data.toList.take s.ext.at_):Nat):Int)])::vL c g x1 src (s.readTo (exN s.ext)))) W->Calls prog 74 #[c.gS,.string (exW s.ext)] W (Got (.returned (.tuple #[((dS s).createV s.S (exW s.ext).data.toList),((dS s).createF s.S (exW s.ext).data.toList)])) (AllA ((BlkA w.heap.size 160 #[.string s.ext.text,(s.ext.at_:Int),((lfs (s.ext.text.data.toList.take s.ext.at_):Nat):Int)])::vL c g x1 src (crS1 s))) F w):=λx1 W h=>hp1.call h λF' ha=>d_create ha hp.at8 (exW s.ext) (by have:=hbo.2.2;omega)
 have k2: ∀(x1:Rn) W,On F w (AllA ((BlkA w.heap.size 160 #[.string s.ext.text,(s.ext.at_:Int),((lfs (s.ext.text.data.toList.take s.ext.at_):Nat):Int)])::vL c g x1 src (crS1 s))) W->Calls prog 76 #[c.gS] W (Got (.returned (.tuple #[])) (AllA ((BlkA w.heap.size 160 #[.string s.ext.text,(s.ext.at_:Int),((lfs (s.ext.text.data.toList.take s.ext.at_):Nat):Int)])::vL c g x1 src (crS2 (crS1 s)))) F w):=λx1 W h=>hpc.call h λF' ha=>d_show ha hpc.at8
 have k3: ∀(x1:Rn) W,On F w (AllA ((BlkA w.heap.size 160 #[.string s.ext.text,(s.ext.at_:Int),((lfs (s.ext.text.data.toList.take s.ext.at_):Nat):Int)])::vL c g x1 src (crS2 (crS1 s)))) W->Calls prog 79 #[c.gS,(17:Int)] W (Got (.returned ((dS (crS2 (crS1 s))).commaF (crS2 (crS1 s)).S)) (AllA ((BlkA w.heap.size 160 #[.string s.ext.text,(s.ext.at_:Int),((lfs (s.ext.text.data.toList.take s.ext.at_):Nat):Int)])::vL c g x1 src (crS3 17 (crS2 (crS1 s))))) F w):=λx1 W h=>hps.call h λF' ha=>d_comma ha hps.at8 17 (by unfold V64;omega)
 have k4: ∀(x1:Rn) W,On F w (AllA ((BlkA w.heap.size 160 #[.string s.ext.text,(s.ext.at_:Int),((lfs (s.ext.text.data.toList.take s.ext.at_):Nat):Int)])::vL c g x1 src (crS3 17 (crS2 (crS1 s))))) W->Calls prog 79 #[c.gS,(0:Int)] W (Got (.returned ((dS (crS3 17 (crS2 (crS1 s)))).commaF (crS3 17 (crS2 (crS1 s))).S)) (AllA ((BlkA w.heap.size 160 #[.string s.ext.text,(s.ext.at_:Int),((lfs (s.ext.text.data.toList.take s.ext.at_):Nat):Int)])::vL c g x1 src (crS3 0 (crS3 17 (crS2 (crS1 s)))))) F w):=λx1 W h=>hpd.call h λF' ha=>d_comma ha hpd.at8 0 (by unfold V64;omega)
 generalize hf1: (dS s).createF s.S (exW s.ext).data.toList=f1 at *
 generalize hf2: (dS (crS2 (crS1 s))).commaF (crS2 (crS1 s)).S=f2 at *
 generalize hf3: (dS (crS3 17 (crS2 (crS1 s)))).commaF (crS3 17 (crS2 (crS1 s))).S=f3 at *
 clear hf1 hf2 hf3
 have hwd: ∀W,On F w (AllA (BlkA w.heap.size 160 #[.string s.ext.text,(s.ext.at_:Int),((lfs (s.ext.text.data.toList.take s.ext.at_):Nat):Int)]::vL c g x src s)) W->_:=λW h=>hr.word h
 have hfx:=λs1 (x1:Rn) W (h:On F w (AllA (BlkA w.heap.size 160 #[.string s.ext.text,(s.ext.at_:Int),((lfs (s.ext.text.data.toList.take s.ext.at_):Nat):Int)]::vL c g x1 src s1)) W)=>(⟨h.tail.r0,h.tail.m1⟩:W.cell? (g,0)=some (c.gM:Vl)∧W.cell? (c.gM,1)=some (c.gS:Vl))
 have hng:g≠c.gM:=hon.neAt 0 1 (by decide) rfl rfl
 have hsl: ∀(N:Nat) W (n:Int),On F w (AllA ((BlkA w.heap.size 160 #[.string s.ext.text,(s.ext.at_:Int),((lfs (s.ext.text.data.toList.take s.ext.at_):Nat):Int)])::vL c g x src (s.readTo N))) W->On F w (AllA ((BlkA w.heap.size 160 #[.string s.ext.text,(s.ext.at_:Int),((lfs (s.ext.text.data.toList.take s.ext.at_):Nat):Int)])::vL c g { x with left:=n } src (s.readTo N))) (W.setCell (g,2) (.int .i64 n)):=λN W n h=>h.setAt 1 rfl 2 (.int .i64 n)
 generalize hBx: (#[.string s.ext.text,(s.ext.at_:Int),((lfs (s.ext.text.data.toList.take s.ext.at_):Nat):Int)]:Array Value)=bx at *
 replace hbx:=Lib.hid hbx
 replace hwd:=Lib.hid hwd
 replace k1:=Lib.hid k1
 replace k2:=Lib.hid k2
 replace k3:=Lib.hid k3
 replace k4:=Lib.hid k4
 replace hfx:=Lib.hid hfx
 replace hsl:=Lib.hid hsl
 have hC:=Lib.hid (show exC s.ext= (exN s.ext:Int) -s.ext.at_+ (if exW s.ext= ⟨#[]⟩then 0 else 1)from rfl)
 clear hb hp hp1 hpc hps hpd hsb hr e1 hx
 by_cases hw:exW s.ext= ⟨#[]⟩
 ·have hc:exC s.ext= (exN s.ext:Int) -s.ext.at_:=by rw[hC.out,if_pos hw];omega
  rw[hc]at hnear
  have ht:decide (x.left< (exN s.ext:Int) -s.ext.at_)=false:=decide_eq_false hnear
  subst hBx
  go_enter func108,ntmps108
  go_wp2_with fail
  refine(must_ok _ _).mono ?_
  rintro e w1 ⟨rfl,rfl⟩
  simp only[]
  go_wp2_with fail
  refine mo (hwd.out _ hbx.out) λw2 h2=>?_
  simp only[]
  have q0:=h2.tail.r0
  have q1:=h2.tail.m1
  have q2:=h2.tail.r2
  have q8:=h2.tail.r8
  have f2':=h2.tail.rf 2
  have hlt3:=h2.tail.rlt
  have hlt4:=h2.tail.mlt
  replace h2:=Lib.hid h2
  have hne: (exW s.ext).toList.isEmpty=true:=by rw[hw,Lib.toList_data];rfl
  clear hw
  go_wp2_with fail
  have h3:=hsl.out _ w2 (x.left- ((exN s.ext:Int) -s.ext.at_)) h2.out
  rw[<-hc]at h3⊢
  have hk:=k1.out { x with left:=x.left-exC s.ext } (w2.setCell (g,2) (.int .i64 (x.left-exC s.ext))) h3
  refine mo hk λw3 h4=>?_
  simp only[]
  have⟨g0,g1⟩:=hfx.out _ _ w3 h4
  replace h4:=Lib.hid h4
  clear h3
  go_wp2_with fail
  by_cases n1:f1=0
  ·rw[n1]
   rw[if_neg (by simp[n1])]at hq
   refine(try_ok _).mono ?_
   rintro e w4 ⟨rfl,rfl⟩
   simp only[]
   go_wp2_with fail
   refine mo (k2.out _ _ h4.out) λw5 h5=>?_
   simp only[]
   have⟨g2,g3⟩:=hfx.out _ _ w5 h5
   replace h5:=Lib.hid h5
   go_wp2_with fail
   refine mo (k3.out _ _ h5.out) λw6 h6=>?_
   simp only[]
   have⟨g4,g5⟩:=hfx.out _ _ w6 h6
   replace h6:=Lib.hid h6
   go_wp2_with fail
   by_cases n2:f2=0
   ·rw[n2]
    rw[if_neg (by simp[n2])]at hq
    refine(try_ok _).mono ?_
    rintro e w7 ⟨rfl,rfl⟩
    simp only[]
    go_wp2_with fail
    refine mo (k4.out _ _ h6.out) λw8 h8=>?_
    simp only[]
    replace h8:=Lib.hid h8
    go_wp2_with fail
    subst hq
    by_cases n3:f3=0
    ·rw[n3]
     refine(try_ok _).mono ?_
     rintro e w9 ⟨rfl,rfl⟩
     simp only[]
     go_wp2
     go_end0
     have h9:=h8.out.tail
     rw[hc]at h9
     exact⟨rfl,h9⟩
    ·refine(try_no _ n3 _).mono ?_
     rintro e w9 ⟨rfl,rfl⟩
     exact⟨rfl,by unfold tryE;rw[if_neg n3],h8.out.tail⟩
   ·rw[if_pos n2]at hq
    subst hq
    refine(try_no _ n2 _).mono ?_
    rintro e w9 ⟨rfl,rfl⟩
    exact⟨rfl,by unfold tryE;rw[if_neg n2],h6.out.tail⟩
  ·rw[if_pos n1]at hq
   subst hq
   refine(try_no _ n1 _).mono ?_
   rintro e w9 ⟨rfl,rfl⟩
   exact⟨rfl,by unfold tryE;rw[if_neg n1],h4.out.tail⟩
 ·have hc:exC s.ext= (exN s.ext:Int) -s.ext.at_+1:=by rw[hC.out,if_neg hw]
  rw[hc]at hnear
  have ht:decide (x.left< (exN s.ext:Int) -s.ext.at_+1)=false:=decide_eq_false hnear
  have hne: (exW s.ext).toList.isEmpty=false:=ne_list hw
  subst hBx
  go_enter func108,ntmps108
  go_wp2_with fail
  refine(must_ok _ _).mono ?_
  rintro e w1 ⟨rfl,rfl⟩
  simp only[]
  go_wp2_with fail
  refine mo (hwd.out _ hbx.out) λw2 h2=>?_
  simp only[]
  have q0:=h2.tail.r0
  have q1:=h2.tail.m1
  have q2:=h2.tail.r2
  have q8:=h2.tail.r8
  have f2':=h2.tail.rf 2
  have hlt3:=h2.tail.rlt
  have hlt4:=h2.tail.mlt
  replace h2:=Lib.hid h2
  go_wp2_with fail
  have h3:=hsl.out _ w2 (x.left- ((exN s.ext:Int) -s.ext.at_+1)) h2.out
  rw[<-hc]at h3⊢
  have hk:=k1.out { x with left:=x.left-exC s.ext } (w2.setCell (g,2) (.int .i64 (x.left-exC s.ext))) h3
  refine mo hk λw3 h4=>?_
  simp only[]
  have⟨g0,g1⟩:=hfx.out _ _ w3 h4
  replace h4:=Lib.hid h4
  clear h3
  go_wp2_with fail
  by_cases n1:f1=0
  ·rw[n1]
   rw[if_neg (by simp[n1])]at hq
   refine(try_ok _).mono ?_
   rintro e w4 ⟨rfl,rfl⟩
   simp only[]
   go_wp2_with fail
   refine mo (k2.out _ _ h4.out) λw5 h5=>?_
   simp only[]
   have⟨g2,g3⟩:=hfx.out _ _ w5 h5
   replace h5:=Lib.hid h5
   go_wp2_with fail
   refine mo (k3.out _ _ h5.out) λw6 h6=>?_
   simp only[]
   have⟨g4,g5⟩:=hfx.out _ _ w6 h6
   replace h6:=Lib.hid h6
   go_wp2_with fail
   by_cases n2:f2=0
   ·rw[n2]
    rw[if_neg (by simp[n2])]at hq
    refine(try_ok _).mono ?_
    rintro e w7 ⟨rfl,rfl⟩
    simp only[]
    go_wp2_with fail
    refine mo (k4.out _ _ h6.out) λw8 h8=>?_
    simp only[]
    replace h8:=Lib.hid h8
    go_wp2_with fail
    subst hq
    by_cases n3:f3=0
    ·rw[n3]
     refine(try_ok _).mono ?_
     rintro e w9 ⟨rfl,rfl⟩
     simp only[]
     go_wp2
     go_end0
     have h9:=h8.out.tail
     rw[hc]at h9
     exact⟨rfl,h9⟩
    ·refine(try_no _ n3 _).mono ?_
     rintro e w9 ⟨rfl,rfl⟩
     exact⟨rfl,by unfold tryE;rw[if_neg n3],h8.out.tail⟩
   ·rw[if_pos n2]at hq
    subst hq
    refine(try_no _ n2 _).mono ?_
    rintro e w9 ⟨rfl,rfl⟩
    exact⟨rfl,by unfold tryE;rw[if_neg n2],h6.out.tail⟩
  ·rw[if_pos n1]at hq
   subst hq
   refine(try_no _ n1 _).mono ?_
   rintro e w9 ⟨rfl,rfl⟩
   exact⟨rfl,by unfold tryE;rw[if_neg n1],h4.out.tail⟩
end
structure Lay0(S:Img):Prop where
 k:S.k=16384
 s:S.s=64
 u:S.u=512
 d:S.d=128
 r:S.r=64
theorem Lay0.begs{S:Img}(h:Lay0 S):S.beg 2=16384∧S.beg 3=16448∧S.beg 4=16960∧S.beg 5=17088∧S.beg 6=17152:=by
 simp[Img.beg,h.k,h.s,h.u,h.d,h.r]
theorem Lay0.alike{S T:Img}(h:Lay0 S)(ha:Alike S T):Lay0 T:=⟨ha.k.trans h.k,ha.s.trans h.s,ha.u.trans h.u,ha.d.trans h.d,ha.r.trans h.r⟩
theorem lay0_img:Lay0 img0:=⟨rfl,rfl,rfl,rfl,rfl⟩
theorem sysF{S:Img}(hL:Lay0 S)(x:Nat)(h1:16960<=x)(h2:x+8<=17152)(h8:x % 8=0)(w:Bool):S.cellF 0 (x:Int) w=0:=by
 obtain⟨b2,b3,b4,b5,b6⟩:=hL.begs
 have hr: ∃j,(j=4∨j=5)∧S.region (x:Int)=j∧x+8<=S.beg (j+1):=by
  by_cases h:x<17088
  ·exact⟨4,.inl rfl,S.region_eq oM oM oM oM (by show(x:Int) <S.beg 5;omega),by show x+8<=S.beg 5;omega⟩
  ·exact⟨5,.inr rfl,S.region_eq oM oM oM oM (by show(x:Int) <S.beg 6;omega),by show x+8<=S.beg 6;omega⟩
 obtain⟨j,hj,hr,hle⟩:=hr
 have hrow:S.rowOk 0 (x:Int) 8 w=true:=by
  unfold Img.rowOk Img.lets Img.may
  rw[hr]
  have h4:decide (((8:Nat):Int)<=(S.beg (j+1):Int) - (x:Int))=true:=decide_eq_true oM
  rw[h4]
  rcases hj with rfl|rfl<;>cases w<;>simp
 unfold Img.cellF
 rw[if_neg oM,if_pos hrow]
def InStk(fr i:Nat):Prop:=(fr=16960∧i<16)∨(fr=17088∧i<8)
theorem sset_put{S:Img}(hL:Lay0 S){fr i:Nat}(h:InStk fr i)(v:Int):sset S fr i v=S.put (fr+8*i) (toB v):=by
 unfold InStk at h
 unfold sset Img.setCell
 rw[show(fr:Int) +8* (i:Int)= ((fr+8*i:Nat):Int)by omega,if_pos (sysF hL _ oM oM oM true),Int.toNat_natCast]
theorem sget_same{S:Img}(hS:S.Ok)(hL:Lay0 S){fr i:Nat}(h:InStk fr i)(v:Int)(hv:V64 v):sget (S.put (fr+8*i) (toB v)) fr i=v:=by
 obtain⟨b2,b3,b4,b5,b6⟩:=hL.begs
 unfold InStk at h
 unfold sget
 have hc:=sysF hL (fr+8*i) oM oM oM false
 rw[show(fr:Int) +8* (i:Int)= ((fr+8*i+0:Nat):Int)by omega,cellV_put_in S hS 0 (fr+8*i) 0 (toB v) (by rw[toB_len];omega) (by rw[toB_len];omega) hc]
 rw[List.drop_zero,List.take_of_length_le (by rw[toB_len];omega)]
 exact ofB_toB v hv
theorem sget_far{S:Img}(hS:S.Ok)(hL:Lay0 S){fr i fr' i':Nat}(h:InStk fr i)(h':InStk fr' i')(hne:fr+8*i≠fr'+8*i')(v:Int):sget (S.put (fr+8*i) (toB v)) fr' i'=sget S fr' i':=by
 obtain⟨b2,b3,b4,b5,b6⟩:=hL.begs
 unfold InStk at h h'
 unfold sget
 exact cellV_put_far S hS 0 _ (fr+8*i) (toB v) (by rw[toB_len];omega) (by rw[toB_len];omega)
theorem spush_ok: ∀(l:List Int) (S:Img) (fr d:Nat),S.Ok->Lay0 S->(fr=16960∧d+l.length<=16∨fr=17088∧d+l.length<=8)->(spush S fr d l).Ok
 | [],S,fr,d,hS,_,_=>hS
 | v::l,S,fr,d,hS,hL,h=>by
   rw[List.length_cons]at h
   have hi:InStk fr d:=by
    rcases h with⟨h1,h2⟩ | ⟨h1,h2⟩
    ·exact .inl ⟨h1,by omega⟩
    ·exact .inr ⟨h1,by omega⟩
   obtain⟨b2,b3,b4,b5,b6⟩:=hL.begs
   have e:=sset_put hL hi v
   have hok: (S.put (fr+8*d) (toB v)).Ok:=put_ok hS _ _ (by rw[toB_len];omega)
   show(spush (sset S fr d v) fr (d+1) l).Ok
   rw[e]
   exact spush_ok l (S.put (fr+8*d) (toB v)) fr (d+1) hok (hL.alike (Alike.put _ _ _)) oM
structure Rep(s:Mt)(a:Nat)(cs ds rs:List Int):Prop where
 img:s.S.Ok
 lay:Lay0 s.S
 pd:s.pd= ⟨16960,16,1,2⟩
 pr:s.pr= ⟨17088,8,3,4⟩
 code:CodeAt s.S a cs
 d:s.d=ds.length
 r:s.r=rs.length
 dle:ds.length<=16
 rle:rs.length<=8
 dv: ∀i v,ds[i]? = some v->sget s.S 16960 i=v
 rv: ∀i v,rs[i]? = some v->sget s.S 17088 i=v
section
variable {s:Mt}{a:Nat}{cs ds rs:List Int}
theorem Rep.ok(h:Rep s a cs ds rs):s.Ok:=by
 refine⟨?_,?_,?_,?_,?_,?_,?_,?_⟩
 ·rw[h.pd];exact⟨by decide,by decide⟩
 ·rw[h.pr];exact⟨by decide,by decide⟩
 ·rw[h.pd,h.d];exact h.dle
 ·rw[h.pr,h.r];exact h.rle
 ·rw[h.pd]
 ·rw[h.pd]
 ·rw[h.pr]
 ·rw[h.pr]
theorem Rep.top(h:Rep s a cs ds rs)(n:Nat)(v:Int)(hn:n<ds.length)(hv:ds[ds.length-1-n]? = some v):s.top (n:Int)=v:=by
 unfold Mt.top stopv
 rw[h.d,h.pd,if_pos ⟨by omega,by omega⟩,Int.toNat_natCast]
 exact h.dv _ _ hv
theorem Rep.rtop(h:Rep s a cs ds rs)(n:Nat)(v:Int)(hn:n<rs.length)(hv:rs[rs.length-1-n]? = some v):s.rtop (n:Int)=v:=by
 unfold Mt.rtop stopv
 rw[h.r,h.pr,if_pos ⟨by omega,by omega⟩,Int.toNat_natCast]
 exact h.rv _ _ hv
theorem Rep.arv(h:Rep s a cs ds rs)(n j:Nat)(v:Int)(hj:j<n)(hn:n<=ds.length)(hv:ds[ds.length-n+j]? = some v):ar s n j=v:=by
 have e:ar s n j=s.top ((n-1-j:Nat):Int):=by simp[Vm.ar,Mt.args,hj]
 rw[e]
 exact h.top _ _ oM (by rw[<-hv];congr 1;omega)
theorem stk_code{S:Img}(hS:S.Ok)(hL:Lay0 S){fr i:Nat}(h:InStk fr i)(v:Int)(hc:CodeAt S a cs):CodeAt (S.put (fr+8*i) (toB v)) a cs:=by
 obtain⟨b2,b3,b4,b5,b6⟩:=hL.begs
 have h1:=hc.hi
 unfold InStk at h
 exact hc.put hS _ _ (by rw[toB_len];omega) (by rw[toB_len];omega)
theorem get_snoc{l:List Int}{v u:Int}{i:Nat}(h: (l ++ [v])[i]? = some u): (i=l.length∧u=v)∨(i<l.length∧l[i]? = some u):=by
 rw[List.getElem?_append]at h
 split at h
 ·exact .inr ⟨by assumption,h⟩
 ·left
  rcases hk:i-l.length with _|k
  ·rw[hk]at h
   simp at h
   exact⟨by omega,h.symm⟩
  ·rw[hk]at h
   simp at h
theorem Rep.pushD1(h:Rep s a cs ds rs)(v:Int)(hv:V64 v)(hr:ds.length<16):Rep (s.pushD [v]) a cs (ds ++ [v]) rs:=by
 have hi:InStk 16960 ds.length:= .inl ⟨rfl,hr⟩
 have hlen:=h.img.len
 obtain⟨b2,b3,b4,b5,b6⟩:=h.lay.begs
 have e: (s.pushD [v]).S=s.S.put (16960+8*ds.length) (toB v):=by
  show sset s.S s.pd.fr s.d v=_
  rw[h.pd,h.d]
  exact sset_put h.lay hi v
 refine⟨?_,?_,h.pd,h.pr,?_,?_,h.r,by simp;omega,h.rle,?_,?_⟩
 ·rw[e];exact put_ok h.img _ _ (by rw[toB_len];omega)
 ·rw[e];exact h.lay.alike (Alike.put _ _ _)
 ·rw[e];exact stk_code h.img h.lay hi v h.code
 ·show s.d+1=_
  rw[h.d];simp
 ·intro i u hu
  rw[e]
  rcases get_snoc hu with⟨rfl,rfl⟩ | ⟨hlt,hu⟩
  ·exact sget_same h.img h.lay hi _ hv
  ·rw[sget_far h.img h.lay hi (.inl ⟨rfl,by omega⟩) oM v]
   exact h.dv i u hu
 ·intro i u hu
  have hlt:i<rs.length:=(List.getElem?_eq_some_iff.1 hu).1
  have:=h.rle
  rw[e,sget_far h.img h.lay hi (.inr ⟨rfl,by omega⟩) oM v]
  exact h.rv i u hu
theorem Rep.pushR1(h:Rep s a cs ds rs)(v:Int)(hv:V64 v)(hr:rs.length<8):Rep (s.pushR [v]) a cs ds (rs ++ [v]):=by
 have hi:InStk 17088 rs.length:= .inr ⟨rfl,hr⟩
 obtain⟨b2,b3,b4,b5,b6⟩:=h.lay.begs
 have e: (s.pushR [v]).S=s.S.put (17088+8*rs.length) (toB v):=by
  show sset s.S s.pr.fr s.r v=_
  rw[h.pr,h.r]
  exact sset_put h.lay hi v
 refine⟨?_,?_,h.pd,h.pr,?_,h.d,?_,h.dle,by simp;omega,?_,?_⟩
 ·rw[e];exact put_ok h.img _ _ (by rw[toB_len];omega)
 ·rw[e];exact h.lay.alike (Alike.put _ _ _)
 ·rw[e];exact stk_code h.img h.lay hi v h.code
 ·show s.r+1=_
  rw[h.r];simp
 ·intro i u hu
  have hlt:i<ds.length:=(List.getElem?_eq_some_iff.1 hu).1
  have:=h.dle
  rw[e,sget_far h.img h.lay hi (.inl ⟨rfl,by omega⟩) oM v]
  exact h.dv i u hu
 ·intro i u hu
  rw[e]
  rcases get_snoc hu with⟨rfl,rfl⟩ | ⟨hlt,hu⟩
  ·exact sget_same h.img h.lay hi _ hv
  ·rw[sget_far h.img h.lay hi (.inr ⟨rfl,by omega⟩) oM v]
   exact h.rv i u hu
theorem pushD_cons(s:Mt)(v:Int)(l:List Int):s.pushD (v::l)= (s.pushD [v]).pushD l:=by
 unfold Mt.pushD
 congr 1
 show s.d+ (l.length+1)=s.d+1+l.length
 omega
theorem pushR_cons(s:Mt)(v:Int)(l:List Int):s.pushR (v::l)= (s.pushR [v]).pushR l:=by
 unfold Mt.pushR
 congr 1
 show s.r+ (l.length+1)=s.r+1+l.length
 omega
end
theorem Rep.pushD{a:Nat}{cs rs:List Int}: ∀{l ds:List Int} {s:Mt},Rep s a cs ds rs->(∀v∈l,V64 v)->ds.length+l.length<=16->Rep (s.pushD l) a cs (ds++l) rs
 | [],ds,s,h,_,_=>by rw[List.append_nil];exact h
 | v::l,ds,s,h,hv,hl=>by
   rw[List.length_cons]at hl
   have h1:=h.pushD1 v (hv v (by simp)) oM
   have h2:=Rep.pushD (l:=l) h1 (λu hu=>hv u (by simp[hu])) (by rw[List.length_append,List.length_singleton];omega)
   rw[List.append_assoc]at h2
   rw[pushD_cons]
   exact h2
theorem Rep.pushR{a:Nat}{cs ds:List Int}: ∀{l rs:List Int} {s:Mt},Rep s a cs ds rs->(∀v∈l,V64 v)->rs.length+l.length<=8->Rep (s.pushR l) a cs ds (rs++l)
 | [],rs,s,h,_,_=>by rw[List.append_nil];exact h
 | v::l,rs,s,h,hv,hl=>by
   rw[List.length_cons]at hl
   have h1:=h.pushR1 v (hv v (by simp)) oM
   have h2:=Rep.pushR (l:=l) h1 (λu hu=>hv u (by simp[hu])) (by rw[List.length_append,List.length_singleton];omega)
   rw[List.append_assoc]at h2
   rw[pushR_cons]
   exact h2
section
variable {s:Mt}{a:Nat}{cs ds rs:List Int}
theorem Rep.cutD(h:Rep s a cs ds rs)(n:Nat)(hn:n<=ds.length):Rep (s.cutD n) a cs (ds.take n) rs:=
 ⟨h.img,h.lay,h.pd,h.pr,h.code,by show n=_;rw[List.length_take];omega,h.r,by rw[List.length_take];have:=h.dle;omega,h.rle,λi v hv=>h.dv i v (by
  rw[List.getElem?_take]at hv
  split at hv
  ·exact hv
  ·cases hv),h.rv⟩
theorem Rep.cutR(h:Rep s a cs ds rs)(n:Nat)(hn:n<=rs.length):Rep (s.cutR n) a cs ds (rs.take n):=
 ⟨h.img,h.lay,h.pd,h.pr,h.code,h.d,by show n=_;rw[List.length_take];omega,h.dle,by rw[List.length_take];have:=h.rle;omega,h.dv,λi v hv=>h.rv i v (by
  rw[List.getElem?_take]at hv
  split at hv
  ·exact hv
  ·cases hv)⟩
theorem Rep.lays(h:Rep s a cs ds rs)(n:Nat)(hn:n<=ds.length)(l:List Int)(hl: ∀v∈l,V64 v)(hr:ds.length-n+l.length<=16): (s.lays n l).1=0∧Rep (s.lays n l).2 a cs (ds.take (ds.length-n)++l) rs∧(s.lays n l).2.seen=s.seen:=by
 have h1:=h.d
 have h2:s.pd.rm=16:=by rw[h.pd]
 have hc: ¬s.pd.rm- (s.d-n) <l.length:=by omega
 unfold Mt.lays
 rw[if_neg hc]
 refine⟨rfl,?_,rfl⟩
 rw[h1]
 exact(h.cutD (ds.length-n) oM).pushD hl (by rw[List.length_take];omega)
theorem Rep.told(h:Rep s a cs ds rs)(x:Rn)(op:Int):Rep (s.told x op) a cs ds rs:=by
 unfold Mt.told
 split
 ·exact⟨h.img,h.lay,h.pd,h.pr,h.code,h.d,h.r,h.dle,h.rle,h.dv,h.rv⟩
 ·exact h
theorem told_len(s:Mt)(x:Rn)(op:Int): (s.told x op).seen.length=s.seen.length+ (if s.tells then 1 else 0):=by
 unfold Mt.told
 split<;>simp
theorem Rep.asked(h:Rep s a cs ds rs)(i:Inst)(x:Rn)(hn:needs i.op=0)(h1: (Code.wants i.op).1<=ds.length)(h26:i.op≠26)(h2: (ds.length:Int) - (Code.wants i.op).1+ (Code.wants i.op).2<=16)
 (h3: (returns i.op i.arg s.same).1<=(rs.length:Int) -x.base) (h4: (rs.length:Int) - (returns i.op i.arg s.same).1+ (returns i.op i.arg s.same).2<=8):asks i x s=0:=by
 unfold Vm.asks
 rw[h.d,h.r,h.pd,h.pr,if_neg oM,if_neg oM,if_neg (by
  rw[if_neg (by rintro⟨h,_⟩;exact h26 h)]
  show¬((16:Nat):Int) <_
  omega),if_neg (by show¬((8:Nat):Int) <_;omega),if_neg (by rintro⟨h,_⟩;exact h hn)]
end
def nameX:ByteArray:=⟨#[120]⟩
def headX:List UInt8:=[0,0,0,0,0,0,0,0,1,120]
def HeadX(S:Img):Prop:= ∀i,i<10->S.b.getD (16456+i) 0=headX.getD i 0
theorem HeadX.put{S:Img}(h:HeadX S)(k:Nat)(l:List UInt8)(hk:k+l.length<=S.b.length)(hf:k+l.length<=16456∨16466<=k):HeadX (S.put k l):=by
 intro i hi
 rw[S.put_getD k _ l hk,if_neg oM]
 exact h i hi
def wordX:Wd:=⟨[120],16456,16472,false,false,false⟩
theorem take_getD(b:List UInt8)(k:Nat): ∀(l:List UInt8),k+l.length<=b.length->(∀i,i<l.length->b.getD (k+i) 0=l.getD i 0)->(b.drop k).take l.length=l:=by
 intro l hk h
 apply List.ext_getElem
 ·simp;omega
 ·intro i h1 h2
  have e:=h i h2
  rw[List.getD_eq_getElem?_getD,List.getD_eq_getElem?_getD,List.getElem?_eq_getElem oM,List.getElem?_eq_getElem h2]at e
  simpa using e
theorem headW_x{S:Img}{D:Dc}(hS:S.Ok)(hL:Lay0 S)(h:HeadX S)(hrg:D.rg=3):headW S D 16456=some (wordX,0):=by
 obtain⟨b2,b3,b4,b5,b6⟩:=hL.begs
 have hlen:=hS.len
 have hfr:D.fr S=16456:=by unfold Dc.fr;rw[hrg,b3]
 have hlim:D.lim S=16960:=by unfold Dc.lim;rw[hrg];exact b4
 have h8:S.b.getD (16456+8) 0=1:=h 8 oM
 have e1: (S.b.drop 16456).take 8 = [0,0,0,0,0,0,0,0]:=take_getD S.b 16456 [0,0,0,0,0,0,0,0] (by simp;omega) (λi hi=>by
  have hi:i<8:=hi
  rw[h i oM]
  have:i=0∨i=1∨i=2∨i=3∨i=4∨i=5∨i=6∨i=7:=by omega
  rcases this with rfl|rfl|rfl|rfl|rfl|rfl|rfl|rfl<;>rfl)
 have e2: (S.b.drop 16465).take 1 = [120]:=take_getD S.b 16465 [120] (by simp;omega) (λi hi=>by
  have hi:i<1:=hi
  obtain rfl:i=0:=by omega
  exact h 9 oM)
 unfold headW
 rw[hfr,hlim,if_neg oM]
 have e3: (16456:Int).toNat=16456:=rfl
 simp only[e3,h8]
 rw[if_neg (by decide),show(1:UInt8).toNat % 32=1 from rfl,e2,e1]
 have hz:ofB [0,0,0,0,0,0,0,0]=0:=by decide +kernel
 have hu:up (16456+9+1)=16472:=by decide
 rw[hz,hu]
 rfl
theorem words_x{S:Img}{D:Dc}(hS:S.Ok)(hL:Lay0 S)(h:HeadX S)(hrg:D.rg=3)(hl:D.l=16456):words S D = [wordX]:=by
 unfold words
 rw[hl]
 unfold wordsF
 rw[show((16456:Nat):Int)=16456 from rfl,headW_x hS hL h hrg]
 simp only
 rw[if_neg oM]
 obtain⟨b2,b3,b4,b5,b6⟩:=hL.begs
 have hfr:D.fr S=16456:=by unfold Dc.fr;rw[hrg,b3]
 unfold wordsF
 have:headW S D 0=none:=by
  unfold headW
  rw[if_pos (.inr (.inl (by rw[hfr];omega)))]
 rw[this]
theorem find_x{S:Img}{D:Dc}(hS:S.Ok)(hL:Lay0 S)(h:HeadX S)(hrg:D.rg=3)(hl:D.l=16456):findW S D nameX.data.toList=some wordX:=by
 unfold findW
 rw[words_x hS hL h hrg hl]
 rfl
def setupX(cs:List Int)(data:List Int)(base:Int):Setup:=⟨0,0,⟨#[]⟩,⟨#[]⟩,false,[],[⟨nameX,false,false,cs⟩],base,data,[],0,0,0⟩
def headB0:List UInt8:=[0,0,0,0,0,0,0,0,33,120,0,0,0,0,0,0]
theorem stu_create:stu0.createF img0 [120]=0:=by decide
theorem stu_head:stu0.headB [120]=headB0:=by decide
theorem lay_put{S:Img}(h:Lay0 S)(k:Nat)(l:List UInt8):Lay0 (S.put k l):=h.alike (Alike.put S k l)
def iHead:Img:=(img0.put 16456 headB0).put 16464 [1]
theorem iHead_ok:iHead.Ok:=put_ok (put_ok img0_ok _ _ (by decide)) _ _ (by decide)
theorem iHead_lay:Lay0 iHead:=lay_put (lay_put lay0_img _ _) _ _
theorem img0_len:img0.b.length=17152:=by rw[img0_ok.len];rfl
theorem iHead_x:HeadX iHead:=by
 intro i hi
 have h1: (img0.put 16456 headB0).b.length=17152:=by rw[img0.put_len _ _ (by rw[img0_len];decide),img0_len]
 unfold iHead
 rw[Img.put_getD _ _ _ _ (by rw[h1];decide)]
 by_cases h8:i=8
 ·subst h8
  rw[if_pos (by simp)]
  rfl
 ·rw[if_neg (by simp;omega),Img.put_getD _ _ _ _ (by rw[img0_len];decide),if_pos (by
   have:headB0.length=16:=rfl
   omega),show 16456+i-16456=i by omega]
  have:i=0∨i=1∨i=2∨i=3∨i=4∨i=5∨i=6∨i=7∨i=9:=by omega
  rcases this with rfl|rfl|rfl|rfl|rfl|rfl|rfl|rfl|rfl<;>rfl
def dHead:Dc:=⟨3,16472,16456⟩
theorem laid_x(cs:List Int)(hc:16472+8*cs.length<=16960):laidS ⟨nameX,false,false,cs⟩ (img0,stu0)= (iHead.put 16472 (cellsB cs),⟨3,16472+8*cs.length,16456⟩):=by
 have e1:stu0.createS img0 [120]=img0.put 16456 headB0:=by
  unfold Dc.createS
  rw[if_pos stu_create,stu_head]
  rfl
 have e2:stu0.createD img0 [120]=dHead:=by
  unfold Dc.createD
  rw[if_pos stu_create]
  rfl
 have e3:markS ⟨nameX,false,false,cs⟩ (img0.put 16456 headB0) dHead=iHead:=by
  unfold markS
  simp only[Bool.false_eq_true,if_false]
  unfold Dc.turnS
  rw[if_neg (by decide)]
  have h0: (img0.put 16456 headB0).b.getD 16464 0=33:=by
   rw[Img.put_getD _ _ _ _ (by rw[img0_len];decide),if_pos (by decide)]
   rfl
  show(img0.put 16456 headB0).put 16464 [showT ((img0.put 16456 headB0).b.getD 16464 0)]=_
  rw[h0]
  rfl
 unfold laidS
 rw[show nameX.data.toList = [120]from rfl,stu_create,if_neg (by decide),e1,e2,e3]
 have hD:dHead.Ok iHead:=by
  refine Dc.Ok.alike (S:=img0) ⟨.inr rfl,by decide,by decide,.inr (by decide),by decide,by decide⟩ ((Alike.put _ _ _).trans (Alike.put _ _ _))
 have hlm:dHead.lim iHead=16960:=by decide
 have hhh:dHead.h=16472:=rfl
 have:=commas_put cs iHead dHead iHead_ok hD (by decide) (by rw[hlm,hhh];omega) (by decide)
 exact this
section
variable (cs data:List Int)(base:Int)
theorem setupX_hid: (setupX cs data base).hid= ⟨#[]⟩:=by unfold Setup.hid;split<;>rfl
theorem setupX_t1(hc:16472+8*cs.length<=16960): (setupX cs data base).t1= (iHead.put 16472 (cellsB cs),⟨3,16472+8*cs.length,16456⟩):=laid_x cs hc
theorem CodeAt.seal{S:Img}{a:Nat}{cs:List Int}(h:CodeAt S a cs):CodeAt S.sealed a cs:=⟨h.al,h.lo,h.hi,h.at_⟩
theorem Img.Ok.seal{S:Img}(h:S.Ok):S.sealed.Ok:=⟨h.len,h.small⟩
theorem Lay0.seal{S:Img}(h:Lay0 S):Lay0 S.sealed:=⟨h.k,h.s,h.u,h.d,h.r⟩
theorem HeadX.seal{S:Img}(h:HeadX S):HeadX S.sealed:=h
structure MadeX(S:Img)(cs:List Int):Prop where
 ok:S.Ok
 lay:Lay0 S
 head:HeadX S
 code:CodeAt S 16472 cs
theorem setupX_i3(hc:16472+8*cs.length<=16960)(hv: ∀v∈cs,V64 v):MadeX (setupX cs data base).i3 cs:=by
 have e: (setupX cs data base).i3= (((iHead.put 16472 (cellsB cs)).put 16384 (List.replicate 64 0)).sealed):=by
  have eo: (setupX cs data base).opened=false:=rfl
  have hz:Setup.load (iHead.put 16472 (cellsB cs)) (⟨#[]⟩:ByteArray).data.toList= (iHead.put 16472 (cellsB cs)).put 16384 (List.replicate 64 0):=by
   unfold Setup.load
   rw[show(iHead.put 16472 (cellsB cs)).beg 2=16384 from rfl,show(iHead.put 16472 (cellsB cs)).s=64 from rfl]
   rfl
  unfold Setup.i3 Setup.i2
  rw[setupX_hid,setupX_t1 cs data base hc,eo]
  simp only[Bool.false_eq_true,if_false]
  rw[hz]
 have hl:=cellsB_len cs
 have hle:iHead.b.length=17152:=by rw[iHead_ok.len];rfl
 have h1: (iHead.put 16472 (cellsB cs)).Ok:=put_ok iHead_ok _ _ (by rw[hl];have:iHead.beg 6=17152:=rfl;omega)
 have hle1: (iHead.put 16472 (cellsB cs)).b.length=17152:=by rw[h1.len];rfl
 have h2: ((iHead.put 16472 (cellsB cs)).put 16384 (List.replicate 64 0)).Ok:=put_ok h1 _ _ (by show 16384+ (List.replicate 64 (0:UInt8)).length<=17152;simp)
 have c1:CodeAt (iHead.put 16472 (cellsB cs)) 16472 cs:=codeAt_put iHead iHead_ok 16472 cs hv (by decide) (by decide) (by have:iHead.beg 4=16960:=rfl;omega)
 have c2:=c1.put h1 16384 (List.replicate 64 0) (by show 16384+ (List.replicate 64 (0:UInt8)).length<=17152;simp) (.inl (by simp))
 rw[e]
 refine⟨Img.Ok.seal h2,Lay0.seal (lay_put (lay_put iHead_lay _ _) _ _),HeadX.seal ?_,CodeAt.seal c2⟩
 have g1:HeadX (iHead.put 16472 (cellsB cs)):=iHead_x.put _ _ (by rw[hl,hle];omega) (.inr oM)
 exact g1.put 16384 (List.replicate 64 0) (by rw[hle1];simp) (.inl (by simp))
end
theorem spush_low: ∀(l:List Int) (S:Img) (fr d:Nat),S.Ok->Lay0 S->(fr=16960∧d+l.length<=16∨fr=17088∧d+l.length<=8)->(spush S fr d l).Ok∧∀i,i<16960->(spush S fr d l).b.getD i 0=S.b.getD i 0
 | [],S,fr,d,hS,_,_=>⟨hS,λ_ _=>rfl⟩
 | v::l,S,fr,d,hS,hL,h=>by
   rw[List.length_cons]at h
   have hi:InStk fr d:=by
    rcases h with⟨h1,h2⟩ | ⟨h1,h2⟩
    ·exact .inl ⟨h1,by omega⟩
    ·exact .inr ⟨h1,by omega⟩
   obtain⟨b2,b3,b4,b5,b6⟩:=hL.begs
   have e:=sset_put hL hi v
   have hfr:16960<=fr∧fr+8*d+8<=17152:=by omega
   have hok: (S.put (fr+8*d) (toB v)).Ok:=put_ok hS _ _ (by rw[toB_len];omega)
   have hr:=spush_low l (S.put (fr+8*d) (toB v)) fr (d+1) hok (lay_put hL _ _) oM
   show(spush (sset S fr d v) fr (d+1) l).Ok∧∀i,i<16960->(spush (sset S fr d v) fr (d+1) l).b.getD i 0=S.b.getD i 0
   rw[e]
   refine⟨hr.1,λi hi2=> ?_⟩
   rw[hr.2 i hi2,Img.put_getD _ _ _ _ (by rw[toB_len,hS.len];omega),if_neg oM]
theorem baseF{S:Img}(hL:Lay0 S)(w:Bool):S.cellF 0 16448 w=0:=by
 obtain⟨b2,b3,b4,b5,b6⟩:=hL.begs
 have hr:S.region (16448:Int)=3:=S.region_eq oM oM oM oM (by show(16448:Int) <S.beg 4;omega)
 have hrow:S.rowOk 0 (16448:Int) 8 w=true:=by
  unfold Img.rowOk Img.lets Img.may
  rw[hr]
  have h4:decide (((8:Nat):Int)<=(S.beg (3+1):Int) -16448)=true:=decide_eq_true (by show((8:Nat):Int)<=(S.beg 4:Int) -_;omega)
  rw[h4]
  cases w<;>simp
 unfold Img.cellF
 rw[if_neg oM,if_pos hrow]
theorem base_put{S:Img}(hL:Lay0 S)(v:Int):S.setCell 0 16448 v=S.put 16448 (toB v):=by
 unfold Img.setCell
 rw[if_pos (baseF hL true)]
 rfl
theorem Rep.base{s:Mt}{a:Nat}{cs ds rs:List Int}(h:Rep s a cs ds rs)(ha:16456<=a)(v f u n:Int)(t:Bool):Rep { s with S:=s.S.setCell 0 16448 v,fault:=f,used:=u,hidden:=n,tells:=t } a cs ds rs:=by
 obtain⟨b2,b3,b4,b5,b6⟩:=h.lay.begs
 have e:=base_put h.lay v
 have hd:=h.dle
 have hr:=h.rle
 have far: ∀fr i,InStk fr i->sget (s.S.put 16448 (toB v)) fr i=sget s.S fr i:=λfr i hi=>by
  unfold InStk at hi
  exact cellV_put_far s.S h.img 0 _ 16448 (toB v) (by rw[toB_len];omega) (by rw[toB_len];omega)
 refine⟨?_,?_,h.pd,h.pr,?_,h.d,h.r,h.dle,h.rle,λi u hu=> ?_,λi u hu=> ?_⟩
 ·show(s.S.setCell 0 16448 v).Ok
  rw[e];exact put_ok h.img _ _ (by rw[toB_len];omega)
 ·show Lay0 (s.S.setCell 0 16448 v)
  rw[e];exact lay_put h.lay _ _
 ·show CodeAt (s.S.setCell 0 16448 v) a cs
  rw[e];exact h.code.put h.img _ _ (by rw[toB_len];omega) (.inl (by rw[toB_len];omega))
 ·show sget (s.S.setCell 0 16448 v) 16960 i=u
  have hlt:i<ds.length:=(List.getElem?_eq_some_iff.1 hu).1
  rw[e,far 16960 i (.inl ⟨rfl,by omega⟩)]
  exact h.dv i u hu
 ·show sget (s.S.setCell 0 16448 v) 17088 i=u
  have hlt:i<rs.length:=(List.getElem?_eq_some_iff.1 hu).1
  rw[e,far 17088 i (.inr ⟨rfl,by omega⟩)]
  exact h.rv i u hu
theorem setupX_rep(cs data:List Int)(base:Int)(hc:16472+8*cs.length<=16960)(hv: ∀v∈cs,V64 v)(hdl:data.length<=16)(hdv: ∀v∈data,V64 v):
 Rep (setupX cs data base).mt 16472 cs data []∧HeadX (setupX cs data base).mt.S∧(setupX cs data base).mt.seen = []∧(setupX cs data base).mt.tells=true:=by
 have hM:=setupX_i3 cs data base hc hv
 have h0:Rep (setupX cs data base).m0 16472 cs [] []:=⟨hM.ok,hM.lay,rfl,rfl,hM.code,rfl,rfl,by simp,by simp,λi v h=>by simp at h,λi v h=>by simp at h⟩
 have ht:data.take 16=data:=List.take_of_length_le hdl
 have h1:=h0.pushD (l:=data.take 16) (by rw[ht];exact hdv) (by rw[ht];simpa using hdl)
 rw[List.nil_append,ht]at h1
 have h2:=h1.pushR (l:=[]) (λv h=>by cases h) (by simp)
 have e1: (setupX cs data base).m1= ((setupX cs data base).m0.pushD data).pushR []:=by
  unfold Setup.m1
  show((setupX cs data base).m0.pushD (data.take 16)).pushR []=_
  rw[ht]
 have hS: (setupX cs data base).m1.S=spush (setupX cs data base).i3 16960 0 data:=by rw[e1];rfl
 have hlow:=spush_low data (setupX cs data base).i3 16960 0 hM.ok hM.lay (.inl ⟨rfl,by omega⟩)
 have hh:HeadX (setupX cs data base).m1.S:=λi hi=>by
  rw[hS,hlow.2 _ oM]
  exact hM.head i hi
 rw[List.append_nil,<-e1]at h2
 have h3:=h2.base oM base 0 0 0 true
 refine⟨h3,?_,by show(setupX cs data base).m1.seen = [];rw[e1];rfl,rfl⟩
 show HeadX ((setupX cs data base).m1.S.setCell 0 16448 base)
 rw[base_put h2.lay base]
 exact hh.put _ _ (by rw[toB_len,h2.img.len];have:=h2.lay.begs;omega) (.inl (by rw[toB_len];omega))
theorem headW_at{S:Img}{D:Dc}(hS:S.Ok)(hL:Lay0 S)(hrg:D.rg=3)(a:Nat)(n lk:List UInt8)(c:UInt8)(h8:a % 8=0)(h1:16456<=a)(hn:1<=n.length∧n.length<=31)(hle:up (a+9+n.length)<=16960)(hlk:lk.length=8)(hc:c.toNat=n.length)
 (h: ∀i,i<9+n.length->S.b.getD (a+i) 0= (lk++c::n).getD i 0):headW S D (a:Int)=some (⟨n,a,up (a+9+n.length),false,false,false⟩,ofB lk):=by
 obtain⟨b2,b3,b4,b5,b6⟩:=hL.begs
 have hlen:=hS.len
 have hup:=up_ge (a+9+n.length)
 have hfr:D.fr S=16456:=by unfold Dc.fr;rw[hrg,b3]
 have hlim:D.lim S=16960:=by unfold Dc.lim;rw[hrg];exact b4
 have hb8:S.b.getD (a+8) 0=c:=by
  rw[h 8 oM,List.getD_eq_getElem?_getD,List.getElem?_append_right oM,hlk]
  rfl
 have e1: (S.b.drop a).take 8=lk:=by
  rw[<-hlk]
  refine take_getD S.b a lk oM λi hi=> ?_
  rw[h i oM,List.getD_eq_getElem?_getD,List.getD_eq_getElem?_getD,List.getElem?_append_left oM]
 have e2: (S.b.drop (a+9)).take n.length=n:=by
  refine take_getD S.b (a+9) n oM λi hi=> ?_
  rw[show a+9+i=a+ (9+i)by omega,h (9+i) oM,List.getD_eq_getElem?_getD,List.getD_eq_getElem?_getD,List.getElem?_append_right oM,hlk,show 9+i-8=i+1 by omega,List.getElem?_cons_succ]
 unfold headW
 rw[hfr,hlim,if_neg oM,Int.toNat_natCast]
 simp only[hb8,hc]
 have hm:n.length % 32=n.length:=by omega
 rw[hm,if_neg oM,e1,e2]
 have f1: (n.length/64 % 2==1)=false:=by rw[beq_eq_false_iff_ne];omega
 have f2: (n.length/32 % 2==1)=false:=by rw[beq_eq_false_iff_ne];omega
 have f3: (n.length/128==1)=false:=by rw[beq_eq_false_iff_ne];omega
 rw[f1,f2,f3]
theorem headW_zero{S:Img}{D:Dc}(hL:Lay0 S)(hrg:D.rg=3):headW S D 0=none:=by
 obtain⟨b2,b3,b4,b5,b6⟩:=hL.begs
 have hfr:D.fr S=16456:=by unfold Dc.fr;rw[hrg,b3]
 unfold headW
 rw[if_pos (.inr (.inl (by rw[hfr];omega)))]
theorem wordsF_cons{S:Img}{D:Dc}{a nx:Int}{wd:Wd}(k:Nat)(h:headW S D a=some (wd,nx))(hlt:nx<a):wordsF S D (k+1) a=wd::wordsF S D k nx:=by
 show(match headW S D a with|none=>[] |some (w,next)=>if a<=next then [w]else w::wordsF S D k next)=_
 rw[h]
 show(if a<=nx then [wd]else wd::wordsF S D k nx)=_
 rw[if_neg oM]
theorem wordsF_nil{S:Img}{D:Dc}{a:Int}(k:Nat)(h:headW S D a=none):wordsF S D (k+1) a = []:=by
 show(match headW S D a with|none=>[] |some (w,next)=>if a<=next then [w]else w::wordsF S D k next)=_
 rw[h]
def nameM:ByteArray:=⟨#[109,97,107,101,114]⟩
def csM:List Int:=[85,74,18,65,1]
def wordM:Wd:=⟨[109,97,107,101,114],16456,16472,false,false,false⟩
def headM:List UInt8:=[0,0,0,0,0,0,0,0,5,109,97,107,101,114]
def HeadM(S:Img):Prop:= ∀i,i<14->S.b.getD (16456+i) 0=headM.getD i 0
theorem HeadM.put{S:Img}(h:HeadM S)(k:Nat)(l:List UInt8)(hk:k+l.length<=S.b.length)(hf:k+l.length<=16456∨16470<=k):HeadM (S.put k l):=by
 intro i hi
 rw[S.put_getD k _ l hk,if_neg oM]
 exact h i hi
theorem headW_m{S:Img}{D:Dc}(hS:S.Ok)(hL:Lay0 S)(h:HeadM S)(hrg:D.rg=3):headW S D 16456=some (wordM,0):=by
 have e:=headW_at hS hL hrg 16456 [109,97,107,101,114] [0,0,0,0,0,0,0,0] 5 (by decide) (by decide) (by decide) (by decide) rfl rfl h
 have hz:ofB [0,0,0,0,0,0,0,0]=0:=by decide +kernel
 rw[hz]at e
 exact e
theorem words_m{S:Img}{D:Dc}(hS:S.Ok)(hL:Lay0 S)(h:HeadM S)(hrg:D.rg=3)(hl:D.l=16456):words S D = [wordM]:=by
 unfold words
 rw[hl]
 show wordsF S D (16456+1) (16456:Int)=_
 rw[wordsF_cons 16456 (headW_m hS hL h hrg) (by decide)]
 show wordM::wordsF S D (16455+1) 0=_
 rw[wordsF_nil 16455 (headW_zero hL hrg)]
def dM:Dc:=⟨3,16512,16456⟩
def xtN(n:List UInt8):Nat:=16520+up (1+n.length)
def wordN(n:List UInt8):Wd:=⟨n,16512,xtN n,false,false,false⟩
def mk0(S:Img)(n:List UInt8):Img:=(S.put 16512 (dM.headB n)).put 16520 [showT (UInt8.ofNat (n.length+32))]
def mk1(S:Img)(n:List UInt8):Img:=((mk0 S n).put (xtN n) (toB 17)).put (xtN n+8) (toB 0)
def mk2(S:Img)(n:List UInt8)(v:Int):Img:=(mk1 S n).put (xtN n+16) (toB v)
def mk3(S:Img)(n:List UInt8)(v:Int):Img:=(mk2 S n v).put (xtN n) (toB 4222993)
def NewH(S:Img)(n:List UInt8):Prop:= ∀i,i<9+n.length->S.b.getD (16512+i) 0= (toB 16456++UInt8.ofNat n.length::n).getD i 0
theorem xtN_le{n:List UInt8}(hn:Dc.nameB n=true):1<=n.length∧n.length<=31∧16521+n.length<=xtN n∧xtN n<=16552∧xtN n % 8=0:=by
 obtain⟨h1,h2⟩:=Dc.name_len hn
 have h3:=up_ge (1+n.length)
 unfold xtN
 refine⟨h1,h2,by omega,?_,by omega⟩
 unfold up
 omega
theorem xtN_up(n:List UInt8):up (16512+9+n.length)=xtN n:=by unfold xtN up;omega
theorem NewH.put{S:Img}{n:List UInt8}(h:NewH S n)(k:Nat)(l:List UInt8)(hk:k+l.length<=S.b.length)(hf:k+l.length<=16512∨16521+n.length<=k):NewH (S.put k l) n:=by
 intro i hi
 rw[S.put_getD k _ l hk,if_neg oM]
 exact h i hi
theorem words_n{S:Img}{D:Dc}{n:List UInt8}(hS:S.Ok)(hL:Lay0 S)(h:HeadM S)(hN:NewH S n)(hn:Dc.nameB n=true)(hrg:D.rg=3)(hl:D.l=16512):words S D = [wordN n,wordM]:=by
 obtain⟨h1,h2,h3,h4,h5⟩:=xtN_le hn
 have e:=headW_at hS hL hrg 16512 n (toB 16456) (UInt8.ofNat n.length) (by decide) (by decide) ⟨h1,h2⟩ (by rw[xtN_up];omega) (toB_len _) (by rw[UInt8.toNat_ofNat'];omega) hN
 rw[xtN_up,ofB_toB 16456 oM]at e
 rw[show((16512:Nat):Int)=16512 from rfl]at e
 unfold words
 rw[hl]
 show wordsF S D (16512+1) (16512:Int)=_
 rw[wordsF_cons 16512 e (by decide)]
 show _::wordsF S D (16511+1) (16456:Int)=_
 rw[wordsF_cons 16511 (headW_m hS hL h hrg) (by decide)]
 show _::wordM::wordsF S D (16510+1) 0=_
 rw[wordsF_nil 16510 (headW_zero hL hrg)]
 rfl
structure MkI(S:Img)(n:List UInt8):Prop where
 ok:S.Ok
 lay:Lay0 S
 hm:HeadM S
 hn:NewH S n
 cm:CodeAt S 16472 csM
theorem MkI.put{S:Img}{n:List UInt8}(h:MkI S n)(k:Nat)(l:List UInt8)(h1:16521+n.length<=k)(h2:k+l.length<=17152):MkI (S.put k l) n:=by
 have hlen:=h.ok.len
 obtain⟨b2,b3,b4,b5,b6⟩:=h.lay.begs
 have hc:csM.length=5:=rfl
 exact⟨put_ok h.ok _ _ oM,lay_put h.lay _ _,h.hm.put _ _ oM (.inr oM),h.hn.put _ _ oM (.inr oM),h.cm.put h.ok _ _ oM (.inr (by rw[hc];omega))⟩
theorem show_ofNat(k:Nat)(h:k<=31):showT (UInt8.ofNat (k+32))=UInt8.ofNat k:=by
 have h1: ∀i:Fin 32,showT (UInt8.ofNat (i.val+32))=UInt8.ofNat i.val:=by decide +kernel
 exact h1 ⟨k,by omega⟩
theorem headB_m(n:List UInt8):dM.headB n=toB 16456++ (UInt8.ofNat (n.length+32):: (n++List.replicate (up (1+n.length) - (1+n.length)) 0)):=by
 unfold Dc.headB dM
 rfl
theorem headB_mlen(n:List UInt8): (dM.headB n).length=8+up (1+n.length):=by
 rw[Dc.head_len,show up dM.h-dM.h=0 from rfl,Nat.zero_add]
theorem mk0_ok{S:Img}{n:List UInt8}(hS:S.Ok)(hL:Lay0 S)(hm:HeadM S)(hc:CodeAt S 16472 csM)(hn:Dc.nameB n=true):MkI (mk0 S n) n:=by
 obtain⟨h1,h2,h3,h4,h5⟩:=xtN_le hn
 obtain⟨b2,b3,b4,b5,b6⟩:=hL.begs
 have hlen:=hS.len
 have hl:=headB_mlen n
 have hx:xtN n=16520+up (1+n.length):=rfl
 have hup:=up_ge (1+n.length)
 have hcl:csM.length=5:=rfl
 have p1: (S.put 16512 (dM.headB n)).Ok:=put_ok hS _ _ oM
 have p2:Lay0 (S.put 16512 (dM.headB n)):=lay_put hL _ _
 have plen: (S.put 16512 (dM.headB n)).b.length=17152:=by rw[p1.len,p2.begs.2.2.2.2]
 have p6:=p2.begs.2.2.2.2
 unfold mk0
 refine⟨put_ok p1 _ _ (by rw[p6];simp),lay_put p2 _ _,(hm.put _ _ oM (.inr oM)).put _ _ (by rw[plen];simp) (.inr oM),?_,(hc.put hS _ _ oM (.inr (by rw[hcl];omega))).put p1 _ _ (by rw[p6];simp) (.inr (by rw[hcl];omega))⟩
 intro i hi
 rw[Img.put_getD _ 16520 _ _ (by rw[plen];simp)]
 have h8: (toB 16456).length=8:=toB_len _
 by_cases hi8:i=8
 ·subst hi8
  rw[if_pos (by simp),show_ofNat _ h2,List.getD_eq_getElem?_getD,List.getD_eq_getElem?_getD,List.getElem?_append_right oM,h8]
  rfl
 ·rw[if_neg (by simp;omega),S.put_getD 16512 _ _ oM,if_pos oM,show 16512+i-16512=i by omega,headB_m]
  simp only[List.getD_eq_getElem?_getD]
  by_cases hlt:i<8
  ·rw[List.getElem?_append_left oM,List.getElem?_append_left oM]
  ·rw[List.getElem?_append_right oM,List.getElem?_append_right oM,h8]
   obtain⟨j,hj⟩: ∃j,i-8=j+1:=⟨i-9,by omega⟩
   rw[hj,List.getElem?_cons_succ,List.getElem?_cons_succ,List.getElem?_append_left oM]
theorem mk1_put{S:Img}{n:List UInt8}(h:MkI (mk0 S n) n)(hn:Dc.nameB n=true):mk1 S n= (mk0 S n).put (xtN n) (cellsB [17,0]):=by
 obtain⟨h1,h2,h3,h4,h5⟩:=xtN_le hn
 have hlen:=h.ok.len
 have b6:=h.lay.begs.2.2.2.2
 have e:=(mk0 S n).put_append (xtN n) (toB 17) (toB 0) (by rw[toB_len];omega)
 rw[toB_len]at e
 exact e
theorem CodeAt.snoc{S:Img}{a:Nat}{cs:List Int}(hS:S.Ok)(h:CodeAt S a cs)(v:Int)(hv:V64 v)(hhi:a+8*cs.length+8<=S.beg 4):CodeAt (S.put (a+8*cs.length) (toB v)) a (cs ++ [v]):=by
 have hb:=Alike.put S (a+8*cs.length) (toB v)
 have h64:S.beg 4<=S.beg 6:=S.beg_mono oM oM oM
 have hlen:=hS.len
 refine⟨h.al,by rw[hb.beg];exact h.lo,by rw[hb.beg,List.length_append,List.length_singleton];omega,λi u hu=> ?_⟩
 rcases get_snoc hu with⟨rfl,rfl⟩ | ⟨hlt,hu⟩
 ·have e3:=S.bytes_put_in (a+8*cs.length) 0 8 (toB u) (by rw[toB_len,hlen];omega) (by rw[toB_len];omega)
  rw[Nat.add_zero]at e3
  rw[e3,List.drop_zero,List.take_of_length_le (by rw[toB_len];omega)]
  exact ofB_toB u hv
 ·rw[S.bytes_put_far _ _ 8 (toB v) (by rw[toB_len,hlen];omega) (by rw[hlen];omega) (by rw[toB_len];omega)]
  exact h.at_ i u hu
theorem CodeAt.first{S:Img}{a:Nat}{c:Int}{cs:List Int}(hS:S.Ok)(h:CodeAt S a (c::cs))(v:Int)(hv:V64 v):CodeAt (S.put a (toB v)) a (v::cs):=by
 have hb:=Alike.put S a (toB v)
 have h64:S.beg 4<=S.beg 6:=S.beg_mono oM oM oM
 have hlen:=hS.len
 have hhi:=h.hi
 rw[List.length_cons]at hhi
 refine⟨h.al,by rw[hb.beg];exact h.lo,by rw[hb.beg,List.length_cons];exact hhi,λi u hu=> ?_⟩
 rcases i with _|i
 ·obtain rfl:v=u:=by simpa using hu
  have e3:=S.bytes_put_in a 0 8 (toB v) (by rw[toB_len,hlen];omega) (by rw[toB_len];omega)
  rw[Nat.add_zero]at e3
  rw[show a+8*0=a from rfl,e3,List.drop_zero,List.take_of_length_le (by rw[toB_len];omega)]
  exact ofB_toB v hv
 ·have hu2:cs[i]? = some u:=by simpa using hu
  have hlt:i<cs.length:=(List.getElem?_eq_some_iff.1 hu2).1
  rw[S.bytes_put_far a _ 8 (toB v) (by rw[toB_len,hlen];omega) (by rw[hlen];omega) (by rw[toB_len];omega)]
  exact h.at_ (i+1) u (by simpa using hu2)
theorem mk1_ok{S:Img}{n:List UInt8}(h:MkI (mk0 S n) n)(hn:Dc.nameB n=true):MkI (mk1 S n) n∧CodeAt (mk1 S n) (xtN n) [17,0]:=by
 obtain⟨h1,h2,h3,h4,h5⟩:=xtN_le hn
 obtain⟨b2,b3,b4,b5,b6⟩:=h.lay.begs
 rw[mk1_put h hn]
 exact⟨h.put _ _ h3 (by rw[cellsB_len];simp;omega),codeAt_put _ h.ok _ _ (λv hv=>by
  simp only[List.mem_cons,List.mem_nil_iff,or_false]at hv
  unfold V64
  omega) h5 oM (by simp;omega)⟩
theorem mk2_ok{S:Img}{n:List UInt8}{v:Int}(h:MkI (mk0 S n) n)(hn:Dc.nameB n=true)(hv:V64 v):MkI (mk2 S n v) n∧CodeAt (mk2 S n v) (xtN n) [17,0,v]:=by
 obtain⟨h1,h2,h3,h4,h5⟩:=xtN_le hn
 obtain⟨k1,k2⟩:=mk1_ok h hn
 obtain⟨b2,b3,b4,b5,b6⟩:=k1.lay.begs
 exact⟨k1.put _ _ oM (by rw[toB_len];omega),k2.snoc k1.ok v hv (by simp;omega)⟩
theorem mk3_ok{S:Img}{n:List UInt8}{v:Int}(h:MkI (mk0 S n) n)(hn:Dc.nameB n=true)(hv:V64 v):MkI (mk3 S n v) n∧CodeAt (mk3 S n v) (xtN n) [4222993,0,v]:=by
 obtain⟨h1,h2,h3,h4,h5⟩:=xtN_le hn
 obtain⟨k1,k2⟩:=mk2_ok h hn hv
 exact⟨k1.put _ _ h3 (by rw[toB_len];omega),k2.first k1.ok 4222993 (by unfold V64;omega)⟩
theorem shutM{S:Img}{D:Dc}(h:D.rg=3):D.shut S=false:=by unfold Dc.shut;rw[h];simp
theorem commaM{S:Img}{D:Dc}(hL:Lay0 S)(hrg:D.rg=3)(h8:D.h % 8=0)(hh:D.h+8<=16960)(v:Int):D.commaF S=0∧D.commaS S v=S.put D.h (toB v)∧D.commaD S = { D with h:=D.h+8 }:=by
 have hlim:D.lim S=16960:=by unfold Dc.lim;rw[hrg];exact hL.begs.2.2.1
 have e:D.commaF S=0:=by
  unfold Dc.commaF
  rw[hlim,if_neg oM,if_neg oM,if_neg (by rw[shutM hrg];decide)]
 exact⟨e,by unfold Dc.commaS;rw[if_pos e],by unfold Dc.commaD;rw[if_pos e]⟩
theorem createM{S:Img}(hL:Lay0 S)(n:List UInt8):dM.createF S n= (if Dc.nameB n=false then 15 else 0):=by
 unfold Dc.createF
 by_cases hn:Dc.nameB n=false
 ·rw[if_pos hn,if_pos hn]
 ·rw[if_neg hn,if_neg hn]
  have hn2:Dc.nameB n=true:=by simpa using hn
  obtain⟨h1,h2,h3,h4,h5⟩:=xtN_le hn2
  have hx:xtN n=16520+up (1+n.length):=rfl
  have hlim:dM.lim S=16960:=hL.begs.2.2.1
  have hu:up dM.h=16512:=rfl
  rw[hlim,hu,if_neg oM,if_neg (by rw[shutM rfl];decide)]
theorem createMS{S:Img}(hL:Lay0 S){n:List UInt8}(hn:Dc.nameB n=true):dM.createS S n=S.put 16512 (dM.headB n)∧dM.createD S n= ⟨3,xtN n,16512⟩:=by
 have e:dM.createF S n=0:=by rw[createM hL,if_neg (by rw[hn];decide)]
 refine⟨by unfold Dc.createS;rw[if_pos e];rfl,?_⟩
 unfold Dc.createD
 rw[if_pos e]
 have hx:xtN n=16520+up (1+n.length):=rfl
 have hu:up dM.h=16512:=rfl
 rw[hu,show 16512+ (8+up (1+n.length))=xtN n by omega]
 rfl
theorem showM{S:Img}(hS:S.Ok)(hL:Lay0 S){n:List UInt8}(hn:Dc.nameB n=true): (⟨3,xtN n,16512⟩:Dc).turnS (S.put 16512 (dM.headB n)) showT=mk0 S n:=by
 have hl:=headB_mlen n
 obtain⟨h1,h2,h3,h4,h5⟩:=xtN_le hn
 have hx:xtN n=16520+up (1+n.length):=rfl
 have hlen:=hS.len
 have b6:=hL.begs.2.2.2.2
 have hup:=up_ge (1+n.length)
 unfold Dc.turnS
 rw[if_neg (by
  rintro(h|h)
  ·cases h
  ·rw[shutM rfl]at h;cases h)]
 show(S.put 16512 (dM.headB n)).put 16520 [showT ((S.put 16512 (dM.headB n)).b.getD 16520 0)]=_
 rw[S.put_getD 16512 16520 _ oM,if_pos oM,headB_m,List.getD_eq_getElem?_getD,List.getElem?_append_right (by rw[toB_len];omega),toB_len]
 unfold mk0
 rw[headB_m]
 rfl
section
variable {w w1:World}{F:Nat->Prop}{g gb bg en cap:Nat}{cl:Bool}{D:Dc}{S:Img}
theorem zero_u8: (((0:UInt8).toNat:Nat):Int)=0:=rfl
theorem rd_align(l:List UInt8)(hb:On F w (RLaidA g gb bg en cap false D S l) w1)(h8:At8 S D (bg+8) en)(n:Nat)(hn:n=up (D.h+l.length) - (D.h+l.length))(hl:D.h+l.length<=en):
 Calls prog 122 #[g] w1 (Got (.returned (.int .i64 0)) (RLaidA g gb bg en cap false D S (l++List.replicate n 0)) F w):=by
 have hle:=h8.le
 have hlo:=h8.lo
 have h2:=h8.ok.al.1
 rw[h8.lim]at h2
 have hu:=up_ge (D.h+l.length)
 have hin:=λwr l (h:On F w (RLaidA g gb bg en cap false D S l) wr)=>rl_in l h
 have hbt:=λwr l (hl:D.h+l.length<en) (h:On F w (RLaidA g gb bg en cap false D S l) wr)=>rl_byte l h8 hl h
 have hmo:=λwr l (hl:D.h+l.length<en) (h:On F w (RLaidA g gb bg en cap false D S l) wr) n hn=>rl_more l 0 h8 hl h n hn
 have htt: ∀j,j<n->((((D.h+l.length+j:Nat):Int) % 8) != 0)=true:=λj hj=>by rw[bne_iff_ne];unfold up at hn;omega
 have htf: ((((D.h+l.length+n:Nat):Int) % 8) != 0)=false:=by rw[bne_eq_false_iff_eq];omega
 have hnl:D.h+l.length+n<=en:=by omega
 have hlen: ∀j,(l++List.replicate j (0:UInt8)).length=l.length+j:=λj=>by simp
 have hsn: ∀j,(l++List.replicate j (0:UInt8))++ [0]=l++List.replicate (j+1) 0:=λj=>by rw[List.append_assoc,replicate_snoc]
 replace hb:=Lib.hid hb
 replace hin:=Lib.hid hin
 replace hbt:=Lib.hid hbt
 replace hmo:=Lib.hid hmo
 replace htt:=Lib.hid htt
 replace hlen:=Lib.hid hlen
 replace hsn:=Lib.hid hsn
 clear h8 h2 hn hu
 go_enter func122,ntmps122
 go_wp2
 go_loopg [2] n (λm t wr=> ∃j:Nat,j+m=n∧t = .int .i64 0∧On F w (RLaidA g gb bg en cap false D S (l++List.replicate j 0)) wr)
 case atStart=>exact⟨0,by omega,rfl,by rw[show List.replicate 0 (0:UInt8)= []from rfl,List.append_nil];exact hb.out⟩
 case round=>
  obtain⟨j,hj,rfl,hon⟩:=hrel
  obtain⟨c0,c1,c2,c3,c4,cf⟩:=hin.out _ _ hon
  have c3':wr.cell? (g,3)=some (((D.h+l.length+j:Nat):Int):Vl):=by rw[c3];unfold laidB;rw[hlen.out,Nat.add_assoc]
  by_cases hjn:j<n
  ·have ht:=htt.out j hjn
   obtain⟨⟨xo,cx⟩,cfr,hne⟩:=hbt.out _ _ (by rw[hlen.out];omega) hon
   have hfin:=hmo.out wr _ (by rw[hlen.out];omega) hon _ rfl
   rw[hsn.out,zero_u8]at hfin
   rw[hlen.out,<-Nat.add_assoc]at cx hfin
   obtain⟨k,hk⟩: ∃k,D.h+l.length+j=k:=⟨_,rfl⟩
   rw[hk]at c3' cx hfin ht
   have hk1:bg<=k:=by omega
   have hk2:k<en:=by omega
   have f3:=cf 3
   have fk:=cfr k
   replace hfin:=Lib.hid hfin
   clear c3 c4 cf cfr hon hk
   go_wp2
   go_region
   go_wp2
   go_roundg (gk-1)
   case measure=>omega
   case rel=>exact⟨j+1,by omega,rfl,hfin.out.drew⟩
  ·have hjj:j=n:=by omega
   subst hjj
   replace hon:=Lib.hid hon
   clear c0 c1 c2 c3 c4 cf
   go_wp2
   go_ret
   exact⟨rfl,hon.out⟩
theorem rl_of(hb:On F w (AllA [RDicA g gb bg en cap cl D,RbA gb S]) w1):On F w (RLaidA g gb bg en cap cl D S []) w1:=by
 unfold RLaidA
 rw[Img.put_nil]
 exact hb
theorem rl_to(l:List UInt8)(n:Nat)(hn:l.length=n)(hb:On F w (RLaidA g gb bg en cap cl D S l) w1):On F w (AllA [RDicA g gb bg en cap cl (laidB D n),RbA gb (S.put D.h l)]) w1:=by
 subst hn
 exact hb
theorem rd_comma(hb:On F w (AllA [RDicA g gb bg en cap false D,RbA gb S]) w1)(h8:At8 S D (bg+8) en)(hsh:D.shut S=false)(v:Int)(hv:V64 v):
 Calls prog 80 #[g,v] w1 (Got (.returned (D.commaF S)) (AllA [RDicA g gb bg en cap false (D.commaD S),RbA gb (D.commaS S v)]) F w):=by
 have hle:=h8.le
 have hlo:=h8.lo
 have hin:=λwr (h:On F w (AllA [RDicA g gb bg en cap false D,RbA gb S]) wr)=>rd_in h
 have hto:=λn=>rd_to ((hin _ hb).drewN n) oM oM
 have hlay:=λwr (hl:D.h+8<=en) (h:On F w (AllA [RDicA g gb bg en cap false D,RbA gb S]) wr)=>rd_lay [] (rl_of h) h8 (by simpa using hl) v hv
 have hend:=λwr (h:On F w (RLaidA g gb bg en cap false D S ([]++toB v)) wr)=>rl_to _ 8 (by rw[List.nil_append,toB_len]) h
 obtain⟨c0,c1,c2,c3,c4,cf⟩:=hin _ hb
 have hF:D.commaF S=if en<D.h+8 then 9 else if D.h % 8≠0 then 6 else 0:=by
  unfold Dc.commaF
  rw[h8.lim,hsh]
  simp
 have hzero:D.commaF S=0->D.commaD S=laidB D 8∧D.commaS S v=S.put D.h ([]++toB v):=λh=>by
  unfold Dc.commaD Dc.commaS
  rw[if_pos h,if_pos h]
  exact⟨rfl,rfl⟩
 have hone:D.commaF S≠0->D.commaD S=D∧D.commaS S v=S:=λh=>by
  unfold Dc.commaD Dc.commaS
  rw[if_neg h,if_neg h]
  exact⟨rfl,rfl⟩
 by_cases h1:en<D.h+8
 ·rw[if_pos h1]at hF
  obtain⟨e1,e2⟩:=hone (by rw[hF];decide)
  rw[hF,e1,e2]
  have ht:decide ((en:Int) -8< (D.h:Int))=true:=decide_eq_true oM
  replace hb:=Lib.hid hb
  replace hto:=Lib.hid hto
  clear hin hlay hend hzero hone hF e1 e2 h8
  go_enter func80,ntmps80
  go_wp2_with fail
  go_quiet ((go_at_call 87;exact Calls.quiet_of (hto.out _)))
  have hb2:=Lib.hid (hb.out.drewN nq)
  go_wp2
  go_ret
  exact⟨rfl,hb2.out⟩
 ·rw[if_neg h1]at hF
  have ht:decide ((en:Int) -8< (D.h:Int))=false:=decide_eq_false oM
  by_cases h2:D.h % 8≠0
  ·rw[if_pos h2]at hF
   obtain⟨e1,e2⟩:=hone (by rw[hF];decide)
   rw[hF,e1,e2]
   have ht2: ((D.h:Int) % 8 != 0)=true:=by rw[bne_iff_ne];omega
   replace hb:=Lib.hid hb
   replace hto:=Lib.hid hto
   replace hin:=Lib.hid hin
   clear hlay hend hzero hone hF e1 e2 h8 h2
   go_enter func80,ntmps80
   go_wp2_with fail
   go_quiet ((go_at_call 87;exact Calls.quiet_of (hto.out _)))
   have hb2:=hb.out.drewN nq
   obtain⟨w2,hw2⟩: ∃w2,w1.drewN nq=w2:=⟨_,rfl⟩
   rw[hw2]at hb2⊢
   clear hw2 c0 c1 c2 c3 c4 cf
   obtain⟨c0,c1,c2,c3,c4,cf⟩:=hin.out _ hb2
   replace hb2:=Lib.hid hb2
   go_wp2
   go_ret
   exact⟨rfl,hb2.out⟩
  ·rw[if_neg h2]at hF
   obtain⟨e1,e2⟩:=hzero hF
   rw[hF,e1,e2]
   have ht2: ((D.h:Int) % 8 != 0)=false:=by rw[bne_eq_false_iff_eq];omega
   replace hlay:=Lib.hid (λwr=>hlay wr oM)
   replace hb:=Lib.hid hb
   replace hto:=Lib.hid hto
   replace hin:=Lib.hid hin
   replace hend:=Lib.hid hend
   clear hzero hone hF e1 e2 h8 h2
   go_enter func80,ntmps80
   go_wp2_with fail
   go_quiet ((go_at_call 87;exact Calls.quiet_of (hto.out _)))
   have hb2:=hb.out.drewN nq
   obtain⟨w2,hw2⟩: ∃w2,w1.drewN nq=w2:=⟨_,rfl⟩
   rw[hw2]at hb2⊢
   clear hw2 c0 c1 c2 c3 c4 cf
   obtain⟨c0,c1,c2,c3,c4,cf⟩:=hin.out _ hb2
   replace hlay:=Lib.hid (hlay.out _ hb2)
   clear hb2
   go_wp2_with fail
   refine mo hlay.out λw3 h3=>?_
   have h4:=Lib.hid (hend.out _ h3)
   clear h3
   go_wp2
   go_ret
   exact⟨rfl,h4.out⟩
end
def Flags(off on:Int)(t:UInt8->UInt8):Prop:= ∀c:UInt8,bits .or .u8 (bits .andNot .u8 (c.toNat:Int) off) on= ((t c).toNat:Int)
theorem flags_show:Flags 32 0 showT:=λc=>by
 have h: ∀b:Fin 256,bits .or .u8 (bits .andNot .u8 (b.val:Int) 32) 0= ((b.val &&& 223:Nat):Int):=by decide +kernel
 rw[h ⟨c.toNat,c.toNat_lt⟩]
 unfold showT
 rw[UInt8.toNat_and]
 rfl
theorem flags_imm:Flags 0 64 immT:=λc=>by
 have h: ∀b:Fin 256,bits .or .u8 (bits .andNot .u8 (b.val:Int) 0) 64= ((b.val ||| 64:Nat):Int):=by decide +kernel
 rw[h ⟨c.toNat,c.toNat_lt⟩]
 unfold immT
 rw[UInt8.toNat_or]
 rfl
section
variable {w w1:World}{F:Nat->Prop}{g gb bg en cap:Nat}{D:Dc}{S:Img}
theorem rd_flag_none(hb:On F w (AllA [RDicA g gb bg en cap false D,RbA gb S]) w1)(hl:D.l=0)(off on:Int):
 Calls prog 77 #[g,off,on] w1 (Got (.returned (.tuple #[])) (AllA [RDicA g gb bg en cap false D,RbA gb S]) F w):=by
 obtain⟨c0,c1,c2,c3,c4,cf⟩:=rd_in hb
 rw[hl]at c4
 replace hb:=Lib.hid hb
 clear hl
 go_enter func77,ntmps77
 go_wp2_with fail
 go_quiet (fail)
 have hb2:=Lib.hid (hb.out.drewN nq)
 go_wp2
 go_end0
 exact⟨rfl,hb2.out⟩
theorem rd_flag_some(hb:On F w (AllA [RDicA g gb bg en cap false D,RbA gb S]) w1)(h8:At8 S D (bg+8) en)(hsh:D.shut S=false)(hl:D.l≠0)(off on:Int)(t:UInt8->UInt8)(ht:Flags off on t)(ho:0<=off∧off<=255)(hn:0<=on∧on<=255):
 Calls prog 77 #[g,off,on] w1 (Got (.returned (.tuple #[])) (AllA [RDicA g gb bg en cap false D,RbA gb (D.turnS S t)]) F w):=by
 have hle:=h8.le
 have hlo:=h8.lo
 have hll:D.l % 8=0∧bg+8<=D.l∧D.l+16<=en:=by
  rcases h8.ok.l with h|h
  ·exact absurd h hl
  ·rw[h8.fr,h8.lim]at h;exact h
 have hall:=h8.ok.all
 rw[h8.lim]at hall
 have hin:=λwr (h:On F w (AllA [RDicA g gb bg en cap false D,RbA gb S]) wr)=>rd_in h
 have hto:=λn=>rd_to ((hin _ hb).drewN n) oM oM
 have hbl:=λwr (h:On F w (AllA [RDicA g gb bg en cap false D,RbA gb S]) wr)=>(by
  have hb:Blk wr gb 5 (bcells S.b).toArray:=h.blkAt 1 rfl
  have hg:Blk wr g 149 (rdicC gb bg en cap false D):=h.blkAt 0 rfl
  have h2:D.l+8<S.b.length:=by rw[h8.img.len];omega
  refine⟨?_,hb.frozen _,hg.ne_ hb (by decide)⟩
  rw[hb.cell]
  simp[bcells,h2]:wr.cell? ⟨gb,D.l+8,none⟩=some (.int .u8 ((S.b.getD (D.l+8) 0).toNat:Int))∧wr.frozen? ⟨gb,D.l+8,none⟩=false∧g≠gb)
 have hfin:=λwr (h:On F w (AllA [RDicA g gb bg en cap false D,RbA gb S]) wr)=>(by
  have h2:=On.setAt 1 (g:=gb) (t:=5) (cs:=(bcells S.b).toArray) h rfl (D.l+8) (.int .u8 ((t (S.b.getD (D.l+8) 0)).toNat:Int))
  rw[set_put _ _ (t (S.b.getD (D.l+8) 0)) (by rw[h8.img.len];omega)]at h2
  have e:D.turnS S t=S.put (D.l+8) [t (S.b.getD (D.l+8) 0)]:=by
   unfold Dc.turnS
   rw[if_neg (by rintro(h|h);exact hl h;rw[hsh]at h;cases h)]
  rw[e]
  exact h2:On F w (AllA [RDicA g gb bg en cap false D,RbA gb (D.turnS S t)]) (wr.setCell ⟨gb,D.l+8,none⟩ (.int .u8 ((t (S.b.getD (D.l+8) 0)).toNat:Int))))
 have htc:=ht (S.b.getD (D.l+8) 0)
 generalize (S.b.getD (D.l+8) 0)=bc at *
 generalize ((t bc).toNat:Int)=tc at *
 generalize D.turnS S t=S' at *
 have hbc: (bc.toNat:Int)<=255:=by have:=bc.toNat_lt;omega
 generalize (bc.toNat:Int)=b0 at *
 obtain⟨c0,c1,c2,c3,c4,cf⟩:=hin _ hb
 have hz: ((D.l:Int) ==0)=false:=by simpa using hl
 have hd:decide ((en:Int)<=(D.l:Int) +8)=false:=decide_eq_false oM
 replace hb:=Lib.hid hb
 replace hin:=Lib.hid hin
 replace hto:=Lib.hid hto
 replace hbl:=Lib.hid hbl
 replace hfin:=Lib.hid hfin
 clear h8 hsh ht
 go_enter func77,ntmps77
 go_wp2_with fail
 go_quiet ((go_at_call 87;exact Calls.quiet_of (hto.out _)))
 have hb2:=hb.out.drewN nq
 obtain⟨w2,hw2⟩: ∃w2,w1.drewN nq=w2:=⟨_,rfl⟩
 rw[hw2]at hb2⊢
 clear hw2 c0 c1 c2 c3 c4 cf hb hto
 obtain⟨c0,c1,c2,c3,c4,cf⟩:=hin.out _ hb2
 replace hb2:=Lib.hid hb2
 go_wp2_with fail
 go_quiet (fail)
 have hb3:=hb2.out.drewN nq
 obtain⟨w3,hw3⟩: ∃w3,w2.drewN nq=w3:=⟨_,rfl⟩
 rw[hw3]at hb3⊢
 clear hw3 c0 c1 c2 c3 c4 cf hb2
 obtain⟨c0,c1,c2,c3,c4,cf⟩:=hin.out _ hb3
 obtain⟨cb,fb,hne⟩:=hbl.out _ hb3
 have hfin2:=Lib.hid (hfin.out _ hb3)
 replace hb3:=Lib.hid hb3
 clear hin hbl hfin
 have he:bg+ (D.l+8-bg)=D.l+8:=by omega
 have hi1: (bg:Int)<=(D.l:Int) +8:=by omega
 have hi2: (D.l:Int) +8- (bg:Int) < ((en-bg:Nat):Int):=by omega
 go_wp2_with fail
 go_region
 go_wp2
 go_end0
 exact⟨rfl,hfin2.out.drew⟩
theorem rd_flag(hb:On F w (AllA [RDicA g gb bg en cap false D,RbA gb S]) w1)(h8:At8 S D (bg+8) en)(hsh:D.shut S=false)(off on:Int)(t:UInt8->UInt8)(ht:Flags off on t)(ho:0<=off∧off<=255)(hn:0<=on∧on<=255):
 Calls prog 77 #[g,off,on] w1 (Got (.returned (.tuple #[])) (AllA [RDicA g gb bg en cap false D,RbA gb (D.turnS S t)]) F w):=by
 by_cases h0:D.l=0
 ·have e:D.turnS S t=S:=by unfold Dc.turnS;rw[if_pos (.inl h0)]
  rw[e]
  exact rd_flag_none hb h0 off on
 ·exact rd_flag_some hb h8 hsh h0 off on t ht ho hn
end
section
variable {w w1:World}{F:Nat->Prop}{g gb bg en cap:Nat}{D:Dc}{S:Img}
theorem rd_create_bad(hb:On F w (AllA [RDicA g gb bg en cap false D,RbA gb S]) w1)(s:ByteArray)(hsz:s.size<=9223372036854775807)(hn:Dc.nameB s.data.toList=false):
 Calls prog 75 #[g,.string s] w1 (Got (.returned (.tuple #[(0:Int),(15:Int)])) (AllA [RDicA g gb bg en cap false D,RbA gb S]) F w):=by
 have hnm:=name_walk s hsz w1
 rw[hn]at hnm
 replace hb:=Lib.hid hb
 replace hnm:=Lib.hid hnm
 clear hn
 go_enter func75,ntmps75
 go_wp2_with fail
 refine hnm.out.mono ?_
 rintro e w2 ⟨rfl,rfl⟩
 go_wp2
 go_ret2
 exact⟨rfl,hb.out⟩
theorem rd_create_full(hb:On F w (AllA [RDicA g gb bg en cap false D,RbA gb S]) w1)(h8:At8 S D (bg+8) en)(s:ByteArray)(hn:Dc.nameB s.data.toList=true)(hf:en<up D.h+ (8+up (1+s.size))):
 Calls prog 75 #[g,.string s] w1 (Got (.returned (.tuple #[(0:Int),(9:Int)])) (AllA [RDicA g gb bg en cap false D,RbA gb S]) F w):=by
 have hs2:=name_size hn
 have hnm:=name_walk s oM w1
 rw[hn]at hnm
 have h1:=h8.lo
 have hle:=h8.le
 have hu1:=up_ge D.h
 have hu2:=up_ge (1+s.size)
 have hup1:=λw=>rd_up D.h oM w
 have hup2:=λw=>rd_up (1+s.size) oM w
 rw[show((1+s.size:Nat):Int)=1+ (s.size:Int)by omega]at hup2
 have hto:=λW (h:On F w (AllA [RDicA g gb bg en cap false D,RbA gb S]) W)=>rd_to (rd_in h) oM oM
 obtain⟨c0,c1,c2,c3,c4,cf⟩:=rd_in hb
 replace hb:=Lib.hid hb
 replace hnm:=Lib.hid hnm
 replace hup1:=Lib.hid hup1
 replace hup2:=Lib.hid hup2
 replace hto:=Lib.hid hto
 generalize up (1+s.size)=u2 at *
 generalize hU1:up D.h=u1 at *
 clear hn h8 hU1
 have ht:decide ((en:Int) - (u1:Int) <8+ (u2:Int))=true:=decide_eq_true oM
 go_enter func75,ntmps75
 go_wp2_with fail
 refine hnm.out.mono ?_
 rintro e w2 ⟨rfl,rfl⟩
 go_wp2_with fail
 refine(hup1.out _).mono ?_
 rintro e w3 ⟨rfl,rfl⟩
 go_wp2_with fail
 refine(hto.out _ hb.out).mono ?_
 rintro e w4 ⟨rfl,nq,rfl⟩
 have hb2:=Lib.hid (hb.out.drewN nq)
 go_wp2_with fail
 refine(hup2.out _).mono ?_
 rintro e w4 ⟨rfl,rfl⟩
 go_wp2
 go_ret2
 exact⟨rfl,hb2.out⟩
theorem rl_ccomma_f(l:List UInt8)(c:UInt8)(v:Int)(hv:v= (c.toNat:Int))(hb:On F w (RLaidA g gb bg en cap false D S l) w1)(h8:At8 S D (bg+8) en)(hl:D.h+l.length<en):
 Calls prog 124 #[g,.int .u8 v] w1 (Got (.returned (.int .i64 0)) (RLaidA g gb bg en cap false D S (l ++ [c])) F w):=by
 subst hv
 exact rd_ccomma l hb h8 hl c
theorem rd_create_ok(hb:On F w (AllA [RDicA g gb bg en cap false D,RbA gb S]) w1)(h8:At8 S D (bg+8) en)(s:ByteArray)(hn:Dc.nameB s.data.toList=true)(hf: ¬en<up D.h+ (8+up (1+s.size)))(hsh:D.shut S=false):
 Calls prog 75 #[g,.string s] w1 (Got (.returned (.tuple #[((up D.h+ (8+up (1+s.size)):Nat):Int),(0:Int)])) (AllA [RDicA g gb bg en cap false { D with h:=up D.h+ (8+up (1+s.size)),l:=up D.h },RbA gb (S.put D.h (D.headB s.data.toList))]) F w):=by
 have hon:=rl_of hb
 have hs2:=name_size hn
 have hnl:s.data.toList.length=s.size:=by rw[Lib.size_eq]
 have hnm:=name_walk s oM w1
 rw[hn]at hnm
 have h1:=h8.lo
 have hle:=h8.le
 have hu1:=up_ge D.h
 have hu2:=up_ge (1+s.size)
 have hup1:=λw=>rd_up D.h oM w
 have hup2:=λw=>rd_up (1+s.size) oM w
 rw[show((1+s.size:Nat):Int)=1+ (s.size:Int)by omega]at hup2
 have hto:=λW (h:On F w (RLaidA g gb bg en cap false D S []) W)=>rd_to (rl_in [] h) oM oM
 have hc:=λW l (h:On F w (RLaidA g gb bg en cap false D S l) W)=>rl_in l h
 obtain⟨za,hza⟩: ∃za:List UInt8,za=List.replicate (up D.h-D.h) 0:=⟨_,rfl⟩
 have hzl:za.length=up D.h-D.h:=by rw[hza];simp
 have hal1:=λW (h:On F w (RLaidA g gb bg en cap false D S []) W)=>rd_align [] h h8 _ rfl (by simp;omega)
 simp only[List.length_nil,Nat.add_zero,List.nil_append]at hal1
 rw[<-hza]at hal1
 have hvl:V64 (D.l:Int):=by have:=h8.ok.l;rw[h8.lim]at this;unfold V64;omega
 have hcm:=λW (h:On F w (RLaidA g gb bg en cap false D S za) W)=>rd_lay za h h8 (by rw[hzl];omega) (D.l:Int) hvl
 have hl2: (za++toB (D.l:Int)).length=up D.h-D.h+8:=by simp[toB_len,hzl]
 have hby: (32:Int) + (s.size:Int)= (((UInt8.ofNat (s.size+32)).toNat:Nat):Int):=by rw[UInt8.toNat_ofNat'];omega
 have hcb:=λW (h:On F w (RLaidA g gb bg en cap false D S (za++toB (D.l:Int))) W)=>rl_ccomma_f (za++toB (D.l:Int)) (UInt8.ofNat (s.size+32)) (32+ (s.size:Int)) hby h h8 (by rw[hl2];omega)
 obtain⟨l3,hl3⟩: ∃l3:List UInt8,l3=za++toB (D.l:Int)++ [UInt8.ofNat (s.size+32)]:=⟨_,rfl⟩
 have hl3l:l3.length=up D.h-D.h+9:=by rw[hl3,List.length_append,hl2];rfl
 rw[<-hl3]at hcb
 have hcn:=λW (j:Nat) (hj:j<s.size) (h:On F w (RLaidA g gb bg en cap false D S (l3++s.data.toList.take j)) W)=>rd_ccomma (l3++s.data.toList.take j) h h8 (by rw[List.length_append,hl3l,List.length_take,hnl];omega) (s.data.toList.getD j 0)
 have htk: ∀j,j<s.size->(l3++s.data.toList.take j)++ [s.data.toList.getD j 0]=l3++s.data.toList.take (j+1):=λj hj=>by
  rw[List.append_assoc,take_snoc _ _ (by rw[hnl];exact hj)]
 have hl4l: (l3++s.data.toList).length=up D.h-D.h+9+s.size:=by rw[List.length_append,hl3l,hnl]
 have hal2:=λW (h:On F w (RLaidA g gb bg en cap false D S (l3++s.data.toList)) W)=>rd_align (l3++s.data.toList) h h8 (up (1+s.size) - (1+s.size)) (by rw[hl4l];unfold up at *;omega) (by rw[hl4l];omega)
 have hlast:l3++s.data.toList++List.replicate (up (1+s.size) - (1+s.size)) 0=D.headB s.data.toList:=by
  unfold Dc.headB
  rw[hl3,hza,hnl]
  simp[List.append_assoc]
 rw[hlast]at hal2
 have hfl: (D.headB s.data.toList).length=up D.h-D.h+ (8+up (1+s.size)):=by rw[Dc.head_len,hnl]
 have hend:=λW (h:On F w (RLaidA g gb bg en cap false D S (D.headB s.data.toList)) W)=>(by
  have h1:=rl_to _ _ hfl h
  have h2:=h1.setAt 0 rfl 4 (.int .i64 (up D.h:Nat))
  rw[rdicC_latest gb bg en cap false _ (up D.h) _ rfl]at h2
  have e: ({ laidB D (up D.h-D.h+ (8+up (1+s.size)))with l:=up D.h }:Dc)= { D with h:=up D.h+ (8+up (1+s.size)),l:=up D.h }:=by unfold laidB;simp;omega
  rw[e]at h2
  exact h2:On F w (AllA [RDicA g gb bg en cap false { D with h:=up D.h+ (8+up (1+s.size)),l:=up D.h },RbA gb (S.put D.h (D.headB s.data.toList))]) (W.setCell (g,4) (.int .i64 (up D.h:Nat))))
 have hix:=λ(j:Nat) (h:j<s.size)=>idx_str s j h
 generalize D.headB s.data.toList=lf at *
 have hhf: ((laidB D lf.length).h:Int)= ((up D.h+ (8+up (1+s.size)):Nat):Int):=by unfold laidB;simp only[hfl];omega
 have hh0: ((laidB D ([]:List UInt8).length).h:Int)= (D.h:Int):=rfl
 replace hon:=Lib.hid hon
 replace hnm:=Lib.hid hnm
 replace hup1:=Lib.hid hup1
 replace hup2:=Lib.hid hup2
 replace hto:=Lib.hid hto
 replace hc:=Lib.hid hc
 replace hal1:=Lib.hid hal1
 replace hcm:=Lib.hid hcm
 replace hcb:=Lib.hid hcb
 replace hcn:=Lib.hid hcn
 replace htk:=Lib.hid htk
 replace hal2:=Lib.hid hal2
 replace hend:=Lib.hid hend
 replace hix:=Lib.hid hix
 replace hhf:=Lib.hid hhf
 replace hnl:=Lib.hid hnl
 generalize up (1+s.size)=u2 at *
 generalize hU1:up D.h=u1 at *
 clear hb hn h8 hsh hza hzl hvl hl2 hby hl3 hl3l hl4l hlast hfl hU1
 obtain⟨c0,c1,c2,c3,c4,cf⟩:=hc.out _ _ hon.out
 rw[hh0]at c3
 have ht:decide ((en:Int) - (u1:Int) <8+ (u2:Int))=false:=decide_eq_false oM
 go_enter func75,ntmps75
 go_wp2_with fail
 refine hnm.out.mono ?_
 rintro e w2 ⟨rfl,rfl⟩
 go_wp2_with fail
 refine(hup1.out _).mono ?_
 rintro e w3 ⟨rfl,rfl⟩
 go_wp2_with fail
 refine(hto.out _ hon.out).mono ?_
 rintro e w4 ⟨rfl,nq,rfl⟩
 have hon2:=hon.out.drewN nq
 obtain⟨w4,hw4⟩: ∃w4,w3.drewN nq=w4:=⟨_,rfl⟩
 rw[hw4]at hon2⊢
 clear hw4 c0 c1 c2 c3 c4 cf hon
 obtain⟨c0,c1,c2,c3,c4,cf⟩:=hc.out _ _ hon2
 replace hal1:=Lib.hid (hal1.out _ hon2)
 clear hon2 hto
 go_wp2_with fail
 refine(hup2.out _).mono ?_
 rintro e w5 ⟨rfl,rfl⟩
 go_wp2_with fail
 refine mo hal1.out λw5 h5=>?_
 clear c0 c1 c2 c3 c4 cf
 obtain⟨c0,c1,c2,c3,c4,cf⟩:=hc.out _ _ h5
 have c4':w5.cell? (g,4)=some ((D.l:Int):Vl):=c4
 replace hcm:=Lib.hid (hcm.out _ h5)
 clear h5 c4
 go_wp2_with fail
 refine mo hcm.out λw6 h6=>?_
 replace hcb:=Lib.hid (hcb.out _ h6)
 clear h6 c0 c1 c2 c3 c4' cf
 go_wp2_with fail
 refine mo hcb.out λw7 h7=>?_
 replace h7:=Lib.hid h7
 go_wp2_with fail
 go_loopg [8] s.size (λk t wr=> ∃j:Nat,j+k=s.size∧t = .int .i64 (j:Int)∧On F w (RLaidA g gb bg en cap false D S (l3++s.data.toList.take j)) wr)
 case atStart=>exact⟨0,by omega,rfl,by rw[List.take_zero,List.append_nil];exact h7.out⟩
 case round=>
  obtain⟨j,hj,rfl,hj7⟩:=hrel
  by_cases hjl:j<s.size
  ·have hq:=hcn.out _ j hjl hj7
   have hx:=hix.out j hjl wr
   rw[htk.out j hjl]at hq
   generalize s.data.toList.getD j 0=c at *
   replace hq:=Lib.hid hq
   replace hj7:=Lib.hid hj7
   go_wp2_with fail
   refine mo hq.out λw8 h8=>?_
   replace h8:=Lib.hid h8
   go_wp2
   go_roundg (gk-1)
   case measure=>omega
   case rel=>exact⟨j+1,by omega,by go_num,h8.out⟩
  ·have hjj:j=s.size:=by omega
   subst hjj
   rw[List.take_of_length_le (by rw[hnl.out];exact Nat.le_refl _)]at hj7
   replace hal2:=Lib.hid (hal2.out _ hj7)
   have hdec2:decide ((s.size:Int) < (s.size:Int))=false:=by simp
   clear hj7
   go_wp2_with fail
   refine mo hal2.out λw8 h8=>?_
   obtain⟨c0,c1,c2,c3,c4,cf⟩:=hc.out _ _ h8
   have c4':w8.cell? (g,4)=some ((D.l:Int):Vl):=c4
   have f4:=cf 4
   replace hend:=Lib.hid (hend.out _ h8)
   rw[hhf.out]at c3
   clear h8 c4 cf
   go_wp2
   go_ret2
   exact⟨rfl,hend.out⟩
theorem rd_create(hb:On F w (AllA [RDicA g gb bg en cap false D,RbA gb S]) w1)(h8:At8 S D (bg+8) en)(hsh:D.shut S=false)(s:ByteArray)(hsz:s.size<=9223372036854775807):
 Calls prog 75 #[g,.string s] w1 (Got (.returned (.tuple #[(D.createV S s.data.toList),(D.createF S s.data.toList)])) (AllA [RDicA g gb bg en cap false (D.createD S s.data.toList),RbA gb (D.createS S s.data.toList)]) F w):=by
 have hnl:s.data.toList.length=s.size:=by rw[Lib.size_eq]
 have hF:D.createF S s.data.toList=if Dc.nameB s.data.toList=false then 15 else if en<up D.h+ (8+up (1+s.size))then 9 else 0:=by
  unfold Dc.createF
  rw[h8.lim,hnl,hsh]
  simp
 unfold Dc.createV Dc.createD Dc.createS
 rw[hF]
 by_cases h1:Dc.nameB s.data.toList=false
 ·rw[if_pos h1,if_neg (by decide),if_neg (by decide),if_neg (by decide)]
  exact rd_create_bad hb s hsz h1
 rw[if_neg h1]
 have h1':Dc.nameB s.data.toList=true:=by simpa using h1
 by_cases h2:en<up D.h+ (8+up (1+s.size))
 ·rw[if_pos h2,if_neg (by decide),if_neg (by decide),if_neg (by decide)]
  exact rd_create_full hb h8 s h1' h2
 rw[if_neg h2,if_pos rfl,if_pos rfl,if_pos rfl,hnl]
 exact rd_create_ok hb h8 s h1' h2 hsh
end
section
variable {w w1:World}{F:Nat->Prop}
theorem rd_new(gb bg en cap:Nat)(hle:bg<=en)(hen:en<=143360)(rg:Nat)(w:World):Calls prog 47 #[.slice (some ⟨gb,bg,none⟩) (en-bg) cap,(bg:Int)] w
 (PostE (λe B=> ∃g,e = .returned (.pointer (some ⟨g,0,none⟩))∧B=RDicA g gb bg en cap false ⟨rg,bg+8,0⟩) Nob w):=by
 have hon:=(On.refl (A:=AllA []) (F:=Nob) (w:=w) (λ_ h=>h)).box (rdicC gb bg en cap false ⟨rg,bg+8,0⟩) 149
 have e: (((bg+8:Nat)):Int)= (bg:Int) +8:=by omega
 have hc:rdicC gb bg en cap false ⟨rg,bg+8,0⟩=#[.slice (some ⟨gb,bg,none⟩) (en-bg) cap,.int .i64 (bg:Int),.bool false,.int .i64 ((bg:Int) +8),.int .i64 0]:=by
  unfold rdicC
  rw[e]
  rfl
 rw[hc]at hon
 replace hon:=Lib.hid hon
 replace hc:=Lib.hid hc
 clear e
 go_enter func47,ntmps47
 go_wp2
 go_ret
 have h:=hon.out.ofOne
 rw[<-hc.out]at h
 exact⟨_,⟨w.heap.size,rfl,rfl⟩,h⟩
def rturC(x y p q:Int)(d:Bool):Array Value:=#[.int .i64 x,.int .i64 y,.int .i64 p,.int .i64 q,.bool d,.slice none 0 0]
theorem rt_new(w:World):Calls prog 45 #[] w (PostE (λe B=> ∃g,e = .returned (.pointer (some ⟨g,0,none⟩))∧B=BlkA g 179 (rturC 0 0 1 0 true)) Nob w):=by
 have hon:=(On.refl (A:=AllA []) (F:=Nob) (w:=w) (λ_ h=>h)).box (rturC 0 0 1 0 true) 179
 unfold rturC at hon
 replace hon:=Lib.hid hon
 go_enter func45,ntmps45
 go_wp2
 go_ret
 exact⟨_,⟨w.heap.size,rfl,rfl⟩,hon.out.ofOne⟩
def turC:Array Value:=#[.complex .f64 0 0,.complex .f64 4607182418800017408 0,.bool true,.slice none 0 0]
theorem n_turtle(w:World):Calls prog 20 #[] w (PostE (λe B=> ∃g,e = .returned (.pointer (some ⟨g,0,none⟩))∧B=BlkA g 143 turC) Nob w):=by
 have hon:=(On.refl (A:=AllA []) (F:=Nob) (w:=w) (λ_ h=>h)).box turC 143
 unfold turC at hon
 replace hon:=Lib.hid hon
 go_enter func20,ntmps20
 go_wp2
 go_ret
 exact⟨_,⟨w.heap.size,rfl,rfl⟩,hon.out.ofOne⟩
end
structure Rc where
 gW:Nat
 gM:Nat
 gb:Nat
 gK:Nat
 gS:Nat
 gD:Nat
 gDr:Nat
 gR:Nat
 gRr:Nat
 gC:Nat
 gT:Nat
def worldC(r:Rc)(list:Nat)(ws:Value)(f u h:Int)(t:Bool):Array Value:=
 #[r.gM,r.gK,r.gS,list,ws,r.gD,r.gR,r.gC,r.gT,f,(u:Int),h,.bool t,.slice none 0 0]
theorem r3_new(k s u d r:Nat)(hf:Fits k s u d r)(w:World):Calls prog 44 #[layoutV k s u d r] w
 (PostE (λe B=> ∃g gb,e = .returned (.tuple #[.pointer (some ⟨g,0,none⟩),.bool true])∧B=AllA [BlkA g 121 (rimgCells gb (newImg k s u d r)),RbA gb (newImg k s u d r)]) Nob w):=by
 refine(ir_new k s u d r hf w).mono ?_
 rintro e w' ⟨g,gb,he,h1,h2,hr,hb⟩
 refine⟨_,⟨g,gb,he,rfl⟩,λk=>k=g∨k=gb,?_,Kept.ofBelow0 hb,λi hi=>by rcases hi with rfl|rfl<;>exact .inr (by assumption)⟩
 have hne:=hr.blk.ne_ hr.row (by decide)
 exact⟨λk=>k=g,λk=>k=gb,⟨hr.blk,λ_=>Iff.rfl⟩,All.one (A:=RbA gb (newImg k s u d r)) ⟨hr.row,λ_=>Iff.rfl⟩,λk a b=>hne (a.symm.trans b),λ_=>Iff.rfl⟩
def smallV:Value:= .agg #[(16384:Int),(64:Int),(512:Int),(128:Int),(64:Int)]
theorem small_walk(w:World):Calls prog 15 #[] w (Quiet smallV w):=by
 unfold smallV
 go_enter func15,ntmps15
 go_wp2
 have hb:=Blk.new w 60 #[(16384:Int),(64:Int),(512:Int),(128:Int),(64:Int)]
 have c0:=hb.cell 0
 have c1:=hb.cell 1
 have c2:=hb.cell 2
 have c3:=hb.cell 3
 have c4:=hb.cell 4
 exact bodyPost_ret (v:= .agg #[(16384:Int),(64:Int),(512:Int),(128:Int),(64:Int)]) (by simp[results,results15,go_sem,c0,c1,c2,c3,c4]) rfl ⟨rfl,(Below.refl _ _).alloc (Nat.le_refl _) _⟩
def newL(r:Rc):List Asr:=
 [RefA r.gC (Caps.made 0 0 ⟨#[]⟩),AllA (rstkL r.gR r.gRr 0 3 4 (List.replicate 8 0)),AllA (rstkL r.gD r.gDr 0 1 2 (List.replicate 16 0)),
  RDicA r.gS r.gb 16448 16960 704 false stu0,RDicA r.gK r.gb 0 16384 17152 false ker0,BlkA r.gT 179 (rturC 0 0 1 0 true),
  BlkA r.gM 121 (rimgCells r.gb img0),RbA r.gb img0]
def Made11(e:Ending)(B:Asr):Prop:= ∃(r:Rc) (gws:Nat),e = .returned (.tuple #[r.gW,.bool true])∧
 B=AllA (BlkA r.gW 81 (worldC r r.gK (.slice gws 1 1) 0 0 0 false)::BlkA gws 75 #[r.gK]::newL r)
def wC0(gM gT:Nat)(a1 a2 a3 a4 a5 a6 a7:Value):Array Value:=#[.pointer gM,a1,a2,a3,a4,a5,a6,a7,.pointer gT,.int .i64 0,.int .i64 0,.int .i64 0,.bool false,.slice none 0 0]
def nilP:Value:= .pointer none
def nilS:Value:= .slice none 0 0
theorem rep_of{w W:World}{F:Nat->Prop}{L:List Asr}{gM gb:Nat}{S:Img}(h:On F w (AllA L) W)(i j:Nat)(hi:L[i]? = some (BlkA gM 121 (rimgCells gb S)))(hj:L[j]? = some (RbA gb S))(hS:S.Ok):IRRep W gM gb S:=
 ⟨h.blkAt i hi,h.blkAt j hj,hS⟩
theorem span_of{w W:World}{F:Nat->Prop}{L:List Asr}{gM gb:Nat}(h:On F w (AllA L) W)(i j:Nat)(hi:L[i]? = some (BlkA gM 121 (rimgCells gb img0)))(hj:L[j]? = some (RbA gb img0))(r a b:Int)(ha:spanFrom img0 r=a)(hb:spanTo img0 r=b):
 Calls prog 46 #[gM,(r:Int)] W (Got (.returned (.tuple #[a,b])) (AllA L) F w):=by
 have hs:=r_span (rep_of h i j hi hj img0_ok) r
 rw[ha,hb]at hs
 refine hs.mono ?_
 rintro e w' ⟨he,hb⟩
 exact⟨he,h.below hb⟩
theorem err0:Caps.newErr 0 0 ⟨#[]⟩=0:=by decide
theorem w_new(w:World):Calls prog 14 #[smallV] w (PostE Made11 Nob w):=by
 have hon0:=(On.refl (A:=AllA []) (F:=Nob) (w:=w) (λ_ h=>h)).box #[(16384:Int),(64:Int),(512:Int),(128:Int),(64:Int)] 60
 have hr3:=λW=>(r3_new 16384 64 512 128 64 img0_fits W:Calls prog 44 #[smallV] W (PostE (λe B=> ∃g gb,e = .returned (.tuple #[.pointer (some ⟨g,0,none⟩),.bool true])∧B=AllA [BlkA g 121 (rimgCells gb img0),RbA gb img0]) Nob W))
 unfold smallV at hr3⊢
 replace hr3:=Lib.hid hr3
 replace hon0:=Lib.hid hon0
 go_enter func14,ntmps14
 go_wp2_with fail
 refine(hon0.out.make (hr3.out _)).mono ?_
 rintro e w1 ⟨B,⟨gM,gb,rfl,rfl⟩,hon1⟩
 replace hon1:=Lib.hid hon1.flat
 clear hon0 hr3
 go_wp2_with fail
 refine(hon1.out.make (rt_new _)).mono ?_
 rintro e w2 ⟨B,⟨gT,rfl,rfl⟩,hon2⟩
 have hon3:=hon2.box (wC0 gM gT nilP nilP nilP nilS nilP nilP nilP) 81
 obtain⟨gW,hgW⟩: ∃gW,w2.heap.size=gW:=⟨_,rfl⟩
 rw[hgW]at hon3
 unfold wC0 nilP nilS at hon3
 replace hon3:=Lib.hid hon3
 clear hon1 hon2
 go_wp2_with fail
 generalize w2.alloc (Obj.cells _ 81)=w3 at *
 clear hgW
 refine mo (span_of hon3.out 2 3 rfl rfl 1 0 16384 rfl rfl) λw4 hon4=>?_
 have b5:w4.cell? (gM,5)=some (.slice gb 17152 17152):=(hon4.blkAt 2 rfl).cell 5
 have hk:=(rd_new gb 0 16384 17152 oM oM 1 w4:Calls prog 47 #[.slice gb 16384 17152,(0:Int)] w4 (PostE (λe B=> ∃g,e = .returned (.pointer (some ⟨g,0,none⟩))∧B=RDicA g gb 0 16384 17152 false ker0) Nob w4))
 have hk2:=Lib.hid (hon4.make hk)
 replace hon4:=Lib.hid hon4
 clear hon3 hk
 go_wp2_with fail
 refine hk2.out.mono ?_
 rintro e w5 ⟨B,⟨gK,rfl,rfl⟩,hon5⟩
 have fW:=(hon5.blkAt 1 rfl).frozen 1
 have cW:w5.cell? (gW,1)=some (.pointer none):=(hon5.blkAt 1 rfl).cell 1
 have hon6:=Lib.hid (hon5.setAt 1 rfl 1 (.pointer gK))
 clear hk2 hon4 b5
 replace hon5:=Lib.hid hon5
 go_wp2_with fail
 generalize w5.setCell (gW,1) (.pointer gK)=w6 at *
 clear fW cW hon5
 refine mo (span_of hon6.out 3 4 rfl rfl 3 16448 16960 rfl rfl) λw7 hon7=>?_
 have b5:w7.cell? (gM,5)=some (.slice gb 17152 17152):=(hon7.blkAt 3 rfl).cell 5
 have hk:=(rd_new gb 16448 16960 704 oM oM 3 w7:Calls prog 47 #[.slice (some ⟨gb,16448,none⟩) 512 704,(16448:Int)] w7 (PostE (λe B=> ∃g,e = .returned (.pointer (some ⟨g,0,none⟩))∧B=RDicA g gb 16448 16960 704 false stu0) Nob w7))
 have hk2:=Lib.hid (hon7.make hk)
 replace hon7:=Lib.hid hon7
 clear hon6 hk
 go_wp2_with fail
 refine hk2.out.mono ?_
 rintro e w8 ⟨B,⟨gS,rfl,rfl⟩,hon8⟩
 clear hk2 hon7 b5
 have f2:=(hon8.blkAt 2 rfl).frozen 2
 have c2:w8.cell? (gW,2)=some (.pointer none):=(hon8.blkAt 2 rfl).cell 2
 have f3:=(hon8.blkAt 2 rfl).frozen 3
 have c3:w8.cell? (gW,3)=some (.pointer none):=(hon8.blkAt 2 rfl).cell 3
 have f4:=(hon8.blkAt 2 rfl).frozen 4
 have c4:w8.cell? (gW,4)=some (.slice none 0 0):=(hon8.blkAt 2 rfl).cell 4
 have c1:w8.cell? (gW,1)=some (gK:Vl):=(hon8.blkAt 2 rfl).cell 1
 have l0:=(hon8.blkAt 4 rfl).lt
 have hlW:=(hon8.blkAt 2 rfl).lt
 have hlw:w.heap.size<w8.heap.size:=(hon8.blkAt 6 rfl).lt
 have x3:w8.cell? (w.heap.size,3)=some (.int .i64 128):=(hon8.blkAt 6 rfl).cell 3
 have x4:w8.cell? (w.heap.size,4)=some (.int .i64 64):=(hon8.blkAt 6 rfl).cell 4
 have hneW:=hon8.neAt 2 6 (by decide) rfl rfl
 have hon9:=(((hon8.setAt 2 rfl 2 (.pointer gS)).setAt 2 rfl 3 (.pointer gK)).setAt 2 rfl 4 (.slice w8.heap.size 1 1)).box #[gK] 75
 have hsz: (((w8.setCell (gW,2) (.pointer gS)).setCell (gW,3) (.pointer gK)).setCell (gW,4) (.slice w8.heap.size 1 1)).heap.size=w8.heap.size:=by simp
 rw[hsz]at hon9
 replace hon9:=Lib.hid hon9
 replace hon8:=Lib.hid hon8
 clear hsz
 go_wp2_with fail
 clear f2 c2 f3 c3 f4 c4 c1 x3 x4
 generalize (((w8.setCell (gW,2) (.pointer gS)).setCell (gW,3) (.pointer gK)).setCell (gW,4) (.slice w8.heap.size 1 1)).alloc (.cells #[gK] 75)=w9 at *
 have hs4:=(rs_new 4 16 oM 1 2 (.inl ⟨rfl,rfl,rfl⟩) w9:Calls prog 48 #[(4:Int),(128:Int)] w9 (PostE (λe B=> ∃g gr,e = .returned (.tuple #[.pointer (some ⟨g,0,none⟩),.bool true])∧B=AllA (rstkL g gr 0 1 2 (List.replicate 16 0))) Nob w9))
 replace hs4:=hon9.out.make hs4
 refine hs4.mono ?_
 rintro e w10 ⟨B,⟨gD,gDr,rfl,rfl⟩,hon10⟩
 have f5:=(hon10.blkAt 4 rfl).frozen 5
 have c5:w10.cell? (gW,5)=some (.pointer none):=(hon10.blkAt 4 rfl).cell 5
 have hon11:=Lib.hid (hon10.setAt 4 rfl 5 (.pointer gD))
 have x4: (w10.setCell (gW,5) (.pointer gD)).cell? (w.heap.size,4)=some (.int .i64 64):=(hon11.out.blkAt 8 rfl).cell 4
 clear hs4 hon9
 replace hon10:=Lib.hid hon10
 go_wp2_with fail
 generalize w10.setCell (gW,5) (.pointer gD)=w11 at *
 have hs5:=(rs_new 5 8 oM 3 4 (.inr ⟨rfl,rfl,rfl⟩) w11:Calls prog 48 #[(5:Int),(64:Int)] w11 (PostE (λe B=> ∃g gr,e = .returned (.tuple #[.pointer (some ⟨g,0,none⟩),.bool true])∧B=AllA (rstkL g gr 0 3 4 (List.replicate 8 0))) Nob w11))
 replace hs5:=hon11.out.make hs5
 refine hs5.mono ?_
 rintro e w12 ⟨B,⟨gR,gRr,rfl,rfl⟩,hon12⟩
 clear hs5 hon11 f5 c5 x4
 have f6:=(hon12.blkAt 5 rfl).frozen 6
 have c6:w12.cell? (gW,6)=some (.pointer none):=(hon12.blkAt 5 rfl).cell 6
 have hon13:=Lib.hid (hon12.setAt 5 rfl 6 (.pointer gR))
 replace hon12:=Lib.hid hon12
 go_wp2_with fail
 generalize w12.setCell (gW,6) (.pointer gR)=w13 at *
 clear f6 c6 hon12
 have hc9:=make_of_at (w:=w13) (R:=λe B=> ∃g,e = .returned (.tuple #[.pointer (some ⟨g,0,none⟩),(0:Int)])∧B=RefA g (Caps.made 0 0 ⟨#[]⟩)) (λw0 L h=>(r_new h 0 0 ⟨#[]⟩ err0).mono λe w' ⟨g,he,h2⟩=>⟨_,⟨g,he,rfl⟩,h2⟩)
 replace hc9:=hon13.out.make hc9
 refine hc9.mono ?_
 rintro e w14 ⟨B,⟨gC,rfl,rfl⟩,hon14⟩
 clear hc9 hon13
 have f7:=(hon14.blkAt 6 rfl).frozen 7
 have c7:w14.cell? (gW,7)=some (.pointer none):=(hon14.blkAt 6 rfl).cell 7
 have hon15:=hon14.setAt 6 rfl 7 (.pointer gC)
 have hd:=((hon15.drop 10 rfl).front 3 rfl).front 6 rfl
 replace hd:=Lib.hid hd
 clear hon15
 replace hon14:=Lib.hid hon14
 go_wp2
 go_ret2
 exact⟨_,⟨⟨gW,gM,gb,gK,gS,gD,gDr,gR,gRr,gC,gT⟩,w8.heap.size,rfl,rfl⟩,hd.out⟩
structure Rw where
 S:Img
 K:Dc
 D:Dc
 kcl:Bool
 T:Caps.Tab
 dd:Nat
 da:List Int
 rd:Nat
 ra:List Int
 fault:Int
 used:Int
 hidden:Int
 tells:Bool
def docL(r:Rc)(l:Nat)(ws:Value)(x:Rw):List Asr:=
 [BlkA r.gW 81 (worldC r l ws x.fault x.used x.hidden x.tells),RefA r.gC x.T,AllA (rstkL r.gR r.gRr x.rd 3 4 x.ra),AllA (rstkL r.gD r.gDr x.dd 1 2 x.da),
  RDicA r.gS r.gb 16448 16960 704 false x.D,RDicA r.gK r.gb 0 16384 17152 x.kcl x.K,BlkA r.gT 179 (rturC 0 0 1 0 true),
  BlkA r.gM 121 (rimgCells r.gb x.S),RbA r.gb x.S]
def DocA(r:Rc)(l:Nat)(ws:Value)(x:Rw):Asr:=AllA (docL r l ws x)
theorem rimg_alike(gb:Nat){S S':Img}(h:Alike S S'):rimgCells gb S'=rimgCells gb S:=by
 unfold rimgCells
 rw[h.k,h.s,h.u,h.d,h.r,h.op,h.cl,h.beg]
section
variable {w w1:World}{F:Nat->Prop}{r:Rc}{l:Nat}{ws:Value}{x:Rw}
theorem doc_world(h:On F w (DocA r l ws x) w1):Blk w1 r.gW 81 (worldC r l ws x.fault x.used x.hidden x.tells):=On.blkAt (L:=docL r l ws x) 0 h rfl
theorem doc_rep(h:On F w (DocA r l ws x) w1)(hS:x.S.Ok):IRRep w1 r.gM r.gb x.S:=rep_of (L:=docL r l ws x) h 7 8 rfl rfl hS
theorem w_base(h:On F w (DocA r l ws x) w1)(hS:x.S.Ok):Calls prog 34 #[r.gW] w1 (Quiet (x.S.beg 3:Int) w1):=by
 have hs:=r_span (doc_rep h hS) 3
 have ha:spanFrom x.S 3= (x.S.beg 3:Int):=by unfold spanFrom;rw[if_pos oM];rfl
 rw[ha]at hs
 have c0:w1.cell? (r.gW,0)=some (r.gM:Vl):=(doc_world h).cell 0
 replace hs:=Lib.hid hs
 clear h ha hS
 go_enter func34,ntmps34
 go_wp2_with fail
 refine mo hs.out λw2 hb=>?_
 replace hb:=Lib.hid hb
 go_wp2
 go_ret
 exact⟨rfl,hb.out⟩
theorem w_caps(hb: (DocA r l ws x).holds w F)(p rm:Int)(s:ByteArray)(h0:Caps.newErr p rm s=0):Calls prog 18 #[r.gW,p,rm,.string s] w
 (PostE (λe B=> ∃g,e = .returned (.int .i64 0)∧B=DocA { r with gC:=g } l ws { x with T:=Caps.made p rm s }) F w):=by
 have hon:On F w (AllA (docL r l ws x)) w:=On.refl hb
 have hc9:=make_of_at (w:=w) (R:=λe B=> ∃g,e = .returned (.tuple #[.pointer (some ⟨g,0,none⟩),(0:Int)])∧B=RefA g (Caps.made p rm s)) (λw0 L h=>(r_new h p rm s h0).mono λe w' ⟨g,he,h2⟩=>⟨_,⟨g,he,rfl⟩,h2⟩)
 replace hc9:=Lib.hid (hon.make hc9)
 clear hb hon h0
 go_enter func18,ntmps18
 go_wp2_with fail
 refine hc9.out.mono ?_
 rintro e w2 ⟨B,⟨g,rfl,rfl⟩,hon2⟩
 have f7:=(On.blkAt 1 hon2 rfl).frozen 7
 have c7:w2.cell? (r.gW,7)=some (r.gC:Vl):=(On.blkAt 1 hon2 rfl).cell 7
 have hon3:=On.setAt 1 hon2 rfl 7 (.pointer g)
 have hd:On F w (AllA (docL { r with gC:=g } l ws { x with T:=Caps.made p rm s })) _:=(On.drop (On.front 1 hon3 rfl) 2 rfl)
 replace hd:=Lib.hid hd
 replace hon2:=Lib.hid hon2
 clear hon3
 go_wp2
 go_ret
 exact⟨_,⟨g,rfl,rfl⟩,hd.out⟩
theorem w_open(hb: (DocA r l ws x).holds w F)(hS:x.S.Ok)(hc:x.S.cl=false):Calls prog 25 #[r.gW] w (Got (.returned (.tuple #[])) (DocA r l ws { x with S:={ x.S with op:=true } }) F w):=by
 have hon:On F w (DocA r l ws x) w:=On.refl hb
 have hop:=r_open (doc_rep hon hS) hc
 have c0:w.cell? (r.gW,0)=some (r.gM:Vl):=(doc_world hon).cell 0
 have hfin:On F w (AllA (docL r l ws { x with S:={ x.S with op:=true } })) (w.setCell (r.gM,6) (.bool true)):=On.setAt (L:=docL r l ws x) 7 hon rfl 6 (.bool true)
 replace hop:=Lib.hid hop
 replace hfin:=Lib.hid hfin
 clear hb hon hS hc
 go_enter func25,ntmps25
 go_wp2_with fail
 refine hop.out.mono ?_
 rintro e w2 ⟨rfl,rfl⟩
 go_wp2
 go_end0
 exact⟨rfl,hfin.out⟩
theorem w_seal(hb: (DocA r l ws x).holds w F)(hS:x.S.Ok)(hc:x.S.cl=false):Calls prog 29 #[r.gW] w (Got (.returned (.tuple #[])) (DocA r l ws { x with S:=x.S.sealed,kcl:=true }) F w):=by
 have hon:On F w (DocA r l ws x) w:=On.refl hb
 have hop:=r_seal (doc_rep hon hS) hc
 have c0:w.cell? (r.gW,0)=some (r.gM:Vl):=(doc_world hon).cell 0
 have hmid:On F w (AllA (docL r l ws { x with S:=x.S.sealed })) (w.setCell (r.gM,7) (.bool true)):=On.setAt (L:=docL r l ws x) 7 hon rfl 7 (.bool true)
 have c1: (w.setCell (r.gM,7) (.bool true)).cell? (r.gW,1)=some (r.gK:Vl):=(doc_world (x:={ x with S:=x.S.sealed }) hmid).cell 1
 have hbk:Blk (w.setCell (r.gM,7) (.bool true)) r.gK 149 (rdicC r.gb 0 16384 17152 x.kcl x.K):=On.blkAt (L:=docL r l ws { x with S:=x.S.sealed }) 5 hmid rfl
 have ck: (w.setCell (r.gM,7) (.bool true)).cell? (r.gK,2)=some (.bool x.kcl):=hbk.cell 2
 have fk:=hbk.frozen 2
 have hfin:On F w (AllA (docL r l ws { x with S:=x.S.sealed,kcl:=true })) _:=On.setAt (L:=docL r l ws { x with S:=x.S.sealed }) 5 hmid rfl 2 (.bool true)
 replace hop:=Lib.hid hop
 replace hfin:=Lib.hid hfin
 clear hb hon hS hc hmid hbk
 generalize w.setCell (r.gM,7) (.bool true)=wm at *
 go_enter func29,ntmps29
 go_wp2_with fail
 refine hop.out.mono ?_
 rintro e w2 ⟨rfl,rfl⟩
 go_wp2
 go_end0
 exact⟨rfl,hfin.out⟩
end
end Vm
end Go.Proofs.YtngdikikclfgjaaGreatDoor
