/- Chapter 11. Conditions: as written. -/
import Derived.Test.YtilaogbkdbbdkaaGreatDoorZVNewW
import Derived.Test.YtilaogbkdbbdkaaGreatDoorZ43
namespace Go.Proofs.YtilaogbkdbbdkaaGreatDoor
set_option linter.unusedVariables false
set_option linter.unusedSimpArgs false
set_option maxRecDepth 100000
open Go.RowKit Go.Lib Go.Deep
namespace Vm
section
variable {w W:World}{F:Nat->Prop}{a:Mw}{b:Bc}{r:Rc}{x:Rw}{t:Mt}{cs data:List Int}{base:Int}
end
def eD(w0:World):Asr where
 holds w F:=(∀k,F k↔k<w0.heap.size)∧Below w0.heap.size w0 w
 lt h hk:=by
  have h1:=(h.1 _).1 hk
  have h2:=h.2.size
  omega
 kept h hk hT:=⟨h.1,Below.qE h.2 hk (λk ht=>by
  rcases Nat.lt_or_ge k _ with h1|h1
  ·exact absurd ht (hT k ((h.1 k).2 h1))
  ·exact h1) (Nat.le_refl _)⟩
def gN(w0:World):Nat->Prop:=λk=>k<w0.heap.size
theorem Eu(w0:World):On (gN w0) w0 (aa [eD w0]) w0:=On.refl ⟨λk=>k<w0.heap.size,λ_=>False,⟨λ_=>Iff.rfl,Below.refl _ _⟩,λ_ h=>h,λ_ _ h=>h,λk=>⟨λh=> .inl h,λh=>h.elim id (λh=>h.elim)⟩⟩
theorem On.old{w0 W w:World}{F:Nat->Prop}{L:List Asr}(i:Nat)(h:On F w (aa L) W)(hi:L[i]? = some (eD w0)):Below w0.heap.size w0 W:=by
 obtain⟨F',hF⟩:=h.at_ i hi
 exact hF.2
def Vc.plus(c:Vc)(A:Asr):Vc:={ c with rest:=λe=>c.rest e ++ [A] }
theorem K1(c:Vc)(A:Asr)(s:Mt):mL (c.plus A) s=mL c s ++ [A]:=rfl
theorem At8.dU{S S':Img}{D:Dc}{fr en:Nat}(h:At8 S D fr en)(hb: ∀n,S'.beg n=S.beg n)(hS:S'.Ok):At8 S' D fr en:=by
 have e1:D.fr S'=D.fr S:=by unfold Dc.fr;rw[hb]
 have e2:D.lim S'=D.lim S:=by unfold Dc.lim;rw[hb]
 exact⟨⟨h.ok.rg,by rw[e1];exact h.ok.lo,by rw[e2];exact h.ok.hi,by rw[e1,e2];exact h.ok.l,by rw[e2,hb];exact h.ok.al,by rw[e2,hb];exact h.ok.room⟩,hS,by rw[e1];exact h.fr,by rw[e2];exact h.lim⟩
theorem vu{S T:Img}(hS:bH S)(hT:bH T)(n:Nat):S.beg n=T.beg n:=by
 unfold Img.beg
 rw[hS.k,hS.s,hS.u,hS.d,hS.r,hT.k,hT.s,hT.u,hT.d,hT.r]
theorem ny:bH bk:=⟨rfl,rfl,rfl,rfl,rfl⟩
theorem QO(s:Setup):s.m0.Ok:=by
 refine⟨?_,?_,?_,?_,rfl,rfl,rfl,rfl⟩
 ·exact⟨by show 16960<=143360;omega,by show 16<=512;omega⟩
 ·exact⟨by show 17088<=143360;omega,by show 8<=512;omega⟩
 ·show 0<=16;omega
 ·show 0<=8;omega
theorem PO(s:Setup):s.m1.Ok:=by
 have h1:=nO (QO s) (s.data.take 16) (by
  show(s.data.take 16).length<=16-0
  rw[List.length_take];omega)
 exact eU h1 (s.ret.take 8) (by
  show(s.ret.take 8).length<=8-0
  rw[List.length_take];omega)
theorem Ie(s:Setup):s.mt.Ok:=by
 have h:=PO s
 exact⟨h.pd,h.pr,h.d,h.r,h.du,h.dv,h.ru,h.rv⟩
theorem QK(s:Setup):s.m1.S.Ok∧bH s.m1.S:=by
 obtain⟨h1,h2⟩:=lQ s
 have a1:Alike s.i3 (aY s.i3 16960 0 (s.data.take 16)):=Alike.aY _ _ _ _
 have o1:=eN (s.data.take 16) s.i3 16960 0 h1
 have a2:Alike (aY s.i3 16960 0 (s.data.take 16)) (aY (aY s.i3 16960 0 (s.data.take 16)) 17088 0 (s.ret.take 8)):=Alike.aY _ _ _ _
 have o2:=eN (s.ret.take 8) _ 17088 0 o1
 exact⟨o2,h2.alike (a1.trans a2)⟩
theorem AK(s:Setup):s.mt.S.Ok∧bH s.mt.S:=by
 obtain⟨h1,h2⟩:=QK s
 exact⟨fG h1 _ _ _,h2.alike (Alike.setCell _ _ _ _)⟩
theorem Kl(s:Setup):At8 s.t1.1 s.t1.2 16456 16960∧s.t1.2.rg=3∧At8 s.t1.1 s.k1.2 8 16384∧s.k1.2.rg=1∧bH s.t1.1:=by
 have gk:=er s.kernel (bk,gH) gn (oj (Alike.refl _))
 have gt:=er s.aT (s.k1.1,iA) gk.img (om gk.al)
 have hk:At8 s.k1.1 s.k1.2 8 16384:=CT.next gk.img gk.dc gk.al gk.rg
 have hu:At8 s.k1.1 iA 16456 16960:=CP.next gk.img (om gk.al) gk.al rfl
 have hl:bH s.t1.1:=(ny.alike gk.al).alike gt.al
 exact⟨hu.next gt.img gt.dc gt.al gt.rg,gt.rg,hk.dU (vu hl (ny.alike gk.al)) gt.img,gk.rg,hl⟩
theorem Nw{c:Vc}{src:Value}(s:Setup)(h1:c.sfr=16456)(h2:c.sto=16960):Dcs c src s.mt:=by
 obtain⟨a1,a2,_,_,a5⟩:=Kl s
 obtain⟨b1,b2⟩:=AK s
 refine⟨Int.natCast_nonneg _,Int.natCast_nonneg _,?_⟩
 rw[h1,h2]
 have e:dS s.mt=s.t1.2:=by
  have e1:dS s.mt= ⟨3,((s.t1.2.h:Nat):Int).toNat,((s.t1.2.l:Nat):Int).toNat⟩:=rfl
  rw[e1,Int.toNat_natCast,Int.toNat_natCast,<-a2]
 rw[e]
 exact a1.dU (vu b2 a5) b1
theorem Kk(s:Setup):At8 s.mt.S (dK s.mt) 8 16384:=by
 obtain⟨_,_,a3,a4,a5⟩:=Kl s
 obtain⟨b1,b2⟩:=AK s
 have e:dK s.mt=s.k1.2:=by
  have e1:dK s.mt= ⟨1,((s.k1.2.h:Nat):Int).toNat,((s.k1.2.l:Nat):Int).toNat⟩:=rfl
  rw[e1,Int.toNat_natCast,Int.toNat_natCast,<-a4]
 rw[e]
 exact a3.dU (vu b2 a5) b1
theorem Oe{a:Mw}{b:Bc}{r:Rc}{x:Rw}(s:Setup)(hv:AD s)(w0:World)(hP:Pows w0)(hB:Bruijn w0):WkN ((cL a b r x).plus (eD w0)) (.pointer none) s.mt:=
 ⟨⟨Nw s rfl rfl,Int.natCast_nonneg _,Int.natCast_nonneg _,Kk s,⟨0,λ_=>rfl⟩,
   ⟨((cL a b r x).rest Ext.zero).length,eD w0,λe=>by
     show((cL a b r x).rest e ++ [eD w0])[((cL a b r x).rest Ext.zero).length]? = _
     rw[show(cL a b r x).rest e= (cL a b r x).rest Ext.zero from rfl,List.getElem?_append_right (Nat.le_refl _),Nat.sub_self]
     rfl,λw F h=>⟨hP.below h.2,hB.below h.2⟩⟩,
   .inl rfl,hv.fa,hv.us,hv.hd⟩,rfl⟩
def Nf(c:Vc)(t:Mt)(w0:World):Asr:=aa [aa (mL c t),eD w0]
section
variable {W w0:World}{F:Nat->Prop}{a:Mw}{b:Bc}{r:Rc}{x:Rw}{t t':Mt}
theorem rD(c:Vc): (Nf c t w0).holds W F↔(aa (mL (c.plus (eD w0)) t)).holds W F:=by
 constructor
 ·intro h
  obtain⟨F1,F2,h1,h2,hd,hF⟩:=h
  exact All.vG (All.append h1 h2 hd) hF
 ·intro h
  rw[K1]at h
  obtain⟨F1,F2,h1,h2,hd,hF⟩:=All.split h
  exact⟨F1,F2,h1,h2,hd,hF⟩
end
def ey:ByteArray:=⟨#[106,117,100,103,101]⟩
def Qs:List UInt8:=[0,0,0,0,0,0,0,0,5,106,117,100,103,101]
def pW(S:Img):Prop:= ∀i,i<14->S.b.getD (8+i) 0=Qs.getD i 0
def CN:Wd:=⟨[106,117,100,103,101],8,24,false,false,false⟩
theorem KV{S:Img}{D:Dc}(hS:S.Ok)(hL:bH S)(h:pW S)(WB:D.rg=1):eB S D 8=some (CN,0):=by
 obtain⟨b2,b3,b4,b5,b6⟩:=hL.dU
 have hlen:=hS.len
 have Z9:D.fr S=8:=by unfold Dc.fr;rw[WB];rfl
 have hdX:D.lim S=16384:=by unfold Dc.lim;rw[WB];exact b2
 have h8:S.b.getD (8+8) 0=5:=h 8 oM
 have e1: (S.b.drop 8).take 8 = [0,0,0,0,0,0,0,0]:=lK S.b 8 [0,0,0,0,0,0,0,0] (by simp;omega) (λi hi=>by
  have hi:i<8:=hi
  rw[h i oM]
  have:i=0∨i=1∨i=2∨i=3∨i=4∨i=5∨i=6∨i=7:=by omega
  rcases this with rfl|rfl|rfl|rfl|rfl|rfl|rfl|rfl<;>rfl)
 have e2: (S.b.drop 17).take 5 = [106,117,100,103,101]:=lK S.b 17 [106,117,100,103,101] (by simp;omega) (λi hi=>by
  have hi:i<5:=hi
  rw[show 17+i=8+ (9+i)by omega,h (9+i) oM]
  have:i=0∨i=1∨i=2∨i=3∨i=4:=by omega
  rcases this with rfl|rfl|rfl|rfl|rfl<;>rfl)
 unfold eB
 rw[Z9,hdX,if_neg oM]
 have e3: (8:Int).toNat=8:=rfl
 simp only[e3,h8]
 rw[if_neg (by decide),show(5:UInt8).toNat % 32=5 from rfl,e2,e1]
 have hz:ofB [0,0,0,0,0,0,0,0]=0:=by decide +kernel
 have hu:up (8+9+5)=24:=by decide
 rw[hz,hu]
 rfl
theorem Pq{S:Img}{D:Dc}(hS:S.Ok)(hL:bH S)(h:pW S)(WB:D.rg=1)(hl:D.l=8):gV S D ey.data.toList=some CN:=by
 have Z9:D.fr S=8:=by unfold Dc.fr;rw[WB];rfl
 have hw:words S D = [CN]:=by
  unfold words
  rw[hl]
  unfold eI
  rw[show((8:Nat):Int)=8 from rfl,KV hS hL h WB]
  simp only
  rw[if_neg oM]
  unfold eI
  have:eB S D 0=none:=by
   unfold eB
   rw[if_pos (.inr (.inl (by rw[Z9];omega)))]
  rw[this]
 unfold gV
 rw[hw]
 rfl
def ke:List UInt8:=[0,0,0,0,0,0,0,0,37,106,117,100,103,101,0,0]
theorem mC:gH.bU bk [106,117,100,103,101]=0:=by decide
theorem I9:gH.eW [106,117,100,103,101]=ke:=by decide
def kK:Img:=(bk.put 8 ke).put 16 [5]
def dJ:Dc:=⟨1,24,8⟩
theorem IX:kK.Ok:=cY (cY gn _ _ (by decide)) _ _ (by decide)
theorem oY: (bk.put 8 ke).b.length=17152:=by rw[bk.iz _ _ (by rw[gG];decide),gG]
theorem si:kK.b.length=17152:=by
 unfold kK
 rw[Img.iz _ _ _ (by rw[oY];decide),oY]
theorem KU:pW kK:=by
 intro i hi
 unfold kK
 rw[Img.dZ _ _ _ _ (by rw[oY];decide)]
 by_cases h8:i=8
 ·subst h8
  rw[if_pos (by simp)]
  rfl
 ·rw[if_neg (by simp;omega),Img.dZ _ _ _ _ (by rw[gG];decide),if_pos (by
   have:ke.length=16:=rfl
   omega),show 8+i-8=i by omega]
  have:i=0∨i=1∨i=2∨i=3∨i=4∨i=5∨i=6∨i=7∨i=9∨i=10∨i=11∨i=12∨i=13:=by omega
  rcases this with rfl|rfl|rfl|rfl|rfl|rfl|rfl|rfl|rfl|rfl|rfl|rfl|rfl<;>rfl
theorem NN(cs:List Int)(hc:24+8*cs.length<=16384):db ⟨ey,false,false,cs⟩ (bk,gH)= (kK.put 24 (cC cs),⟨1,24+8*cs.length,8⟩):=by
 have e1:gH.bQ bk [106,117,100,103,101]=bk.put 8 ke:=by
  unfold Dc.bQ
  rw[if_pos mC,I9]
  rfl
 have e2:gH.cg bk [106,117,100,103,101]=dJ:=by
  unfold Dc.cg
  rw[if_pos mC]
  rfl
 have e3:lu ⟨ey,false,false,cs⟩ (bk.put 8 ke) dJ=kK:=by
  unfold lu
  simp only[Bool.false_eq_true,if_false]
  unfold Dc.bO
  rw[if_neg (by decide)]
  have h0: (bk.put 8 ke).b.getD 16 0=37:=by
   rw[Img.dZ _ _ _ _ (by rw[gG];decide),if_pos (by decide)]
   rfl
  show(bk.put 8 ke).put 16 [eH ((bk.put 8 ke).b.getD 16 0)]=_
  rw[h0]
  rfl
 unfold db
 rw[show ey.data.toList = [106,117,100,103,101]from rfl,mC,if_neg (by decide),e1,e2,e3]
 have hD:dJ.Ok kK:=by
  refine Dc.Ok.alike (S:=bk) ⟨.inl rfl,by decide,by decide,.inr (by decide),by decide,by decide⟩ ((Alike.put _ _ _).trans (Alike.put _ _ _))
 have hlm:dJ.lim kK=16384:=by decide
 have hhh:dJ.h=24:=rfl
 have:=mO cs kK dJ IX hD (by decide) (by rw[hlm,hhh];omega) (by decide)
 exact this
def Low(S S':Img):Prop:= ∀i,i<16384->S'.b.getD i 0=S.b.getD i 0
theorem Low.refl(S:Img):Low S S:=λ_ _=>rfl
theorem Low.trans{A B C:Img}(h:Low A B)(k:Low B C):Low A C:=λi hi=>(k i hi).trans (h i hi)
theorem ob{S:Img}(k:Nat)(l:List UInt8)(hk:k+l.length<=S.b.length)(h:16384<=k):Low S (S.put k l):=λi hi=>by
 rw[Img.dZ _ _ _ _ hk,if_neg oM]
theorem pW.low{S S':Img}(h:pW S)(hl:Low S S'):pW S':=λi hi=>(hl _ oM).trans (h i hi)
structure Stu(q:Img×Dc):Prop where
 img:q.1.Ok
 dc:q.2.Ok q.1
 lay:bH q.1
 rg:q.2.rg=3
theorem Stu.AS{q q':Img×Dc}(h:Stu q)(g:dX q q'):Stu q':=⟨g.img,g.dc,h.lay.alike g.al,g.rg.trans h.rg⟩
theorem Stu.fr{q:Img×Dc}(h:Stu q):q.2.fr q.1=16456∧q.2.lim q.1=16960∧q.1.b.length=17152:=by
 obtain⟨b2,b3,b4,b5,b6⟩:=h.lay.dU
 refine⟨by unfold Dc.fr;rw[h.rg,b3],by unfold Dc.lim;rw[h.rg];exact b4,by rw[h.img.len,b6]⟩
theorem Bm{q:Img×Dc}(h:Stu q)(n:List UInt8):Low q.1 (q.2.bQ q.1 n):=by
 obtain⟨f1,f2,f3⟩:=h.fr
 have Sg:=h.dc.lo
 unfold Dc.bQ
 split
 ·rename_i hf
  refine ob _ _ ?_ oM
  have hz:q.2.lim q.1≥up q.2.h+ (8+up (1+n.length)):=by
   unfold Dc.bU at hf
   split at hf
   ·cases hf
   split at hf
   ·cases hf
   ·omega
  have hu:=ee q.2.h
  have hv:=ee (1+n.length)
  have hl: (q.2.eW n).length=up q.2.h-q.2.h+ (8+ (1+ (n.length+ (up (1+n.length) - (1+n.length))))):=by
   unfold Dc.eW
   simp only[List.length_append,List.length_replicate,aI,List.length_cons]
   omega
  rw[hl]
  omega
 ·exact Low.refl _
theorem Fc{q:Img×Dc}(h:Stu q)(v:Int):Low q.1 (q.2.bi q.1 v):=by
 obtain⟨f1,f2,f3⟩:=h.fr
 have Sg:=h.dc.lo
 unfold Dc.bi
 split
 ·rename_i hf
  refine ob _ _ ?_ oM
  unfold Dc.bm at hf
  split at hf
  ·cases hf
  ·rw[aI];omega
 ·exact Low.refl _
theorem zE{q:Img×Dc}(h:Stu q)(t:UInt8->UInt8):Low q.1 (q.2.bO q.1 t):=by
 obtain⟨f1,f2,f3⟩:=h.fr
 unfold Dc.bO
 split
 ·exact Low.refl _
 ·rename_i hf
  have hl:=h.dc.l
  refine ob _ _ ?_ ?_
  ·show _+1<=_
   rcases hl with hl|hl
   ·exact absurd (.inl hl) hf
   ·omega
  ·rcases hl with hl|hl
   ·exact absurd (.inl hl) hf
   ·omega
theorem sF: ∀(l:List Int) (q:Img×Dc),Stu q->Low q.1 (eO l q).1
 | [],q,_=>Low.refl _
 | v::l,q,h=>by
   unfold eO
   split
   ·have g:=kh (S:=q.1) (D:=q.2) h.img h.dc v
    exact(Fc h v).trans (sF l _ (h.AS g))
   ·exact Low.refl _
theorem GZ(x:Wrd){q:Img×Dc}(h:Stu q):Low q.1 (lu x q.1 q.2):=by
 have h1:Low q.1 (if x.hid then q.1 else q.2.bO q.1 eH)∧Stu (if x.hid then q.1 else q.2.bO q.1 eH,q.2):=by
  split
  ·exact⟨Low.refl _,h⟩
  ·exact⟨zE h _,h.AS (oW (S:=q.1) (D:=q.2) h.img h.dc)⟩
 unfold lu
 split
 ·exact h1.1.trans (zE h1.2 _)
 ·exact h1.1
theorem Gg(x:Wrd){q:Img×Dc}(h:Stu q):Low q.1 (db x q).1:=by
 unfold db
 split
 ·exact Low.refl _
 ·have g:=lj (S:=q.1) (D:=q.2) h.img h.dc x.name.data.toList
  have k:=h.AS g
  have g2:=uk x k.img k.dc
  exact((Bm h _).trans (GZ x k)).trans (sF _ _ (k.AS g2))
theorem xY: ∀(xs:List Wrd) (q:Img×Dc),Stu q->Low q.1 (xs.foldl (λq x=>db x q) q).1
 | [],q,_=>Low.refl _
 | x::xs,q,h=>(Gg x h).trans (xY xs _ (h.AS (uv x q h.img h.dc)))
theorem HC(xs:List Wrd){q:Img×Dc}(h:Stu q):Low q.1 (co xs q).1:=xY _ q h
def KAt(S:Img)(cs:List Int):Prop:= ∀i v,cs[i]? = some v->ofB (S.bytes ((24+8*i:Nat):Int) 8)=v
theorem KAt.low{S S':Img}{cs:List Int}(h:KAt S cs)(hS:S.Ok)(hL:bH S)(hS':S'.Ok)(hL':bH S')(hc:24+8*cs.length<=16384)(hl:Low S S'):KAt S' cs:=λi v hv=>by
 have hi:i<cs.length:=(List.getElem?_eq_some_iff.1 hv).1
 have e:S'.bytes ((24+8*i:Nat):Int) 8=S.bytes ((24+8*i:Nat):Int) 8:=by
  unfold Img.bytes
  have b:=hL.dU.2.2.2.2
  have b':=hL'.dU.2.2.2.2
  have e3: ((24+8*i:Nat):Int).toNat=24+8*i:=rfl
  rw[e3]
  exact jR _ _ _ _ _ (by rw[hS'.len,b'];omega) (by rw[hS.len,b];omega) λk hk=>hl _ oM
 rw[e]
 exact h i v hv
structure tF(s:Setup)(cs:List Int):Prop where
 ker:s.kernel = [⟨ey,false,false,cs⟩]
 len:24+8*cs.length<=16384
 v64: ∀v∈cs,V64 v
section
variable {s:Setup}{cs:List Int}
theorem Jj(h:tF s cs):s.k1= (kK.put 24 (cC cs),⟨1,24+8*cs.length,8⟩):=by
 have e:s.k1=db ⟨ey,false,false,cs⟩ (bk,gH):=by
  unfold Setup.k1 co
  rw[h.ker]
  rfl
 rw[e]
 exact NN cs h.len
theorem Lj(h:tF s cs):s.k1.1.Ok∧bH s.k1.1∧pW s.k1.1∧KAt s.k1.1 cs:=by
 have gk:=er s.kernel (bk,gH) gn (oj (Alike.refl _))
 have hl:=kj cs
 have hlen:=h.len
 have e1:s.k1.1=kK.put 24 (cC cs):=by rw[Jj h]
 refine⟨gk.img,ny.alike gk.al,?_,?_⟩
 ·rw[e1]
  intro i hi
  rw[Img.dZ _ _ _ _ (by rw[si,hl];omega),if_neg oM]
  exact KU i hi
 ·rw[e1]
  intro i v hv
  have hi:i<cs.length:=(List.getElem?_eq_some_iff.1 hv).1
  rw[Img.kg _ 24 (8*i) 8 _ (by rw[hl,si];omega) (by rw[hl];omega),oR cs i v hv]
  exact vK v (h.v64 v (List.mem_of_getElem? hv))
theorem HW(s:Setup):Low s.k1.1 s.mt.S:=by
 have gk:=er s.kernel (bk,gH) gn (oj (Alike.refl _))
 have hu:Stu (s.k1.1,iA):=⟨gk.img,om gk.al,ny.alike gk.al,rfl⟩
 have l1:Low s.k1.1 s.t1.1:=HC s.aT hu
 have ht:=hu.AS (er s.aT _ hu.img hu.dc)
 have V8:s.t1.1.b.length=17152:=ht.fr.2.2
 have hct:bH s.t1.1:=ht.lay
 have l2:Low s.t1.1 s.i3:=by
  have ho:s.i2.b=s.t1.1.b∧s.i2.beg 2=16384∧s.i2.s=64:=by
   have hb:=hct.dU.1
   unfold Setup.i2
   split
   ·unfold Img.opened
    split
    ·exact⟨rfl,hb,hct.s⟩
    ·exact⟨rfl,hb,hct.s⟩
   ·exact⟨rfl,hb,hct.s⟩
  obtain⟨o1,o2,o3⟩:=ho
  have hh:s.hid.data.toList.length<=64:=by
   have:=s.sf
   have e:s.hid.data.toList.length=s.hid.size:=rfl
   omega
  intro i hi
  show(Setup.load s.i2 s.hid.data.toList).b.getD i 0=_
  unfold Setup.load
  rw[o2,o3]
  have hp:=ob (S:=s.i2) 16384 (s.hid.data.toList++List.replicate (64-s.hid.data.toList.length) 0) (by
   rw[o1,V8,List.length_append,List.length_replicate];omega) (Nat.le_refl _) i hi
  rw[hp,o1]
 obtain⟨i1,i2⟩:=lQ s
 have p1:=lW (s.data.take 16) s.i3 16960 0 i1 i2 (.inl ⟨rfl,by rw[List.length_take];omega⟩)
 have a1:Alike s.i3 (aY s.i3 16960 0 (s.data.take 16)):=Alike.aY _ _ _ _
 have p2:=lW (s.ret.take 8) (aY s.i3 16960 0 (s.data.take 16)) 17088 0 p1.1 (i2.alike a1) (.inr ⟨rfl,by rw[List.length_take];omega⟩)
 have l3:Low s.i3 s.m1.S:=λi hi=>(p2.2 i oM).trans (p1.2 i oM)
 have l4:Low s.m1.S s.mt.S:=by
  show Low s.m1.S (s.m1.S.setCell 0 16448 s.base)
  obtain⟨m1,m2⟩:=QK s
  rw[s6 m2]
  exact ob _ _ (by rw[aI,m1.len,m2.dU.2.2.2.2];omega) oM
 exact((l1.trans l2).trans l3).trans l4
theorem Ib(h:tF s cs):pW s.mt.S∧KAt s.mt.S cs∧(dK s.mt).rg=1∧(dK s.mt).l=8:=by
 obtain⟨k1,k2,k3,k4⟩:=Lj h
 obtain⟨m1,m2⟩:=AK s
 refine⟨k3.low (HW s),k4.low k1 k2 m1 m2 h.len (HW s),rfl,?_⟩
 show(s.mt.lk).toNat=8
 have e:s.mt.lk= (s.k1.2.l:Int):=rfl
 rw[e,Jj h]
 rfl
theorem L4(h:tF s cs):gV s.mt.S (dK s.mt) ey.data.toList=some CN:=by
 obtain⟨a,_,b,c⟩:=Ib h
 exact Pq (AK s).1 (AK s).2 a b c
end
theorem KAt.cell{S:Img}{cs:List Int}(h:KAt S cs)(hL:bH S)(hc:24+8*cs.length<=16384)(i:Nat)(v:Int)(hv:cs[i]? = some v):S.ay 2 ((24+8*i:Nat):Int) false=0∧S.aP 2 ((24+8*i:Nat):Int)=v:=by
 have hi:i<cs.length:=(List.getElem?_eq_some_iff.1 hv).1
 have b2:=hL.dU.1
 have hr:S.region ((24+8*i:Nat):Int)=1:=S.dn oM oM oM (by show((0:Nat):Int)<=_;omega) (by show _< ((S.beg 2:Nat):Int);omega)
 have An:S.aO 2 ((24+8*i:Nat):Int) 8 false=true:=by
  unfold Img.aO Img.lets Img.may
  rw[hr]
  have XV:S.beg (1+1)=16384:=b2
  have h4:decide (((8:Nat):Int)<=(S.beg (1+1):Int) - ((24+8*i:Nat):Int))=true:=decide_eq_true (by rw[XV];omega)
  rw[h4]
  simp
 have hF:S.ay 2 ((24+8*i:Nat):Int) false=0:=by
  unfold Img.ay
  rw[if_neg oM,if_pos An]
 refine⟨hF,?_⟩
 unfold Img.aP
 rw[if_pos hF]
 exact h i v hv
theorem KAt.aE{S:Img}{cs:List Int}(h:KAt S cs)(hL:bH S)(hc:24+8*cs.length<=16384)(i:Nat)(v op arg:Int)(hv:cs[i]? = some v)(hu:Code.unpack v= (op,arg,true))(h2:op≠2)(h19:op≠19):S.aE 2 ((24+8*i:Nat):Int)= (⟨op,arg,0,1⟩,0):=by
 obtain⟨h3,h4⟩:=h.cell hL hc i v hv
 unfold Img.aE
 rw[if_neg (by rw[h3];decide),h4,hu,if_neg (by simp),if_neg h2,if_neg h19]
theorem KAt.sC{S:Img}{cs:List Int}(h:KAt S cs)(hL:bH S)(hc:24+8*cs.length<=16384)(i:Nat)(v:Int)(hv:cs[i]? = some 2)(Ry:cs[i+1]? = some v):S.aE 2 ((24+8*i:Nat):Int)= (⟨2,0,v,2⟩,0):=by
 obtain⟨h3,h4⟩:=h.cell hL hc i 2 hv
 obtain⟨h5,h6⟩:=h.cell hL hc (i+1) v Ry
 rw[show((24+8* (i+1):Nat):Int)= ((24+8*i:Nat):Int) +8 by omega]at h5 h6
 have hu:Code.unpack 2= (2,0,true):=by decide
 unfold Img.aE
 rw[if_neg (by rw[h3];decide),h4,hu,if_neg (by simp),if_pos rfl,if_neg (by rw[h5];decide),h6]
theorem KAt.FF{S:Img}{cs:List Int}(h:KAt S cs)(hL:bH S)(hc:24+8*cs.length<=16384)(i:Nat)(v n:Int)(hv:cs[i]? = some v)(hu:Code.unpack v= (19,n,true))(h0:0<=n)(hn: ((24+8*i:Nat):Int) +8+n<=16384)(hz:n=0∨((24+8*i:Nat):Int) +8<16384):S.aE 2 ((24+8*i:Nat):Int)= (⟨19,n,0,1+ (n+7) /8⟩,0)∧S.cD 2 (((24+8*i:Nat):Int) +8) n=0:=by
 obtain⟨h3,h4⟩:=h.cell hL hc i v hv
 have b2:=hL.dU.1
 have ht:S.cD 2 (((24+8*i:Nat):Int) +8) n=0:=by
  unfold Img.cD
  rw[if_neg oM]
  have An:S.aO 2 (((24+8*i:Nat):Int) +8) n.toNat false=true:=by
   unfold Img.aO
   by_cases SN:n.toNat=0
   ·rw[SN];rfl
   ·have hr:S.region (((24+8*i:Nat):Int) +8)=1:=S.dn oM oM oM (by show((0:Nat):Int)<=_;omega) (by show _< ((S.beg 2:Nat):Int);omega)
    unfold Img.lets Img.may
    rw[hr]
    have XV:S.beg (1+1)=16384:=b2
    have h4:decide ((n.toNat:Int)<=(S.beg (1+1):Int) - (((24+8*i:Nat):Int) +8))=true:=decide_eq_true (by rw[XV];omega)
    rw[h4]
    simp
  rw[if_pos An]
 refine⟨?_,ht⟩
 unfold Img.aE
 rw[if_neg (by rw[h3];decide),h4,hu,if_neg (by simp),if_neg (by simp),if_pos rfl]
 simp only
 rw[if_neg (by rw[ht];decide)]
theorem qQ:V64 0:=by unfold V64;omega
theorem jQd.low{s0 s:Mt}(h:jQd s0 s):Low s0.S s.S:=λi hi=>by
 rw[List.getD_eq_getElem?_getD,List.getD_eq_getElem?_getD,h.wr.eq i (by show¬16448<=i;omega)]
theorem jQd.told{s0 s:Mt}(h:jQd s0 s)(x:Rn)(op:Int):jQd s0 (s.told x op):=by
 rw[gY]
 exact⟨h.wr,h.pts,h.said,h.out⟩
def Jq(s0:Mt)(q:Rs):Prop:=jQd s0 q.s∧(q.f=2∨q.f=13∨(q.f=0∧q.s.r=0∧1<=q.s.d∧q.s.top 0=77))
def kN(n:Nat)(x:Rn)(s:Mt)(Q:Rs->Prop):Prop:= ∃q,fo sh n x s=some q∧Q q
structure Jp(s0:Mt)(cs:List Int)(c:Vc)(n:Nat)(x:Rn)(s:Mt)(i:Nat)(ds rs:List Int):Prop where
 hp:mi 0 n c (.pointer none) s
 hx:x.Ok
 mode:x.mode=2
 base:x.base=0
 over:x.over=false
 pc:x.pc= ((24+8*i:Nat):Int)
 st:jQd s0 s
 rep:Rep s 16456 [] ds rs
structure Jg(s0:Mt)(cs:List Int):Prop where
 img:s0.S.Ok
 lay:bH s0.S
 code:KAt s0.S cs
 len:24+8*cs.length<=1000
section
variable {s0:Mt}{cs ds rs:List Int}{c:Vc}{n i:Nat}{x:Rn}{s:Mt}
theorem Jp.code(g:Jg s0 cs)(h:Jp s0 cs c n x s i ds rs):KAt s.S cs:=g.code.low g.img g.lay h.rep.img h.rep.lay (by have:=g.len;omega) h.st.low
theorem lP(h:Rep s 16456 [] ds rs)(I:aq)(y:Rn)(hn:dM I.op=0∨af.has s.T.aC y.mode (dM I.op)=true)(h1: (Code.ai I.op).1<=ds.length)(h3: (returns I.op I.arg s.same).1<=(rs.length:Int) -y.base)(h4: (rs.length:Int) - (returns I.op I.arg s.same).1+ (returns I.op I.arg s.same).2<=8):
 asks I y s=0∨asks I y s=2:=by
 unfold asks
 rw[h.d,h.r,h.pr,if_neg oM,if_neg oM]
 generalize (if I.op=26∧s.top 0=0 then(Code.ai I.op).1 else(Code.ai I.op).2)=z
 split
 ·exact .inr rfl
 rw[if_neg (by show¬((8:Nat):Int) <_;omega),if_neg (by
  rintro⟨a,b⟩
  rcases hn with h|h
  ·exact a h
  ·rw[h]at b;cases b)]
 exact .inl rfl
theorem ot(h:Jp s0 cs c (n+1) x s i ds rs){I:aq}{q:Rn->Mt->Rs}(hf:s.S.aE 2 x.pc= (I,0))(ht:sh I=some q)(v1:V64 I.arg)(v2:V64 I.lit)
 (ha:asks I (nxA x I.cells) s=0∨asks I (nxA x I.cells) s=2)
 (hr:asks I (nxA x I.cells) s=0->((q (nxA x I.cells) s).f=0∨(q (nxA x I.cells) s).f=2∨(q (nxA x I.cells) s).f=13)∧jQd s (q (nxA x I.cells) s).s)
 (hc:asks I (nxA x I.cells) s=0->(nxA x I.cells).Ok->(q (nxA x I.cells) s).f=0->mi 0 n c (.pointer none) ((q (nxA x I.cells) s).s.told (q (nxA x I.cells) s).x I.op)->({ (q (nxA x I.cells) s).x with pc:=(q (nxA x I.cells) s).x.next }:Rn).Ok->
  (if(q (nxA x I.cells) s).x.over=true then Jq s0 ⟨0,{ (q (nxA x I.cells) s).x with pc:=(q (nxA x I.cells) s).x.next },(q (nxA x I.cells) s).s.told (q (nxA x I.cells) s).x I.op⟩else kN n { (q (nxA x I.cells) s).x with pc:=(q (nxA x I.cells) s).x.next } ((q (nxA x I.cells) s).s.told (q (nxA x I.cells) s).x I.op) (Jq s0))):
 kN (n+1) x s (Jq s0):=by
 have hm:=h.mode
 unfold kN fo stepT
 by_cases hl:x.left=0
 ·rw[if_pos hl]
  simp only
  rw[if_pos (by decide)]
  exact⟨_,rfl,h.st,.inr (.inl rfl)⟩
 rw[if_neg hl,hm,hf,if_neg (by simp)]
 simp only
 have hl0:=h.hx.left
 have hyo: (nxA x I.cells).Ok:=⟨h.hx.base,h.hx.dh,aU _,h.hx.pc,by show 0<=x.left-1;omega,by show x.left-1<=_;have:=h.hx.cG;omega⟩
 have e: ({ mode:=2,left:=x.left-1,pc:=x.pc,next:=wrap64 (x.pc+8*I.cells),over:=x.over,asked:=x.asked,base:=x.base }:Rn)=nxA x I.cells:=by rw[<-hm];rfl
 rw[e]
 generalize nxA x I.cells=y at *
 rcases ha with ha|ha
 ·rw[if_neg (by rw[ha];decide),ht]
  simp only[Option.map_some]
  obtain⟨r1,r2⟩:=hr ha
  have k:=(oa.ok n I q ht).2 c (.pointer none) y s h.hp h.rep.ok hyo v1 v2 (cw.of ha)
  obtain⟨k1,k2,k3,k4,k5⟩:=k
  by_cases hq: (q y s).f=0
  ·rw[if_neg (show¬(q y s).f≠0 by rw[hq];decide)]
   dsimp only
   rw[if_neg (by decide)]
   have WT:=oa.told n c (.pointer none) (q y s).s (q y s).x I.op k5
   have SE: ({ (q y s).x with pc:=(q y s).x.next }:Rn).Ok:=⟨k2.base,k2.dh,k2.next,k2.next,k2.left,k2.cG⟩
   have hc:=hc ha hyo hq WT SE
   by_cases ho: (q y s).x.over=true
   ·rw[if_pos ho]at hc⊢
    exact⟨_,rfl,hc⟩
   ·rw[if_neg ho]at hc⊢
    exact hc
  ·rw[if_pos hq,if_pos hq]
   refine⟨_,rfl,h.st.trans r2,?_⟩
   rcases r1 with r|r|r
   ·exact absurd r hq
   ·exact .inl r
   ·exact .inr (.inl r)
 ·rw[if_pos (by rw[ha];decide),ha]
  simp only
  rw[if_pos (by decide)]
  exact⟨_,rfl,h.st,.inl rfl⟩
theorem MZ(g:Jg s0 cs)(h:Jp s0 cs c (n+1) x s i ds rs)(v:Int)(h1:cs[i]? = some 2)(h2:cs[i+1]? = some v)(hv:V64 v)(hrl:rs.length<=8)
 (hc: ∀x' s',Jp s0 cs c n x' s' (i+2) (ds ++ [v]) rs->kN n x' s' (Jq s0)):kN (n+1) x s (Jq s0):=by
 have hi:i+1<cs.length:=(List.getElem?_eq_some_iff.1 h2).1
 have hlen:=g.len
 have hf:=(h.code g).sC h.rep.lay oM i v h1 h2
 rw[<-h.pc]at hf
 have hb:=h.base
 refine ot (I:=⟨2,0,v,2⟩) (q:=aJ 0 [v]) h hf rfl qQ hv (lP h.rep _ _ (.inl rfl) (by show(0:Int)<=_;omega) (by show(0:Int)<=(rs.length:Int) -x.base;omega) (by show(rs.length:Int) -0+0<=8;omega)) (λha=> ?_) (λha hy hq hp hx=> ?_)
 ·have k:=oh h.rep 0 (Nat.zero_le _) [v] (λu hu=>by rw[List.mem_singleton.1 hu];exact hv)
  refine⟨?_,eP h.rep 0 [v]⟩
  rcases k.1 with k|k
  ·exact .inl k
  ·exact .inr (.inl k)
 ·have hr:=(cw.of ha).room
  have hd:=h.rep.d
  rw[h.rep.pd]at hr
  have hr: (s.d:Int) -0+1<=(16:Nat):=hr
  have k:=(h.rep.ak 0 (Nat.zero_le _) [v] (λu hu=>by rw[List.mem_singleton.1 hu];exact hv) (by simp;omega)).2.1
  rw[Nat.sub_zero,List.take_length]at k
  rw[if_neg (by show¬x.over=true;rw[h.over];decide)]
  refine hc _ _ ⟨hp,hx,h.mode,h.base,h.over,?_,(h.st.trans (eP h.rep 0 [v])).told _ _,k.told _ _⟩
  show wrap64 (x.pc+8*2)=_
  rw[h.pc,jb _ oM oM]
  omega
theorem Qj(g:Jg s0 cs)(v:Int)(h:Jp s0 cs c (n+1) x s i (ds ++ [v]) rs)(h1:cs[i]? = some 13)(hv:V64 v)(hrl:rs.length<=7)
 (hc: ∀x' s',Jp s0 cs c n x' s' (i+1) ds (rs ++ [v])->kN n x' s' (Jq s0)):kN (n+1) x s (Jq s0):=by
 have hi:i<cs.length:=(List.getElem?_eq_some_iff.1 h1).1
 have hlen:=g.len
 have hf:=(h.code g).aE h.rep.lay oM i 13 13 0 h1 (by decide) (by decide) (by decide)
 rw[<-h.pc]at hf
 have hb:=h.base
 have hdl: (ds ++ [v]).length=ds.length+1:=by simp
 have k:=(h.rep.ak 1 oM [] (λu hu=>by cases hu) (by have:=h.rep.dle;simp at this⊢;omega)).2.1
 rw[List.append_nil,hdl,Nat.add_sub_cancel,List.take_left' rfl]at k
 have ha1:s.args 1 = [v]:=by
  have e:s.args 1 = [s.top 0]:=rfl
  have e3:s.top 0=v:=h.rep.top 0 v oM (by rw[hdl];simp)
  rw[e,e3]
 have k2:=k.wO v hv oM
 have Rj:jQd s (((s.ak 1 []).2).az (s.args 1)):=(eP h.rep 1 []).trans (rU k _)
 refine ot (I:=⟨13,0,0,1⟩) (q:=λx s=>⟨0,x,((s.ak 1 []).2).az (s.args 1)⟩) h hf rfl qQ qQ (lP h.rep _ _ (.inl rfl) (by show(1:Int)<=_;omega) (by show(0:Int)<=(rs.length:Int) -x.base;omega) (by show(rs.length:Int) -0+1<=8;omega)) (λha=>⟨.inl rfl,Rj⟩) (λha hy hq hp hx=> ?_)
 rw[if_neg (by show¬x.over=true;rw[h.over];decide)]
 refine hc _ _ ⟨hp,hx,h.mode,h.base,h.over,?_,(h.st.trans Rj).told _ _,?_⟩
 ·show wrap64 (x.pc+8*1)=_
  rw[h.pc,jb _ oM oM]
  omega
 ·show Rep ((((s.ak 1 []).2).az (s.args 1)).told _ _) 16456 [] ds (rs ++ [v])
  rw[ha1]
  exact k2.told _ _
theorem LD(g:Jg s0 cs)(v:Int)(h:Jp s0 cs c (n+1) x s i ds (rs ++ [v]))(h1:cs[i]? = some 14)(hv:V64 v)
 (hc: ∀x' s',Jp s0 cs c n x' s' (i+1) (ds ++ [v]) rs->kN n x' s' (Jq s0)):kN (n+1) x s (Jq s0):=by
 have hi:i<cs.length:=(List.getElem?_eq_some_iff.1 h1).1
 have hlen:=g.len
 have hf:=(h.code g).aE h.rep.lay oM i 14 14 0 h1 (by decide) (by decide) (by decide)
 rw[<-h.pc]at hf
 have hb:=h.base
 have hrl: (rs ++ [v]).length=rs.length+1:=by simp
 have he1:=h.rep.rle
 have hsr:=h.rep.r
 have k:=h.rep.eu rs.length oM
 rw[List.take_left' rfl]at k
 have e0:s.eu (s.r-1)=s.eu rs.length:=by rw[hsr,hrl,Nat.add_sub_cancel]
 have e1:s.bu 0=v:=h.rep.bu 0 v oM (by rw[hrl];simp)
 have Rj:jQd s (((s.eu (s.r-1)).ak 0 [s.bu 0]).2):=by
  rw[e0,e1]
  have h2:=eP k 0 [v]
  exact⟨h2.wr,h2.pts,h2.said,h2.out⟩
 refine ot (I:=⟨14,0,0,1⟩) (q:=λx s=>⟨0,x,((s.eu (s.r-1)).ak 0 [s.bu 0]).2⟩) h hf rfl qQ qQ (lP h.rep _ _ (.inl rfl) (by show(0:Int)<=_;omega) (by show(1:Int)<=((rs ++ [v]).length:Int) -x.base;omega) (by show((rs ++ [v]).length:Int) -1+0<=8;omega)) (λha=>⟨.inl rfl,Rj⟩) (λha hy hq hp hx=> ?_)
 have hr:=(cw.of ha).room
 have hd:=h.rep.d
 rw[h.rep.pd]at hr
 have hr: (s.d:Int) -0+1<=(16:Nat):=hr
 have k2:=(k.ak 0 (Nat.zero_le _) [v] (λu hu=>by rw[List.mem_singleton.1 hu];exact hv) (by simp;omega)).2.1
 rw[Nat.sub_zero,List.take_length]at k2
 rw[if_neg (by show¬x.over=true;rw[h.over];decide)]
 refine hc _ _ ⟨hp,hx,h.mode,h.base,h.over,?_,(h.st.trans Rj).told _ _,?_⟩
 ·show wrap64 (x.pc+8*1)=_
  rw[h.pc,jb _ oM oM]
  omega
 ·show Rep ((((s.eu (s.r-1)).ak 0 [s.bu 0]).2).told _ _) 16456 [] (ds ++ [v]) rs
  rw[e0,e1]
  exact k2.told _ _
theorem O6(g:Jg s0 cs)(h:Jp s0 cs c (n+1) x s i (ds ++ [77]) [0])(h1:cs[i]? = some 1):kN (n+1) x s (Jq s0):=by
 have hi:i<cs.length:=(List.getElem?_eq_some_iff.1 h1).1
 have hlen:=g.len
 have hf:=(h.code g).aE h.rep.lay oM i 1 1 0 h1 (by decide) (by decide) (by decide)
 rw[<-h.pc]at hf
 have hb:=h.base
 have hsr:s.r=1:=h.rep.r
 have hdl: (ds ++ [(77:Int)]).length=ds.length+1:=by simp
 have e1:s.bu 0=0:=h.rep.bu 0 0 (by decide) rfl
 have et:s.top 0=77:=h.rep.top 0 77 oM (by rw[hdl];simp)
 have Rm: ∀y:Rn,back y s= ⟨0,{ y with next:=0,over:=true },{ s with r:=0 }⟩:=λy=>by
  unfold back
  rw[if_neg oM,e1,hsr]
  rfl
 have Rj:jQd s ({ s with r:=0 }:Mt):=⟨Wr.refl h.rep.img,rfl,rfl,rfl⟩
 refine ot (I:=⟨1,0,0,1⟩) (q:=back) h hf rfl qQ qQ (lP h.rep _ _ (.inl rfl) (by show(0:Int)<=_;omega) (by show(1:Int)<=(1:Int) -x.base;omega) (by show((1:Nat):Int) -1+0<=8;omega)) (λha=>by rw[Rm];exact⟨.inl rfl,Rj⟩) (λha hy hq hp hx=> ?_)
 rw[Rm]
 rw[if_pos rfl]
 refine⟨(h.st.trans Rj).told _ _,.inr (.inr ⟨rfl,?_,?_,?_⟩)⟩
 ·show(({ s with r:=0 }:Mt).told _ _).r=0
  rw[gY]
  rfl
 ·show 1<=(({ s with r:=0 }:Mt).told _ _).d
  rw[gY]
  show 1<=s.d
  rw[h.rep.d,hdl]
  omega
 ·show(({ s with r:=0 }:Mt).told _ _).top 0=77
  rw[gY]
  exact et
theorem Ho(g:Jg s0 cs)(h:Jp s0 cs c (n+1) x s i ds rs)(v k:Int)(h1:cs[i]? = some v)(hu:Code.unpack v= (19,k,true))(h0:0<=k)(h8:k<=8)(hrl:rs.length<=8)
 (hc: ∀x' s',Jp s0 cs c n x' s' (i+1+ ((k+7) /8).toNat) (ds ++ [((24+8*i:Nat):Int) +8,k]) rs->kN n x' s' (Jq s0)):kN (n+1) x s (Jq s0):=by
 have hi:i<cs.length:=(List.getElem?_eq_some_iff.1 h1).1
 have hlen:=g.len
 have hf:=((h.code g).FF h.rep.lay oM i v k h1 hu h0 oM (.inr oM)).1
 rw[<-h.pc]at hf
 have hb:=h.base
 have hw:wrap64 (x.pc+8)= ((24+8*i:Nat):Int) +8:=by rw[h.pc,jb _ oM oM]
 have ZT: ∀u∈[wrap64 (x.pc+8),k],V64 u:=λu hu=>by
  rcases List.mem_cons.1 hu with rfl|hu
  ·exact aU _
  ·rw[List.mem_singleton.1 hu];unfold V64;omega
 refine ot (I:=⟨19,k,0,1+ (k+7) /8⟩) (q:=λx s=>aJ 0 [wrap64 (x.pc+8),k] x s) h hf rfl (by unfold V64;show _<=k∧k<=_;omega) qQ (lP h.rep _ _ (.inl rfl) (by show(0:Int)<=_;omega) (by show(0:Int)<=(rs.length:Int) -x.base;omega) (by show(rs.length:Int) -0+0<=8;omega)) (λha=> ?_) (λha hy hq hp hx=> ?_)
 ·have kk:=oh h.rep 0 (Nat.zero_le _) [wrap64 (x.pc+8),k] ZT
  refine⟨?_,eP h.rep 0 _⟩
  rcases kk.1 with kk|kk
  ·exact .inl kk
  ·exact .inr (.inl kk)
 ·have hr:=(cw.of ha).room
  have hd:=h.rep.d
  rw[h.rep.pd]at hr
  have hr: (s.d:Int) -0+2<=(16:Nat):=hr
  have kk:=(h.rep.ak 0 (Nat.zero_le _) [wrap64 (x.pc+8),k] ZT (by simp;omega)).2.1
  rw[Nat.sub_zero,List.take_length]at kk
  have Rj:=eP h.rep 0 [wrap64 (x.pc+8),k]
  rw[if_neg (by show¬x.over=true;rw[h.over];decide)]
  refine hc _ _ ⟨hp,hx,h.mode,h.base,h.over,?_,(h.st.trans Rj).told _ _,?_⟩
  ·show wrap64 (x.pc+8* (1+ (k+7) /8))=_
   rw[h.pc,jb _ oM oM]
   omega
  ·show Rep (((s.ak 0 [wrap64 (x.pc+8),k]).2).told _ _) 16456 [] _ rs
   rw[<-hw]
   exact kk.told _ _
theorem Qw(g:Jg s0 cs)(a k m:Int)(h:Jp s0 cs c (n+1) x s i (ds ++ [a,k,m]) rs)(h1:cs[i]? = some 93)(h0:0<=k)(h8:k<=8)(hm:0<=m)(WJ:16<=a∧a<=1000)(hrl:rs.length<=8)
 (hc: ∀x' s' ds',Jp s0 cs c n x' s' (i+1) ds' rs->kN n x' s' (Jq s0)):kN (n+1) x s (Jq s0):=by
 have hi:i<cs.length:=(List.getElem?_eq_some_iff.1 h1).1
 have hlen:=g.len
 have hf:=(h.code g).aE h.rep.lay oM i 93 93 0 h1 (by decide) (by decide) (by decide)
 rw[<-h.pc]at hf
 have hb:=h.base
 have hdl: (ds ++ [a,k,m]).length=ds.length+3:=by simp
 have e0:ar s 3 0=a:=h.rep.arv 3 0 a oM oM (by rw[hdl,Nat.add_sub_cancel];simp)
 have e1:ar s 3 1=k:=h.rep.arv 3 1 k oM oM (by rw[hdl,Nat.add_sub_cancel];simp)
 have e2:ar s 3 2=m:=h.rep.arv 3 2 m oM oM (by rw[hdl,Nat.add_sub_cancel];simp)
 have hjc: ∀y:Rn,y.Ok->y.mode=2->((dt y s).f=0∨(dt y s).f=2∨(dt y s).f=13)∧jQd s (dt y s).s∧(∃ds',Rep (dt y s).s 16456 [] ds' rs)∧Gr (dt y s).x y:=λy hy RU=>by
  refine Kr h.hp.ask.1 h.rep hy oM (by rw[e1];exact h0) (by rw[e2];exact hm) ?_
  rw[e0,e1,RU]
  have b2:=h.rep.lay.dU.1
  unfold Img.cD
  rw[if_neg oM]
  have An:s.S.aO 2 a k.toNat false=true:=by
   unfold Img.aO
   by_cases SN:k.toNat=0
   ·rw[SN];rfl
   ·have hr:s.S.region a=1:=s.S.dn oM oM oM (by show((0:Nat):Int)<=_;omega) (by show _< ((s.S.beg 2:Nat):Int);omega)
    unfold Img.lets Img.may
    rw[hr]
    have XV:s.S.beg (1+1)=16384:=b2
    have h4:decide ((k.toNat:Int)<=(s.S.beg (1+1):Int) -a)=true:=decide_eq_true (by rw[XV];omega)
    rw[h4]
    simp
  rw[if_pos An]
 have hbE:af.has s.T.aC (nxA x 1).mode (dM 93)=true:=by
  have: (nxA x 1).mode=2:=h.mode
  rw[this]
  rfl
 have hy0:x.left≠0->(nxA x 1).Ok:=λhl=>⟨h.hx.base,h.hx.dh,aU _,h.hx.pc,by show 0<=x.left-1;have:=h.hx.left;omega,by show x.left-1<=_;have:=h.hx.cG;omega⟩
 by_cases hl:x.left=0
 ·unfold kN fo stepT
  rw[if_pos hl]
  simp only
  rw[if_pos (by decide)]
  exact⟨_,rfl,h.st,.inr (.inl rfl)⟩
 obtain⟨l1,l2,⟨ds',l3⟩,l4⟩:=hjc (nxA x 1) (hy0 hl) h.mode
 refine ot (I:=⟨93,0,0,1⟩) (q:=dt) h hf rfl qQ qQ (lP h.rep _ _ (.inr hbE) (by show(3:Int)<=_;omega) (by show(0:Int)<=(rs.length:Int) -x.base;omega) (by show(rs.length:Int) -0+0<=8;omega)) (λha=>⟨l1,l2⟩) (λha hy hq hp hx=> ?_)
 rw[if_neg (by show¬(dt (nxA x 1) s).x.over=true;rw[l4.over];show¬x.over=true;rw[h.over];decide)]
 refine hc _ _ ds' ⟨hp,hx,l4.mode.trans h.mode,l4.base.trans h.base,l4.over.trans h.over,?_,(h.st.trans l2).told _ _,l3.told _ _⟩
 show(dt (nxA x 1) s).x.next=_
 rw[l4.next]
 show wrap64 (x.pc+8*1)=_
 rw[h.pc,jb _ oM oM]
 omega
end
def dL(k:Nat)(v m:Int):List Int:=[2,77,13]++ (if k=0 then [19]else [256* (k:Int) +19,v])++ [2,m,93,14,1]
theorem EL(k:Nat)(v m:Int): (dL k v m).length<=10:=by
 unfold dL
 split<;>simp
theorem Eo(k:Nat)(v m:Int)(hk:k<=8)(hv:V64 v)(hm:0<=m∧m<=3000): ∀u∈dL k v m,V64 u:=by
 intro u hu
 unfold dL at hu
 simp only[List.mem_append,List.mem_cons,List.not_mem_nil,or_false]at hu
 unfold V64 at hv⊢
 rcases hu with(hu|hu) |hu
 ·omega
 ·split at hu
  ·simp only[List.mem_cons,List.not_mem_nil,or_false]at hu
   omega
  ·simp only[List.mem_cons,List.not_mem_nil,or_false]at hu
   omega
 ·omega
theorem vR(k:Nat)(h0:k≠0)(hk:k<=8):Code.unpack (256* (k:Int) +19)= (19,(k:Int),true):=by
 have:k=1∨k=2∨k=3∨k=4∨k=5∨k=6∨k=7∨k=8:=by omega
 rcases this with rfl|rfl|rfl|rfl|rfl|rfl|rfl|rfl<;>decide
section
variable {s0:Mt}{cs ds:List Int}{c:Vc}
theorem sa(g:Jg s0 cs){n i:Nat}{x:Rn}{s:Mt}(a k m:Int)(h:Jp s0 cs c (n+5) x s i (ds ++ [a,k]) [0,77])(h1:cs[i]? = some 2)(h2:cs[i+1]? = some m)(h3:cs[i+2]? = some 93)(h4:cs[i+3]? = some 14)(h5:cs[i+4]? = some 1)
 (h0:0<=k) (h8:k<=8) (hm:0<=m∧m<=3000) (WJ:16<=a∧a<=1000):kN (n+5) x s (Jq s0):=by
 refine MZ g h m h1 h2 (by unfold V64;omega) (by decide) λx1 s1 h=> ?_
 rw[List.append_assoc]at h
 refine Qw g a k m h h3 h0 h8 hm.1 WJ (by decide) λx2 s2 ds2 h=> ?_
 have h:Jp s0 cs c (n+3) x2 s2 (i+3) ds2 ([0]++ [77]):=h
 refine LD g 77 h h4 (by unfold V64;omega) λx3 s3 h=> ?_
 exact O6 g h h5
theorem Dz(k:Nat)(v m:Int)(hk:k<=8)(hm:0<=m∧m<=3000)(g:Jg s0 (dL k v m))(hp:mi 0 8 c (.pointer none) s0)(hr:Rep s0 16456 [] ds [])(aZ:Int):
 kN 8 { Rn.start 2 aZ with pc:=24 } (s0.az [0]) (Jq s0):=by
 have hx:=rH 2 aZ
 have h:Jp s0 (dL k v m) c (7+1) { Rn.start 2 aZ with pc:=24 } (s0.az [0]) 0 ds [0]:=
  ⟨hp.nr (Nr.az s0 [0]) rfl,⟨hx.base,hx.dh,hx.next,by show V64 24;unfold V64;omega,hx.left,hx.cG⟩,rfl,rfl,rfl,rfl,rU hr [0],hr.wO 0 qQ (by decide)⟩
 refine MZ g h 77 rfl rfl (by unfold V64;omega) (by decide) λx1 s1 h=> ?_
 refine Qj g 77 h rfl (by unfold V64;omega) (by decide) λx2 s2 h=> ?_
 have h:Jp s0 (dL k v m) c (5+1) x2 s2 3 ds [0,77]:=h
 by_cases hk0:k=0
 ·subst hk0
  refine Ho g h 19 0 rfl (by decide) (by decide) (by decide) (by decide) λx3 s3 h=> ?_
  have h:Jp s0 (dL 0 v m) c (0+5) x3 s3 4 (ds ++ [((24+8*3:Nat):Int) +8,0]) [0,77]:=h
  exact sa g _ 0 m h rfl rfl rfl rfl rfl (by decide) (by decide) hm (by decide)
 ·have e:dL k v m = [2,77,13]++ [256* (k:Int) +19,v]++ [2,m,93,14,1]:=by unfold dL;rw[if_neg hk0]
  rw[e]at h g
  refine Ho g h (256* (k:Int) +19) k rfl (vR k hk0 hk) oM oM (by decide) λx3 s3 h=> ?_
  have e7: (((k:Int) +7) /8).toNat=1:=by omega
  rw[e7]at h
  have h:Jp s0 _ c (0+5) x3 s3 5 (ds ++ [((24+8*3:Nat):Int) +8,(k:Int)]) [0,77]:=h
  exact sa g _ k m h rfl rfl rfl rfl rfl oM oM hm (by decide)
end
theorem Ac{s:Setup}{k:Nat}{v m:Int}(h:tF s (dL k v m))(hv:AD s)(Su:s.ret = [])(h0:0<=s.dp)(h8:s.dp<8)(hk:k<=8)(hm:0<=m∧m<=3000){c:Vc}(hw:WkN c (.pointer none) s.mt)(ht:fX c s.mt.au)(aZ:Int):
 kN 8 { Rn.start 2 aZ with pc:=24 } (s.mt.az [0]) (Jq s.mt)∧mi 0 8 c (.pointer none) s.mt:=by
 obtain⟨o,l⟩:=AK s
 obtain⟨b2,b3,b4,b5,b6⟩:=l.dU
 have hlen:=EL k v m
 have hf8:s.mt.T.aC=s.dp:=by
  show ew s.dp 32=s.dp
  unfold ew
  rw[if_neg oM]
  omega
 have e0:s.mt.seen.length=0:=rfl
 have e1:16960+8*s.mt.pd.rm<=17088:=by
  have e:s.mt.pd.rm=16:=rfl
  omega
 have hp:mi 0 8 c (.pointer none) s.mt:=⟨hw,by rw[hf8];exact h0,by rw[hf8];exact h8,ht,by rw[e0];decide,⟨o,by rw[b4];rfl,by rw[b4,b5];exact e1,by rw[b5];rfl⟩⟩
 obtain⟨ds,hr,_⟩:=wI (s:=s.mt) (a:=16456) (cs:=[]) (rs:=[]) (Ie s) o l (rL l) rfl rfl (by
  show 0+ (s.ret.take 8).length=0
  rw[Su]
  rfl) (λi v hv=>by simp at hv)
 exact⟨Dz k v m hk hm ⟨o,l,(Ib h).2.1,by omega⟩ hp hr aZ,hp⟩
section
variable {w W w0:World}{F:Nat->Prop}{a:Mw}{b:Bc}{r:Rc}{s:Setup}
end
section
variable {c:Vc}{s:Setup}
end
section
variable {w W w0:World}{F:Nat->Prop}{L:List Asr}{a:Mw}{b:Bc}{r:Rc}{x:Rw}{t:Mt}{s:Setup}
theorem ue(i:Nat)(h:On F w (aa L) W)(hi:L[i]? = some (aa (mL (cL a b r x) t)))(k:Nat)(h1:1<=k)(h5:k<=5):Calls Tryz.prog 8 #[b.gI,(k:Int)] W λe w'=>e = .returned (.string (t.S.part k))∧∃n,w'=W.drewN n:=by
 obtain⟨F',hF⟩:=h.at_ i hi
 have h2:On F' W (aa (mL (cL a b r x) t)) W:=On.refl hF
 obtain⟨gb,hr⟩:=h2.img 1 rfl
 exact NY hr k h1 h5
theorem Gm(i:Nat)(h:On F w (aa L) W)(hi:L[i]? = some (aa (mL (cL a b r x) t))):Calls Tryz.prog 12 #[b.gT] W (ax (.string t.T.out) W):=by
 obtain⟨F',hF⟩:=h.at_ i hi
 have h2:On F' W (aa (mL (cL a b r x) t)) W:=On.refl hF
 obtain⟨F2,hT⟩:=h2.at_ 4 rfl
 exact dC.output hT
theorem dP.later{m:Sl}(h:dP w s m)(hb:Below w.heap.size w W):dP W s m:=by
 have so:On Nob w (aa []) W:=(On.refl (F:=Nob) (A:=aa []) (λ_ h=>h)).below hb
 exact⟨h.kw.late so Nob (λk h=>h.elim),h.sw.late so Nob (λk h=>h.elim),h.dw.late so Nob (λk h=>h.elim),h.rw_.late so Nob (λk h=>h.elim),h.kl,h.sl,h.dp,h.room,h.base,h.inp,h.hid⟩
theorem Ec{m:Sl}(h:On F w (aa L) W)(hs:dP W s m):Calls Tryz.prog 7 #[.agg (ap s m)] W (λe w'=> ∃(a:Mw) (b:Bc) (r:Rc),e = .returned (.pointer b.gB)∧b.gW=r.gW∧On F w (aa (aa (mL (cL a b r (x41 s)) s.mt)::L)) w'):=by
 refine(h.make (Hm hs)).mono ?_
 rintro e w' ⟨B,⟨a,b,r,hW,rfl,rfl⟩,so⟩
 exact⟨a,b,r,rfl,hW,so⟩
