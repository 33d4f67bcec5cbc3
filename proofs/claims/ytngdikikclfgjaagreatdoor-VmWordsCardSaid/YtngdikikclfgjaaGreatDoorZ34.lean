/- Chapter 11: the words of both lists. Conditions: as written. -/
import Derived.Test.YtngdikikclfgjaaGreatDoorZ29
import Derived.Test.YtngdikikclfgjaaGreatDoorZ31
open Go.Proofs.Tryz
namespace Go.Proofs.YtngdikikclfgjaaGreatDoor
set_option linter.unusedVariables false
set_option linter.unusedSimpArgs false
set_option maxHeartbeats 8000000
set_option maxRecDepth 100000
open Go.RowKit Go.Lib Go.Deep
namespace Vm
structure WrdIn(n0:Nat)(w:World)(F:Nat->Prop)(A:Option Addr)(j:Nat)(x:Wrd)(rb o:Nat)(Ax:Option Addr)(cp:Nat):Prop where
 at_:A=some ⟨rb,o,none⟩
 far: ¬F rb
 c0:w.cell? ⟨rb,o+j*4,none⟩=some (.string x.name)
 c1:w.cell? ⟨rb,o+j*4+1,none⟩=some (.bool x.hid)
 c2:w.cell? ⟨rb,o+j*4+2,none⟩=some (.bool x.imm)
 c3:w.cell? ⟨rb,o+j*4+3,none⟩=some (.slice Ax x.cells.length cp)
 ints:Ints w Ax x.cells
 farx:x.cells≠[]->∀a,Ax=some a->¬F a.block∧a.block<n0
 name:x.name.size<=9223372036854775807
 v64: ∀v∈x.cells,V64 v
 len:x.cells.length<=9223372036854775807
def WordsIn(n0:Nat)(w:World)(F:Nat->Prop)(A:Option Addr)(xs:List Wrd):Prop:= ∀j x,xs[j]? = some x->∃rb o Ax cp,WrdIn n0 w F A j x rb o Ax cp
theorem WrdIn.on{n0:Nat}{w W:World}{F:Nat->Prop}{X:Asr}{A Ax:Option Addr}{j rb o cp:Nat}{x:Wrd}(h:WrdIn n0 w F A j x rb o Ax cp)(hon:On F w X W):WrdIn n0 W F A j x rb o Ax cp:=
 ⟨h.at_,h.far,hon.cellOut h.c0 h.far,hon.cellOut h.c1 h.far,hon.cellOut h.c2 h.far,hon.cellOut h.c3 h.far,λj v hj=>hon.ints h.ints (λa ha=>(h.farx (λe=>by rw[e]at hj;simp at hj) a ha).1) j v hj,h.farx,h.name,h.v64,h.len⟩
structure Sl where
 kA:Option Addr
 kc:Nat
 sA:Option Addr
 sc:Nat
 dA:Option Addr
 dc:Nat
 rA:Option Addr
 rc:Nat
def setupC(s:Setup)(m:Sl):Array Value:=
 #[s.caps,s.room,.string s.input,.string s.hidden,.bool s.opened,.slice m.kA s.kernel.length m.kc,.slice m.sA s.student.length m.sc,s.base,.slice m.dA s.data.length m.dc,.slice m.rA s.ret.length m.rc,s.fault,s.used,s.hiddenAs]
def lsK(b:Bc)(r:Rc)(wcs:Array Value)(D:Dc)(q:Img×Dc):List Asr:=
 BlkA b.gB 46 (bothC b (.slice none 0 0))::DcA b.gI b.gS 16456 16960 D::RDicA r.gS r.gb 16448 16960 704 false D::laidL b.gI b.gK b.gW wcs r.gK r.gb 0 16384 17152 q q
def lsS(b:Bc)(r:Rc)(wcs:Array Value)(K:Dc)(q:Img×Dc):List Asr:=
 BlkA b.gB 46 (bothC b (.slice none 0 0))::DcA b.gI b.gK 8 16384 K::RDicA r.gK r.gb 0 16384 17152 false K::laidL b.gI b.gS b.gW wcs r.gS r.gb 16448 16960 704 q q
section
variable {w W:World}{F:Nat->Prop}{b:Bc}{r:Rc}{wcs sc:Array Value}{K D:Dc}{S:Img}{s:Setup}{m:Sl}{q:Img×Dc}{bx:Nat}
theorem ls_turn{B:Asr}(h:On F w (AllA (B::lsK b r wcs D (S,K))) W):On F w (AllA (B::lsS b r wcs K (S,D))) W:=by
 have h1:On F w (AllA [B,BlkA b.gB 46 (bothC b (.slice none 0 0)),DcA b.gI b.gS 16456 16960 D,RDicA r.gS r.gb 16448 16960 704 false D,DcA b.gI b.gK 8 16384 K,ImgA b.gI S,BlkA b.gW 81 wcs,RDicA r.gK r.gb 0 16384 17152 false K,RbA r.gb S]) W:=h
 exact(((((((((h1.front 8 rfl).front 4 rfl).front 7 rfl).front 7 rfl).front 6 rfl).front 8 rfl).front 8 rfl).front 8 rfl).front 8 rfl)
theorem fold_take(xs:List Wrd)(q:Img×Dc)(j:Nat)(x:Wrd)(hx:xs[j]? = some x): (xs.take (j+1)).foldl (λq x=>laidS x q) q=laidS x ((xs.take j).foldl (λq x=>laidS x q) q):=by
 rw[List.take_add_one,hx]
 simp
theorem fold_min(xs:List Wrd)(q:Img×Dc): (xs.take (min xs.length 20)).foldl (λq x=>laidS x q) q=listS xs q:=by
 unfold listS
 congr 1
 by_cases h:xs.length<=20
 ·rw[Nat.min_eq_left h,List.take_of_length_le (Nat.le_refl _),List.take_of_length_le h]
 ·rw[Nat.min_eq_right oM]
theorem fold_grew(xs:List Wrd)(q:Img×Dc)(j:Nat)(h1:q.1.Ok)(h2:q.2.Ok q.1):Grew q ((xs.take j).foldl (λq x=>laidS x q) q):=grew_fold _ q h1 h2
theorem laid_kernel(h:On F w (AllA (BlkA bx 30 sc::lsK b r wcs D q)) W)(h8:At8 q.1 q.2 8 16384)(hsh:q.2.shut q.1=false)(x:Wrd){A Ax:Option Addr}{j rb o cp:Nat}(hx:WrdIn w.heap.size W F A j x rb o Ax cp)
 (hw1:wcs[1]? = some (r.gK:Vl)) (hw2:wcs[2]? = some (r.gS:Vl)):
 Calls prog 52 #[b.gK,b.gW,.bool true,.agg #[.string x.name,.bool x.hid,.bool x.imm,.slice Ax x.cells.length cp]] W (Got (.returned (.bool true)) (AllA (BlkA bx 30 sc::lsK b r wcs D (laidS x q))) F w):=
 h.callDrop 4 (by simp[lsK]) λF' hb _ hs=>laid_walk (bg:=0) hb h8 hsh x Ax cp hx.name hx.ints (λhne a ha hk=>by
  obtain⟨h1,h2⟩:=hx.farx hne a ha
  rcases hs a.block hk with h3|h3
  ·exact h1 h3
  ·omega) hx.v64 hx.len true r.gK r.gS hw1 hw2 rfl
theorem laid_student(h:On F w (AllA (BlkA bx 30 sc::lsS b r wcs K q)) W)(h8:At8 q.1 q.2 16456 16960)(hsh:q.2.shut q.1=false)(x:Wrd){A Ax:Option Addr}{j rb o cp:Nat}(hx:WrdIn w.heap.size W F A j x rb o Ax cp)
 (hw1:wcs[1]? = some (r.gK:Vl)) (hw2:wcs[2]? = some (r.gS:Vl)):
 Calls prog 52 #[b.gS,b.gW,.bool false,.agg #[.string x.name,.bool x.hid,.bool x.imm,.slice Ax x.cells.length cp]] W (Got (.returned (.bool true)) (AllA (BlkA bx 30 sc::lsS b r wcs K (laidS x q))) F w):=
 h.callDrop 4 (by simp[lsS]) λF' hb _ hs=>laid_walk (bg:=16448) hb h8 hsh x Ax cp hx.name hx.ints (λhne a ha hk=>by
  obtain⟨h1,h2⟩:=hx.farx hne a ha
  rcases hs a.block hk with h3|h3
  ·exact h1 h3
  ·omega) hx.v64 hx.len false r.gK r.gS hw1 hw2 rfl
theorem both_cells{L:List Asr}{bx:Nat}{t:TypeId}{cs:Array Value}(h:On F w (AllA (BlkA bx t cs::BlkA b.gB 46 (bothC b (.slice none 0 0))::L)) W):
 W.cell? (b.gB,0)=some (b.gI:Vl)∧W.cell? (b.gB,1)=some (b.gK:Vl)∧W.cell? (b.gB,2)=some (b.gS:Vl)∧W.cell? (b.gB,5)=some (b.gM:Vl)∧W.cell? (b.gB,6)=some (b.gW:Vl):=
 let hb:=h.blkAt 1 rfl
 ⟨hb.cell 0,hb.cell 1,hb.cell 2,hb.cell 5,hb.cell 6⟩
theorem setup_cells{L:List Asr}{bx:Nat}(h:On F w (AllA (BlkA bx 30 (setupC s m)::L)) W):
 W.cell? (bx,5)=some (.slice m.kA s.kernel.length m.kc)∧W.cell? (bx,6)=some (.slice m.sA s.student.length m.sc)∧W.cell? (bx,7)=some (s.base:Vl)∧W.cell? (bx,8)=some (.slice m.dA s.data.length m.dc)∧W.cell? (bx,9)=some (.slice m.rA s.ret.length m.rc):=
 let hb:=h.blkAt 0 rfl
 ⟨hb.cell 5,hb.cell 6,hb.cell 7,hb.cell 8,hb.cell 9⟩
theorem b_lists(hb: (AllA (lsK b r wcs D q)).holds w F)(h8:At8 q.1 q.2 8 16384)(hsh:q.2.shut q.1=false)(h8d:At8 q.1 D 16456 16960)(hshd:D.shut q.1=false)(hk:WordsIn w.heap.size w F m.kA s.kernel)(hst:WordsIn w.heap.size w F m.sA s.student)
 (hkl:s.kernel.length<=9223372036854775807) (hsl:s.student.length<=9223372036854775807) (hw1:wcs[1]? = some (r.gK:Vl)) (hw2:wcs[2]? = some (r.gS:Vl)):
 Calls prog 23 #[b.gB,.agg (setupC s m)] w (Got (.returned (.bool true)) (AllA (lsS b r wcs (listS s.kernel q).2 (listS s.student ((listS s.kernel q).1,D)))) F w):=by
 have hon:=(On.refl hb).box (setupC s m) 30
 have hbc:=λW q (h:On F w (AllA (BlkA w.heap.size 30 (setupC s m)::lsK b r wcs D q)) W)=>both_cells h
 have hsc:=λW q (h:On F w (AllA (BlkA w.heap.size 30 (setupC s m)::lsK b r wcs D q)) W)=>setup_cells h
 have hbc2:=λW (p:Img×Dc) (h:On F w (AllA (BlkA w.heap.size 30 (setupC s m)::lsS b r wcs (listS s.kernel q).2 p)) W)=>both_cells h
 have hsc2:=λW (p:Img×Dc) (h:On F w (AllA (BlkA w.heap.size 30 (setupC s m)::lsS b r wcs (listS s.kernel q).2 p)) W)=>setup_cells h
 replace hsc2:=Lib.hid hsc2
 replace hbc2:=Lib.hid hbc2
 replace hon:=Lib.hid hon
 replace hbc:=Lib.hid hbc
 replace hsc:=Lib.hid hsc
 replace h8:=Lib.hid h8
 replace hsh:=Lib.hid hsh
 replace h8d:=Lib.hid h8d
 replace hshd:=Lib.hid hshd
 replace hk:=Lib.hid hk
 replace hst:=Lib.hid hst
 unfold setupC
 go_enter func23,ntmps23
 go_upto_block 0 with fail
 go_cut [] (λwx=>On F w (AllA (BlkA w.heap.size 30 (setupC s m)::lsS b r wcs (listS s.kernel q).2 ((listS s.kernel q).1,D))) wx)
 case first=>
  go_wp2_with fail
  go_loopg [5] (min s.kernel.length 20) (λk t wr=> ∃j:Nat,j+k=min s.kernel.length 20∧t = .int .i64 (j:Int)∧On F w (AllA (BlkA w.heap.size 30 (setupC s m)::lsK b r wcs D ((s.kernel.take j).foldl (λq x=>laidS x q) q))) wr)
  case atStart=>exact⟨0,by omega,rfl,hon.out⟩
  case round=>
   obtain⟨j,hj,rfl,hoj⟩:=hrel
   obtain⟨z0,z1,z2,z3,z4⟩:=hbc.out _ _ hoj
   obtain⟨y5,y6,y7,y8,y9⟩:=hsc.out _ _ hoj
   by_cases hjl:j<min s.kernel.length 20
   ·obtain⟨x,hx⟩: ∃x,s.kernel[j]? = some x:=⟨s.kernel[j]' oM,by rw[List.getElem?_eq_getElem]⟩
    obtain⟨rb,o,Ax,cp,hxi⟩:=hk.out j x hx
    have hxo:=hxi.on hoj
    have hg:=fold_grew s.kernel q j h8.out.img h8.out.ok
    have hl:=laid_kernel hoj.drew (hg.at8 h8.out) (hg.shut.trans hsh.out) x (hxi.on hoj.drew) hw1 hw2
    rw[<-fold_take s.kernel q j x hx]at hl
    have hA:=hxi.at_
    have x0:=hxo.c0
    have x1:=hxo.c1
    have x2:=hxo.c2
    have x3:=hxo.c3
    have hxk:=λW (p:Img×Dc) (h:On F w (AllA (BlkA w.heap.size 30 (setupC s m)::lsK b r wcs D p)) W)=>hxi.on h
    have d1:decide ((j:Int) < (s.kernel.length:Int))=true:=decide_eq_true oM
    have d2:decide ((j:Int) <20)=true:=decide_eq_true oM
    rw[hA]at y5
    have hjn:j<s.kernel.length:=by omega
    generalize hqn: (s.kernel.take (j+1)).foldl (λq x=>laidS x q) q=qn at *
    replace hqn:=Lib.hid hqn
    obtain⟨nm,hid,imm,cs⟩:=x
    simp only at hl x0 x1 x2 x3
    replace hl:=Lib.hid hl
    replace hoj:=Lib.hid hoj
    replace hxk:=Lib.hid hxk
    replace hA:=Lib.hid hA
    clear hxo hg hx hxi
    go_wp2_with fail
    go_region_held (λw'=>w'.cell? (b.gB,1)=some (b.gK:Vl)∧w'.cell? (b.gB,6)=some (b.gW:Vl)∧w'.cell? (w.heap.size,5)=some (.slice (some ⟨rb,o,none⟩) s.kernel.length m.kc)∧w'.cell? ⟨rb,o+j*4,none⟩=some (.string nm)∧w'.cell? ⟨rb,o+j*4+1,none⟩=some (.bool hid)∧w'.cell? ⟨rb,o+j*4+2,none⟩=some (.bool imm)∧w'.cell? ⟨rb,o+j*4+3,none⟩=some (.slice Ax cs.length cp)) (go_keep)
     ((go_at_call 52;refine mo hl.out λw1 h=>?_;obtain⟨m0,m1,m2,m3,m4⟩:=hbc.out _ _ h;obtain⟨n5,n6,n7,n8,n9⟩:=hsc.out _ _ h;rw[hA.out]at n5;have hxw:=hxk.out _ _ h;have v0:=hxw.c0;have v1:=hxw.c1;have v2:=hxw.c2;have v3:=hxw.c3;simp only at v0 v1 v2 v3;replace h:=Lib.hid h;replace hxw:=Lib.hid hxw))
    go_wp2
    go_roundg (gk-1)
    case measure=>omega
    case rel=>exact⟨j+1,by omega,by go_num,by rw[hqn.out];exact h.out⟩
   ·have hjj:j=min s.kernel.length 20:=by omega
    have hfin:=hoj
    rw[hjj,fold_min]at hfin
    have hmid:=ls_turn (D:=D) (S:=(listS s.kernel q).1) (K:=(listS s.kernel q).2) hfin
    have hw3: (decide ((j:Int) < (s.kernel.length:Int))=true∧decide ((j:Int) <20)=false)∨decide ((j:Int) < (s.kernel.length:Int))=false:=by
     by_cases h20:j<s.kernel.length
     ·exact .inl ⟨decide_eq_true oM,decide_eq_false oM⟩
     ·exact .inr (decide_eq_false oM)
    replace hfin:=Lib.hid hfin
    replace hmid:=Lib.hid hmid
    replace hoj:=Lib.hid hoj
    replace hjj:=Lib.hid hjj
    rcases hw3 with⟨d1,d2⟩ |d1
    all_goals go_wp2_with fail
    all_goals go_meet
    all_goals exact hmid.out
 case rest=>
  have hmid:=hcut
  have hgl:=grew_list s.kernel q h8.out.img h8.out.ok
  have h8s:At8 (listS s.kernel q).1 D 16456 16960:=h8d.out.next hgl.img (h8d.out.ok.alike hgl.al) hgl.al rfl
  have hshs:D.shut (listS s.kernel q).1=false:=(Dc.shut_alike hgl.al).trans hshd.out
  replace hmid:=Lib.hid hmid
  replace h8s:=Lib.hid h8s
  replace hshs:=Lib.hid hshs
  clear hgl hcut hbc hsc
  go_wp2_with fail
  go_loopg [7] (min s.student.length 20) (λk t wr=> ∃j:Nat,j+k=min s.student.length 20∧t = .int .i64 (j:Int)∧On F w (AllA (BlkA w.heap.size 30 (setupC s m)::lsS b r wcs (listS s.kernel q).2 ((s.student.take j).foldl (λq x=>laidS x q) ((listS s.kernel q).1,D)))) wr)
  case atStart=>exact⟨0,by omega,rfl,hmid.out⟩
  case round=>
   obtain⟨j,hj,rfl,hoj⟩:=hrel
   obtain⟨z0,z1,z2,z3,z4⟩:=hbc2.out _ _ hoj
   obtain⟨y5,y6,y7,y8,y9⟩:=hsc2.out _ _ hoj
   by_cases hjl:j<min s.student.length 20
   ·obtain⟨x,hx⟩: ∃x,s.student[j]? = some x:=⟨s.student[j]' oM,by rw[List.getElem?_eq_getElem]⟩
    obtain⟨rb,o,Ax,cp,hxi⟩:=hst.out j x hx
    have hxo:=hxi.on hoj
    have hg:=fold_grew s.student ((listS s.kernel q).1,D) j h8s.out.img h8s.out.ok
    have hl:=laid_student hoj.drew (hg.at8 h8s.out) (hg.shut.trans hshs.out) x (hxi.on hoj.drew) hw1 hw2
    rw[<-fold_take s.student ((listS s.kernel q).1,D) j x hx]at hl
    have hA:=hxi.at_
    have x0:=hxo.c0
    have x1:=hxo.c1
    have x2:=hxo.c2
    have x3:=hxo.c3
    have hxk:=λW (p:Img×Dc) (h:On F w (AllA (BlkA w.heap.size 30 (setupC s m)::lsS b r wcs (listS s.kernel q).2 p)) W)=>hxi.on h
    have d1:decide ((j:Int) < (s.student.length:Int))=true:=decide_eq_true oM
    have d2:decide ((j:Int) <20)=true:=decide_eq_true oM
    rw[hA]at y6
    have hjn:j<s.student.length:=by omega
    generalize hqn: (s.student.take (j+1)).foldl (λq x=>laidS x q) ((listS s.kernel q).1,D)=qn at *
    replace hqn:=Lib.hid hqn
    obtain⟨nm,hid,imm,cs⟩:=x
    simp only at hl x0 x1 x2 x3
    replace hl:=Lib.hid hl
    replace hoj:=Lib.hid hoj
    replace hxk:=Lib.hid hxk
    replace hA:=Lib.hid hA
    clear hxo hg hx hxi
    go_wp2_with fail
    go_region_held (λw'=>w'.cell? (b.gB,2)=some (b.gS:Vl)∧w'.cell? (b.gB,6)=some (b.gW:Vl)∧w'.cell? (w.heap.size,6)=some (.slice (some ⟨rb,o,none⟩) s.student.length m.sc)∧w'.cell? ⟨rb,o+j*4,none⟩=some (.string nm)∧w'.cell? ⟨rb,o+j*4+1,none⟩=some (.bool hid)∧w'.cell? ⟨rb,o+j*4+2,none⟩=some (.bool imm)∧w'.cell? ⟨rb,o+j*4+3,none⟩=some (.slice Ax cs.length cp)) (go_keep)
     ((go_at_call 52;refine mo hl.out λw1 h=>?_;obtain⟨m0,m1,m2,m3,m4⟩:=hbc2.out _ _ h;obtain⟨n5,n6,n7,n8,n9⟩:=hsc2.out _ _ h;rw[hA.out]at n6;have hxw:=hxk.out _ _ h;have v0:=hxw.c0;have v1:=hxw.c1;have v2:=hxw.c2;have v3:=hxw.c3;simp only at v0 v1 v2 v3;replace h:=Lib.hid h;replace hxw:=Lib.hid hxw))
    go_wp2
    go_roundg (gk-1)
    case measure=>omega
    case rel=>exact⟨j+1,by omega,by go_num,by rw[hqn.out];exact h.out⟩
   ·have hjj:j=min s.student.length 20:=by omega
    have hfin:=hoj
    rw[hjj,fold_min]at hfin
    have hw3: (decide ((j:Int) < (s.student.length:Int))=true∧decide ((j:Int) <20)=false)∨decide ((j:Int) < (s.student.length:Int))=false:=by
     by_cases h20:j<s.student.length
     ·exact .inl ⟨decide_eq_true oM,decide_eq_false oM⟩
     ·exact .inr (decide_eq_false oM)
    replace hfin:=Lib.hid hfin
    replace hoj:=Lib.hid hoj
    replace hjj:=Lib.hid hjj
    rcases hw3 with⟨d1,d2⟩ |d1
    all_goals go_wp2
    all_goals go_ret
    all_goals exact⟨rfl,hfin.out.tail⟩
end
def pd0:Pl:=⟨16960,16,1,2⟩
def pr0:Pl:=⟨17088,8,3,4⟩
theorem pd0_ok:pd0.Ok:=⟨by decide,by decide⟩
theorem pr0_ok:pr0.Ok:=⟨by decide,by decide⟩
structure St where
 S:Img
 d:Nat
 r:Nat
 R:Img
 dd:Nat
 da:List Int
 rd:Nat
 ra:List Int
def stL(b:Bc)(r:Rc)(gD gR:Nat)(mc wcs:Array Value)(x:St):List Asr:=
 [BlkA b.gB 46 (bothC b (.slice none 0 0)),BlkA b.gM 104 mc,StkA b.gI gD pd0 x.d,StkA b.gI gR pr0 x.r,ImgA b.gI x.S,BlkA b.gW 81 wcs,
  AllA (rstkL r.gD r.gDr x.dd 1 2 x.da),AllA (rstkL r.gR r.gRr x.rd 3 4 x.ra),BlkA r.gM 121 (rimgCells r.gb x.R),RbA r.gb x.R]
def St.pushD(x:St)(v:Int):St:={ x with S:=spush x.S 16960 x.d [v],d:=x.d+1 }
def St.pushR(x:St)(v:Int):St:={ x with S:=spush x.S 17088 x.r [v],r:=x.r+1 }
def St.rpushD(x:St)(v:Int):St:={ x with dd:=x.dd+1,da:=x.da.set x.dd v }
def St.rpushR(x:St)(v:Int):St:={ x with rd:=x.rd+1,ra:=x.ra.set x.rd v }
section
variable {w W:World}{F:Nat->Prop}{b:Bc}{r:Rc}{gD gR rb bx:Nat}{mc wcs sc:Array Value}{x:St}{v:Int}{s:Setup}{m:Sl}
theorem far_row{L:List Asr}{i j:Nat}{G:Nat->Prop}{w0 w1:World}(hi:0≠i)(hj:0≠j)(ho:Outs (BlkA rb 3 #[v]::L) i j F w0 w1 G):Ints w1 (some ⟨rb,0,none⟩) [v]∧Far G (some ⟨rb,0,none⟩):=by
 obtain⟨F3,h3,hd⟩:=ho.2 0 _ hi hj rfl
 refine⟨λk u hk=> ?_,λa ha hk=> ?_⟩
 ·refine⟨_,rfl,?_⟩
  have h1:=h3.1.cell k
  have h2: ((⟨rb,0,none⟩:Addr).add k)= ⟨rb,k,none⟩:=by simp[Addr.add];intro h;exact h.symm
  rw[h2,h1]
  rcases k with _|k
  ·simp at hk;subst hk;rfl
  ·simp at hk
 ·cases ha
  exact hd rb ((h3.2 rb).2 rfl) hk
theorem st_pushD(h:On F w (AllA (BlkA rb 3 #[v]::BlkA bx 30 sc::stL b r gD gR mc wcs x)) W)(hv:V64 v)(hd:x.d<16):
 Calls prog 56 #[gD,.slice rb 1 1] W (Got (.returned (.int .i64 0)) (AllA (BlkA rb 3 #[v]::BlkA bx 30 sc::stL b r gD gR mc wcs (x.pushD v))) F w):=
 h.callAt2WG 4 6 (by decide) rfl rfl λF' hb ho=>by
  obtain⟨h1,h2⟩:=far_row (by decide) (by decide) ho
  exact k_push_yes hb pd0_ok [v] (λu hu=>by rw[List.mem_singleton.1 hu];exact hv) (some ⟨rb,0,none⟩) 1 h1 h2 (by show x.d<=16;omega) (by show 1<=16-x.d;omega)
theorem st_pushR(h:On F w (AllA (BlkA rb 3 #[v]::BlkA bx 30 sc::stL b r gD gR mc wcs x)) W)(hv:V64 v)(hd:x.r<8):
 Calls prog 56 #[gR,.slice rb 1 1] W (Got (.returned (.int .i64 0)) (AllA (BlkA rb 3 #[v]::BlkA bx 30 sc::stL b r gD gR mc wcs (x.pushR v))) F w):=
 h.callAt2WG 5 6 (by decide) rfl rfl λF' hb ho=>by
  obtain⟨h1,h2⟩:=far_row (by decide) (by decide) ho
  exact k_push_yes hb pr0_ok [v] (λu hu=>by rw[List.mem_singleton.1 hu];exact hv) (some ⟨rb,0,none⟩) 1 h1 h2 (by show x.r<=8;omega) (by show 1<=8-x.r;omega)
theorem row_cell{L:List Asr}(h:On F w (AllA (BlkA rb 3 #[v]::L)) W):W.cell? (rb,0)=some (v:Vl):=(h.blkAt 0 rfl).cell 0
theorem st_rpushD(h:On F w (AllA (BlkA rb 3 #[v]::BlkA bx 30 sc::stL b r gD gR mc wcs x)) W)(hd:x.dd<x.da.length)(hn:x.da.length<=512):
 Calls prog 57 #[r.gD,.slice rb 1 1] W (Got (.returned (.int .i64 0)) (AllA (BlkA rb 3 #[v]::BlkA bx 30 sc::stL b r gD gR mc wcs (x.rpushD v))) F w):=
 h.callAtG 8 rfl λF' hb=>rs_push (On.refl hb) hd hn rb v (row_cell h)
theorem st_rpushR(h:On F w (AllA (BlkA rb 3 #[v]::BlkA bx 30 sc::stL b r gD gR mc wcs x)) W)(hd:x.rd<x.ra.length)(hn:x.ra.length<=512):
 Calls prog 57 #[r.gR,.slice rb 1 1] W (Got (.returned (.int .i64 0)) (AllA (BlkA rb 3 #[v]::BlkA bx 30 sc::stL b r gD gR mc wcs (x.rpushR v))) F w):=
 h.callAtG 9 rfl λF' hb=>rs_push (On.refl hb) hd hn rb v (row_cell h)
theorem m_data(c5:W.cell? (bx,5)=some (gD:Vl)):Calls prog 10 #[bx] W (Same gD W):=by
 go_enter func10,ntmps10
 go_wp2
 go_ret
 exact⟨rfl,rfl⟩
theorem m_return(c5:W.cell? (bx,6)=some (gD:Vl)):Calls prog 22 #[bx] W (Same gD W):=by
 go_enter func22,ntmps22
 go_wp2
 go_ret
 exact⟨rfl,rfl⟩
theorem m_base{gI gb:Nat}{S:Img}(c0:W.cell? (bx,0)=some (gI:Vl))(hi:IRep W gI gb S):Calls prog 59 #[bx] W (λe w'=>e = .returned (S.beg 3:Int)∧∃n,w'=W.drewN n):=by
 have hsp:=i_span hi 3 oM oM
 replace hsp:=Lib.hid hsp
 clear hi
 go_enter func59,ntmps59
 go_wp2_with fail
 refine hsp.out.mono ?_
 rintro e w1 ⟨rfl,n,rfl⟩
 go_wp2
 go_ret
 exact⟨rfl,n,rfl⟩
theorem st_cells(hm5:mc[5]? = some (gD:Vl))(hm6:mc[6]? = some (gR:Vl))(hw5:wcs[5]? = some (r.gD:Vl))(hw6:wcs[6]? = some (r.gR:Vl))
 (h:On F w (AllA (BlkA bx 30 (setupC s m)::stL b r gD gR mc wcs x)) W):
 W.cell? (b.gB,0)=some (b.gI:Vl)∧W.cell? (b.gB,5)=some (b.gM:Vl)∧W.cell? (b.gB,6)=some (b.gW:Vl)∧W.cell? (bx,7)=some (s.base:Vl)∧
 W.cell? (bx,8)=some (.slice m.dA s.data.length m.dc)∧W.cell? (bx,9)=some (.slice m.rA s.ret.length m.rc)∧W.cell? (b.gM,5)=some (gD:Vl)∧W.cell? (b.gM,6)=some (gR:Vl)∧
 W.cell? (b.gW,5)=some (r.gD:Vl)∧W.cell? (b.gW,6)=some (r.gR:Vl):=
 let hs:Blk W bx 30 (setupC s m):=h.blkAt 0 rfl
 let hb:Blk W b.gB 46 (bothC b (.slice none 0 0)):=h.blkAt 1 rfl
 let hm:Blk W b.gM 104 mc:=h.blkAt 2 rfl
 let hw:Blk W b.gW 81 wcs:=h.blkAt 6 rfl
 ⟨hb.cell 0,hb.cell 5,hb.cell 6,hs.cell 7,hs.cell 8,hs.cell 9,(hm.cell 5).trans hm5,(hm.cell 6).trans hm6,(hw.cell 5).trans hw5,(hw.cell 6).trans hw6⟩
theorem m_wbase{gM gb gW:Nat}{S:Img}(c0:W.cell? (gW,0)=some (gM:Vl))(hi:IRRep W gM gb S):Calls prog 34 #[gW] W (Quiet (S.beg 3:Int) W):=by
 have hs:=r_span hi 3
 have ha:spanFrom S 3= (S.beg 3:Int):=by unfold spanFrom;rw[if_pos oM];rfl
 rw[ha]at hs
 replace hs:=Lib.hid hs
 clear ha hi
 go_enter func34,ntmps34
 go_wp2_with fail
 refine mo hs.out λw2 hb=>?_
 replace hb:=Lib.hid hb
 go_wp2
 go_ret
 exact⟨rfl,hb.out⟩
theorem baseF0{S:Img}(hL:Lay0 S)(w:Bool):S.cellF 0 16448 w=0∧S.rowOk 0 16448 8 w=true:=by
 obtain⟨b2,b3,b4,b5,b6⟩:=hL.begs
 have hr:S.region (16448:Int)=3:=S.region_eq oM oM oM oM (by show(16448:Int) <S.beg 4;omega)
 have hrow:S.rowOk 0 (16448:Int) 8 w=true:=by
  unfold Img.rowOk Img.lets Img.may
  rw[hr]
  have h4:decide (((8:Nat):Int)<=(S.beg (3+1):Int) -16448)=true:=decide_eq_true (by show((8:Nat):Int)<=(S.beg 4:Int) -_;omega)
  rw[h4]
  cases w<;>simp
 refine⟨?_,hrow⟩
 unfold Img.cellF
 rw[if_neg oM,if_pos hrow]
theorem st_rbase{gM gb:Nat}{S:Img}{L:List Asr}(i j:Nat)(hij:i≠j)(h:On F w (AllA L) W)(hi:L[i]? = some (BlkA gM 121 (rimgCells gb S)))(hj:L[j]? = some (RbA gb S))(hS:S.Ok)(hL:Lay0 S)(v:Int)(hv:V64 v):
 Calls prog 60 #[gM,(0:Int),(16448:Int),v] W (Got (.returned (.int .i64 0)) (AllA ((L.set j (RbA gb (S.setCell 0 16448 v))).set i (BlkA gM 121 (rimgCells gb (S.setCell 0 16448 v))))) F w):=by
 refine h.callAt2G i j hij hi hj λF' hb=> ?_
 obtain⟨F1,F2,h1,h2,hd,hF⟩:=hb
 obtain⟨F3,F4,h3,h4,hd2,hF2⟩:=h2
 have hr:IRRep W gM gb S:=⟨h1.1,h3.1,hS⟩
 obtain⟨b2,b3,b4,b5,b6⟩:=hL.begs
 have hok:=(baseF0 hL true).2
 rcases r_row_of hr 0 16448 8 oM oM true with⟨hk,_⟩ | ⟨hk,k,hk2,hle,hrow⟩
 ·rw[hk]at hok;cases hok
 obtain rfl:k=16448:=by omega
 refine(r_set_yes hr 0 v hv 16448 hle (by decide) hrow).mono ?_
 rintro e w' ⟨rfl,hb',hk'⟩
 have e1:S.setCell 0 16448 v=S.put 16448 (toB v):=by unfold Img.setCell;rw[if_pos (baseF0 hL true).1];rfl
 have hgb: ∀k,F4 k->False:=h4
 have hFk:F' gb:=(hF gb).2 (.inr ((hF2 gb).2 (.inl ((h3.2 gb).2 rfl))))
 refine⟨rfl,F',⟨F1,F2,⟨?_,h1.2⟩,⟨F3,F4,⟨?_,h3.2⟩,h4,hd2,hF2⟩,hd,hF⟩,hk'.mono (λk hk=>by rw[hk];exact hFk),λk hk=> .inl hk⟩
 ·rw[e1,rimg_alike gb (Alike.put S 16448 (toB v))]
  exact h1.1.kept hk' hr.ne
 ·rw[e1]
  exact hb'
def St.onD(x:St)(v:Int):St:=(x.pushD v).rpushD v
def St.onR(x:St)(v:Int):St:=(x.pushR v).rpushR v
theorem onD_fold: ∀(l:List Int) (x:St),(l.foldl St.onD x).d=x.d+l.length∧(l.foldl St.onD x).dd=x.dd+l.length∧(l.foldl St.onD x).da.length=x.da.length∧(l.foldl St.onD x).r=x.r∧(l.foldl St.onD x).rd=x.rd∧(l.foldl St.onD x).ra=x.ra∧(l.foldl St.onD x).R=x.R∧(l.foldl St.onD x).S=spush x.S 16960 x.d l
 | [],x=>⟨rfl,rfl,rfl,rfl,rfl,rfl,rfl,rfl⟩
 | v::l,x=>by
   obtain⟨h1,h2,h3,h4,h5,h6,h7,h8⟩:=onD_fold l (x.onD v)
   rw[List.foldl_cons,h1,h2,h3,h4,h5,h6,h7,h8,List.length_cons]
   refine⟨?_,?_,?_,rfl,rfl,rfl,rfl,rfl⟩
   ·show x.d+1+l.length=_;omega
   ·show x.dd+1+l.length=_;omega
   ·show(x.da.set x.dd v).length=_;simp
theorem onR_fold: ∀(l:List Int) (x:St),(l.foldl St.onR x).r=x.r+l.length∧(l.foldl St.onR x).rd=x.rd+l.length∧(l.foldl St.onR x).ra.length=x.ra.length∧(l.foldl St.onR x).d=x.d∧(l.foldl St.onR x).dd=x.dd∧(l.foldl St.onR x).da=x.da∧(l.foldl St.onR x).R=x.R∧(l.foldl St.onR x).S=spush x.S 17088 x.r l
 | [],x=>⟨rfl,rfl,rfl,rfl,rfl,rfl,rfl,rfl⟩
 | v::l,x=>by
   obtain⟨h1,h2,h3,h4,h5,h6,h7,h8⟩:=onR_fold l (x.onR v)
   rw[List.foldl_cons,h1,h2,h3,h4,h5,h6,h7,h8,List.length_cons]
   refine⟨?_,?_,?_,rfl,rfl,rfl,rfl,rfl⟩
   ·show x.r+1+l.length=_;omega
   ·show x.rd+1+l.length=_;omega
   ·show(x.ra.set x.rd v).length=_;simp
theorem fold_snoc(f:St->Int->St)(xs:List Int)(x:St)(j:Nat)(v:Int)(hv:xs[j]? = some v): (xs.take (j+1)).foldl f x=f ((xs.take j).foldl f x) v:=by
 rw[List.take_add_one,hv]
 simp
theorem fold_lim(f:St->Int->St)(n:Nat)(xs:List Int)(x:St): (xs.take (min xs.length n)).foldl f x= (xs.take n).foldl f x:=by
 congr 1
 by_cases h:xs.length<=n
 ·rw[Nat.min_eq_left h,List.take_of_length_le (Nat.le_refl _),List.take_of_length_le h]
 ·rw[Nat.min_eq_right oM]
def St.setBase(x:St)(v:Int):St:={ x with S:=x.S.setCell 0 16448 v,R:=x.R.setCell 0 16448 v }
structure RowIn(n0:Nat)(w:World)(F:Nat->Prop)(A:Option Addr)(l:List Int):Prop where
 ints: ∀j v,l[j]? = some v->∃rb o,A=some ⟨rb,o,none⟩ ∧¬F rb∧w.cell? ⟨rb,o+j,none⟩=some (.int .i64 v)
 v64: ∀v∈l,V64 v
 len:l.length<=9223372036854775807
theorem b_stacks(hb: (AllA (stL b r gD gR mc wcs x)).holds w F)(hm0:mc[0]? = some (b.gI:Vl))(hm5:mc[5]? = some (gD:Vl))(hm6:mc[6]? = some (gR:Vl))(hw0:wcs[0]? = some (r.gM:Vl))(hw5:wcs[5]? = some (r.gD:Vl))(hw6:wcs[6]? = some (r.gR:Vl))
 (hxd:x.d=0∧x.dd=0∧x.r=0∧x.rd=0) (hda:x.da.length=16) (hra:x.ra.length=8) (hS:x.S.Ok) (hL:Lay0 x.S) (hR:x.R.Ok) (hLR:Lay0 x.R) (hd:RowIn w.heap.size w F m.dA s.data) (hr:RowIn w.heap.size w F m.rA s.ret) (hbv:V64 s.base):
 Calls prog 30 #[b.gB,.agg (setupC s m)] w (Got (.returned (.bool true)) (AllA (stL b r gD gR mc wcs (((s.ret.take 8).foldl St.onR ((s.data.take 16).foldl St.onD x)).setBase s.base))) F w):=by
 have hon:=(On.refl hb).box (setupC s m) 30
 have hcs:=λW x (h:On F w (AllA (BlkA w.heap.size 30 (setupC s m)::stL b r gD gR mc wcs x)) W)=>st_cells hm5 hm6 hw5 hw6 h
 replace hon:=Lib.hid hon
 replace hcs:=Lib.hid hcs
 replace hd:=Lib.hid hd
 replace hr:=Lib.hid hr
 replace hxd:=Lib.hid hxd
 unfold setupC
 go_enter func30,ntmps30
 go_upto_block 0 with fail
 go_cut [] (λwx=>On F w (AllA (BlkA w.heap.size 30 (setupC s m)::stL b r gD gR mc wcs ((s.data.take 16).foldl St.onD x))) wx)
 case first=>
  go_wp2_with fail
  go_loopg [5] (min s.data.length 16) (λk t wr=> ∃j:Nat,j+k=min s.data.length 16∧t = .int .i64 (j:Int)∧On F w (AllA (BlkA w.heap.size 30 (setupC s m)::stL b r gD gR mc wcs ((s.data.take j).foldl St.onD x))) wr)
  case atStart=>exact⟨0,by omega,rfl,hon.out⟩
  case round=>
   obtain⟨j,hj,rfl,hoj⟩:=hrel
   obtain⟨z0,z1,z2,z3,z4,z5,z6,z7,z8,z9⟩:=hcs.out _ _ hoj
   by_cases hjl:j<min s.data.length 16
   ·obtain⟨v,hv⟩: ∃v,s.data[j]? = some v:=⟨s.data[j]' oM,by rw[List.getElem?_eq_getElem]⟩
    obtain⟨rb,o,hA,hfr,hcv⟩:=hd.out.ints j v hv
    have hvv:=hd.out.v64 v (List.mem_of_getElem? hv)
    have hlen:=hd.out.len
    have xr:=hoj.cellOut hcv hfr
    have hrow:=λW x (h:On F w (AllA (BlkA w.heap.size 30 (setupC s m)::stL b r gD gR mc wcs x)) W)=>h.cellOut hcv hfr
    obtain⟨f1,f2,f3,f4,f5,f6,f7,f8⟩:=onD_fold (s.data.take j) x
    have hlj: (s.data.take j).length=j:=by rw[List.length_take];omega
    have hq1: ((s.data.take j).foldl St.onD x).d<16:=by rw[f1,hlj];have:=hxd.out;omega
    have hq2: (((s.data.take j).foldl St.onD x).pushD v).dd< (((s.data.take j).foldl St.onD x).pushD v).da.length:=by show((s.data.take j).foldl St.onD x).dd< ((s.data.take j).foldl St.onD x).da.length;rw[f2,f3,hlj,hda];have:=hxd.out;omega
    have hq3: (((s.data.take j).foldl St.onD x).pushD v).da.length<=512:=by show((s.data.take j).foldl St.onD x).da.length<=512;rw[f3,hda];omega
    clear f1 f2 f3 f4 f5 f6 f7 f8 hlj
    have hsn:=fold_snoc St.onD s.data x j v hv
    obtain⟨qj,hqj⟩: ∃qj,(s.data.take j).foldl St.onD x=qj:=⟨_,rfl⟩
    rw[hqj]at hoj hsn hq1 hq2 hq3
    rw[hA]at z4
    have d1:decide ((j:Int) < (s.data.length:Int))=true:=decide_eq_true oM
    have d2:decide ((j:Int) <16)=true:=decide_eq_true oM
    have hjn:j<s.data.length:=by omega
    have hlt:=(hoj.blkAt 1 rfl).lt
    have hlt2:=(hoj.blkAt 2 rfl).lt
    have hlt3:=(hoj.blkAt 6 rfl).lt
    have hlt4:w.heap.size<wr.heap.size:=(hoj.blkAt 0 rfl).lt
    have hp:=st_pushD (hoj.drew.box #[v] 3) hvv hq1
    have hd1:=m_data (bx:=b.gM) (gD:=gD) (W:=wr.drew) z6
    have hd2:=m_data (bx:=b.gM) (gD:=gD) (W:=wr.drew.alloc (.cells #[v] 3)) (cell?_alloc_some _ z6)
    have hrp:=λW (h:On F w (AllA (BlkA w.heap.size 30 (setupC s m)::stL b r gD gR mc wcs (qj.pushD v))) W)=>st_rpushD (h.drew.box #[v] 3) hq2 hq3
    replace hoj:=Lib.hid hoj
    replace hp:=Lib.hid hp
    replace hd1:=Lib.hid hd1
    replace hd2:=Lib.hid hd2
    replace hrp:=Lib.hid hrp
    replace hrow:=Lib.hid hrow
    replace hA:=Lib.hid hA
    replace hsn:=Lib.hid hsn
    replace hqj:=Lib.hid hqj
    clear hv hcv hvv hq1 hq2 hq3
    go_upto_region 4 with fail
    go_cut [6] (λt wx=>t = .int .i64 0∧On F w (AllA (BlkA w.heap.size 30 (setupC s m)::stL b r gD gR mc wcs (qj.pushD v))) wx)
    case first=>
     go_region_held (λw'=>w'.cell? (b.gB,5)=some (b.gM:Vl)∧w'.cell? (w.heap.size,8)=some (.slice (some ⟨rb,o,none⟩) s.data.length m.dc)∧w'.cell? ⟨rb,o+j,none⟩=some (v:Vl)) (go_keep)
      ((first
        | (go_at_call 10;(first| (refine hd1.out.mono ?_) | (refine hd2.out.mono ?_));rintro e w1 ⟨rfl,rfl⟩)
        | (go_at_call 56;refine mo hp.out λw1 h=>?_;have h5:=h.tail;obtain⟨m0,m1,m2,m3,m4,m5,m6,m7,m8,m9⟩:=hcs.out _ _ h5;rw[hA.out]at m4;have xr1:=hrow.out _ _ h5;replace h:=Lib.hid h;replace h5:=Lib.hid h5)))
     all_goals go_wp2_with fail
     all_goals go_meet
     all_goals exact⟨rfl,h5.out⟩
    case rest=>
     obtain⟨rfl,hc5⟩:=hcut
     clear hp hd1 hd2 hoj xr z0 z1 z2 z3 z4 z5 z6 z7 z8 z9 hlt hlt2 hlt3 hlt4
     obtain⟨z0,z1,z2,z3,z4,z5,z6,z7,z8,z9⟩:=hcs.out _ _ hc5
     rw[hA.out]at z4
     have xr:=hrow.out _ _ hc5
     have hlt:=(hc5.blkAt 1 rfl).lt
     have hlt3:=(hc5.blkAt 6 rfl).lt
     have hlt4:w.heap.size<wc.heap.size:=(hc5.blkAt 0 rfl).lt
     replace hrp:=Lib.hid (hrp.out _ hc5)
     replace hc5:=Lib.hid hc5
     go_upto_region 5 with fail
     go_cut [7] (λt wx=>t = .int .i64 0∧On F w (AllA (BlkA w.heap.size 30 (setupC s m)::stL b r gD gR mc wcs ((St.onD) qj v))) wx)
     case first=>
      go_region_held (λw'=>w'.cell? (b.gB,6)=some (b.gW:Vl)∧w'.cell? (b.gW,5)=some (r.gD:Vl)∧w'.cell? (w.heap.size,8)=some (.slice (some ⟨rb,o,none⟩) s.data.length m.dc)∧w'.cell? ⟨rb,o+j,none⟩=some (v:Vl)) (go_keep)
       ((go_at_call 57;refine mo hrp.out λw1 h=>?_;have h5:=h.tail;obtain⟨m0,m1,m2,m3,m4,m5,m6,m7,m8,m9⟩:=hcs.out _ _ h5;rw[hA.out]at m4;have xr1:=hrow.out _ _ h5;replace h:=Lib.hid h;replace h5:=Lib.hid h5))
      all_goals go_wp2_with fail
      all_goals go_meet
      all_goals exact⟨rfl,h5.out⟩
     case rest=>
      obtain⟨rfl,hc6⟩:=hcut
      clear hrp hc5 xr z0 z1 z2 z3 z4 z5 z6 z7 z8 z9 hlt hlt3 hlt4
      replace hc6:=Lib.hid hc6
      go_wp2_with fail
      go_roundg (gk-1)
      case measure=>omega
      case rel=>exact⟨j+1,by omega,by go_num,by rw[hsn.out];exact hc6.out⟩
   ·have hjj:j=min s.data.length 16:=by omega
    have hfin:=hoj
    rw[hjj,fold_lim]at hfin
    have hw3: (decide ((j:Int) < (s.data.length:Int))=true∧decide ((j:Int) <16)=false)∨decide ((j:Int) < (s.data.length:Int))=false:=by
     by_cases h20:j<s.data.length
     ·exact .inl ⟨decide_eq_true oM,decide_eq_false oM⟩
     ·exact .inr (decide_eq_false oM)
    replace hfin:=Lib.hid hfin
    replace hoj:=Lib.hid hoj
    replace hjj:=Lib.hid hjj
    rcases hw3 with⟨d1,d2⟩ |d1
    all_goals go_wp2_with fail
    all_goals go_meet
    all_goals exact hfin.out
 case rest=>
  have hon1:=Lib.hid hcut
  clear hcut hon
  go_upto_block 2 with fail
  go_cut [] (λwx=>On F w (AllA (BlkA w.heap.size 30 (setupC s m)::stL b r gD gR mc wcs ((s.ret.take 8).foldl St.onR ((s.data.take 16).foldl St.onD x)))) wx)
  case first=>
   go_wp2_with fail
   go_loopg [8] (min s.ret.length 8) (λk t wr=> ∃j:Nat,j+k=min s.ret.length 8∧t = .int .i64 (j:Int)∧On F w (AllA (BlkA w.heap.size 30 (setupC s m)::stL b r gD gR mc wcs ((s.ret.take j).foldl St.onR ((s.data.take 16).foldl St.onD x)))) wr)
   case atStart=>exact⟨0,by omega,rfl,hon1.out⟩
   case round=>
    obtain⟨j,hj,rfl,hoj⟩:=hrel
    obtain⟨z0,z1,z2,z3,z4,z5,z6,z7,z8,z9⟩:=hcs.out _ _ hoj
    by_cases hjl:j<min s.ret.length 8
    ·obtain⟨v,hv⟩: ∃v,s.ret[j]? = some v:=⟨s.ret[j]' oM,by rw[List.getElem?_eq_getElem]⟩
     obtain⟨rb,o,hA,hfr,hcv⟩:=hr.out.ints j v hv
     have hvv:=hr.out.v64 v (List.mem_of_getElem? hv)
     have hlen:=hr.out.len
     have xr:=hoj.cellOut hcv hfr
     have hrow:=λW x (h:On F w (AllA (BlkA w.heap.size 30 (setupC s m)::stL b r gD gR mc wcs x)) W)=>h.cellOut hcv hfr
     obtain⟨f1,f2,f3,f4,f5,f6,f7,f8⟩:=onR_fold (s.ret.take j) ((s.data.take 16).foldl St.onD x)
     obtain⟨g1,g2,g3,g4,g5,g6,g7,g8⟩:=onD_fold (s.data.take 16) x
     have hlj: (s.ret.take j).length=j:=by rw[List.length_take];omega
     have hq1: ((s.ret.take j).foldl St.onR ((s.data.take 16).foldl St.onD x)).r<8:=by rw[f1,hlj,g4];have:=hxd.out;omega
     have hq2: (((s.ret.take j).foldl St.onR ((s.data.take 16).foldl St.onD x)).pushR v).rd< (((s.ret.take j).foldl St.onR ((s.data.take 16).foldl St.onD x)).pushR v).ra.length:=by show((s.ret.take j).foldl St.onR ((s.data.take 16).foldl St.onD x)).rd< ((s.ret.take j).foldl St.onR ((s.data.take 16).foldl St.onD x)).ra.length;rw[f2,f3,hlj,g5,g6,hra];have:=hxd.out;omega
     have hq3: (((s.ret.take j).foldl St.onR ((s.data.take 16).foldl St.onD x)).pushR v).ra.length<=512:=by show((s.ret.take j).foldl St.onR ((s.data.take 16).foldl St.onD x)).ra.length<=512;rw[f3,g6,hra];omega
     clear f1 f2 f3 f4 f5 f6 f7 f8 g1 g2 g3 g4 g5 g6 g7 g8 hlj
     have hsn:=fold_snoc St.onR s.ret ((s.data.take 16).foldl St.onD x) j v hv
     obtain⟨qj,hqj⟩: ∃qj,(s.ret.take j).foldl St.onR ((s.data.take 16).foldl St.onD x)=qj:=⟨_,rfl⟩
     rw[hqj]at hoj hsn hq1 hq2 hq3
     rw[hA]at z5
     have d1:decide ((j:Int) < (s.ret.length:Int))=true:=decide_eq_true oM
     have d2:decide ((j:Int) <8)=true:=decide_eq_true oM
     have hjn:j<s.ret.length:=by omega
     have hlt:=(hoj.blkAt 1 rfl).lt
     have hlt2:=(hoj.blkAt 2 rfl).lt
     have hlt3:=(hoj.blkAt 6 rfl).lt
     have hlt4:w.heap.size<wr.heap.size:=(hoj.blkAt 0 rfl).lt
     have hp:=st_pushR (hoj.drew.box #[v] 3) hvv hq1
     have hd1:=m_return (bx:=b.gM) (gD:=gR) (W:=wr.drew) z7
     have hd2:=m_return (bx:=b.gM) (gD:=gR) (W:=wr.drew.alloc (.cells #[v] 3)) (cell?_alloc_some _ z7)
     have hrp:=λW (h:On F w (AllA (BlkA w.heap.size 30 (setupC s m)::stL b r gD gR mc wcs (qj.pushR v))) W)=>st_rpushR (h.drew.box #[v] 3) hq2 hq3
     replace hoj:=Lib.hid hoj
     replace hp:=Lib.hid hp
     replace hd1:=Lib.hid hd1
     replace hd2:=Lib.hid hd2
     replace hrp:=Lib.hid hrp
     replace hrow:=Lib.hid hrow
     replace hA:=Lib.hid hA
     replace hsn:=Lib.hid hsn
     replace hqj:=Lib.hid hqj
     clear hv hcv hvv hq1 hq2 hq3
     go_upto_region 11 with fail
     go_cut [9] (λt wx=>t = .int .i64 0∧On F w (AllA (BlkA w.heap.size 30 (setupC s m)::stL b r gD gR mc wcs (qj.pushR v))) wx)
     case first=>
      go_region_held (λw'=>w'.cell? (b.gB,5)=some (b.gM:Vl)∧w'.cell? (w.heap.size,9)=some (.slice (some ⟨rb,o,none⟩) s.ret.length m.rc)∧w'.cell? ⟨rb,o+j,none⟩=some (v:Vl)) (go_keep)
       ((first
         | (go_at_call 22;(first| (refine hd1.out.mono ?_) | (refine hd2.out.mono ?_));rintro e w1 ⟨rfl,rfl⟩)
         | (go_at_call 56;refine mo hp.out λw1 h=>?_;have h5:=h.tail;obtain⟨m0,m1,m2,m3,m4,m5,m6,m7,m8,m9⟩:=hcs.out _ _ h5;rw[hA.out]at m5;have xr1:=hrow.out _ _ h5;replace h:=Lib.hid h;replace h5:=Lib.hid h5)))
      all_goals go_wp2_with fail
      all_goals go_meet
      all_goals exact⟨rfl,h5.out⟩
     case rest=>
      obtain⟨rfl,hc5⟩:=hcut
      clear hp hd1 hd2 hoj xr z0 z1 z2 z3 z4 z5 z6 z7 z8 z9 hlt hlt2 hlt3 hlt4
      obtain⟨z0,z1,z2,z3,z4,z5,z6,z7,z8,z9⟩:=hcs.out _ _ hc5
      rw[hA.out]at z5
      have xr:=hrow.out _ _ hc5
      have hlt:=(hc5.blkAt 1 rfl).lt
      have hlt3:=(hc5.blkAt 6 rfl).lt
      have hlt4:w.heap.size<wc.heap.size:=(hc5.blkAt 0 rfl).lt
      replace hrp:=Lib.hid (hrp.out _ hc5)
      replace hc5:=Lib.hid hc5
      go_upto_region 12 with fail
      go_cut [10] (λt wx=>t = .int .i64 0∧On F w (AllA (BlkA w.heap.size 30 (setupC s m)::stL b r gD gR mc wcs ((St.onR) qj v))) wx)
      case first=>
       go_region_held (λw'=>w'.cell? (b.gB,6)=some (b.gW:Vl)∧w'.cell? (b.gW,6)=some (r.gR:Vl)∧w'.cell? (w.heap.size,9)=some (.slice (some ⟨rb,o,none⟩) s.ret.length m.rc)∧w'.cell? ⟨rb,o+j,none⟩=some (v:Vl)) (go_keep)
        ((go_at_call 57;refine mo hrp.out λw1 h=>?_;have h5:=h.tail;obtain⟨m0,m1,m2,m3,m4,m5,m6,m7,m8,m9⟩:=hcs.out _ _ h5;rw[hA.out]at m5;have xr1:=hrow.out _ _ h5;replace h:=Lib.hid h;replace h5:=Lib.hid h5))
       all_goals go_wp2_with fail
       all_goals go_meet
       all_goals exact⟨rfl,h5.out⟩
      case rest=>
       obtain⟨rfl,hc6⟩:=hcut
       clear hrp hc5 xr z0 z1 z2 z3 z4 z5 z6 z7 z8 z9 hlt hlt3 hlt4
       replace hc6:=Lib.hid hc6
       go_wp2_with fail
       go_roundg (gk-1)
       case measure=>omega
       case rel=>exact⟨j+1,by omega,by go_num,by rw[hsn.out];exact hc6.out⟩
    ·have hjj:j=min s.ret.length 8:=by omega
     have hfin:=hoj
     rw[hjj,fold_lim]at hfin
     have hw3: (decide ((j:Int) < (s.ret.length:Int))=true∧decide ((j:Int) <8)=false)∨decide ((j:Int) < (s.ret.length:Int))=false:=by
      by_cases h20:j<s.ret.length
      ·exact .inl ⟨decide_eq_true oM,decide_eq_false oM⟩
      ·exact .inr (decide_eq_false oM)
     replace hfin:=Lib.hid hfin
     replace hoj:=Lib.hid hoj
     replace hjj:=Lib.hid hjj
     rcases hw3 with⟨d1,d2⟩ |d1
     all_goals go_wp2_with fail
     all_goals go_meet
     all_goals exact hfin.out
  case rest=>
   have hon2:=hcut
   obtain⟨f1,f2,f3,f4,f5,f6,f7,f8⟩:=onR_fold (s.ret.take 8) ((s.data.take 16).foldl St.onD x)
   obtain⟨g1,g2,g3,g4,g5,g6,g7,g8⟩:=onD_fold (s.data.take 16) x
   have hXS: ((s.ret.take 8).foldl St.onR ((s.data.take 16).foldl St.onD x)).S.Ok:=by
    have ha:=Alike.spush 16960 (s.data.take 16) x.S x.d
    have h1:=(spush_ok (s.data.take 16) x.S 16960 x.d hS hL (.inl ⟨rfl,by rw[List.length_take];have:=hxd.out;omega⟩))
    rw[f8,g8]
    exact(spush_ok (s.ret.take 8) _ 17088 _ h1 (hL.alike ha) (.inr ⟨rfl,by rw[List.length_take,g4];have:=hxd.out;omega⟩))
   have hXL:Lay0 ((s.ret.take 8).foldl St.onR ((s.data.take 16).foldl St.onD x)).S:=by
    rw[f8,g8]
    exact(hL.alike (Alike.spush _ _ _ _)).alike (Alike.spush _ _ _ _)
   have hXR: ((s.ret.take 8).foldl St.onR ((s.data.take 16).foldl St.onD x)).R=x.R:=by rw[f7,g7]
   clear f1 f2 f3 f4 f5 f6 f7 f8 g1 g2 g3 g4 g5 g6 g7 g8 hcut hon1 hd hr
   generalize (s.ret.take 8).foldl St.onR ((s.data.take 16).foldl St.onD x)=X at *
   rw[<-hXR]at hR hLR
   clear hXR hxd hda hra hS hL
   obtain⟨z0,z1,z2,z3,z4,z5,z6,z7,z8,z9⟩:=hcs.out _ _ hon2
   have zm:wc.cell? (b.gM,0)=some (b.gI:Vl):=((show Blk wc b.gM 104 mc from hon2.blkAt 2 rfl).cell 0).trans hm0
   have hbs:=λ(gb:Nat) (hi:IRep wc.drew b.gI gb X.S)=>m_base (W:=wc.drew) (bx:=b.gM) zm hi
   obtain⟨gb,hi⟩:=hon2.drew.img 5 rfl
   have hb3:=hbs gb hi
   have e3:X.S.beg 3=16448:=hXL.begs.2.1
   rw[e3]at hb3
   have hsc:=λn=>(hon2.drewN n).callAtG 5 rfl (λF' ha=>g_setCell ha 0 16448 s.base hbv)
   rw[(baseF0 hXL true).1]at hsc
   have hcs2:=λW (h:On F w (AllA (BlkA w.heap.size 30 (setupC s m)::stL b r gD gR mc wcs { X with S:=X.S.setCell 0 16448 s.base })) W)=>st_cells hm5 hm6 hw5 hw6 h
   have hwW:=λW (h:On F w (AllA (BlkA w.heap.size 30 (setupC s m)::stL b r gD gR mc wcs { X with S:=X.S.setCell 0 16448 s.base })) W)=>(((show Blk W b.gW 81 wcs from h.blkAt 6 rfl).cell 0).trans hw0)
   have hrI:=λW (h:On F w (AllA (BlkA w.heap.size 30 (setupC s m)::stL b r gD gR mc wcs { X with S:=X.S.setCell 0 16448 s.base })) W)=>rep_of h 9 10 rfl rfl hR
   have hrs:=λW (h:On F w (AllA (BlkA w.heap.size 30 (setupC s m)::stL b r gD gR mc wcs { X with S:=X.S.setCell 0 16448 s.base })) W)=>st_rbase 9 10 (by decide) h rfl rfl hR hLR s.base hbv
   have e3R: (X.R.beg 3:Int)=16448:=by rw[hLR.begs.2.1];rfl
   replace hb3:=Lib.hid hb3
   replace hsc:=Lib.hid hsc
   replace hcs2:=Lib.hid hcs2
   replace hwW:=Lib.hid hwW
   replace hrI:=Lib.hid hrI
   replace hrs:=Lib.hid hrs
   replace hon2:=Lib.hid hon2
   clear hbs hi
   go_upto_region 15 with fail
   go_cut [11] (λt wx=>t = .int .i64 0∧On F w (AllA (BlkA w.heap.size 30 (setupC s m)::stL b r gD gR mc wcs { X with S:=X.S.setCell 0 16448 s.base })) wx)
   case first=>
    go_region_held (λw'=>w'.cell? (b.gB,0)=some (b.gI:Vl)∧w'.cell? (b.gB,5)=some (b.gM:Vl)∧w'.cell? (w.heap.size,7)=some (s.base:Vl)) (go_keep)
     ((first
       | (go_at_call 59;refine hb3.out.mono ?_;rintro e w1 ⟨rfl,nb,rfl⟩;have k0: (wc.drewN (1+nb)).cell? (b.gB,0)=some (b.gI:Vl):=z0;have k5: (wc.drewN (1+nb)).cell? (b.gB,5)=some (b.gM:Vl):=z1;have k7: (wc.drewN (1+nb)).cell? (w.heap.size,7)=some (s.base:Vl):=z3)
       | (go_at_call 58;refine mo (hsc.out _) λw1 h=>?_;obtain⟨m0,m1,m2,m3,m4,m5,m6,m7,m8,m9⟩:=hcs2.out _ h;replace h:=Lib.hid h)))
    all_goals go_wp2_with fail
    all_goals go_meet
    all_goals exact⟨rfl,h.out⟩
   case rest=>
    obtain⟨rfl,hc5⟩:=hcut
    clear hb3 hsc hon2 z0 z1 z2 z3 z4 z5 z6 z7 z8 z9 zm
    obtain⟨z0,z1,z2,z3,z4,z5,z6,z7,z8,z9⟩:=hcs2.out _ hc5
    have zw:=hwW.out _ hc5
    have hwb:=m_wbase (gW:=b.gW) (hwW.out _ hc5.drew) (hrI.out _ hc5.drew)
    rw[e3R]at hwb
    have hlt:=(hc5.blkAt 1 rfl).lt
    have hlt3:=(hc5.blkAt 6 rfl).lt
    have hlt4:w.heap.size<wc.heap.size:=(hc5.blkAt 0 rfl).lt
    replace hwb:=Lib.hid hwb
    replace hc5:=Lib.hid hc5
    go_upto_region 16 with fail
    go_cut [] (λwx=>On F w (AllA (BlkA w.heap.size 30 (setupC s m)::stL b r gD gR mc wcs (X.setBase s.base))) wx)
    case first=>
     go_region_held (λw'=>w'.cell? (b.gB,6)=some (b.gW:Vl)∧w'.cell? (b.gW,0)=some (r.gM:Vl)∧w'.cell? (w.heap.size,7)=some (s.base:Vl)) (go_keep)
      ((first
        | (go_at_call 34;refine mo hwb.out λw1 hbl=>?_;have h5:=hc5.out.drew.below hbl;obtain⟨m0,m1,m2,m3,m4,m5,m6,m7,m8,m9⟩:=hcs2.out _ h5;have mw:=hwW.out _ h5;have hs5:=hrs.out _ h5;replace hs5:=Lib.hid hs5;replace h5:=Lib.hid h5)
        | (go_at_call 60;refine mo hs5.out λw2 h=>?_;obtain⟨n0,n1,n2,n3,n4,n5,n6,n7,n8,n9⟩:=st_cells (x:=X.setBase s.base) hm5 hm6 hw5 hw6 h;have nw:=((show Blk w2 b.gW 81 wcs from h.blkAt 6 rfl).cell 0).trans hw0;replace h:=Lib.hid h)))
     all_goals go_wp2_with fail
     all_goals go_meet
     all_goals exact h.out
    case rest=>
     replace hcut:=Lib.hid hcut
     clear z0 z1 z2 z3 z4 z5 z6 z7 z8 z9 zw hlt hlt3 hlt4
     go_wp2_with fail
     go_ret
     exact⟨rfl,hcut.out.tail⟩
end
end Vm
end Go.Proofs.YtngdikikclfgjaaGreatDoor
