/- Chapter 8. Conditions: as written. -/
import Derived.Test.YtilaogbkdbbdkaaGreatDoorZ29
import Derived.Test.YtilaogbkdbbdkaaGreatDoorZ28
open Go.Proofs.Tryz
namespace Go.Proofs.YtilaogbkdbbdkaaGreatDoor
set_option linter.unusedVariables false
set_option linter.unusedSimpArgs false
set_option maxHeartbeats 8000000
set_option maxRecDepth 100000
open Go.RowKit Go.Lib Go.Deep
namespace Vm
theorem KZ{w:World}{e:TypeId}{v:Value}{a b:Value}(h:w.ownsRow 0 e 1 v 2 [a,b]): ∃g cap,v = .slice (some ⟨g,0,none⟩) 2 cap∧w.cell? ⟨g,0,none⟩=some a∧w.cell? ⟨g,1,none⟩=some b:=by
 obtain⟨hx,⟨h,h2⟩ | ⟨g,cap,cur,hv,hb,hg,h1,h2,h3,h4⟩⟩:=h
 ·cases h2
 ·refine⟨g,cap,hv,?_,?_⟩
  ·rw[cell_of_row _ _ 0 cur e (0,0) hg]
   have:=congrArg (λl=>l[0]?) h4
   simpa [List.getElem?_take]using this
  ·rw[cell_of_row _ _ 1 cur e (0,0) hg]
   have:=congrArg (λl=>l[1]?) h4
   simpa [List.getElem?_take]using this
theorem l8{w W:World}{g:Nat}{t:TypeId}{cs:Array Value}{o:Obj}(h:Below w.heap.size w W)(hb:Blk w g t cs):Blk (W.alloc o) g t cs:=by
 have hl:g<w.heap.size:=Blk.lt hb
 exact(((Below.refl W.heap.size W).alloc (Nat.le_refl _) o).block g (by have:=h.size;omega)).trans ((h.block g hl).trans hb)
theorem Bs(w:World)(rb cap gS gK:Nat)(nm:ByteArray)(rS rK:Option Wd)
 (h0:w.cell? (rb,0)=some (gS:Vl)) (h1:w.cell? (rb,1)=some (gK:Vl))
 (hS: ∀W,Below w.heap.size w W->Calls prog 9 #[gS,.string nm] W (ef rS W))
 (hK: ∀W,Below w.heap.size w W->Calls prog 9 #[gK,.string nm] W (ef rK W)):
 Calls prog 164 #[.string nm,.slice rb 2 cap] w (ef (rS.or rK) w):=by
 have th: ∀W,Below w.heap.size w W->W.cell? (rb,0)=some (gS:Vl)∧W.cell? (rb,1)=some (gK:Vl):=λW h=>
  ⟨(World.cell?_of_block (h.block _ (World.block_lt_of_cell? w _ h0))).trans h0,(World.cell?_of_block (h.block _ (World.block_lt_of_cell? w _ h1))).trans h1⟩
 have YV:Below w.heap.size w (w.alloc (.cells eS 43)):=(Below.refl _ _).alloc (Nat.le_refl _) _
 replace th:=Lib.hid th
 replace hS:=Lib.hid hS
 replace hK:=Lib.hid hK
 replace YV:=Lib.hid YV
 clear h0 h1
 unfold eS at YV
 go_enter func164,ntmps164
 go_wp2
 go_loopg [12] 2 (λk t wr=> ∃j:Nat,j+k=2∧t = .int .i64 (j:Int)∧Below w.heap.size w wr∧Blk wr w.heap.size 43 eS∧(1<=j->rS=none)∧(2<=j->rK=none))
 case atStart=>exact⟨0,by omega,rfl,YV.out,Blk.new _ _ _,by omega,by omega⟩
 case round=>
  obtain⟨j,hj,rfl,hb,hz,hn,Zx⟩:=hrel
  by_cases RQ:j<2
  ·have⟨c0,c1⟩:=th.out _ hb
   by_cases hj0:j=0
   ·subst hj0
    have hc:=Lib.hid (hS.out _ hb)
    rcases rS with _|x
    ·replace hn:=Lib.hid hn
     replace hz:=Lib.hid hz
     replace hb:=Lib.hid hb
     go_wp2_with fail
     refine mo hc.out λw2 Rm=>?_
     unfold fL eS
     simp only[Option.isSome]
     have Wg:=Lib.hid Rm
     clear Rm
     go_wp2
     go_roundg (gk-1)
     case measure=>omega
     case rel=>refine⟨1,by omega,rfl,?_,?_,λ_=>trivial,by omega⟩;exact(hb.out.trans (Wg.out.mono hb.out.size)).trans (((Below.refl _ _).alloc (Nat.le_refl _) _).mono (by have:=hb.out.size;have:=Wg.out.size;omega));exact l8 Wg.out hz.out
    ·replace hn:=Lib.hid hn
     replace hz:=Lib.hid hz
     replace hb:=Lib.hid hb
     go_wp2_with fail
     refine mo hc.out λw2 Rm=>?_
     unfold fL Wd.c
     simp only[Option.isSome]
     obtain⟨nm1,hd1,xt1,im1,hh1,il1⟩:=x
     simp only[]
     have d2:=l8 (o:= .cells #[.string ⟨nm1.toArray⟩,(hd1:Int),(xt1:Int),.bool im1,.bool hh1,.bool il1] 43) Rm hz.out
     unfold eS at d2
     have e0:=d2.cell 0
     have e1:=d2.cell 1
     have e2:=d2.cell 2
     have e3:=d2.cell 3
     have e4:=d2.cell 4
     have e5:=d2.cell 5
     have f0:=d2.frozen 0
     have f1:=d2.frozen 1
     have f2:=d2.frozen 2
     have f3:=d2.frozen 3
     have f4:=d2.frozen 4
     have f5:=d2.frozen 5
     have Wg:=Lib.hid Rm
     replace d2:=Lib.hid d2
     clear Rm
     go_wp2
     have v6:=(((((d2.out.bE 0 (.string ⟨nm1.toArray⟩)).bE 1 (.int .i64 (hd1:Int))).bE 2 (.int .i64 (xt1:Int))).bE 3 (.bool im1)).bE 4 (.bool hh1)).bE 5 (.bool il1)
     have q0:=v6.cell 0
     have q1:=v6.cell 1
     have q2:=v6.cell 2
     have q3:=v6.cell 3
     have q4:=v6.cell 4
     have q5:=v6.cell 5
     have hq:w.heap.size<=w.heap.size:=Nat.le_refl _
     have hbz:Below w.heap.size w (w2.alloc (.cells #[.string ⟨nm1.toArray⟩,(hd1:Int),(xt1:Int),.bool im1,.bool hh1,.bool il1] 43)):=(hb.out.trans (Wg.out.mono hb.out.size)).trans (((Below.refl _ _).alloc (Nat.le_refl _) _).mono (by have:=hb.out.size;have:=Wg.out.size;omega))
     refine bodyPost_ret (v:=fL (some ⟨nm1,hd1,xt1,im1,hh1,il1⟩)) ?_ rfl ⟨rfl,((((((hbz.setCell hq _).setCell hq _).setCell hq _).setCell hq _).setCell hq _).setCell hq _)⟩
     simp[results,results164,go_sem,fL,Wd.c,q0,q1,q2,q3,q4,q5]
   ·obtain rfl:j=1:=by omega
    have hc:=Lib.hid (hK.out _ hb)
    rcases rK with _|x
    ·replace hn:=Lib.hid hn
     replace hz:=Lib.hid hz
     replace hb:=Lib.hid hb
     go_wp2_with fail
     refine mo hc.out λw2 Rm=>?_
     unfold fL eS
     simp only[Option.isSome]
     have Wg:=Lib.hid Rm
     clear Rm
     go_wp2
     go_roundg (gk-1)
     case measure=>omega
     case rel=>refine⟨2,by omega,rfl,?_,?_,λ_=>hn.out oM,λ_=>trivial⟩;exact(hb.out.trans (Wg.out.mono hb.out.size)).trans (((Below.refl _ _).alloc (Nat.le_refl _) _).mono (by have:=hb.out.size;have:=Wg.out.size;omega));exact l8 Wg.out hz.out
    ·replace hn:=Lib.hid hn
     replace hz:=Lib.hid hz
     replace hb:=Lib.hid hb
     go_wp2_with fail
     refine mo hc.out λw2 Rm=>?_
     unfold fL Wd.c
     simp only[Option.isSome]
     obtain⟨nm1,hd1,xt1,im1,hh1,il1⟩:=x
     simp only[]
     have d2:=l8 (o:= .cells #[.string ⟨nm1.toArray⟩,(hd1:Int),(xt1:Int),.bool im1,.bool hh1,.bool il1] 43) Rm hz.out
     unfold eS at d2
     have e0:=d2.cell 0
     have e1:=d2.cell 1
     have e2:=d2.cell 2
     have e3:=d2.cell 3
     have e4:=d2.cell 4
     have e5:=d2.cell 5
     have f0:=d2.frozen 0
     have f1:=d2.frozen 1
     have f2:=d2.frozen 2
     have f3:=d2.frozen 3
     have f4:=d2.frozen 4
     have f5:=d2.frozen 5
     have Wg:=Lib.hid Rm
     replace d2:=Lib.hid d2
     clear Rm
     go_wp2
     have v6:=(((((d2.out.bE 0 (.string ⟨nm1.toArray⟩)).bE 1 (.int .i64 (hd1:Int))).bE 2 (.int .i64 (xt1:Int))).bE 3 (.bool im1)).bE 4 (.bool hh1)).bE 5 (.bool il1)
     have q0:=v6.cell 0
     have q1:=v6.cell 1
     have q2:=v6.cell 2
     have q3:=v6.cell 3
     have q4:=v6.cell 4
     have q5:=v6.cell 5
     have hq:w.heap.size<=w.heap.size:=Nat.le_refl _
     have hbz:Below w.heap.size w (w2.alloc (.cells #[.string ⟨nm1.toArray⟩,(hd1:Int),(xt1:Int),.bool im1,.bool hh1,.bool il1] 43)):=(hb.out.trans (Wg.out.mono hb.out.size)).trans (((Below.refl _ _).alloc (Nat.le_refl _) _).mono (by have:=hb.out.size;have:=Wg.out.size;omega))
     refine bodyPost_ret (v:=fL (some ⟨nm1,hd1,xt1,im1,hh1,il1⟩)) ?_ rfl ⟨by rw[hn.out oM];rfl,((((((hbz.setCell hq _).setCell hq _).setCell hq _).setCell hq _).setCell hq _).setCell hq _)⟩
     simp[results,results164,go_sem,fL,Wd.c,q0,q1,q2,q3,q4,q5]
  ·obtain rfl:=hn oM
   obtain rfl:=Zx oM
   have d2:Blk wr w.heap.size 43 #[.string ⟨#[]⟩,(0:Int),(0:Int),.bool false,.bool false,.bool false]:=hz
   have e0:=d2.cell 0
   have e1:=d2.cell 1
   have e2:=d2.cell 2
   have e3:=d2.cell 3
   have e4:=d2.cell 4
   have e5:=d2.cell 5
   have f0:=d2.frozen 0
   have f1:=d2.frozen 1
   have f2:=d2.frozen 2
   have f3:=d2.frozen 3
   have f4:=d2.frozen 4
   have f5:=d2.frozen 5
   clear hz
   replace d2:=Lib.hid d2
   replace hb:=Lib.hid hb
   go_wp2
   have v6:=(((((d2.out.bE 0 (.string ⟨#[]⟩)).bE 1 (.int .i64 0)).bE 2 (.int .i64 0)).bE 3 (.bool false)).bE 4 (.bool false)).bE 5 (.bool false)
   have q0:=v6.cell 0
   have q1:=v6.cell 1
   have q2:=v6.cell 2
   have q3:=v6.cell 3
   have q4:=v6.cell 4
   have q5:=v6.cell 5
   have hq:w.heap.size<=w.heap.size:=Nat.le_refl _
   refine bodyPost_ret (v:=fL none) ?_ rfl ⟨rfl,((((((hb.out.setCell hq _).setCell hq _).setCell hq _).setCell hq _).setCell hq _).setCell hq _)⟩
   simp[results,results164,go_sem,fL,eS,q0,q1,q2,q3,q4,q5]
structure sj(n0:Nat)(w:World)(F:Nat->Prop)(A:Option Addr)(j:Nat)(x:Wrd)(rb o:Nat)(Ax:Option Addr)(cp:Nat):Prop where
 at_:A=some ⟨rb,o,none⟩
 far: ¬F rb
 c0:w.cell? ⟨rb,o+j*4,none⟩=some (.string x.name)
 c1:w.cell? ⟨rb,o+j*4+1,none⟩=some (.bool x.hid)
 c2:w.cell? ⟨rb,o+j*4+2,none⟩=some (.bool x.imm)
 c3:w.cell? ⟨rb,o+j*4+3,none⟩=some (.slice Ax x.cells.length cp)
 ints:ln w Ax x.cells
 Ds:x.cells≠[]->∀a,Ax=some a->¬F a.block∧a.block<n0
 name:x.name.size<=9223372036854775807
 v64: ∀v∈x.cells,V64 v
 len:x.cells.length<=9223372036854775807
def jQe(n0:Nat)(w:World)(F:Nat->Prop)(A:Option Addr)(xs:List Wrd):Prop:= ∀j x,xs[j]? = some x->∃rb o Ax cp,sj n0 w F A j x rb o Ax cp
theorem sj.on{n0:Nat}{w W:World}{F:Nat->Prop}{X:Asr}{A Ax:Option Addr}{j rb o cp:Nat}{x:Wrd}(h:sj n0 w F A j x rb o Ax cp)(so:On F w X W):sj n0 W F A j x rb o Ax cp:=
 ⟨h.at_,h.far,so.eJ h.c0 h.far,so.eJ h.c1 h.far,so.eJ h.c2 h.far,so.eJ h.c3 h.far,λj v hj=>so.ints h.ints (λa ha=>(h.Ds (λe=>by rw[e]at hj;simp at hj) a ha).1) j v hj,h.Ds,h.name,h.v64,h.len⟩
structure Sl where
 kA:Option Addr
 kc:Nat
 sA:Option Addr
 sc:Nat
 dA:Option Addr
 dc:Nat
 rA:Option Addr
 rc:Nat
def ap(s:Setup)(m:Sl):Array Value:=
 #[s.dp,s.room,.string s.input,.string s.hidden,.bool s.opened,.slice m.kA s.kernel.length m.kc,.slice m.sA s.aT.length m.sc,s.base,.slice m.dA s.data.length m.dc,.slice m.rA s.ret.length m.rc,s.fault,s.used,s.eF]
def lsK(b:Bc)(r:Rc)(wcs:Array Value)(D:Dc)(q:Img×Dc):List Asr:=
 ae b.gB 40 (fJ b (.slice none 0 0))::Rk b.gI b.gS 16456 16960 D::bD r.gS r.gb 16448 16960 704 false D::cu b.gI b.gK b.gW wcs r.gK r.gb 0 16384 17152 q q
def lsS(b:Bc)(r:Rc)(wcs:Array Value)(K:Dc)(q:Img×Dc):List Asr:=
 ae b.gB 40 (fJ b (.slice none 0 0))::Rk b.gI b.gK 8 16384 K::bD r.gK r.gb 0 16384 17152 false K::cu b.gI b.gS b.gW wcs r.gS r.gb 16448 16960 704 q q
section
variable {w W:World}{F:Nat->Prop}{b:Bc}{r:Rc}{wcs sc:Array Value}{K D:Dc}{S:Img}{s:Setup}{m:Sl}{q:Img×Dc}{bx:Nat}
theorem L9{B:Asr}(h:On F w (aa (B::lsK b r wcs D (S,K))) W):On F w (aa (B::lsS b r wcs K (S,D))) W:=by
 have h1:On F w (aa [B,ae b.gB 40 (fJ b (.slice none 0 0)),Rk b.gI b.gS 16456 16960 D,bD r.gS r.gb 16448 16960 704 false D,Rk b.gI b.gK 8 16384 K,av b.gI S,ae b.gW 86 wcs,bD r.gK r.gb 0 16384 17152 false K,RbA r.gb S]) W:=h
 exact(((((((((h1.front 8 rfl).front 4 rfl).front 7 rfl).front 7 rfl).front 6 rfl).front 8 rfl).front 8 rfl).front 8 rfl).front 8 rfl)
theorem vb(xs:List Wrd)(q:Img×Dc)(j:Nat)(x:Wrd)(hx:xs[j]? = some x): (xs.take (j+1)).foldl (λq x=>db x q) q=db x ((xs.take j).foldl (λq x=>db x q) q):=by
 rw[List.take_add_one,hx]
 simp
theorem yl(xs:List Wrd)(q:Img×Dc): (xs.take (min xs.length 20)).foldl (λq x=>db x q) q=co xs q:=by
 unfold co
 congr 1
 by_cases h:xs.length<=20
 ·rw[Nat.min_eq_left h,List.take_of_length_le (Nat.le_refl _),List.take_of_length_le h]
 ·rw[Nat.min_eq_right oM]
theorem uz(xs:List Wrd)(q:Img×Dc)(j:Nat)(h1:q.1.Ok)(h2:q.2.Ok q.1):dX q ((xs.take j).foldl (λq x=>db x q) q):=oO _ q h1 h2
theorem yN(h:On F w (aa (ae bx 25 sc::lsK b r wcs D q)) W)(h8:At8 q.1 q.2 8 16384)(R7:q.2.shut q.1=false)(x:Wrd){A Ax:Option Addr}{j rb o cp:Nat}(hx:sj w.heap.size W F A j x rb o Ax cp)
 (Ui:wcs[1]? = some (r.gK:Vl)) (Q8:wcs[2]? = some (r.gS:Vl)):
 Calls prog 57 #[b.gK,b.gW,.bool true,.agg #[.string x.name,.bool x.hid,.bool x.imm,.slice Ax x.cells.length cp]] W (Got (.returned (.bool true)) (aa (ae bx 25 sc::lsK b r wcs D (db x q))) F w):=
 h.bj 4 (by simp[lsK]) λF' hb _ hs=>uK (bg:=0) hb h8 R7 x Ax cp hx.name hx.ints (λRP a ha hk=>by
  obtain⟨h1,h2⟩:=hx.Ds RP a ha
  rcases hs a.block hk with h3|h3
  ·exact h1 h3
  ·omega) hx.v64 hx.len true r.gK r.gS Ui Q8 rfl
theorem wz(h:On F w (aa (ae bx 25 sc::lsS b r wcs K q)) W)(h8:At8 q.1 q.2 16456 16960)(R7:q.2.shut q.1=false)(x:Wrd){A Ax:Option Addr}{j rb o cp:Nat}(hx:sj w.heap.size W F A j x rb o Ax cp)
 (Ui:wcs[1]? = some (r.gK:Vl)) (Q8:wcs[2]? = some (r.gS:Vl)):
 Calls prog 57 #[b.gS,b.gW,.bool false,.agg #[.string x.name,.bool x.hid,.bool x.imm,.slice Ax x.cells.length cp]] W (Got (.returned (.bool true)) (aa (ae bx 25 sc::lsS b r wcs K (db x q))) F w):=
 h.bj 4 (by simp[lsS]) λF' hb _ hs=>uK (bg:=16448) hb h8 R7 x Ax cp hx.name hx.ints (λRP a ha hk=>by
  obtain⟨h1,h2⟩:=hx.Ds RP a ha
  rcases hs a.block hk with h3|h3
  ·exact h1 h3
  ·omega) hx.v64 hx.len false r.gK r.gS Ui Q8 rfl
theorem sS{L:List Asr}{bx:Nat}{t:TypeId}{cs:Array Value}(h:On F w (aa (ae bx t cs::ae b.gB 40 (fJ b (.slice none 0 0))::L)) W):
 W.cell? (b.gB,0)=some (b.gI:Vl)∧W.cell? (b.gB,1)=some (b.gK:Vl)∧W.cell? (b.gB,2)=some (b.gS:Vl)∧W.cell? (b.gB,5)=some (b.gM:Vl)∧W.cell? (b.gB,6)=some (b.gW:Vl):=
 let hb:=h.ab 1 rfl
 ⟨hb.cell 0,hb.cell 1,hb.cell 2,hb.cell 5,hb.cell 6⟩
theorem pT{L:List Asr}{bx:Nat}(h:On F w (aa (ae bx 25 (ap s m)::L)) W):
 W.cell? (bx,5)=some (.slice m.kA s.kernel.length m.kc)∧W.cell? (bx,6)=some (.slice m.sA s.aT.length m.sc)∧W.cell? (bx,7)=some (s.base:Vl)∧W.cell? (bx,8)=some (.slice m.dA s.data.length m.dc)∧W.cell? (bx,9)=some (.slice m.rA s.ret.length m.rc):=
 let hb:=h.ab 0 rfl
 ⟨hb.cell 5,hb.cell 6,hb.cell 7,hb.cell 8,hb.cell 9⟩
theorem Mk(hb: (aa (lsK b r wcs D q)).holds w F)(h8:At8 q.1 q.2 8 16384)(R7:q.2.shut q.1=false)(h8d:At8 q.1 D 16456 16960)(hbO:D.shut q.1=false)(hk:jQe w.heap.size w F m.kA s.kernel)(Rj:jQe w.heap.size w F m.sA s.aT)
 (hkl:s.kernel.length<=9223372036854775807) (hsl:s.aT.length<=9223372036854775807) (Ui:wcs[1]? = some (r.gK:Vl)) (Q8:wcs[2]? = some (r.gS:Vl)):
 Calls prog 27 #[b.gB,.agg (ap s m)] w (Got (.returned (.bool true)) (aa (lsS b r wcs (co s.kernel q).2 (co s.aT ((co s.kernel q).1,D)))) F w):=by
 have so:=(On.refl hb).box (ap s m) 25
 have hbc:=λW q (h:On F w (aa (ae w.heap.size 25 (ap s m)::lsK b r wcs D q)) W)=>sS h
 have ZJ:=λW q (h:On F w (aa (ae w.heap.size 25 (ap s m)::lsK b r wcs D q)) W)=>pT h
 have hcX:=λW (p:Img×Dc) (h:On F w (aa (ae w.heap.size 25 (ap s m)::lsS b r wcs (co s.kernel q).2 p)) W)=>sS h
 have hdf:=λW (p:Img×Dc) (h:On F w (aa (ae w.heap.size 25 (ap s m)::lsS b r wcs (co s.kernel q).2 p)) W)=>pT h
 replace hdf:=Lib.hid hdf
 replace hcX:=Lib.hid hcX
 replace so:=Lib.hid so
 replace hbc:=Lib.hid hbc
 replace ZJ:=Lib.hid ZJ
 replace h8:=Lib.hid h8
 replace R7:=Lib.hid R7
 replace h8d:=Lib.hid h8d
 replace hbO:=Lib.hid hbO
 replace hk:=Lib.hid hk
 replace Rj:=Lib.hid Rj
 unfold ap
 go_enter func27,ntmps27
 go_upto_block 0 with fail
 go_cut [] (λwx=>On F w (aa (ae w.heap.size 25 (ap s m)::lsS b r wcs (co s.kernel q).2 ((co s.kernel q).1,D))) wx)
 case first=>
  go_wp2_with fail
  go_loopg [5] (min s.kernel.length 20) (λk t wr=> ∃j:Nat,j+k=min s.kernel.length 20∧t = .int .i64 (j:Int)∧On F w (aa (ae w.heap.size 25 (ap s m)::lsK b r wcs D ((s.kernel.take j).foldl (λq x=>db x q) q))) wr)
  case atStart=>exact⟨0,by omega,rfl,so.out⟩
  case round=>
   obtain⟨j,hj,rfl,RC⟩:=hrel
   obtain⟨z0,z1,z2,z3,z4⟩:=hbc.out _ _ RC
   obtain⟨y5,y6,y7,y8,y9⟩:=ZJ.out _ _ RC
   by_cases RQ:j<min s.kernel.length 20
   ·obtain⟨x,hx⟩: ∃x,s.kernel[j]? = some x:=⟨s.kernel[j]' oM,by rw[List.getElem?_eq_getElem]⟩
    obtain⟨rb,o,Ax,cp,hxi⟩:=hk.out j x hx
    have hxo:=hxi.on RC
    have hg:=uz s.kernel q j h8.out.img h8.out.ok
    have hl:=yN RC.drew (hg.at8 h8.out) (hg.shut.trans R7.out) x (hxi.on RC.drew) Ui Q8
    rw[<-vb s.kernel q j x hx]at hl
    have hA:=hxi.at_
    have x0:=hxo.c0
    have x1:=hxo.c1
    have x2:=hxo.c2
    have x3:=hxo.c3
    have hxk:=λW (p:Img×Dc) (h:On F w (aa (ae w.heap.size 25 (ap s m)::lsK b r wcs D p)) W)=>hxi.on h
    have d1:decide ((j:Int) < (s.kernel.length:Int))=true:=decide_eq_true oM
    have d2:decide ((j:Int) <20)=true:=decide_eq_true oM
    rw[hA]at y5
    have YM:j<s.kernel.length:=by omega
    generalize hqn: (s.kernel.take (j+1)).foldl (λq x=>db x q) q=qn at *
    replace hqn:=Lib.hid hqn
    obtain⟨nm,hid,imm,cs⟩:=x
    simp only at hl x0 x1 x2 x3
    replace hl:=Lib.hid hl
    replace RC:=Lib.hid RC
    replace hxk:=Lib.hid hxk
    replace hA:=Lib.hid hA
    clear hxo hg hx hxi
    go_wp2_with fail
    go_region_held (λw'=>w'.cell? (b.gB,1)=some (b.gK:Vl)∧w'.cell? (b.gB,6)=some (b.gW:Vl)∧w'.cell? (w.heap.size,5)=some (.slice (some ⟨rb,o,none⟩) s.kernel.length m.kc)∧w'.cell? ⟨rb,o+j*4,none⟩=some (.string nm)∧w'.cell? ⟨rb,o+j*4+1,none⟩=some (.bool hid)∧w'.cell? ⟨rb,o+j*4+2,none⟩=some (.bool imm)∧w'.cell? ⟨rb,o+j*4+3,none⟩=some (.slice Ax cs.length cp)) (go_keep)
     ((go_at_call 57;refine mo hl.out λw1 h=>?_;obtain⟨m0,m1,m2,m3,m4⟩:=hbc.out _ _ h;obtain⟨n5,n6,n7,n8,n9⟩:=ZJ.out _ _ h;rw[hA.out]at n5;have hxw:=hxk.out _ _ h;have v0:=hxw.c0;have v1:=hxw.c1;have v2:=hxw.c2;have v3:=hxw.c3;simp only at v0 v1 v2 v3;replace h:=Lib.hid h;replace hxw:=Lib.hid hxw))
    go_wp2
    go_roundg (gk-1)
    case measure=>omega
    case rel=>exact⟨j+1,by omega,by go_num,by rw[hqn.out];exact h.out⟩
   ·have TJ:j=min s.kernel.length 20:=by omega
    have IS:=RC
    rw[TJ,yl]at IS
    have Va:=L9 (D:=D) (S:=(co s.kernel q).1) (K:=(co s.kernel q).2) IS
    have Sx: (decide ((j:Int) < (s.kernel.length:Int))=true∧decide ((j:Int) <20)=false)∨decide ((j:Int) < (s.kernel.length:Int))=false:=by
     by_cases h20:j<s.kernel.length
     ·exact .inl ⟨decide_eq_true oM,decide_eq_false oM⟩
     ·exact .inr (decide_eq_false oM)
    replace IS:=Lib.hid IS
    replace Va:=Lib.hid Va
    replace RC:=Lib.hid RC
    replace TJ:=Lib.hid TJ
    rcases Sx with⟨d1,d2⟩ |d1
    all_goals go_wp2_with fail
    all_goals go_meet
    all_goals exact Va.out
 case rest=>
  have Va:=hcut
  have Z0:=er s.kernel q h8.out.img h8.out.ok
  have h8s:At8 (co s.kernel q).1 D 16456 16960:=h8d.out.next Z0.img (h8d.out.ok.alike Z0.al) Z0.al rfl
  have hee:D.shut (co s.kernel q).1=false:=(Dc.sH Z0.al).trans hbO.out
  replace Va:=Lib.hid Va
  replace h8s:=Lib.hid h8s
  replace hee:=Lib.hid hee
  clear Z0 hcut hbc ZJ
  go_wp2_with fail
  go_loopg [7] (min s.aT.length 20) (λk t wr=> ∃j:Nat,j+k=min s.aT.length 20∧t = .int .i64 (j:Int)∧On F w (aa (ae w.heap.size 25 (ap s m)::lsS b r wcs (co s.kernel q).2 ((s.aT.take j).foldl (λq x=>db x q) ((co s.kernel q).1,D)))) wr)
  case atStart=>exact⟨0,by omega,rfl,Va.out⟩
  case round=>
   obtain⟨j,hj,rfl,RC⟩:=hrel
   obtain⟨z0,z1,z2,z3,z4⟩:=hcX.out _ _ RC
   obtain⟨y5,y6,y7,y8,y9⟩:=hdf.out _ _ RC
   by_cases RQ:j<min s.aT.length 20
   ·obtain⟨x,hx⟩: ∃x,s.aT[j]? = some x:=⟨s.aT[j]' oM,by rw[List.getElem?_eq_getElem]⟩
    obtain⟨rb,o,Ax,cp,hxi⟩:=Rj.out j x hx
    have hxo:=hxi.on RC
    have hg:=uz s.aT ((co s.kernel q).1,D) j h8s.out.img h8s.out.ok
    have hl:=wz RC.drew (hg.at8 h8s.out) (hg.shut.trans hee.out) x (hxi.on RC.drew) Ui Q8
    rw[<-vb s.aT ((co s.kernel q).1,D) j x hx]at hl
    have hA:=hxi.at_
    have x0:=hxo.c0
    have x1:=hxo.c1
    have x2:=hxo.c2
    have x3:=hxo.c3
    have hxk:=λW (p:Img×Dc) (h:On F w (aa (ae w.heap.size 25 (ap s m)::lsS b r wcs (co s.kernel q).2 p)) W)=>hxi.on h
    have d1:decide ((j:Int) < (s.aT.length:Int))=true:=decide_eq_true oM
    have d2:decide ((j:Int) <20)=true:=decide_eq_true oM
    rw[hA]at y6
    have YM:j<s.aT.length:=by omega
    generalize hqn: (s.aT.take (j+1)).foldl (λq x=>db x q) ((co s.kernel q).1,D)=qn at *
    replace hqn:=Lib.hid hqn
    obtain⟨nm,hid,imm,cs⟩:=x
    simp only at hl x0 x1 x2 x3
    replace hl:=Lib.hid hl
    replace RC:=Lib.hid RC
    replace hxk:=Lib.hid hxk
    replace hA:=Lib.hid hA
    clear hxo hg hx hxi
    go_wp2_with fail
    go_region_held (λw'=>w'.cell? (b.gB,2)=some (b.gS:Vl)∧w'.cell? (b.gB,6)=some (b.gW:Vl)∧w'.cell? (w.heap.size,6)=some (.slice (some ⟨rb,o,none⟩) s.aT.length m.sc)∧w'.cell? ⟨rb,o+j*4,none⟩=some (.string nm)∧w'.cell? ⟨rb,o+j*4+1,none⟩=some (.bool hid)∧w'.cell? ⟨rb,o+j*4+2,none⟩=some (.bool imm)∧w'.cell? ⟨rb,o+j*4+3,none⟩=some (.slice Ax cs.length cp)) (go_keep)
     ((go_at_call 57;refine mo hl.out λw1 h=>?_;obtain⟨m0,m1,m2,m3,m4⟩:=hcX.out _ _ h;obtain⟨n5,n6,n7,n8,n9⟩:=hdf.out _ _ h;rw[hA.out]at n6;have hxw:=hxk.out _ _ h;have v0:=hxw.c0;have v1:=hxw.c1;have v2:=hxw.c2;have v3:=hxw.c3;simp only at v0 v1 v2 v3;replace h:=Lib.hid h;replace hxw:=Lib.hid hxw))
    go_wp2
    go_roundg (gk-1)
    case measure=>omega
    case rel=>exact⟨j+1,by omega,by go_num,by rw[hqn.out];exact h.out⟩
   ·have TJ:j=min s.aT.length 20:=by omega
    have IS:=RC
    rw[TJ,yl]at IS
    have Sx: (decide ((j:Int) < (s.aT.length:Int))=true∧decide ((j:Int) <20)=false)∨decide ((j:Int) < (s.aT.length:Int))=false:=by
     by_cases h20:j<s.aT.length
     ·exact .inl ⟨decide_eq_true oM,decide_eq_false oM⟩
     ·exact .inr (decide_eq_false oM)
    replace IS:=Lib.hid IS
    replace RC:=Lib.hid RC
    replace TJ:=Lib.hid TJ
    rcases Sx with⟨d1,d2⟩ |d1
    all_goals go_wp2
    all_goals go_ret
    all_goals exact⟨rfl,IS.out.tail⟩
end
def pd0:Pl:=⟨16960,16,1,2⟩
def pr0:Pl:=⟨17088,8,3,4⟩
theorem OQ:pd0.Ok:=⟨by decide,by decide⟩
theorem NX:pr0.Ok:=⟨by decide,by decide⟩
structure St where
 S:Img
 d:Nat
 r:Nat
 R:Img
 dd:Nat
 da:List Int
 rd:Nat
 ra:List Int
def stL(b:Bc)(r:Rc)(gD gR:Nat)(mc wcs:Array Value)(x:St):List Asr:=
 [ae b.gB 40 (fJ b (.slice none 0 0)),ae b.gM 109 mc,cS b.gI gD pd0 x.d,cS b.gI gR pr0 x.r,av b.gI x.S,ae b.gW 86 wcs,
  aa (fC r.gD r.gDr x.dd 1 2 x.da),aa (fC r.gR r.gRr x.rd 3 4 x.ra),ae r.gM 131 (aL r.gb x.R),RbA r.gb x.R]
def St.dy(x:St)(v:Int):St:={ x with S:=aY x.S 16960 x.d [v],d:=x.d+1 }
def St.az(x:St)(v:Int):St:={ x with S:=aY x.S 17088 x.r [v],r:=x.r+1 }
def St.HT(x:St)(v:Int):St:={ x with dd:=x.dd+1,da:=x.da.set x.dd v }
def St.Hn(x:St)(v:Int):St:={ x with rd:=x.rd+1,ra:=x.ra.set x.rd v }
section
variable {w W:World}{F:Nat->Prop}{b:Bc}{r:Rc}{gD gR rb bx:Nat}{mc wcs sc:Array Value}{x:St}{v:Int}{s:Setup}{m:Sl}
theorem Dj{L:List Asr}{i j:Nat}{G:Nat->Prop}{w0 w1:World}(hi:0≠i)(hj:0≠j)(ho:O4 (ae rb 3 #[v]::L) i j F w0 w1 G):ln w1 (some ⟨rb,0,none⟩) [v]∧Far G (some ⟨rb,0,none⟩):=by
 obtain⟨F3,h3,hd⟩:=ho.2 0 _ hi hj rfl
 refine⟨λk u hk=> ?_,λa ha hk=> ?_⟩
 ·refine⟨_,rfl,?_⟩
  have h1:=h3.1.cell k
  have h2: ((⟨rb,0,none⟩:Addr).add k)= ⟨rb,k,none⟩:=by simp[Addr.add];intro h;exact h.symm
  rw[h2,h1]
  rcases k with _|k
  ·simp at hk;subst hk;rfl
  ·simp at hk
 ·cases ha
  exact hd rb ((h3.2 rb).2 rfl) hk
theorem JY(h:On F w (aa (ae rb 3 #[v]::ae bx 25 sc::stL b r gD gR mc wcs x)) W)(hv:V64 v)(hd:x.d<16):
 Calls prog 60 #[gD,.slice rb 1 1] W (Got (.returned (.int .i64 0)) (aa (ae rb 3 #[v]::ae bx 25 sc::stL b r gD gR mc wcs (x.dy v))) F w):=
 h.me 4 6 (by decide) rfl rfl λF' hb ho=>by
  obtain⟨h1,h2⟩:=Dj (by decide) (by decide) ho
  exact ko hb OQ [v] (λu hu=>by rw[List.mem_singleton.1 hu];exact hv) (some ⟨rb,0,none⟩) 1 h1 h2 (by show x.d<=16;omega) (by show 1<=16-x.d;omega)
theorem Hf(h:On F w (aa (ae rb 3 #[v]::ae bx 25 sc::stL b r gD gR mc wcs x)) W)(hv:V64 v)(hd:x.r<8):
 Calls prog 60 #[gR,.slice rb 1 1] W (Got (.returned (.int .i64 0)) (aa (ae rb 3 #[v]::ae bx 25 sc::stL b r gD gR mc wcs (x.az v))) F w):=
 h.me 5 6 (by decide) rfl rfl λF' hb ho=>by
  obtain⟨h1,h2⟩:=Dj (by decide) (by decide) ho
  exact ko hb NX [v] (λu hu=>by rw[List.mem_singleton.1 hu];exact hv) (some ⟨rb,0,none⟩) 1 h1 h2 (by show x.r<=8;omega) (by show 1<=8-x.r;omega)
theorem yZ{L:List Asr}(h:On F w (aa (ae rb 3 #[v]::L)) W):W.cell? (rb,0)=some (v:Vl):=(h.ab 0 rfl).cell 0
theorem Fl(h:On F w (aa (ae rb 3 #[v]::ae bx 25 sc::stL b r gD gR mc wcs x)) W)(hd:x.dd<x.da.length)(hn:x.da.length<=512):
 Calls prog 61 #[r.gD,.slice rb 1 1] W (Got (.returned (.int .i64 0)) (aa (ae rb 3 #[v]::ae bx 25 sc::stL b r gD gR mc wcs (x.HT v))) F w):=
 h.bG 8 rfl λF' hb=>Df (On.refl hb) hd hn rb v (yZ h)
theorem FU(h:On F w (aa (ae rb 3 #[v]::ae bx 25 sc::stL b r gD gR mc wcs x)) W)(hd:x.rd<x.ra.length)(hn:x.ra.length<=512):
 Calls prog 61 #[r.gR,.slice rb 1 1] W (Got (.returned (.int .i64 0)) (aa (ae rb 3 #[v]::ae bx 25 sc::stL b r gD gR mc wcs (x.Hn v))) F w):=
 h.bG 9 rfl λF' hb=>Df (On.refl hb) hd hn rb v (yZ h)
theorem Am(c5:W.cell? (bx,5)=some (gD:Vl)):Calls prog 13 #[bx] W (ax gD W):=by
 go_enter func13,ntmps13
 go_wp2
 go_ret
 exact⟨rfl,rfl⟩
theorem qR(c5:W.cell? (bx,6)=some (gD:Vl)):Calls prog 15 #[bx] W (ax gD W):=by
 go_enter func15,ntmps15
 go_wp2
 go_ret
 exact⟨rfl,rfl⟩
theorem Of{gI gb:Nat}{S:Img}(c0:W.cell? (bx,0)=some (gI:Vl))(hi:b9 W gI gb S):Calls prog 63 #[bx] W (λe w'=>e = .returned (S.beg 3:Int)∧∃n,w'=W.drewN n):=by
 have Sj:=j5 hi 3 oM oM
 replace Sj:=Lib.hid Sj
 clear hi
 go_enter func63,ntmps63
 go_wp2_with fail
 refine Sj.out.mono ?_
 rintro e w1 ⟨rfl,n,rfl⟩
 go_wp2
 go_ret
 exact⟨rfl,n,rfl⟩
theorem sI(hm5:mc[5]? = some (gD:Vl))(hm6:mc[6]? = some (gR:Vl))(hw5:wcs[5]? = some (r.gD:Vl))(hw6:wcs[6]? = some (r.gR:Vl))
 (h:On F w (aa (ae bx 25 (ap s m)::stL b r gD gR mc wcs x)) W):
 W.cell? (b.gB,0)=some (b.gI:Vl)∧W.cell? (b.gB,5)=some (b.gM:Vl)∧W.cell? (b.gB,6)=some (b.gW:Vl)∧W.cell? (bx,7)=some (s.base:Vl)∧
 W.cell? (bx,8)=some (.slice m.dA s.data.length m.dc)∧W.cell? (bx,9)=some (.slice m.rA s.ret.length m.rc)∧W.cell? (b.gM,5)=some (gD:Vl)∧W.cell? (b.gM,6)=some (gR:Vl)∧
 W.cell? (b.gW,5)=some (r.gD:Vl)∧W.cell? (b.gW,6)=some (r.gR:Vl):=
 let hs:Blk W bx 25 (ap s m):=h.ab 0 rfl
 let hb:Blk W b.gB 40 (fJ b (.slice none 0 0)):=h.ab 1 rfl
 let hm:Blk W b.gM 109 mc:=h.ab 2 rfl
 let hw:Blk W b.gW 86 wcs:=h.ab 6 rfl
 ⟨hb.cell 0,hb.cell 5,hb.cell 6,hs.cell 7,hs.cell 8,hs.cell 9,(hm.cell 5).trans hm5,(hm.cell 6).trans hm6,(hw.cell 5).trans hw5,(hw.cell 6).trans hw6⟩
theorem LM{gM gb gW:Nat}{S:Img}(c0:W.cell? (gW,0)=some (gM:Vl))(hi:cX W gM gb S):Calls prog 44 #[gW] W (Quiet (S.beg 3:Int) W):=by
 have hs:=pB hi 3
 have ha:dq S 3= (S.beg 3:Int):=by unfold dq;rw[if_pos oM];rfl
 rw[ha]at hs
 replace hs:=Lib.hid hs
 clear ha hi
 go_enter func44,ntmps44
 go_wp2_with fail
 refine mo hs.out λw2 hb=>?_
 replace hb:=Lib.hid hb
 go_wp2
 go_ret
 exact⟨rfl,hb.out⟩
theorem Bt{S:Img}(hL:bH S)(w:Bool):S.ay 0 16448 w=0∧S.aO 0 16448 8 w=true:=by
 obtain⟨b2,b3,b4,b5,b6⟩:=hL.dU
 have hr:S.region (16448:Int)=3:=S.dn oM oM oM oM (by show(16448:Int) <S.beg 4;omega)
 have An:S.aO 0 (16448:Int) 8 w=true:=by
  unfold Img.aO Img.lets Img.may
  rw[hr]
  have h4:decide (((8:Nat):Int)<=(S.beg (3+1):Int) -16448)=true:=decide_eq_true (by show((8:Nat):Int)<=(S.beg 4:Int) -_;omega)
  rw[h4]
  cases w<;>simp
 refine⟨?_,An⟩
 unfold Img.ay
 rw[if_neg oM,if_pos An]
theorem G5{gM gb:Nat}{S:Img}{L:List Asr}(i j:Nat)(WS:i≠j)(h:On F w (aa L) W)(hi:L[i]? = some (ae gM 131 (aL gb S)))(hj:L[j]? = some (RbA gb S))(hS:S.Ok)(hL:bH S)(v:Int)(hv:V64 v):
 Calls prog 64 #[gM,(0:Int),(16448:Int),v] W (Got (.returned (.int .i64 0)) (aa ((L.set j (RbA gb (S.setCell 0 16448 v))).set i (ae gM 131 (aL gb (S.setCell 0 16448 v))))) F w):=by
 refine h.cn i j WS hi hj λF' hb=> ?_
 obtain⟨F1,F2,h1,h2,hd,hF⟩:=hb
 obtain⟨F3,F4,h3,h4,Wm,Wx⟩:=h2
 have hr:cX W gM gb S:=⟨h1.1,h3.1,hS⟩
 obtain⟨b2,b3,b4,b5,b6⟩:=hL.dU
 have Rv:=(Bt hL true).2
 rcases Jv hr 0 16448 8 oM oM true with⟨hk,_⟩ | ⟨hk,k,SS,hle,An⟩
 ·rw[hk]at Rv;cases Rv
 obtain rfl:k=16448:=by omega
 refine(Eb hr 0 v hv 16448 hle (by decide) An).mono ?_
 rintro e w' ⟨rfl,RJ,ZP⟩
 have e1:S.setCell 0 16448 v=S.put 16448 (toB v):=by unfold Img.setCell;rw[if_pos (Bt hL true).1];rfl
 have hgb: ∀k,F4 k->False:=h4
 have Uq:F' gb:=(hF gb).2 (.inr ((Wx gb).2 (.inl ((h3.2 gb).2 rfl))))
 refine⟨rfl,F',⟨F1,F2,⟨?_,h1.2⟩,⟨F3,F4,⟨?_,h3.2⟩,h4,Wm,Wx⟩,hd,hF⟩,ZP.mono (λk hk=>by rw[hk];exact Uq),λk hk=> .inl hk⟩
 ·rw[e1,ng gb (Alike.put S 16448 (toB v))]
  exact h1.1.kept ZP hr.ne
 ·rw[e1]
  exact RJ
def St.onD(x:St)(v:Int):St:=(x.dy v).HT v
def St.onR(x:St)(v:Int):St:=(x.az v).Hn v
theorem jB: ∀(l:List Int) (x:St),(l.foldl St.onD x).d=x.d+l.length∧(l.foldl St.onD x).dd=x.dd+l.length∧(l.foldl St.onD x).da.length=x.da.length∧(l.foldl St.onD x).r=x.r∧(l.foldl St.onD x).rd=x.rd∧(l.foldl St.onD x).ra=x.ra∧(l.foldl St.onD x).R=x.R∧(l.foldl St.onD x).S=aY x.S 16960 x.d l
 | [],x=>⟨rfl,rfl,rfl,rfl,rfl,rfl,rfl,rfl⟩
 | v::l,x=>by
   obtain⟨h1,h2,h3,h4,h5,h6,h7,h8⟩:=jB l (x.onD v)
   rw[List.foldl_cons,h1,h2,h3,h4,h5,h6,h7,h8,List.length_cons]
   refine⟨?_,?_,?_,rfl,rfl,rfl,rfl,rfl⟩
   ·show x.d+1+l.length=_;omega
   ·show x.dd+1+l.length=_;omega
   ·show(x.da.set x.dd v).length=_;simp
theorem lG: ∀(l:List Int) (x:St),(l.foldl St.onR x).r=x.r+l.length∧(l.foldl St.onR x).rd=x.rd+l.length∧(l.foldl St.onR x).ra.length=x.ra.length∧(l.foldl St.onR x).d=x.d∧(l.foldl St.onR x).dd=x.dd∧(l.foldl St.onR x).da=x.da∧(l.foldl St.onR x).R=x.R∧(l.foldl St.onR x).S=aY x.S 17088 x.r l
 | [],x=>⟨rfl,rfl,rfl,rfl,rfl,rfl,rfl,rfl⟩
 | v::l,x=>by
   obtain⟨h1,h2,h3,h4,h5,h6,h7,h8⟩:=lG l (x.onR v)
   rw[List.foldl_cons,h1,h2,h3,h4,h5,h6,h7,h8,List.length_cons]
   refine⟨?_,?_,?_,rfl,rfl,rfl,rfl,rfl⟩
   ·show x.r+1+l.length=_;omega
   ·show x.rd+1+l.length=_;omega
   ·show(x.ra.set x.rd v).length=_;simp
theorem tY(f:St->Int->St)(xs:List Int)(x:St)(j:Nat)(v:Int)(hv:xs[j]? = some v): (xs.take (j+1)).foldl f x=f ((xs.take j).foldl f x) v:=by
 rw[List.take_add_one,hv]
 simp
theorem yn(f:St->Int->St)(n:Nat)(xs:List Int)(x:St): (xs.take (min xs.length n)).foldl f x= (xs.take n).foldl f x:=by
 congr 1
 by_cases h:xs.length<=n
 ·rw[Nat.min_eq_left h,List.take_of_length_le (Nat.le_refl _),List.take_of_length_le h]
 ·rw[Nat.min_eq_right oM]
def St.qv(x:St)(v:Int):St:={ x with S:=x.S.setCell 0 16448 v,R:=x.R.setCell 0 16448 v }
structure nE(n0:Nat)(w:World)(F:Nat->Prop)(A:Option Addr)(l:List Int):Prop where
 ints: ∀j v,l[j]? = some v->∃rb o,A=some ⟨rb,o,none⟩ ∧¬F rb∧w.cell? ⟨rb,o+j,none⟩=some (.int .i64 v)
 v64: ∀v∈l,V64 v
 len:l.length<=9223372036854775807
theorem JN(hb: (aa (stL b r gD gR mc wcs x)).holds w F)(hm0:mc[0]? = some (b.gI:Vl))(hm5:mc[5]? = some (gD:Vl))(hm6:mc[6]? = some (gR:Vl))(hw0:wcs[0]? = some (r.gM:Vl))(hw5:wcs[5]? = some (r.gD:Vl))(hw6:wcs[6]? = some (r.gR:Vl))
 (hxd:x.d=0∧x.dd=0∧x.r=0∧x.rd=0) (hda:x.da.length=16) (hra:x.ra.length=8) (hS:x.S.Ok) (hL:bH x.S) (hR:x.R.Ok) (hLR:bH x.R) (hd:nE w.heap.size w F m.dA s.data) (hr:nE w.heap.size w F m.rA s.ret) (hbv:V64 s.base):
 Calls prog 34 #[b.gB,.agg (ap s m)] w (Got (.returned (.bool true)) (aa (stL b r gD gR mc wcs (((s.ret.take 8).foldl St.onR ((s.data.take 16).foldl St.onD x)).qv s.base))) F w):=by
 have so:=(On.refl hb).box (ap s m) 25
 have Sb:=λW x (h:On F w (aa (ae w.heap.size 25 (ap s m)::stL b r gD gR mc wcs x)) W)=>sI hm5 hm6 hw5 hw6 h
 replace so:=Lib.hid so
 replace Sb:=Lib.hid Sb
 replace hd:=Lib.hid hd
 replace hr:=Lib.hid hr
 replace hxd:=Lib.hid hxd
 unfold ap
 go_enter func34,ntmps34
 go_upto_block 0 with fail
 go_cut [] (λwx=>On F w (aa (ae w.heap.size 25 (ap s m)::stL b r gD gR mc wcs ((s.data.take 16).foldl St.onD x))) wx)
 case first=>
  go_wp2_with fail
  go_loopg [5] (min s.data.length 16) (λk t wr=> ∃j:Nat,j+k=min s.data.length 16∧t = .int .i64 (j:Int)∧On F w (aa (ae w.heap.size 25 (ap s m)::stL b r gD gR mc wcs ((s.data.take j).foldl St.onD x))) wr)
  case atStart=>exact⟨0,by omega,rfl,so.out⟩
  case round=>
   obtain⟨j,hj,rfl,RC⟩:=hrel
   obtain⟨z0,z1,z2,z3,z4,z5,z6,z7,z8,z9⟩:=Sb.out _ _ RC
   by_cases RQ:j<min s.data.length 16
   ·obtain⟨v,hv⟩: ∃v,s.data[j]? = some v:=⟨s.data[j]' oM,by rw[List.getElem?_eq_getElem]⟩
    obtain⟨rb,o,hA,Z9,hcv⟩:=hd.out.ints j v hv
    have Zy:=hd.out.v64 v (List.mem_of_getElem? hv)
    have hlen:=hd.out.len
    have xr:=RC.eJ hcv Z9
    have An:=λW x (h:On F w (aa (ae w.heap.size 25 (ap s m)::stL b r gD gR mc wcs x)) W)=>h.eJ hcv Z9
    obtain⟨f1,f2,f3,f4,f5,f6,f7,f8⟩:=jB (s.data.take j) x
    have YZ: (s.data.take j).length=j:=by rw[List.length_take];omega
    have Uk: ((s.data.take j).foldl St.onD x).d<16:=by rw[f1,YZ];have:=hxd.out;omega
    have Sk: (((s.data.take j).foldl St.onD x).dy v).dd< (((s.data.take j).foldl St.onD x).dy v).da.length:=by show((s.data.take j).foldl St.onD x).dd< ((s.data.take j).foldl St.onD x).da.length;rw[f2,f3,YZ,hda];have:=hxd.out;omega
    have Ww: (((s.data.take j).foldl St.onD x).dy v).da.length<=512:=by show((s.data.take j).foldl St.onD x).da.length<=512;rw[f3,hda];omega
    clear f1 f2 f3 f4 f5 f6 f7 f8 YZ
    have Sy:=tY St.onD s.data x j v hv
    obtain⟨qj,hqj⟩: ∃qj,(s.data.take j).foldl St.onD x=qj:=⟨_,rfl⟩
    rw[hqj]at RC Sy Uk Sk Ww
    rw[hA]at z4
    have d1:decide ((j:Int) < (s.data.length:Int))=true:=decide_eq_true oM
    have d2:decide ((j:Int) <16)=true:=decide_eq_true oM
    have YM:j<s.data.length:=by omega
    have Rd:=(RC.ab 1 rfl).lt
    have Wv:=(RC.ab 2 rfl).lt
    have Wu:=(RC.ab 6 rfl).lt
    have XJ:w.heap.size<wr.heap.size:=(RC.ab 0 rfl).lt
    have hp:=JY (RC.drew.box #[v] 3) Zy Uk
    have hd1:=Am (bx:=b.gM) (gD:=gD) (W:=wr.drew) z6
    have Wm:=Am (bx:=b.gM) (gD:=gD) (W:=wr.drew.alloc (.cells #[v] 3)) (cell?_alloc_some _ z6)
    have Y3:=λW (h:On F w (aa (ae w.heap.size 25 (ap s m)::stL b r gD gR mc wcs (qj.dy v))) W)=>Fl (h.drew.box #[v] 3) Sk Ww
    replace RC:=Lib.hid RC
    replace hp:=Lib.hid hp
    replace hd1:=Lib.hid hd1
    replace Wm:=Lib.hid Wm
    replace Y3:=Lib.hid Y3
    replace An:=Lib.hid An
    replace hA:=Lib.hid hA
    replace Sy:=Lib.hid Sy
    replace hqj:=Lib.hid hqj
    clear hv hcv Zy Uk Sk Ww
    go_upto_region 4 with fail
    go_cut [6] (λt wx=>t = .int .i64 0∧On F w (aa (ae w.heap.size 25 (ap s m)::stL b r gD gR mc wcs (qj.dy v))) wx)
    case first=>
     go_region_held (λw'=>w'.cell? (b.gB,5)=some (b.gM:Vl)∧w'.cell? (w.heap.size,8)=some (.slice (some ⟨rb,o,none⟩) s.data.length m.dc)∧w'.cell? ⟨rb,o+j,none⟩=some (v:Vl)) (go_keep)
      ((first
        | (go_at_call 13;(first| (refine hd1.out.mono ?_) | (refine Wm.out.mono ?_));rintro e w1 ⟨rfl,rfl⟩)
        | (go_at_call 60;refine mo hp.out λw1 h=>?_;have h5:=h.tail;obtain⟨m0,m1,m2,m3,m4,m5,m6,m7,m8,m9⟩:=Sb.out _ _ h5;rw[hA.out]at m4;have xr1:=An.out _ _ h5;replace h:=Lib.hid h;replace h5:=Lib.hid h5)))
     all_goals go_wp2_with fail
     all_goals go_meet
     all_goals exact⟨rfl,h5.out⟩
    case rest=>
     obtain⟨rfl,R3⟩:=hcut
     clear hp hd1 Wm RC xr z0 z1 z2 z3 z4 z5 z6 z7 z8 z9 Rd Wv Wu XJ
     obtain⟨z0,z1,z2,z3,z4,z5,z6,z7,z8,z9⟩:=Sb.out _ _ R3
     rw[hA.out]at z4
     have xr:=An.out _ _ R3
     have Rd:=(R3.ab 1 rfl).lt
     have Wu:=(R3.ab 6 rfl).lt
     have XJ:w.heap.size<wc.heap.size:=(R3.ab 0 rfl).lt
     replace Y3:=Lib.hid (Y3.out _ R3)
     replace R3:=Lib.hid R3
     go_upto_region 5 with fail
     go_cut [7] (λt wx=>t = .int .i64 0∧On F w (aa (ae w.heap.size 25 (ap s m)::stL b r gD gR mc wcs ((St.onD) qj v))) wx)
     case first=>
      go_region_held (λw'=>w'.cell? (b.gB,6)=some (b.gW:Vl)∧w'.cell? (b.gW,5)=some (r.gD:Vl)∧w'.cell? (w.heap.size,8)=some (.slice (some ⟨rb,o,none⟩) s.data.length m.dc)∧w'.cell? ⟨rb,o+j,none⟩=some (v:Vl)) (go_keep)
       ((go_at_call 61;refine mo Y3.out λw1 h=>?_;have h5:=h.tail;obtain⟨m0,m1,m2,m3,m4,m5,m6,m7,m8,m9⟩:=Sb.out _ _ h5;rw[hA.out]at m4;have xr1:=An.out _ _ h5;replace h:=Lib.hid h;replace h5:=Lib.hid h5))
      all_goals go_wp2_with fail
      all_goals go_meet
      all_goals exact⟨rfl,h5.out⟩
     case rest=>
      obtain⟨rfl,hc6⟩:=hcut
      clear Y3 R3 xr z0 z1 z2 z3 z4 z5 z6 z7 z8 z9 Rd Wu XJ
      replace hc6:=Lib.hid hc6
      go_wp2_with fail
      go_roundg (gk-1)
      case measure=>omega
      case rel=>exact⟨j+1,by omega,by go_num,by rw[Sy.out];exact hc6.out⟩
   ·have TJ:j=min s.data.length 16:=by omega
    have IS:=RC
    rw[TJ,yn]at IS
    have Sx: (decide ((j:Int) < (s.data.length:Int))=true∧decide ((j:Int) <16)=false)∨decide ((j:Int) < (s.data.length:Int))=false:=by
     by_cases h20:j<s.data.length
     ·exact .inl ⟨decide_eq_true oM,decide_eq_false oM⟩
     ·exact .inr (decide_eq_false oM)
    replace IS:=Lib.hid IS
    replace RC:=Lib.hid RC
    replace TJ:=Lib.hid TJ
    rcases Sx with⟨d1,d2⟩ |d1
    all_goals go_wp2_with fail
    all_goals go_meet
    all_goals exact IS.out
 case rest=>
  have M0:=Lib.hid hcut
  clear hcut so
  go_upto_block 2 with fail
  go_cut [] (λwx=>On F w (aa (ae w.heap.size 25 (ap s m)::stL b r gD gR mc wcs ((s.ret.take 8).foldl St.onR ((s.data.take 16).foldl St.onD x)))) wx)
  case first=>
   go_wp2_with fail
   go_loopg [8] (min s.ret.length 8) (λk t wr=> ∃j:Nat,j+k=min s.ret.length 8∧t = .int .i64 (j:Int)∧On F w (aa (ae w.heap.size 25 (ap s m)::stL b r gD gR mc wcs ((s.ret.take j).foldl St.onR ((s.data.take 16).foldl St.onD x)))) wr)
   case atStart=>exact⟨0,by omega,rfl,M0.out⟩
   case round=>
    obtain⟨j,hj,rfl,RC⟩:=hrel
    obtain⟨z0,z1,z2,z3,z4,z5,z6,z7,z8,z9⟩:=Sb.out _ _ RC
    by_cases RQ:j<min s.ret.length 8
    ·obtain⟨v,hv⟩: ∃v,s.ret[j]? = some v:=⟨s.ret[j]' oM,by rw[List.getElem?_eq_getElem]⟩
     obtain⟨rb,o,hA,Z9,hcv⟩:=hr.out.ints j v hv
     have Zy:=hr.out.v64 v (List.mem_of_getElem? hv)
     have hlen:=hr.out.len
     have xr:=RC.eJ hcv Z9
     have An:=λW x (h:On F w (aa (ae w.heap.size 25 (ap s m)::stL b r gD gR mc wcs x)) W)=>h.eJ hcv Z9
     obtain⟨f1,f2,f3,f4,f5,f6,f7,f8⟩:=lG (s.ret.take j) ((s.data.take 16).foldl St.onD x)
     obtain⟨g1,g2,g3,g4,g5,g6,g7,g8⟩:=jB (s.data.take 16) x
     have YZ: (s.ret.take j).length=j:=by rw[List.length_take];omega
     have Uk: ((s.ret.take j).foldl St.onR ((s.data.take 16).foldl St.onD x)).r<8:=by rw[f1,YZ,g4];have:=hxd.out;omega
     have Sk: (((s.ret.take j).foldl St.onR ((s.data.take 16).foldl St.onD x)).az v).rd< (((s.ret.take j).foldl St.onR ((s.data.take 16).foldl St.onD x)).az v).ra.length:=by show((s.ret.take j).foldl St.onR ((s.data.take 16).foldl St.onD x)).rd< ((s.ret.take j).foldl St.onR ((s.data.take 16).foldl St.onD x)).ra.length;rw[f2,f3,YZ,g5,g6,hra];have:=hxd.out;omega
     have Ww: (((s.ret.take j).foldl St.onR ((s.data.take 16).foldl St.onD x)).az v).ra.length<=512:=by show((s.ret.take j).foldl St.onR ((s.data.take 16).foldl St.onD x)).ra.length<=512;rw[f3,g6,hra];omega
     clear f1 f2 f3 f4 f5 f6 f7 f8 g1 g2 g3 g4 g5 g6 g7 g8 YZ
     have Sy:=tY St.onR s.ret ((s.data.take 16).foldl St.onD x) j v hv
     obtain⟨qj,hqj⟩: ∃qj,(s.ret.take j).foldl St.onR ((s.data.take 16).foldl St.onD x)=qj:=⟨_,rfl⟩
     rw[hqj]at RC Sy Uk Sk Ww
     rw[hA]at z5
     have d1:decide ((j:Int) < (s.ret.length:Int))=true:=decide_eq_true oM
     have d2:decide ((j:Int) <8)=true:=decide_eq_true oM
     have YM:j<s.ret.length:=by omega
     have Rd:=(RC.ab 1 rfl).lt
     have Wv:=(RC.ab 2 rfl).lt
     have Wu:=(RC.ab 6 rfl).lt
     have XJ:w.heap.size<wr.heap.size:=(RC.ab 0 rfl).lt
     have hp:=Hf (RC.drew.box #[v] 3) Zy Uk
     have hd1:=qR (bx:=b.gM) (gD:=gR) (W:=wr.drew) z7
     have Wm:=qR (bx:=b.gM) (gD:=gR) (W:=wr.drew.alloc (.cells #[v] 3)) (cell?_alloc_some _ z7)
     have Y3:=λW (h:On F w (aa (ae w.heap.size 25 (ap s m)::stL b r gD gR mc wcs (qj.az v))) W)=>FU (h.drew.box #[v] 3) Sk Ww
     replace RC:=Lib.hid RC
     replace hp:=Lib.hid hp
     replace hd1:=Lib.hid hd1
     replace Wm:=Lib.hid Wm
     replace Y3:=Lib.hid Y3
     replace An:=Lib.hid An
     replace hA:=Lib.hid hA
     replace Sy:=Lib.hid Sy
     replace hqj:=Lib.hid hqj
     clear hv hcv Zy Uk Sk Ww
     go_upto_region 11 with fail
     go_cut [9] (λt wx=>t = .int .i64 0∧On F w (aa (ae w.heap.size 25 (ap s m)::stL b r gD gR mc wcs (qj.az v))) wx)
     case first=>
      go_region_held (λw'=>w'.cell? (b.gB,5)=some (b.gM:Vl)∧w'.cell? (w.heap.size,9)=some (.slice (some ⟨rb,o,none⟩) s.ret.length m.rc)∧w'.cell? ⟨rb,o+j,none⟩=some (v:Vl)) (go_keep)
       ((first
         | (go_at_call 15;(first| (refine hd1.out.mono ?_) | (refine Wm.out.mono ?_));rintro e w1 ⟨rfl,rfl⟩)
         | (go_at_call 60;refine mo hp.out λw1 h=>?_;have h5:=h.tail;obtain⟨m0,m1,m2,m3,m4,m5,m6,m7,m8,m9⟩:=Sb.out _ _ h5;rw[hA.out]at m5;have xr1:=An.out _ _ h5;replace h:=Lib.hid h;replace h5:=Lib.hid h5)))
      all_goals go_wp2_with fail
      all_goals go_meet
      all_goals exact⟨rfl,h5.out⟩
     case rest=>
      obtain⟨rfl,R3⟩:=hcut
      clear hp hd1 Wm RC xr z0 z1 z2 z3 z4 z5 z6 z7 z8 z9 Rd Wv Wu XJ
      obtain⟨z0,z1,z2,z3,z4,z5,z6,z7,z8,z9⟩:=Sb.out _ _ R3
      rw[hA.out]at z5
      have xr:=An.out _ _ R3
      have Rd:=(R3.ab 1 rfl).lt
      have Wu:=(R3.ab 6 rfl).lt
      have XJ:w.heap.size<wc.heap.size:=(R3.ab 0 rfl).lt
      replace Y3:=Lib.hid (Y3.out _ R3)
      replace R3:=Lib.hid R3
      go_upto_region 12 with fail
      go_cut [10] (λt wx=>t = .int .i64 0∧On F w (aa (ae w.heap.size 25 (ap s m)::stL b r gD gR mc wcs ((St.onR) qj v))) wx)
      case first=>
       go_region_held (λw'=>w'.cell? (b.gB,6)=some (b.gW:Vl)∧w'.cell? (b.gW,6)=some (r.gR:Vl)∧w'.cell? (w.heap.size,9)=some (.slice (some ⟨rb,o,none⟩) s.ret.length m.rc)∧w'.cell? ⟨rb,o+j,none⟩=some (v:Vl)) (go_keep)
        ((go_at_call 61;refine mo Y3.out λw1 h=>?_;have h5:=h.tail;obtain⟨m0,m1,m2,m3,m4,m5,m6,m7,m8,m9⟩:=Sb.out _ _ h5;rw[hA.out]at m5;have xr1:=An.out _ _ h5;replace h:=Lib.hid h;replace h5:=Lib.hid h5))
       all_goals go_wp2_with fail
       all_goals go_meet
       all_goals exact⟨rfl,h5.out⟩
      case rest=>
       obtain⟨rfl,hc6⟩:=hcut
       clear Y3 R3 xr z0 z1 z2 z3 z4 z5 z6 z7 z8 z9 Rd Wu XJ
       replace hc6:=Lib.hid hc6
       go_wp2_with fail
       go_roundg (gk-1)
       case measure=>omega
       case rel=>exact⟨j+1,by omega,by go_num,by rw[Sy.out];exact hc6.out⟩
    ·have TJ:j=min s.ret.length 8:=by omega
     have IS:=RC
     rw[TJ,yn]at IS
     have Sx: (decide ((j:Int) < (s.ret.length:Int))=true∧decide ((j:Int) <8)=false)∨decide ((j:Int) < (s.ret.length:Int))=false:=by
      by_cases h20:j<s.ret.length
      ·exact .inl ⟨decide_eq_true oM,decide_eq_false oM⟩
      ·exact .inr (decide_eq_false oM)
     replace IS:=Lib.hid IS
     replace RC:=Lib.hid RC
     replace TJ:=Lib.hid TJ
     rcases Sx with⟨d1,d2⟩ |d1
     all_goals go_wp2_with fail
     all_goals go_meet
     all_goals exact IS.out
  case rest=>
   have BY:=hcut
   obtain⟨f1,f2,f3,f4,f5,f6,f7,f8⟩:=lG (s.ret.take 8) ((s.data.take 16).foldl St.onD x)
   obtain⟨g1,g2,g3,g4,g5,g6,g7,g8⟩:=jB (s.data.take 16) x
   have hXS: ((s.ret.take 8).foldl St.onR ((s.data.take 16).foldl St.onD x)).S.Ok:=by
    have ha:=Alike.aY 16960 (s.data.take 16) x.S x.d
    have h1:=(qY (s.data.take 16) x.S 16960 x.d hS hL (.inl ⟨rfl,by rw[List.length_take];have:=hxd.out;omega⟩))
    rw[f8,g8]
    exact(qY (s.ret.take 8) _ 17088 _ h1 (hL.alike ha) (.inr ⟨rfl,by rw[List.length_take,g4];have:=hxd.out;omega⟩))
   have hXL:bH ((s.ret.take 8).foldl St.onR ((s.data.take 16).foldl St.onD x)).S:=by
    rw[f8,g8]
    exact(hL.alike (Alike.aY _ _ _ _)).alike (Alike.aY _ _ _ _)
   have hXR: ((s.ret.take 8).foldl St.onR ((s.data.take 16).foldl St.onD x)).R=x.R:=by rw[f7,g7]
   clear f1 f2 f3 f4 f5 f6 f7 f8 g1 g2 g3 g4 g5 g6 g7 g8 hcut M0 hd hr
   generalize (s.ret.take 8).foldl St.onR ((s.data.take 16).foldl St.onD x)=X at *
   rw[<-hXR]at hR hLR
   clear hXR hxd hda hra hS hL
   obtain⟨z0,z1,z2,z3,z4,z5,z6,z7,z8,z9⟩:=Sb.out _ _ BY
   have zm:wc.cell? (b.gM,0)=some (b.gI:Vl):=((show Blk wc b.gM 109 mc from BY.ab 2 rfl).cell 0).trans hm0
   have Wh:=λ(gb:Nat) (hi:b9 wc.drew b.gI gb X.S)=>Of (W:=wc.drew) (bx:=b.gM) zm hi
   obtain⟨gb,hi⟩:=BY.drew.img 5 rfl
   have So:=Wh gb hi
   have e3:X.S.beg 3=16448:=hXL.dU.2.1
   rw[e3]at So
   have ZJ:=λn=>(BY.drewN n).bG 5 rfl (λF' ha=>fY ha 0 16448 s.base hbv)
   rw[(Bt hXL true).1]at ZJ
   have haV:=λW (h:On F w (aa (ae w.heap.size 25 (ap s m)::stL b r gD gR mc wcs { X with S:=X.S.setCell 0 16448 s.base })) W)=>sI hm5 hm6 hw5 hw6 h
   have hwW:=λW (h:On F w (aa (ae w.heap.size 25 (ap s m)::stL b r gD gR mc wcs { X with S:=X.S.setCell 0 16448 s.base })) W)=>(((show Blk W b.gW 86 wcs from h.ab 6 rfl).cell 0).trans hw0)
   have hrI:=λW (h:On F w (aa (ae w.heap.size 25 (ap s m)::stL b r gD gR mc wcs { X with S:=X.S.setCell 0 16448 s.base })) W)=>wo h 9 10 rfl rfl hR
   have hrs:=λW (h:On F w (aa (ae w.heap.size 25 (ap s m)::stL b r gD gR mc wcs { X with S:=X.S.setCell 0 16448 s.base })) W)=>G5 9 10 (by decide) h rfl rfl hR hLR s.base hbv
   have e3R: (X.R.beg 3:Int)=16448:=by rw[hLR.dU.2.1];rfl
   replace So:=Lib.hid So
   replace ZJ:=Lib.hid ZJ
   replace haV:=Lib.hid haV
   replace hwW:=Lib.hid hwW
   replace hrI:=Lib.hid hrI
   replace hrs:=Lib.hid hrs
   replace BY:=Lib.hid BY
   clear Wh hi
   go_upto_region 15 with fail
   go_cut [11] (λt wx=>t = .int .i64 0∧On F w (aa (ae w.heap.size 25 (ap s m)::stL b r gD gR mc wcs { X with S:=X.S.setCell 0 16448 s.base })) wx)
   case first=>
    go_region_held (λw'=>w'.cell? (b.gB,0)=some (b.gI:Vl)∧w'.cell? (b.gB,5)=some (b.gM:Vl)∧w'.cell? (w.heap.size,7)=some (s.base:Vl)) (go_keep)
     ((first
       | (go_at_call 63;refine So.out.mono ?_;rintro e w1 ⟨rfl,nb,rfl⟩;have k0: (wc.drewN (1+nb)).cell? (b.gB,0)=some (b.gI:Vl):=z0;have k5: (wc.drewN (1+nb)).cell? (b.gB,5)=some (b.gM:Vl):=z1;have k7: (wc.drewN (1+nb)).cell? (w.heap.size,7)=some (s.base:Vl):=z3)
       | (go_at_call 62;refine mo (ZJ.out _) λw1 h=>?_;obtain⟨m0,m1,m2,m3,m4,m5,m6,m7,m8,m9⟩:=haV.out _ h;replace h:=Lib.hid h)))
    all_goals go_wp2_with fail
    all_goals go_meet
    all_goals exact⟨rfl,h.out⟩
   case rest=>
    obtain⟨rfl,R3⟩:=hcut
    clear So ZJ BY z0 z1 z2 z3 z4 z5 z6 z7 z8 z9 zm
    obtain⟨z0,z1,z2,z3,z4,z5,z6,z7,z8,z9⟩:=haV.out _ R3
    have zw:=hwW.out _ R3
    have Z5:=LM (gW:=b.gW) (hwW.out _ R3.drew) (hrI.out _ R3.drew)
    rw[e3R]at Z5
    have Rd:=(R3.ab 1 rfl).lt
    have Wu:=(R3.ab 6 rfl).lt
    have XJ:w.heap.size<wc.heap.size:=(R3.ab 0 rfl).lt
    replace Z5:=Lib.hid Z5
    replace R3:=Lib.hid R3
    go_upto_region 16 with fail
    go_cut [] (λwx=>On F w (aa (ae w.heap.size 25 (ap s m)::stL b r gD gR mc wcs (X.qv s.base))) wx)
    case first=>
     go_region_held (λw'=>w'.cell? (b.gB,6)=some (b.gW:Vl)∧w'.cell? (b.gW,0)=some (r.gM:Vl)∧w'.cell? (w.heap.size,7)=some (s.base:Vl)) (go_keep)
      ((first
        | (go_at_call 44;refine mo Z5.out λw1 Q9=>?_;have h5:=R3.out.drew.below Q9;obtain⟨m0,m1,m2,m3,m4,m5,m6,m7,m8,m9⟩:=haV.out _ h5;have mw:=hwW.out _ h5;have hs5:=hrs.out _ h5;replace hs5:=Lib.hid hs5;replace h5:=Lib.hid h5)
        | (go_at_call 64;refine mo hs5.out λw2 h=>?_;obtain⟨n0,n1,n2,n3,n4,n5,n6,n7,n8,n9⟩:=sI (x:=X.qv s.base) hm5 hm6 hw5 hw6 h;have nw:=((show Blk w2 b.gW 86 wcs from h.ab 6 rfl).cell 0).trans hw0;replace h:=Lib.hid h)))
     all_goals go_wp2_with fail
     all_goals go_meet
     all_goals exact h.out
    case rest=>
     replace hcut:=Lib.hid hcut
     clear z0 z1 z2 z3 z4 z5 z6 z7 z8 z9 zw Rd Wu XJ
     go_wp2_with fail
     go_ret
     exact⟨rfl,hcut.out.tail⟩
