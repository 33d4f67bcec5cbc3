/- Chapter 3: a new image of the program's. Condition: a layout that may be. -/
import Derived.Test.YteaijdgnagkllaaGreatDoorZd14
import Derived.Deep.OwnRows
open Go.Proofs.Tryz
namespace Go.Proofs.YteaijdgnagkllaaGreatDoor
set_option linter.unusedVariables false
set_option linter.unusedSimpArgs false
set_option maxHeartbeats 8000000
open Go.RowKit Go.Lib Go.Deep
structure Fits(k s u d r:Nat):Prop where
 k1:16384<=k
 k2:k<=65536
 k8:k % 8=0
 s2:s<=4096
 s8:s % 8=0
 u1:256<=u
 u2:u<=65536
 u8:u % 8=0
 d1:64<=d
 d2:d<=4096
 d8:d % 8=0
 r1:64<=r
 r2:r<=4096
 r8:r % 8=0
def newImg(k s u d r:Nat):Img:=⟨k,s,u,d,r,List.replicate (k+s+u+d+r) 0,false,false⟩
theorem newImg_ok{k s u d r:Nat}(h:Fits k s u d r): (newImg k s u d r).Ok:=by
 refine⟨by simp[newImg,Img.beg],?_⟩
 simp only[newImg,Img.beg]
 have:=h.k2
 have:=h.s2
 have:=h.u2
 have:=h.d2
 have:=h.r2
 omega
def layoutV(k s u d r:Nat):Value:= .agg #[(k:Int),(s:Int),(u:Int),(d:Int),(r:Int)]
def initCells(S:Img)(j:Nat):Array Value:=
 #[(S.k:Int),(S.s:Int),(S.u:Int),(S.d:Int),(S.r:Int),
   .int .i64 0,.int .i64 0,.int .i64 (if 2<=j then S.beg 2 else 0:Nat),.int .i64 (if 3<=j then S.beg 3 else 0:Nat),.int .i64 (if 4<=j then S.beg 4 else 0:Nat),.int .i64 (if 5<=j then S.beg 5 else 0:Nat),.int .i64 (if 6<=j then S.beg 6 else 0:Nat),
   .slice none 0 0,.bool false,.bool false]
def leastC:Array Value:=#[(0:Int),(16384:Int),(0:Int),(256:Int),(64:Int),(64:Int)]
def mostC:Array Value:=#[(0:Int),(65536:Int),(4096:Int),(65536:Int),(4096:Int),(4096:Int)]
def INewPost(S:Img)(w:World)(e:Ending)(w':World):Prop:= ∃g gb,e = .returned (.tuple #[.pointer (some ⟨g,0,none⟩),(0:Int)])∧w.heap.size<=g∧w.heap.size<=gb∧IRep w' g gb S∧Below w.heap.size w w'
theorem initStep{w:World}{g:Nat}{t:TypeId}{a b:Array Value}(h:Blk w g t a)(e:a=b):Blk w g t b:=e▸h
theorem made0(n:Nat):madeCells #[Value.int .u8 0] n= (bcells (List.replicate n 0)).toArray:=by
 apply Array.ext_getElem?
 intro i
 by_cases hi:i<n
 ·simp[madeCells,bcells,hi,Nat.mod_one]
 ·simp[madeCells,bcells,hi]
set_option maxRecDepth 100000 in
theorem i_new(k s u d r:Nat)(hf:Fits k s u d r)(w:World):Calls prog 26 #[layoutV k s u d r] w (INewPost (newImg k s u d r) w):=by
 have hf':=hid hf
 obtain⟨k1,k2,k8,s2,s8,u1,u2,u8,d1,d2,d8,r1,r2,r8⟩:=hf
 unfold layoutV
 go_enter func26,ntmps26
 go_wp2
 obtain⟨gl,hgl⟩: ∃gl,w.heap.size+1+1=gl:=⟨_,rfl⟩
 obtain⟨gm,hgm⟩: ∃gm,w.heap.size+1+1+1=gm:=⟨_,rfl⟩
 obtain⟨gi,hgi⟩: ∃gi,w.heap.size+1+1+1+1=gi:=⟨_,rfl⟩
 have hidx: ∀w,(Instr.index 135 (.agg #[(0:Int),(k:Int),(s:Int),(u:Int),(d:Int),(r:Int)]) (.int .i64 0)).run prog w = .ok (.int .i64 0) w∧(Instr.index 135 (.agg #[(0:Int),(k:Int),(s:Int),(u:Int),(d:Int),(r:Int)]) (.int .i64 1)).run prog w = .ok (.int .i64 (k:Int)) w∧(Instr.index 135 (.agg #[(0:Int),(k:Int),(s:Int),(u:Int),(d:Int),(r:Int)]) (.int .i64 2)).run prog w = .ok (.int .i64 (s:Int)) w∧(Instr.index 135 (.agg #[(0:Int),(k:Int),(s:Int),(u:Int),(d:Int),(r:Int)]) (.int .i64 3)).run prog w = .ok (.int .i64 (u:Int)) w∧(Instr.index 135 (.agg #[(0:Int),(k:Int),(s:Int),(u:Int),(d:Int),(r:Int)]) (.int .i64 4)).run prog w = .ok (.int .i64 (d:Int)) w∧(Instr.index 135 (.agg #[(0:Int),(k:Int),(s:Int),(u:Int),(d:Int),(r:Int)]) (.int .i64 5)).run prog w = .ok (.int .i64 (r:Int)) w:=λw=>⟨by kernel_rfl,by kernel_rfl,by kernel_rfl,by kernel_rfl,by kernel_rfl,by kernel_rfl⟩
 replace hidx:=hid hidx
 rw[hgi,hgm,hgl]
 go_loopw [27] (λi wr=> ∃j:Nat,j<=6∧i = .int .i64 j∧Blk wr gl 135 leastC∧Blk wr gm 135 mostC∧Blk wr gi 138 (initCells (newImg k s u d r) j)∧Below w.heap.size w wr) (λi _=>6- (RowKit.intOf i).toNat)
 case atStart=>
  refine⟨0,by omega,rfl,?_,?_,?_,?_⟩
  ·subst hgl
   exact((Blk.new' (by simp)).alloc _).alloc _
  ·subst hgm
   exact(Blk.new' (by simp)).alloc _
  ·subst hgi
   exact Blk.new' (by simp)
  ·exact((((((Below.refl _ _).alloc (Nat.le_refl _) _).alloc (by simp) _).alloc (by simp;omega) _).alloc (by simp;omega) _).alloc (by simp;omega) _)
 case round=>
  obtain⟨j,hj6,rfl,hl,hm,hi,hbl⟩:=hrel
  replace hbl:=hid hbl
  have hjj:j=0∨j=1∨j=2∨j=3∨j=4∨j=5∨j=6:=by omega
  have q0:w.heap.size<=gi:=by omega
  have q1:gl≠gi:=by omega
  have q2:gm≠gi:=by omega
  replace hgl:=hid hgl
  replace hgm:=hid hgm
  replace hgi:=hid hgi
  have hcl:=hl.cell j
  have hcm:=hm.cell j
  have hca:=hi.cell (5+j)
  have hcb:=hi.cell (5+ (j+1))
  have hfb:=hi.frozen (5+ (j+1))
  replace hl:=hid hl
  replace hm:=hid hm
  replace hi:=hid hi
  obtain⟨x0,x1,x2,x3,x4,x5⟩:=hidx.out wr
  rcases hjj with rfl|rfl|rfl|rfl|rfl|rfl|rfl
  ·replace hcl:wr.cell? (gl,0)=some (.int .i64 0):=hcl
   replace hcm:wr.cell? (gm,0)=some (.int .i64 0):=hcm
   replace hca:wr.cell? (gi,5)=some (.int .i64 0):=hca
   replace hcb:wr.cell? (gi,6)=some (.int .i64 0):=hcb
   replace hfb:wr.frozen? (gi,6)=false:=hfb
   clear x1 x2 x3 x4 x5
   have hset:=hi.out.set_ 6 (.int .i64 (0))
   replace hset:=hid hset
   go_wp2
   go_region
   go_wp2
   go_roundw
   case rel=>exact⟨1,by omega,rfl,(hl.out.far (by simp;omega) _).drew,(hm.out.far (by simp;omega) _).drew,initStep hset.out.drew (by simp[initCells,newImg]),(hbl.out.setCell q0 _).drew⟩
   case measure=>simp[RowKit.intOf]
  ·replace hcl:wr.cell? (gl,1)=some (.int .i64 16384):=hcl
   replace hcm:wr.cell? (gm,1)=some (.int .i64 65536):=hcm
   replace hca:wr.cell? (gi,6)=some (.int .i64 0):=hca
   replace hcb:wr.cell? (gi,7)=some (.int .i64 0):=hcb
   replace hfb:wr.frozen? (gi,7)=false:=hfb
   clear x0 x2 x3 x4 x5
   have hrem: ((k:Int)).tmod 8=0:=by rw[Int.tmod_eq_emod_of_nonneg oM];omega
   have hset:=hi.out.set_ 7 (.int .i64 (k:Int))
   replace hset:=hid hset
   go_wp2
   go_region
   go_wp2
   go_roundw
   case rel=>exact⟨2,by omega,rfl,(hl.out.far (by simp;omega) _).drew,(hm.out.far (by simp;omega) _).drew,initStep hset.out.drew (by simp[initCells,newImg,Img.beg]),(hbl.out.setCell q0 _).drew⟩
   case measure=>simp[RowKit.intOf]
  ·replace hcl:wr.cell? (gl,2)=some (.int .i64 0):=hcl
   replace hcm:wr.cell? (gm,2)=some (.int .i64 4096):=hcm
   replace hca:wr.cell? (gi,7)=some ((k:Int):Vl):=hca
   replace hcb:wr.cell? (gi,8)=some (.int .i64 0):=hcb
   replace hfb:wr.frozen? (gi,8)=false:=hfb
   clear x0 x1 x3 x4 x5
   have hrem: ((s:Int)).tmod 8=0:=by rw[Int.tmod_eq_emod_of_nonneg oM];omega
   have hset:=hi.out.set_ 8 (.int .i64 ((k:Int) + (s:Int)))
   replace hset:=hid hset
   go_wp2
   go_region
   go_wp2
   go_roundw
   case rel=>exact⟨3,by omega,rfl,(hl.out.far (by simp;omega) _).drew,(hm.out.far (by simp;omega) _).drew,initStep hset.out.drew (by simp[initCells,newImg,Img.beg]),(hbl.out.setCell q0 _).drew⟩
   case measure=>simp[RowKit.intOf]
  ·replace hcl:wr.cell? (gl,3)=some (.int .i64 256):=hcl
   replace hcm:wr.cell? (gm,3)=some (.int .i64 65536):=hcm
   replace hca:wr.cell? (gi,8)=some (((k+s:Nat):Int):Vl):=hca
   replace hcb:wr.cell? (gi,9)=some (.int .i64 0):=hcb
   replace hfb:wr.frozen? (gi,9)=false:=hfb
   clear x0 x1 x2 x4 x5
   have hrem: ((u:Int)).tmod 8=0:=by rw[Int.tmod_eq_emod_of_nonneg oM];omega
   have hset:=hi.out.set_ 9 (.int .i64 (((k+s:Nat):Int) + (u:Int)))
   replace hset:=hid hset
   go_wp2
   go_region
   go_wp2
   go_roundw
   case rel=>exact⟨4,by omega,rfl,(hl.out.far (by simp;omega) _).drew,(hm.out.far (by simp;omega) _).drew,initStep hset.out.drew (by simp[initCells,newImg,Img.beg]),(hbl.out.setCell q0 _).drew⟩
   case measure=>simp[RowKit.intOf]
  ·replace hcl:wr.cell? (gl,4)=some (.int .i64 64):=hcl
   replace hcm:wr.cell? (gm,4)=some (.int .i64 4096):=hcm
   replace hca:wr.cell? (gi,9)=some (((k+s+u:Nat):Int):Vl):=hca
   replace hcb:wr.cell? (gi,10)=some (.int .i64 0):=hcb
   replace hfb:wr.frozen? (gi,10)=false:=hfb
   clear x0 x1 x2 x3 x5
   have hrem: ((d:Int)).tmod 8=0:=by rw[Int.tmod_eq_emod_of_nonneg oM];omega
   have hset:=hi.out.set_ 10 (.int .i64 (((k+s+u:Nat):Int) + (d:Int)))
   replace hset:=hid hset
   go_wp2
   go_region
   go_wp2
   go_roundw
   case rel=>exact⟨5,by omega,rfl,(hl.out.far (by simp;omega) _).drew,(hm.out.far (by simp;omega) _).drew,initStep hset.out.drew (by simp[initCells,newImg,Img.beg]),(hbl.out.setCell q0 _).drew⟩
   case measure=>simp[RowKit.intOf]
  ·replace hcl:wr.cell? (gl,5)=some (.int .i64 64):=hcl
   replace hcm:wr.cell? (gm,5)=some (.int .i64 4096):=hcm
   replace hca:wr.cell? (gi,10)=some (((k+s+u+d:Nat):Int):Vl):=hca
   replace hcb:wr.cell? (gi,11)=some (.int .i64 0):=hcb
   replace hfb:wr.frozen? (gi,11)=false:=hfb
   clear x0 x1 x2 x3 x4
   have hrem: ((r:Int)).tmod 8=0:=by rw[Int.tmod_eq_emod_of_nonneg oM];omega
   have hset:=hi.out.set_ 11 (.int .i64 (((k+s+u+d:Nat):Int) + (r:Int)))
   replace hset:=hid hset
   go_wp2
   go_region
   go_wp2
   go_roundw
   case rel=>exact⟨6,by omega,rfl,(hl.out.far (by simp;omega) _).drew,(hm.out.far (by simp;omega) _).drew,initStep hset.out.drew (by simp[initCells,newImg,Img.beg]),(hbl.out.setCell q0 _).drew⟩
   case measure=>simp[RowKit.intOf]
  ·clear x0 x1 x2 x3 x4 x5 hcl hcm hca hcb hfb
   have hc11:wr.cell? (gi,11)=some (((k+s+u+d+r:Nat):Int):Vl):=by rw[hi.out.cell];rfl
   have hc12:wr.cell? (gi,12)=some (.slice none 0 0):=by rw[hi.out.cell];rfl
   have hf12:=hi.out.frozen 12
   obtain⟨n,hn⟩: ∃n,k+s+u+d+r=n:=⟨_,rfl⟩
   rw[hn]at hc11
   have hmk:=run_make_row' (P:=prog) 43 5 (.int .u8 0) 1 underlying43 kR rfl .i64 .i64 n oM oM wr
   rw[made0]at hmk
   have hiA:=hi.out.alloc (.cells (bcells (List.replicate n 0)).toArray 5)
   have hc12': (wr.alloc (.cells (bcells (List.replicate n 0)).toArray 5)).cell? (gi,12)=some (.slice none 0 0):=by rw[hiA.cell];rfl
   have hf12':=hiA.frozen 12
   have hset:=hiA.set_ 12 (.slice (some ⟨wr.heap.size,0,none⟩) n n)
   have hne:gi≠wr.heap.size:=by have:=hi.out.lt;omega
   have hrow:=(Blk.new wr 5 (bcells (List.replicate n 0)).toArray).far (p:=⟨gi,12,none⟩) hne.symm (.slice (some ⟨wr.heap.size,0,none⟩) n n)
   clear hne hiA
   replace hn:=hid hn
   replace hset:=hid hset
   replace hrow:=hid hrow
   go_wp2
   go_ret2
   refine⟨gi,wr.heap.size,rfl,q0,hbl.out.size,⟨?_,?_,newImg_ok hf'.out⟩,(hbl.out.alloc hbl.out.size _).setCell q0 _⟩
   ·have hn:=hn.out
    subst hn
    exact initStep hset.out rfl
   ·have hn:=hn.out
    subst hn
    exact hrow.out
theorem a_new{w0 w:World}{L:List Asr}(h:At w0 w L)(k s u d r:Nat)(hf:Fits k s u d r):Calls prog 26 #[layoutV k s u d r] w λe w'=> ∃g,e = .returned (.tuple #[.pointer (some ⟨g,0,none⟩),(0:Int)])∧At w0 w' (ImgA g (newImg k s u d r)::L):=by
 refine(i_new k s u d r hf w).mono ?_
 rintro e w' ⟨g,gb,he,h1,h2,hr,hb⟩
 exact⟨g,he,h.add (A:=ImgA g (newImg k s u d r)) (F':=λi=>i=g∨i=gb) ⟨gb,hr,λ_=>Iff.rfl⟩ (Kept.ofBelow0 hb) (λi hi=>by rcases hi with rfl|rfl<;>assumption)⟩
def rimgCells(gb:Nat)(S:Img):Array Value:=
 #[(S.k:Int),(S.s:Int),(S.u:Int),(S.d:Int),(S.r:Int),.slice gb (S.beg 6) (S.beg 6),.bool S.op,.bool S.cl]
structure IRRep(w:World)(g gb:Nat)(S:Img):Prop where
 blk:Blk w g 130 (rimgCells gb S)
 row:Blk w gb 5 (bcells S.b).toArray
 ok:S.Ok
namespace Img
def size(S:Img):Nat->Nat
 | 0=>S.k
 | 1=>S.s
 | 2=>S.u
 | 3=>S.d
 | 4=>S.r
 | _=>0
theorem beg_size(S:Img)(j:Nat)(hj:j<5):S.beg (j+1) +S.size j=S.beg (j+2):=by
 have:j=0∨j=1∨j=2∨j=3∨j=4:=by omega
 rcases this with rfl|rfl|rfl|rfl|rfl<;>simp[beg,size]
end Img
def sizesC(S:Img):Array Value:=#[(S.k:Int),(S.s:Int),(S.u:Int),(S.d:Int),(S.r:Int)]
theorem sizes_at(S:Img)(j:Nat)(hj:j<5): (sizesC S)[j]? = some ((S.size j:Int):Vl):=by
 have:j=0∨j=1∨j=2∨j=3∨j=4:=by omega
 rcases this with rfl|rfl|rfl|rfl|rfl<;>rfl
theorem IRRep.cells{w:World}{g gb:Nat}{S:Img}(h:IRRep w g gb S):w.cell? (g,0)=some ((S.k:Int):Vl)∧w.cell? (g,1)=some ((S.s:Int):Vl)∧w.cell? (g,2)=some ((S.u:Int):Vl)∧w.cell? (g,3)=some ((S.d:Int):Vl)∧w.cell? (g,4)=some ((S.r:Int):Vl):=by
 refine⟨?_,?_,?_,?_,?_⟩<;>rw[h.blk.cell]<;>rfl
theorem IRRep.all_cell{w:World}{g gb:Nat}{S:Img}(h:IRRep w g gb S):w.cell? (g,5)=some (.slice gb (S.beg 6) (S.beg 6)):=by rw[h.blk.cell];rfl
theorem IRRep.op_cell{w:World}{g gb:Nat}{S:Img}(h:IRRep w g gb S):w.cell? (g,6)=some (.bool S.op):=by rw[h.blk.cell];rfl
theorem IRRep.cl_cell{w:World}{g gb:Nat}{S:Img}(h:IRRep w g gb S):w.cell? (g,7)=some (.bool S.cl):=by rw[h.blk.cell];rfl
theorem IRRep.below{w w':World}{g gb:Nat}{S:Img}(h:IRRep w g gb S)(hb:Below w.heap.size w w'):IRRep w' g gb S:=⟨h.blk.below hb h.blk.lt,h.row.below hb h.row.lt,h.ok⟩
def Gives(v:Value)(w:World)(e:Ending)(w':World):Prop:=e = .returned v∧Below w.heap.size w w'
theorem Below.dN{B:Nat}{w w':World}(h:Below B w w')(n:Nat):Below B w (w'.drewN n):=⟨h.os,h.tape,h.output,h.size,h.block⟩
def spanFrom(S:Img)(r:Int):Int:=if 1<=r∧r<=5 then(S.beg r.toNat:Int)else 0
def spanTo(S:Img)(r:Int):Int:=if 1<=r∧r<=5 then(S.beg (r.toNat+1):Int)else 0
set_option maxRecDepth 100000 in
theorem r_span{w:World}{g gb:Nat}{S:Img}(h:IRRep w g gb S)(r:Int):Calls prog 54 #[g,r] w (Gives (.tuple #[(spanFrom S r),(spanTo S r)]) w):=by
 obtain⟨c0,c1,c2,c3,c4⟩:=h.cells
 have hsm:=h.ok.small
 clear h
 go_enter func54,ntmps54
 go_wp2
 go_region
 obtain⟨wa,hwa⟩: ∃wa,(w.alloc (Obj.cells (sizesC S) 3)).drew=wa:=⟨_,rfl⟩
 rw[show(w.alloc (Obj.cells #[Value.int .i64 (S.k:Int),(S.s:Int),(S.u:Int),(S.d:Int),(S.r:Int)] 3)).drew=wa from hwa]
 have hblk:Blk wa w.heap.size 3 (sizesC S):=by rw[<-hwa];exact(Blk.new _ _ _).drew
 have hbw:Below w.heap.size w wa:=by rw[<-hwa];exact((Below.refl _ _).alloc (Nat.le_refl _) _).drew
 have hat: ∀j,j<5->wa.cell? ⟨w.heap.size,j,none⟩=some ((S.size j:Int):Vl):=λj hj=>by rw[hblk.cell,sizes_at S j hj]
 have hbm: ∀j,j<5->S.beg (j+2)<=143360:=λj hj=>by have:=S.beg_mono (i:=j+2) (j:=6) oM oM oM;omega
 replace hat:=hid hat
 replace hbw:=hid hbw
 replace hbm:=hid hbm
 clear hwa hblk c0 c1 c2 c3 c4 hsm
 go_wp2
 go_loop [7,8] (λa i=> ∃j:Nat,j<=5∧i = .int .i64 j∧a = .int .i64 (S.beg (j+1):Int)∧(∀q:Nat,q<j->r≠(q:Int) +1)) (λ_ i=>5- (RowKit.intOf i).toNat)
 case atStart=>exact⟨0,by omega,rfl,rfl,λq hq=>by omega⟩
 case round=>
  obtain⟨j,hj5,rfl,rfl,hno⟩:=hrel
  replace hno:=hid hno
  by_cases hlt:j<5
  ·have hc:=hat.out j hlt
   have hsz:=S.beg_size j hlt
   have hb2:=hbm.out j hlt
   by_cases hr:r= (j:Int) +1
   ·have hfrom:spanFrom S r= (S.beg (j+1):Int):=by
     unfold spanFrom
     rw[if_pos oM]
     have:r.toNat=j+1:=by omega
     rw[this]
    have hto:spanTo S r= (S.beg (j+1) +S.size j:Nat):=by
     unfold spanTo
     rw[if_pos oM,hsz]
     have:r.toNat+1=j+2:=by omega
     rw[this]
    replace hfrom:=hid hfrom
    replace hto:=hid hto
    have hsz':S.beg (j+1) +S.size j<=143360:=by omega
    clear hsz hb2
    generalize S.beg (j+1)=x at *
    generalize S.size j=y at *
    subst hr
    go_wp2
    go_quiet (fail)
    go_wp2
    go_ret2
    exact⟨by rw[hfrom.out,hto.out];rfl,Below.dN hbw.out _⟩
   ·have hne: (r== (j:Int) +1)=false:=by rw[beq_eq_false_iff_ne];exact hr
    have hsz':S.beg (j+1) +S.size j<=143360:=by omega
    replace hsz:=hid hsz
    go_wp2
    go_round
    case rel=>
     refine⟨j+1,by omega,by go_num,?_,λq hq=> ?_⟩
     ·have:=hsz.out
      rw[<-this]
      go_num
     ·rcases Nat.lt_succ_iff_lt_or_eq.1 hq with h|rfl
      ·exact hno.out q h
      ·exact hr
    case measure=>simp[RowKit.intOf];omega
  ·obtain rfl:j=5:=by omega
   have hn: ¬(1<=r∧r<=5):=λhh=>hno.out (r-1).toNat oM oM
   have hfrom:spanFrom S r=0:=by unfold spanFrom;rw[if_neg hn]
   have hto:spanTo S r=0:=by unfold spanTo;rw[if_neg hn]
   replace hfrom:=hid hfrom
   replace hto:=hid hto
   go_wp2
   go_ret2
   exact⟨by rw[hfrom.out,hto.out];rfl,hbw.out⟩
theorem span_nat(S:Img)(r:Nat)(h1:1<=r)(h5:r<=5):spanFrom S (r:Int)= (S.beg r:Int)∧spanTo S (r:Int)= (S.beg (r+1):Int):=by
 unfold spanFrom spanTo
 rw[if_pos oM,if_pos oM,Int.toNat_natCast]
 exact⟨rfl,rfl⟩
theorem span_zero(S:Img):spanFrom S 0=0∧spanTo S 0=0:=by
 unfold spanFrom spanTo
 rw[if_neg oM,if_neg oM]
 exact⟨rfl,rfl⟩
theorem r_region{w:World}{g gb:Nat}{S:Img}(h:IRRep w g gb S)(a:Int):Calls prog 93 #[g,a] w (Gives (.int .i64 (S.region a:Int)) w):=by
 replace h:=hid h
 go_enter func93,ntmps93
 go_wp2
 go_loopw [5] (λi wr=> ∃j:Nat,1<=j∧j<=6∧i = .int .i64 j∧(a<0∨(S.beg j:Int)<=a)∧Below w.heap.size w wr) (λi _=>7- (RowKit.intOf i).toNat)
 case atStart=>exact⟨1,by omega,by omega,rfl,by simp[Img.beg];omega,Below.refl _ _⟩
 case round=>
  obtain⟨j,hj1,hj6,rfl,hlo,hbl⟩:=hrel
  have hr:=h.out.below hbl
  replace hbl:=hid hbl
  replace hlo:=hid hlo
  by_cases hlt:j<6
  ·have hspan:=r_span hr j
   obtain⟨e1,e2⟩:=span_nat S j hj1 oM
   rw[e1,e2]at hspan
   replace hspan:=hid hspan
   have hmon:=hid (S.beg_mono (i:=j) (j:=j+1) hj1 oM oM)
   clear e1 e2 hr
   have hcase: (a<0∧decide ((S.beg j:Int)<=a)=false)∨(0<=a∧decide ((S.beg j:Int)<=a)=true∧decide (a< (S.beg (j+1):Int))=true)∨(0<=a∧decide ((S.beg j:Int)<=a)=true∧decide (a< (S.beg (j+1):Int))=false):=by
    simp only[decide_eq_true_eq,decide_eq_false_iff_not]
    rcases hlo.out with h|h<;>omega
   rcases hcase with⟨ha,hd1⟩ | ⟨ha,hd1,hd2⟩ | ⟨ha,hd1,hd2⟩
   ·go_wp2_with fail
    refine mo hspan.out λw2 h2=>?_
    replace h2:=hid h2
    go_wp2
    go_roundw
    case rel=>exact⟨j+1,by omega,by omega,by go_num,.inl ha,hbl.out.trans (h2.out.mono hbl.out.size)⟩
    case measure=>simp[RowKit.intOf];omega
   ·have hreg:=hid (S.region_eq ha hj1 oM (by simpa using hd1) (by simpa using hd2))
    go_wp2_with fail
    refine mo hspan.out λw2 h2=>?_
    replace h2:=hid h2
    go_wp2
    go_ret
    exact⟨by rw[hreg.out];rfl,hbl.out.trans (h2.out.mono hbl.out.size)⟩
   ·have hge: (S.beg (j+1):Int)<=a:=by simp only[decide_eq_false_iff_not]at hd2;omega
    replace hge:=hid hge
    go_wp2_with fail
    refine mo hspan.out λw2 h2=>?_
    replace h2:=hid h2
    go_wp2
    go_roundw
    case rel=>exact⟨j+1,by omega,by omega,by go_num,.inr hge.out,hbl.out.trans (h2.out.mono hbl.out.size)⟩
    case measure=>simp[RowKit.intOf];omega
  ·obtain rfl:j=6:=by omega
   have hreg:=hid (S.region_out hlo.out)
   go_wp2
   go_ret
   exact⟨by rw[hreg.out];rfl,hbl.out⟩
theorem r_may{w:World}{g gb:Nat}{S:Img}(h:IRRep w g gb S)(m:Int)(r:Nat)(hr:r<=5):Calls prog 94 #[g,m,(r:Int)] w (Same (S.may m r) w):=by
 have hop:=h.op_cell
 have hcl:=h.cl_cell
 clear h
 have hr:r=0∨r=1∨r=2∨r=3∨r=4∨r=5:=by omega
 have hm:m=0∨m=1∨m=2∨m<0∨2<m:=by omega
 rcases hr with rfl|rfl|rfl|rfl|rfl|rfl
 all_goals
  rcases hm with rfl|rfl|rfl|hm|hm
  all_goals
   go_enter func94,ntmps94
   go_wp2
   all_goals go_ret
   all_goals refine⟨congrArg (λn=>Ending.returned (.int .i64 n)) ?_,rfl⟩
   all_goals first
    | rfl
    | (simp[Img.may, *];done)
    | (unfold Img.may;rw[if_pos oM];done)
theorem lets_pos(S:Img)(m:Int)(r:Nat)(wr:Bool): (decide (0<bits .and .i64 (S.may m r) (rightOf wr)))=S.lets m r wr:=by
 unfold Img.lets rightOf
 rcases may_cases S m r with h|h|h<;>rw[h]<;>cases wr<;>decide
theorem r_row{w:World}{g gb:Nat}{S:Img}(h:IRRep w g gb S)(m a:Int)(n:Nat)(hn:n<=9223372036854775807)(wr:Bool):
 Calls prog 65 #[g,m,a,(n:Int),(rightOf wr)] w (Gives (.bool (S.rowOk m a n wr)) w):=by
 by_cases h0:n=0
 ·subst h0
  have hk:S.rowOk m a 0 wr=true:=by unfold Img.rowOk;rfl
  rw[hk]
  clear hn h hk
  go_enter func65,ntmps65
  go_wp2
  go_ret
  exact⟨rfl,Below.refl _ _⟩
 have hn0: ((n:Int) ==0)=false:=by rw[beq_eq_false_iff_ne];omega
 have hreg:=hid (r_region h a)
 have hlet:=lets_pos S m (S.region a) wr
 have hsm:=h.ok.small
 have hkk:S.rowOk m a n wr= (S.region a != 0&&decide ((n:Int)<=S.beg (S.region a+1) -a) &&S.lets m (S.region a) wr):=by
  unfold Img.rowOk
  rw[show(n==0)=false by simpa using h0,Bool.false_or]
 by_cases hr:S.region a=0
 ·have hk:S.rowOk m a n wr=false:=by rw[hkk,hr];rfl
  rw[hk]
  rw[hr]at hreg
  replace h:=hid h
  clear hkk hk hr hlet hsm
  generalize rightOf wr=y at *
  go_enter func65,ntmps65
  go_wp2_with fail
  refine mo hreg.out λw1 h1=>?_
  have hR1:=hid (h.out.below h1)
  have hspan:=r_span hR1.out 0
  obtain⟨e1,e2⟩:=span_zero S
  rw[e1,e2]at hspan
  replace hspan:=hid hspan
  replace h1:=hid h1
  clear e1 e2
  go_wp2_with fail
  refine mo hspan.out λw2 h2=>?_
  have hR2:=hid (hR1.out.below h2)
  have hmay:=hid (r_may hR2.out m 0 oM)
  replace h2:=hid (h1.out.trans (h2.mono h1.out.size))
  go_wp2_with fail
  refine hmay.out.mono ?_
  rintro e w3 ⟨rfl,rfl⟩
  go_wp2
  go_ret
  exact⟨rfl,h2.out⟩
 obtain⟨ha0,hlo,hhi,h6,hr1,hr5⟩:=S.region_in hr
 rw[hkk]
 replace h:=hid h
 have hrr: (S.region a != 0)=true:=by simpa using hr
 rw[hrr,Bool.true_and]
 obtain⟨e1,e2⟩:=span_nat S (S.region a) hr1 hr5
 have e1:=hid e1
 have e2:=hid e2
 have hzr0:0<=(S.beg (S.region a+1):Int) -a:=by omega
 clear hkk hrr hr hlo hhi
 generalize hrd:S.region a=r at *
 replace hrd:=hid hrd
 generalize hz:S.beg (r+1)=z at *
 replace hz:=hid hz
 generalize hy:rightOf wr=y at *
 replace hy:=hid hy
 generalize hl:S.lets m r wr=l at *
 replace hl:=hid hl
 generalize hx:S.may m r=x at *
 replace hx:=hid hx
 have hzr: (z:Int) -a<=143360:=by omega
 have hq: (decide ((n:Int)<=z-a))=true∨(decide ((n:Int)<=z-a))=false:=by cases decide ((n:Int)<=z-a)<;>simp
 replace hr1:=hid hr1
 have hr0:decide (0< (r:Int))=true:=by have:=hr1.out;simp;omega
 rcases hq with hq|hq
 all_goals
  rw[hq]
  go_enter func65,ntmps65
  go_wp2_with fail
  refine mo hreg.out λw1 h1=>?_
  have hR1:=hid (h.out.below h1)
  have hspan:=r_span hR1.out r
  rw[e1.out,e2.out]at hspan
  replace hspan:=hid hspan
  replace h1:=hid h1
  go_wp2_with fail
  refine mo hspan.out λw2 h2=>?_
  have hR2:=hid (hR1.out.below h2)
  have hmay:=r_may hR2.out m r hr5
  rw[hx.out]at hmay
  replace hmay:=hid hmay
  replace h2:=hid (h1.out.trans (h2.mono h1.out.size))
  go_wp2_with fail
  refine hmay.out.mono ?_
  rintro e w3 ⟨rfl,rfl⟩
  go_wp2
  all_goals go_ret
  all_goals exact⟨by simp,h2.out⟩
end Go.Proofs.YteaijdgnagkllaaGreatDoor
