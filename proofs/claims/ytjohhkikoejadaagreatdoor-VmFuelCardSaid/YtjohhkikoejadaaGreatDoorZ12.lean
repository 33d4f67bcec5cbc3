/- Chapter 3: a new image of the program's. Condition: a layout that may be. -/
import Derived.Test.YtjohhkikoejadaaGreatDoorOm
import Derived.Test.YtjohhkikoejadaaGreatDoorZ02
import Derived.Test.YtjohhkikoejadaaGreatDoorZ11
import Derived.BigRegion
import Derived.Deep.OwnRows
import Derived.Laws.Bits64
import Derived.Test.YtjohhkikoejadaaGreatDoorZ03
import Derived.Test.YtjohhkikoejadaaGreatDoorZ07
namespace Go.Proofs.YtjohhkikoejadaaGreatDoor
set_option linter.unusedVariables false
set_option maxHeartbeats 8000000
open Go.RowKit Go.Lib Go.Deep
structure Fits(k s u d r:Nat) :Prop where
 k1:16384<=k
 k2:k<=65536
 k8:k % 8=0
 s2:s<=4096
 s8:s % 8=0
 u1:256<=u
 u2:u<=65536
 u8:u % 8=0
 d1:64<=d
 d2:d<=4096
 d8:d % 8=0
 r1:64<=r
 r2:r<=4096
 r8:r % 8=0
def dM(k s u d r:Nat) :Img:=⟨k,s,u,d,r,List.replicate (k+s+u+d+r) 0,false,false⟩
theorem nF{k s u d r:Nat}(h:Fits k s u d r) : (dM k s u d r).Ok:=by
 refine⟨by simp[dM,Img.beg],?_⟩
 simp only[dM,Img.beg]
 have:=h.k2
 have:=h.s2
 have:=h.u2
 have:=h.d2
 have:=h.r2
 omega
def iF(k s u d r:Nat) :Value:= .agg #[(k:Int),(s:Int),(u:Int),(d:Int),(r:Int)]
def fE(S:Img)(j:Nat) :Array Value:=
 #[(S.k:Int),(S.s:Int),(S.u:Int),(S.d:Int),(S.r:Int),
   .int .i64 0,.int .i64 0,.int .i64 (if 2<=j then S.beg 2 else 0:Nat),.int .i64 (if 3<=j then S.beg 3 else 0:Nat),.int .i64 (if 4<=j then S.beg 4 else 0:Nat),.int .i64 (if 5<=j then S.beg 5 else 0:Nat),.int .i64 (if 6<=j then S.beg 6 else 0:Nat),
   .slice none 0 0,.bool false,.bool false]
def LO:Array Value:= #[(0:Int),(16384:Int),(0:Int),(256:Int),(64:Int),(64:Int)]
def Og:Array Value:= #[(0:Int),(65536:Int),(4096:Int),(65536:Int),(4096:Int),(4096:Int)]
def Fg(S:Img)(w:World)(e:Ending)(w':World) :Prop:= ∃g gb,e = .returned (.tuple #[.pointer (some ⟨g,0,none⟩),(0:Int)])∧w.heap.size<=g∧w.heap.size<=gb∧bU w' g gb S∧Below w.heap.size w w'
theorem ib{w:World}{g:Nat}{t:TypeId}{a b:Array Value}(h:Blk w g t a)(e:a=b) :Blk w g t b:=e▸h
theorem KU(n:Nat) :madeCells #[Value.int .u8 0] n= (ag (List.replicate n 0)).toArray:=by
 apply Array.ext_getElem?
 intro i
 by_cases hi:i<n
 ·simp[madeCells,ag,hi,Nat.mod_one]
 ·simp[madeCells,ag,hi]
set_option maxRecDepth 100000 in
theorem Na(k s u d r:Nat)(hf:Fits k s u d r)(w:World) :Calls Tryz.prog 17 #[iF k s u d r] w (Fg (dM k s u d r) w):=by
 have hf':=hid hf
 obtain⟨k1,k2,k8,s2,s8,u1,u2,u8,d1,d2,d8,r1,r2,r8⟩:=hf
 unfold iF
 go_enter Tryz.func17,Tryz.ntmps17
 go_wp2
 obtain⟨gl,hgl⟩ : ∃gl,w.heap.size+1+1=gl:=⟨_,rfl⟩
 obtain⟨gm,hgm⟩ : ∃gm,w.heap.size+1+1+1=gm:=⟨_,rfl⟩
 obtain⟨gi,hgi⟩ : ∃gi,w.heap.size+1+1+1+1=gi:=⟨_,rfl⟩
 have hidx : ∀w,(Instr.index 125 (.agg #[(0:Int),(k:Int),(s:Int),(u:Int),(d:Int),(r:Int)]) (.int .i64 0)).run Tryz.prog w = .ok (.int .i64 0) w∧(Instr.index 125 (.agg #[(0:Int),(k:Int),(s:Int),(u:Int),(d:Int),(r:Int)]) (.int .i64 1)).run Tryz.prog w = .ok (.int .i64 (k:Int)) w∧(Instr.index 125 (.agg #[(0:Int),(k:Int),(s:Int),(u:Int),(d:Int),(r:Int)]) (.int .i64 2)).run Tryz.prog w = .ok (.int .i64 (s:Int)) w∧(Instr.index 125 (.agg #[(0:Int),(k:Int),(s:Int),(u:Int),(d:Int),(r:Int)]) (.int .i64 3)).run Tryz.prog w = .ok (.int .i64 (u:Int)) w∧(Instr.index 125 (.agg #[(0:Int),(k:Int),(s:Int),(u:Int),(d:Int),(r:Int)]) (.int .i64 4)).run Tryz.prog w = .ok (.int .i64 (d:Int)) w∧(Instr.index 125 (.agg #[(0:Int),(k:Int),(s:Int),(u:Int),(d:Int),(r:Int)]) (.int .i64 5)).run Tryz.prog w = .ok (.int .i64 (r:Int)) w:=λw=>⟨by kernel_rfl,by kernel_rfl,by kernel_rfl,by kernel_rfl,by kernel_rfl,by kernel_rfl⟩
 replace hidx:=hid hidx
 rw[hgi,hgm,hgl]
 go_loopw [27] (λi wr=> ∃j:Nat,j<=6∧i = .int .i64 j∧Blk wr gl 125 LO∧Blk wr gm 125 Og∧Blk wr gi 128 (fE (dM k s u d r) j)∧Below w.heap.size w wr) (λi _=>6- (RowKit.intOf i).toNat)
 case atStart=>
  refine⟨0,by omega,rfl,?_,?_,?_,?_⟩
  ·subst hgl
   exact((Blk.nN (by simp)).alloc _).alloc _
  ·subst hgm
   exact(Blk.nN (by simp)).alloc _
  ·subst hgi
   exact Blk.nN (by simp)
  ·exact((((((Below.refl _ _).alloc (Nat.le_refl _) _).alloc (by simp) _).alloc (by simp;omega) _).alloc (by simp;omega) _).alloc (by simp;omega) _)
 case round=>
  obtain⟨j,hj6,rfl,hl,hm,hi,hbl⟩:=hrel
  replace hbl:=hid hbl
  have hjj:j=0∨j=1∨j=2∨j=3∨j=4∨j=5∨j=6:=by omega
  have q0:w.heap.size<=gi:=by omega
  have q1:gl≠gi:=by omega
  have q2:gm≠gi:=by omega
  replace hgl:=hid hgl
  replace hgm:=hid hgm
  replace hgi:=hid hgi
  have hcl:=hl.cell j
  have hcm:=hm.cell j
  have hca:=hi.cell (5+j)
  have hcb:=hi.cell (5+ (j+1))
  have hfb:=hi.frozen (5+ (j+1))
  replace hl:=hid hl
  replace hm:=hid hm
  replace hi:=hid hi
  obtain⟨x0,x1,x2,x3,x4,x5⟩:=hidx.out wr
  rcases hjj with rfl|rfl|rfl|rfl|rfl|rfl|rfl
  ·replace hcl:wr.cell? (gl,0) =some (.int .i64 0):=hcl
   replace hcm:wr.cell? (gm,0) =some (.int .i64 0):=hcm
   replace hca:wr.cell? (gi,5) =some (.int .i64 0):=hca
   replace hcb:wr.cell? (gi,6) =some (.int .i64 0):=hcb
   replace hfb:wr.frozen? (gi,6) =false:=hfb
   clear x1 x2 x3 x4 x5
   have hset:=hi.out.bG 6 (.int .i64 (0))
   replace hset:=hid hset
   go_wp2
   go_region
   go_wp2
   go_roundw
   case rel=>exact⟨1,by omega,rfl,(hl.out.far (by simp;omega) _).drew,(hm.out.far (by simp;omega) _).drew,ib hset.out.drew (by simp[fE,dM]),(hbl.out.setCell q0 _).drew⟩
   case measure=>simp[RowKit.intOf]
  ·replace hcl:wr.cell? (gl,1) =some (.int .i64 16384):=hcl
   replace hcm:wr.cell? (gm,1) =some (.int .i64 65536):=hcm
   replace hca:wr.cell? (gi,6) =some (.int .i64 0):=hca
   replace hcb:wr.cell? (gi,7) =some (.int .i64 0):=hcb
   replace hfb:wr.frozen? (gi,7) =false:=hfb
   clear x0 x2 x3 x4 x5
   have hrem: ((k:Int)).tmod 8=0:=by rw[Int.tmod_eq_emod_of_nonneg oM];omega
   have hset:=hi.out.bG 7 (.int .i64 (k:Int))
   replace hset:=hid hset
   go_wp2
   go_region
   go_wp2
   go_roundw
   case rel=>exact⟨2,by omega,rfl,(hl.out.far (by simp;omega) _).drew,(hm.out.far (by simp;omega) _).drew,ib hset.out.drew (by simp[fE,dM,Img.beg]),(hbl.out.setCell q0 _).drew⟩
   case measure=>simp[RowKit.intOf]
  ·replace hcl:wr.cell? (gl,2) =some (.int .i64 0):=hcl
   replace hcm:wr.cell? (gm,2) =some (.int .i64 4096):=hcm
   replace hca:wr.cell? (gi,7) =some ((k:Int) :Vl):=hca
   replace hcb:wr.cell? (gi,8) =some (.int .i64 0):=hcb
   replace hfb:wr.frozen? (gi,8) =false:=hfb
   clear x0 x1 x3 x4 x5
   have hrem: ((s:Int)).tmod 8=0:=by rw[Int.tmod_eq_emod_of_nonneg oM];omega
   have hset:=hi.out.bG 8 (.int .i64 ((k:Int) + (s:Int)))
   replace hset:=hid hset
   go_wp2
   go_region
   go_wp2
   go_roundw
   case rel=>exact⟨3,by omega,rfl,(hl.out.far (by simp;omega) _).drew,(hm.out.far (by simp;omega) _).drew,ib hset.out.drew (by simp[fE,dM,Img.beg]),(hbl.out.setCell q0 _).drew⟩
   case measure=>simp[RowKit.intOf]
  ·replace hcl:wr.cell? (gl,3) =some (.int .i64 256):=hcl
   replace hcm:wr.cell? (gm,3) =some (.int .i64 65536):=hcm
   replace hca:wr.cell? (gi,8) =some (((k+s:Nat) :Int) :Vl):=hca
   replace hcb:wr.cell? (gi,9) =some (.int .i64 0):=hcb
   replace hfb:wr.frozen? (gi,9) =false:=hfb
   clear x0 x1 x2 x4 x5
   have hrem: ((u:Int)).tmod 8=0:=by rw[Int.tmod_eq_emod_of_nonneg oM];omega
   have hset:=hi.out.bG 9 (.int .i64 (((k+s:Nat) :Int) + (u:Int)))
   replace hset:=hid hset
   go_wp2
   go_region
   go_wp2
   go_roundw
   case rel=>exact⟨4,by omega,rfl,(hl.out.far (by simp;omega) _).drew,(hm.out.far (by simp;omega) _).drew,ib hset.out.drew (by simp[fE,dM,Img.beg]),(hbl.out.setCell q0 _).drew⟩
   case measure=>simp[RowKit.intOf]
  ·replace hcl:wr.cell? (gl,4) =some (.int .i64 64):=hcl
   replace hcm:wr.cell? (gm,4) =some (.int .i64 4096):=hcm
   replace hca:wr.cell? (gi,9) =some (((k+s+u:Nat) :Int) :Vl):=hca
   replace hcb:wr.cell? (gi,10) =some (.int .i64 0):=hcb
   replace hfb:wr.frozen? (gi,10) =false:=hfb
   clear x0 x1 x2 x3 x5
   have hrem: ((d:Int)).tmod 8=0:=by rw[Int.tmod_eq_emod_of_nonneg oM];omega
   have hset:=hi.out.bG 10 (.int .i64 (((k+s+u:Nat) :Int) + (d:Int)))
   replace hset:=hid hset
   go_wp2
   go_region
   go_wp2
   go_roundw
   case rel=>exact⟨5,by omega,rfl,(hl.out.far (by simp;omega) _).drew,(hm.out.far (by simp;omega) _).drew,ib hset.out.drew (by simp[fE,dM,Img.beg]),(hbl.out.setCell q0 _).drew⟩
   case measure=>simp[RowKit.intOf]
  ·replace hcl:wr.cell? (gl,5) =some (.int .i64 64):=hcl
   replace hcm:wr.cell? (gm,5) =some (.int .i64 4096):=hcm
   replace hca:wr.cell? (gi,10) =some (((k+s+u+d:Nat) :Int) :Vl):=hca
   replace hcb:wr.cell? (gi,11) =some (.int .i64 0):=hcb
   replace hfb:wr.frozen? (gi,11) =false:=hfb
   clear x0 x1 x2 x3 x4
   have hrem: ((r:Int)).tmod 8=0:=by rw[Int.tmod_eq_emod_of_nonneg oM];omega
   have hset:=hi.out.bG 11 (.int .i64 (((k+s+u+d:Nat) :Int) + (r:Int)))
   replace hset:=hid hset
   go_wp2
   go_region
   go_wp2
   go_roundw
   case rel=>exact⟨6,by omega,rfl,(hl.out.far (by simp;omega) _).drew,(hm.out.far (by simp;omega) _).drew,ib hset.out.drew (by simp[fE,dM,Img.beg]),(hbl.out.setCell q0 _).drew⟩
   case measure=>simp[RowKit.intOf]
  ·clear x0 x1 x2 x3 x4 x5 hcl hcm hca hcb hfb
   have hc11:wr.cell? (gi,11) =some (((k+s+u+d+r:Nat) :Int) :Vl):=by rw[hi.out.cell];rfl
   have hc12:wr.cell? (gi,12) =some (.slice none 0 0):=by rw[hi.out.cell];rfl
   have hf12:=hi.out.frozen 12
   obtain⟨n,hn⟩ : ∃n,k+s+u+d+r=n:=⟨_,rfl⟩
   rw[hn]at hc11
   have hmk:=run_make_row' (P:=Tryz.prog) 92 5 (.int .u8 0) 1 Tryz.underlying92 kR rfl .i64 .i64 n oM oM wr
   rw[KU]at hmk
   have hiA:=hi.out.alloc (.cells (ag (List.replicate n 0)).toArray 5)
   have hc12': (wr.alloc (.cells (ag (List.replicate n 0)).toArray 5)).cell? (gi,12) =some (.slice none 0 0):=by rw[hiA.cell];rfl
   have hf12':=hiA.frozen 12
   have hset:=hiA.bG 12 (.slice (some ⟨wr.heap.size,0,none⟩) n n)
   have hne:gi≠wr.heap.size:=by have:=hi.out.lt;omega
   have hrow:=(Blk.new wr 5 (ag (List.replicate n 0)).toArray).far (p:=⟨gi,12,none⟩) hne.symm (.slice (some ⟨wr.heap.size,0,none⟩) n n)
   clear hne hiA
   replace hn:=hid hn
   replace hset:=hid hset
   replace hrow:=hid hrow
   go_wp2
   go_ret2
   refine⟨gi,wr.heap.size,rfl,q0,hbl.out.size,⟨?_,?_,nF hf'.out⟩,(hbl.out.alloc hbl.out.size _).setCell q0 _⟩
   ·have hn:=hn.out
    subst hn
    exact ib hset.out rfl
   ·have hn:=hn.out
    subst hn
    exact hrow.out
theorem Of{w0 w:World}{L:List Asr}(h:At w0 w L)(k s u d r:Nat)(hf:Fits k s u d r) :Calls Tryz.prog 17 #[iF k s u d r] w λe w'=> ∃g,e = .returned (.tuple #[.pointer (some ⟨g,0,none⟩),(0:Int)])∧At w0 w' (au g (dM k s u d r) ::L):=by
 refine(Na k s u d r hf w).mono ?_
 rintro e w' ⟨g,gb,he,h1,h2,hr,hb⟩
 exact⟨g,he,h.add (A:=au g (dM k s u d r)) (F':=λi=>i=g∨i=gb) ⟨gb,hr,λ_=>Iff.rfl⟩ (Kept.fU hb) (λi hi=>by rcases hi with rfl|rfl<;>assumption)⟩
def aI(gb:Nat)(S:Img) :Array Value:=
 #[(S.k:Int),(S.s:Int),(S.u:Int),(S.d:Int),(S.r:Int),.slice gb (S.beg 6) (S.beg 6),.bool S.op,.bool S.cl]
structure cQ(w:World)(g gb:Nat)(S:Img) :Prop where
 blk:Blk w g 120 (aI gb S)
 row:Blk w gb 5 (ag S.b).toArray
 ok:S.Ok
namespace Img
def size(S:Img) :Nat->Nat
 | 0=>S.k
 | 1=>S.s
 | 2=>S.u
 | 3=>S.d
 | 4=>S.r
 | _=>0
theorem Gd(S:Img)(j:Nat)(hj:j<5) :S.beg (j+1) +S.size j=S.beg (j+2):=by
 have:j=0∨j=1∨j=2∨j=3∨j=4:=by omega
 rcases this with rfl|rfl|rfl|rfl|rfl<;>simp[beg,size]
end Img
def Bi(S:Img) :Array Value:= #[(S.k:Int),(S.s:Int),(S.u:Int),(S.d:Int),(S.r:Int)]
theorem EX(S:Img)(j:Nat)(hj:j<5) : (Bi S)[j]? = some ((S.size j:Int) :Vl):=by
 have:j=0∨j=1∨j=2∨j=3∨j=4:=by omega
 rcases this with rfl|rfl|rfl|rfl|rfl<;>rfl
theorem cQ.cells{w:World}{g gb:Nat}{S:Img}(h:cQ w g gb S) :w.cell? (g,0) =some ((S.k:Int) :Vl)∧w.cell? (g,1) =some ((S.s:Int) :Vl)∧w.cell? (g,2) =some ((S.u:Int) :Vl)∧w.cell? (g,3) =some ((S.d:Int) :Vl)∧w.cell? (g,4) =some ((S.r:Int) :Vl):=by
 refine⟨?_,?_,?_,?_,?_⟩ <;>rw[h.blk.cell] <;>rfl
theorem cQ.mN{w:World}{g gb:Nat}{S:Img}(h:cQ w g gb S) :w.cell? (g,5) =some (.slice gb (S.beg 6) (S.beg 6)):=by rw[h.blk.cell];rfl
theorem cQ.mI{w:World}{g gb:Nat}{S:Img}(h:cQ w g gb S) :w.cell? (g,6) =some (.bool S.op):=by rw[h.blk.cell];rfl
theorem cQ.gh{w:World}{g gb:Nat}{S:Img}(h:cQ w g gb S) :w.cell? (g,7) =some (.bool S.cl):=by rw[h.blk.cell];rfl
theorem cQ.below{w w':World}{g gb:Nat}{S:Img}(h:cQ w g gb S)(hb:Below w.heap.size w w') :cQ w' g gb S:=⟨h.blk.below hb h.blk.lt,h.row.below hb h.row.lt,h.ok⟩
def gg(v:Value)(w:World)(e:Ending)(w':World) :Prop:=e = .returned v∧Below w.heap.size w w'
theorem Below.dN{B:Nat}{w w':World}(h:Below B w w')(n:Nat) :Below B w (w'.drewN n):=⟨h.os,h.tape,h.output,h.size,h.block⟩
def cT(S:Img)(r:Int) :Int:=if 1<=r∧r<=5 then(S.beg r.toNat:Int)else 0
def fZ(S:Img)(r:Int) :Int:=if 1<=r∧r<=5 then(S.beg (r.toNat+1) :Int)else 0
set_option maxRecDepth 100000 in
theorem nx{w:World}{g gb:Nat}{S:Img}(h:cQ w g gb S)(r:Int) :Calls Tryz.prog 44 #[g,r] w (gg (.tuple #[(cT S r),(fZ S r)]) w):=by
 obtain⟨c0,c1,c2,c3,c4⟩:=h.cells
 have hsm:=h.ok.small
 clear h
 go_enter Tryz.func44,Tryz.ntmps44
 go_wp2
 go_region
 obtain⟨wa,hwa⟩ : ∃wa,(w.alloc (Obj.cells (Bi S) 3)).drew=wa:=⟨_,rfl⟩
 rw[show(w.alloc (Obj.cells #[Value.int .i64 (S.k:Int),(S.s:Int),(S.u:Int),(S.d:Int),(S.r:Int)] 3)).drew=wa from hwa]
 have hblk:Blk wa w.heap.size 3 (Bi S):=by rw[<-hwa];exact(Blk.new _ _ _).drew
 have hbw:Below w.heap.size w wa:=by rw[<-hwa];exact((Below.refl _ _).alloc (Nat.le_refl _) _).drew
 have hat : ∀j,j<5->wa.cell? ⟨w.heap.size,j,none⟩ =some ((S.size j:Int) :Vl):=λj hj=>by rw[hblk.cell,EX S j hj]
 have hbm : ∀j,j<5->S.beg (j+2)<=143360:=λj hj=>by have:=S.dm (i:=j+2) (j:=6) oM oM oM;omega
 replace hat:=hid hat
 replace hbw:=hid hbw
 replace hbm:=hid hbm
 clear hwa hblk c0 c1 c2 c3 c4 hsm
 go_wp2
 go_loop [7,8] (λa i=> ∃j:Nat,j<=5∧i = .int .i64 j∧a = .int .i64 (S.beg (j+1) :Int)∧(∀q:Nat,q<j->r≠(q:Int) +1)) (λ_ i=>5- (RowKit.intOf i).toNat)
 case atStart=>exact⟨0,by omega,rfl,rfl,λq hq=>by omega⟩
 case round=>
  obtain⟨j,hj5,rfl,rfl,hno⟩:=hrel
  replace hno:=hid hno
  by_cases hlt:j<5
  ·have hc:=hat.out j hlt
   have hsz:=S.Gd j hlt
   have hb2:=hbm.out j hlt
   by_cases hr:r= (j:Int) +1
   ·have hfrom:cT S r= (S.beg (j+1) :Int):=by
     unfold cT
     rw[if_pos oM]
     have:r.toNat=j+1:=by omega
     rw[this]
    have hto:fZ S r= (S.beg (j+1) +S.size j:Nat):=by
     unfold fZ
     rw[if_pos oM,hsz]
     have:r.toNat+1=j+2:=by omega
     rw[this]
    replace hfrom:=hid hfrom
    replace hto:=hid hto
    have hsz':S.beg (j+1) +S.size j<=143360:=by omega
    clear hsz hb2
    generalize S.beg (j+1) =x at *
    generalize S.size j=y at *
    subst hr
    go_wp2
    go_quiet (fail)
    go_wp2
    go_ret2
    exact⟨by rw[hfrom.out,hto.out];rfl,Below.dN hbw.out _⟩
   ·have hne: (r== (j:Int) +1) =false:=by rw[beq_eq_false_iff_ne];exact hr
    have hsz':S.beg (j+1) +S.size j<=143360:=by omega
    replace hsz:=hid hsz
    go_wp2
    go_round
    case rel=>
     refine⟨j+1,by omega,by go_num,?_,λq hq=> ?_⟩
     ·have:=hsz.out
      rw[<-this]
      go_num
     ·rcases Nat.lt_succ_iff_lt_or_eq.1 hq with h|rfl
      ·exact hno.out q h
      ·exact hr
    case measure=>simp[RowKit.intOf];omega
  ·obtain rfl:j=5:=by omega
   have hn : ¬(1<=r∧r<=5):=λhh=>hno.out (r-1).toNat oM oM
   have hfrom:cT S r=0:=by unfold cT;rw[if_neg hn]
   have hto:fZ S r=0:=by unfold fZ;rw[if_neg hn]
   replace hfrom:=hid hfrom
   replace hto:=hid hto
   go_wp2
   go_ret2
   exact⟨by rw[hfrom.out,hto.out];rfl,hbw.out⟩
theorem xE(S:Img)(r:Nat)(h1:1<=r)(h5:r<=5) :cT S (r:Int) = (S.beg r:Int)∧fZ S (r:Int) = (S.beg (r+1) :Int):=by
 unfold cT fZ
 rw[if_pos oM,if_pos oM,Int.toNat_natCast]
 exact⟨rfl,rfl⟩
theorem Di(S:Img) :cT S 0=0∧fZ S 0=0:=by
 unfold cT fZ
 rw[if_neg oM,if_neg oM]
 exact⟨rfl,rfl⟩
theorem Hd{w:World}{g gb:Nat}{S:Img}(h:cQ w g gb S)(a:Int) :Calls Tryz.prog 123 #[g,a] w (gg (.int .i64 (S.region a:Int)) w):=by
 replace h:=hid h
 go_enter Tryz.func123,Tryz.ntmps123
 go_wp2
 go_loopw [5] (λi wr=> ∃j:Nat,1<=j∧j<=6∧i = .int .i64 j∧(a<0∨(S.beg j:Int)<=a)∧Below w.heap.size w wr) (λi _=>7- (RowKit.intOf i).toNat)
 case atStart=>exact⟨1,by omega,by omega,rfl,by simp[Img.beg];omega,Below.refl _ _⟩
 case round=>
  obtain⟨j,hj1,hj6,rfl,hlo,hbl⟩:=hrel
  have hr:=h.out.below hbl
  replace hbl:=hid hbl
  replace hlo:=hid hlo
  by_cases hlt:j<6
  ·have hspan:=nx hr j
   obtain⟨e1,e2⟩:=xE S j hj1 oM
   rw[e1,e2]at hspan
   replace hspan:=hid hspan
   have hmon:=hid (S.dm (i:=j) (j:=j+1) hj1 oM oM)
   clear e1 e2 hr
   have hcase: (a<0∧decide ((S.beg j:Int)<=a) =false)∨(0<=a∧decide ((S.beg j:Int)<=a) =true∧decide (a< (S.beg (j+1) :Int)) =true)∨(0<=a∧decide ((S.beg j:Int)<=a) =true∧decide (a< (S.beg (j+1) :Int)) =false):=by
    simp only[decide_eq_true_eq,decide_eq_false_iff_not]
    rcases hlo.out with h|h<;>omega
   rcases hcase with⟨ha,hd1⟩ | ⟨ha,hd1,hd2⟩ | ⟨ha,hd1,hd2⟩
   ·go_wp2_with fail
    refine hspan.out.mono ?_
    rintro e w2 ⟨rfl,h2⟩
    replace h2:=hid h2
    go_wp2
    go_roundw
    case rel=>exact⟨j+1,by omega,by omega,by go_num,.inl ha,hbl.out.trans (h2.out.mono hbl.out.size)⟩
    case measure=>simp[RowKit.intOf];omega
   ·have hreg:=hid (S.eu ha hj1 oM (by simpa using hd1) (by simpa using hd2))
    go_wp2_with fail
    refine hspan.out.mono ?_
    rintro e w2 ⟨rfl,h2⟩
    replace h2:=hid h2
    go_wp2
    go_ret
    exact⟨by rw[hreg.out];rfl,hbl.out.trans (h2.out.mono hbl.out.size)⟩
   ·have hge: (S.beg (j+1) :Int)<=a:=by simp only[decide_eq_false_iff_not]at hd2;omega
    replace hge:=hid hge
    go_wp2_with fail
    refine hspan.out.mono ?_
    rintro e w2 ⟨rfl,h2⟩
    replace h2:=hid h2
    go_wp2
    go_roundw
    case rel=>exact⟨j+1,by omega,by omega,by go_num,.inr hge.out,hbl.out.trans (h2.out.mono hbl.out.size)⟩
    case measure=>simp[RowKit.intOf];omega
  ·obtain rfl:j=6:=by omega
   have hreg:=hid (S.iq hlo.out)
   go_wp2
   go_ret
   exact⟨by rw[hreg.out];rfl,hbl.out⟩
theorem KK{w:World}{g gb:Nat}{S:Img}(h:cQ w g gb S)(m:Int)(r:Nat)(hr:r<=5) :Calls Tryz.prog 124 #[g,m,(r:Int)] w (aA (S.may m r) w):=by
 have hop:=h.mI
 have hcl:=h.gh
 clear h
 have hr:r=0∨r=1∨r=2∨r=3∨r=4∨r=5:=by omega
 have hm:m=0∨m=1∨m=2∨m<0∨2<m:=by omega
 rcases hr with rfl|rfl|rfl|rfl|rfl|rfl
 all_goals
  rcases hm with rfl|rfl|rfl|hm|hm
  all_goals
   go_enter Tryz.func124,Tryz.ntmps124
   go_wp2
   all_goals go_ret
   all_goals refine⟨congrArg (λn=>Ending.returned (.int .i64 n)) ?_,rfl⟩
   all_goals first
    | rfl
    | (simp[Img.may, *];done)
    | (unfold Img.may;rw[if_pos oM];done)
theorem H8(S:Img)(m:Int)(r:Nat)(wr:Bool) : (decide (0<bits .and .i64 (S.may m r) (ej wr))) =S.lets m r wr:=by
 unfold Img.lets ej
 rcases tN S m r with h|h|h<;>rw[h] <;>cases wr<;>decide
theorem N6{w:World}{g gb:Nat}{S:Img}(h:cQ w g gb S)(m a:Int)(n:Nat)(hn:n<=9223372036854775807)(wr:Bool) :
 Calls Tryz.prog 81 #[g,m,a,(n:Int),(ej wr)] w (gg (.bool (S.aS m a n wr)) w):=by
 by_cases h0:n=0
 ·subst h0
  have hk:S.aS m a 0 wr=true:=by unfold Img.aS;rfl
  rw[hk]
  clear hn h hk
  go_enter Tryz.func81,Tryz.ntmps81
  go_wp2
  go_ret
  exact⟨rfl,Below.refl _ _⟩
 have hn0: ((n:Int) ==0) =false:=by rw[beq_eq_false_iff_ne];omega
 have hreg:=hid (Hd h a)
 have hlet:=H8 S m (S.region a) wr
 have hsm:=h.ok.small
 have hkk:S.aS m a n wr= (S.region a != 0&&decide ((n:Int)<=S.beg (S.region a+1) -a) &&S.lets m (S.region a) wr):=by
  unfold Img.aS
  rw[show(n==0) =false by simpa using h0,Bool.false_or]
 by_cases hr:S.region a=0
 ·have hk:S.aS m a n wr=false:=by rw[hkk,hr];rfl
  rw[hk]
  rw[hr]at hreg
  replace h:=hid h
  clear hkk hk hr hlet hsm
  generalize ej wr=y at *
  go_enter Tryz.func81,Tryz.ntmps81
  go_wp2_with fail
  refine hreg.out.mono ?_
  rintro e w1 ⟨rfl,h1⟩
  have hR1:=hid (h.out.below h1)
  have hspan:=nx hR1.out 0
  obtain⟨e1,e2⟩:=Di S
  rw[e1,e2]at hspan
  replace hspan:=hid hspan
  replace h1:=hid h1
  clear e1 e2
  go_wp2_with fail
  refine hspan.out.mono ?_
  rintro e w2 ⟨rfl,h2⟩
  have hR2:=hid (hR1.out.below h2)
  have hmay:=hid (KK hR2.out m 0 oM)
  replace h2:=hid (h1.out.trans (h2.mono h1.out.size))
  go_wp2_with fail
  refine hmay.out.mono ?_
  rintro e w3 ⟨rfl,rfl⟩
  go_wp2
  go_ret
  exact⟨rfl,h2.out⟩
 obtain⟨ha0,hlo,hhi,h6,hr1,hr5⟩:=S.oa hr
 rw[hkk]
 replace h:=hid h
 have hrr: (S.region a != 0) =true:=by simpa using hr
 rw[hrr,Bool.true_and]
 obtain⟨e1,e2⟩:=xE S (S.region a) hr1 hr5
 have e1:=hid e1
 have e2:=hid e2
 have hzr0:0<=(S.beg (S.region a+1) :Int) -a:=by omega
 clear hkk hrr hr hlo hhi
 generalize hrd:S.region a=r at *
 replace hrd:=hid hrd
 generalize hz:S.beg (r+1) =z at *
 replace hz:=hid hz
 generalize hy:ej wr=y at *
 replace hy:=hid hy
 generalize hl:S.lets m r wr=l at *
 replace hl:=hid hl
 generalize hx:S.may m r=x at *
 replace hx:=hid hx
 have hzr: (z:Int) -a<=143360:=by omega
 have hq: (decide ((n:Int)<=z-a)) =true∨(decide ((n:Int)<=z-a)) =false:=by cases decide ((n:Int)<=z-a) <;>simp
 replace hr1:=hid hr1
 have hr0:decide (0< (r:Int)) =true:=by have:=hr1.out;simp;omega
 rcases hq with hq|hq
 all_goals
  rw[hq]
  go_enter Tryz.func81,Tryz.ntmps81
  go_wp2_with fail
  refine hreg.out.mono ?_
  rintro e w1 ⟨rfl,h1⟩
  have hR1:=hid (h.out.below h1)
  have hspan:=nx hR1.out r
  rw[e1.out,e2.out]at hspan
  replace hspan:=hid hspan
  replace h1:=hid h1
  go_wp2_with fail
  refine hspan.out.mono ?_
  rintro e w2 ⟨rfl,h2⟩
  have hR2:=hid (hR1.out.below h2)
  have hmay:=KK hR2.out m r hr5
  rw[hx.out]at hmay
  replace hmay:=hid hmay
  replace h2:=hid (h1.out.trans (h2.mono h1.out.size))
  go_wp2_with fail
  refine hmay.out.mono ?_
  rintro e w3 ⟨rfl,rfl⟩
  go_wp2
  all_goals go_ret
  all_goals exact⟨by simp,h2.out⟩
def fq(v:Int)(j:Nat) :Int:=(v % 18446744073709551616) /256 ^ j
theorem EH(v:Int)(j:Nat) :fq v j/256=fq v (j+1):=by
 unfold fq
 rw[Int.pow_succ,Int.ediv_ediv_of_nonneg (Int.pow_nonneg (by decide))]
theorem yL(v:Int)(j:Nat) :0<=fq v j:=by
 unfold fq
 exact Int.ediv_nonneg (Int.emod_nonneg _ (by decide)) (Int.pow_nonneg (by decide))
theorem ID(v:Int)(j:Nat) :fq v j<=18446744073709551615:=by
 unfold fq
 have h1:0<=v % 18446744073709551616:=Int.emod_nonneg _ (by decide)
 have h2:v % 18446744073709551616<18446744073709551616:=Int.emod_lt_of_pos _ (by decide)
 have:=Int.ediv_le_self (256 ^ j) h1
 omega
theorem uE(v:Int)(j:Nat)(hj:j<8) :fq v j % 256=v/2 ^ (8*j) % 256:=by
 unfold fq
 have:j=0∨j=1∨j=2∨j=3∨j=4∨j=5∨j=6∨j=7:=by omega
 rcases this with rfl|rfl|rfl|rfl|rfl|rfl|rfl|rfl<;>simp only[Int.reducePow,Nat.reduceMul,Int.ediv_one] <;>omega
set_option maxRecDepth 100000 in
theorem Az(v:Int)(hv : -9223372036854775808<=v∧v<=9223372036854775807)(w:World) :Calls Tryz.prog 82 #[v] w (gg (.agg (ag (toB v)).toArray) w):=by
 have hq0:fq v 0=v % 18446744073709551616:=by unfold fq;simp
 replace hq0:=hid hq0
 go_enter Tryz.func82,Tryz.ntmps82
 go_wp2
 go_loopw [4,5] (λu i wr=> ∃j:Nat,j<=8∧i = .int .i64 j∧u = .int .u64 (fq v j)∧Blk wr (w.heap.size+1) 175 (filled v j)∧Blk wr w.heap.size 175 (filled v 0)∧Below w.heap.size w wr) (λ_ i _=>8- (RowKit.intOf i).toNat)
 case atStart=>
  exact⟨0,by omega,rfl,by rw[hq0.out,<-IntKind.wrap_u64],Blk.nN (by simp),(Blk.new _ _ _).alloc _,((Below.refl _ _).alloc (Nat.le_refl _) _).alloc (by simp) _⟩
 case round=>
  obtain⟨j,hj8,rfl,rfl,hb,hb0,hbl⟩:=hrel
  by_cases hlt:j<8
  ·have hc:wr.cell? ⟨w.heap.size+1,j,none⟩ =some (.int .u8 0):=by rw[hb.cell,uA v j hlt]
   have hf:=hb.frozen j
   have hb1:=hb.bG j (.int .u8 (v/2 ^ (8*j) % 256))
   rw[pX v j hlt,<-uE v j hlt]at hb1
   have hb2:=hb0.far (p:=⟨w.heap.size+1,j,none⟩) (by simp) (.int .u8 (v/2 ^ (8*j) % 256))
   rw[<-uE v j hlt]at hb2
   have hs:=EH v j
   have h0:=yL v j
   have h1:=ID v j
   generalize hx:fq v j=x at *
   replace hb1:=hid hb1
   replace hb2:=hid hb2
   replace hs:=hid hs
   clear hb hb0 hx
   replace hbl:=hid hbl
   go_wp2
   go_roundw
   case rel=>exact⟨j+1,by omega,by go_num,by rw[<-hs.out],hb1.out,hb2.out,hbl.out.setCell (by simp) _⟩
   case measure=>simp[RowKit.intOf];omega
  ·obtain rfl:j=8:=by omega
   have hb':Blk wr (w.heap.size+1) 175 (ag (toB v)).toArray:=hb
   have e8:Gh wr (w.heap.size+1) (λi=> .int .u8 (tn v i)):=np hb' (aJ v)
   obtain⟨c0,c1,c2,c3,c4,c5,c6,c7⟩:=e8
   obtain⟨d0,d1,d2,d3,d4,d5,d6,d7⟩:=np (l:=List.replicate 8 0) hb0 (by simp)
   have f0:=hb0.frozen 0
   have f1:=hb0.frozen 1
   have f2:=hb0.frozen 2
   have f3:=hb0.frozen 3
   have f4:=hb0.frozen 4
   have f5:=hb0.frozen 5
   have f6:=hb0.frozen 6
   have f7:=hb0.frozen 7
   clear hb hb0 hb'
   replace hbl:=hid hbl
   go_wp2
   refine bodyPost_ret (v:= .agg #[.int .u8 (tn v 0),.int .u8 (tn v 1),.int .u8 (tn v 2),.int .u8 (tn v 3),.int .u8 (tn v 4),.int .u8 (tn v 5),.int .u8 (tn v 6),.int .u8 (tn v 7)]) (by simp[results,Tryz.results82,go_sem,d0,d1,d2,d3,d4,d5,d6,d7]) rfl ⟨by rw[ox],?_⟩
   exact(((((((hbl.out.setCell (Nat.le_refl _) _).setCell (Nat.le_refl _) _).setCell (Nat.le_refl _) _).setCell (Nat.le_refl _) _).setCell (Nat.le_refl _) _).setCell (Nat.le_refl _) _).setCell (Nat.le_refl _) _).setCell (Nat.le_refl _) _
theorem cQ.byte{w:World}{g gb:Nat}{S:Img}(h:cQ w g gb S)(i:Nat)(hi:i<S.beg 6) :w.cell? (gb,i) =some (.int .u8 ((S.b.getD i 0).toNat:Int)):=by
 rw[h.row.cell]
 have:i<S.b.length:=by rw[h.ok.len];exact hi
 simp[ag,List.getD,this]
def copied(l:List UInt8)(j:Nat) :Array Value:=(ag (l.take j++List.replicate (8-j) 0)).toArray
theorem pY(a:Int) : (a.tmod 8=0)↔a % 8=0:=by rw[Int.tmod_eq_emod];split<;>omega
theorem sW(b:List UInt8)(k:Nat)(l:List UInt8)(j:Nat)(hj:j<l.length)(hk:k+j<b.length) : (ag (cK b k (l.take j))).toArray.setIfInBounds (k+j) (.int .u8 ((l.getD j 0).toNat:Int)) = (ag (cK b k (l.take (j+1)))).toArray:=by
 have hlt:l.take (j+1) =l.take j ++ [l.getD j 0]:=by
  rw[List.take_succ_eq_append_getElem hj,List.getD_eq_getElem?_getD,List.getElem?_eq_getElem hj]
  rfl
 have htl: (l.take j).length=j:=by rw[List.length_take];omega
 apply Array.ext_getElem?
 intro i
 rw[hlt]
 unfold cK
 rw[List.length_append,htl,List.length_singleton]
 generalize l.getD j 0=c
 have hdrop:b.drop (k+j) =b[k+j] ::b.drop (k+ (j+1)):=List.drop_eq_getElem_cons hk
 rw[hdrop]
 have h1: (b.take k).length=k:=by rw[List.length_take];omega
 have e1:ag (b.take k++ (l.take j++b[k+j] ::b.drop (k+ (j+1)))) = (ag (b.take k++l.take j)) ++ (Value.int .u8 (b[k+j].toNat:Int) ::ag (b.drop (k+ (j+1)))):=by simp[ag]
 have e2:ag (b.take k++ (l.take j ++ [c] ++b.drop (k+ (j+1)))) = (ag (b.take k++l.take j)) ++ (Value.int .u8 (c.toNat:Int) ::ag (b.drop (k+ (j+1)))):=by simp[ag]
 have hlen: (ag (b.take k++l.take j)).length=k+j:=by unfold ag;rw[List.length_map,List.length_append,h1,htl]
 rw[e1,e2]
 generalize ag (b.take k++l.take j) =A at *
 generalize ag (b.drop (k+ (j+1))) =B at *
 generalize (Value.int .u8 (b[k+j].toNat:Int)) =y
 rw[<-hlen]
 simp
set_option maxRecDepth 100000 in
theorem Dh{w:World}{g gb:Nat}{S:Img}(h:cQ w g gb S)(m v:Int)(hv : -9223372036854775808<=v∧v<=9223372036854775807)(k:Nat)(hle:k+8<=S.beg 6)(hal: (k:Int) % 8=0)
 (hrow:Calls Tryz.prog 81 #[g,m,(k:Int),(8:Int),(2:Int)] w (gg (.bool true) w)) :
 Calls Tryz.prog 57 #[g,m,(k:Int),v] w λe w'=>e = .returned (.int .i64 0)∧Blk w' gb 5 (ag (cK S.b k (toB v))).toArray∧Kept (λi=>i=gb) w w':=by
 have hal1: (k:Int).tmod 8=0:=(pY _).2 hal
 have hsm:=h.ok.small
 have hlen:=h.ok.len
 have hby:=λw=>Az v hv w
 have htl:=aJ v
 rw[<-ox]at hby
 replace hrow:=hid hrow
 replace h:=hid h
 replace hby:=hid hby
 replace htl:=hid htl
 replace hlen:=hid hlen
 clear hal
 go_enter Tryz.func57,Tryz.ntmps57
 go_wp2_with fail
 refine hrow.out.mono ?_
 rintro e w1 ⟨rfl,h1⟩
 have hR1:=hid (h.out.below h1)
 have hk1:=hid (Kept.fU h1)
 clear h1
 go_wp2_with fail
 refine(hby.out w1).mono ?_
 rintro e w2 ⟨rfl,h2⟩
 have hR2:=hid (hR1.out.below h2)
 have hk2:=hid (hk1.out.trans (Kept.fU h2))
 clear h2
 go_wp2
 go_loopw [11] (λi wr=> ∃j:Nat,j<=8∧i = .int .i64 j∧Blk wr w2.heap.size 175 (ag (toB v)).toArray∧Blk wr g 120 (aI gb S)∧Blk wr gb 5 (ag (cK S.b k ((toB v).take j))).toArray∧Kept (λi=>i=gb) w wr) (λi _=>8- (RowKit.intOf i).toNat)
 case atStart=>
  refine⟨0,by omega,rfl,?_,hR2.out.blk.alloc _,?_,(hk2.out.mono (λ_ h=>h.elim)).alloc _⟩
  ·rw[<-ox];exact Blk.new _ _ _
  ·have:cK S.b k ((toB v).take 0) =S.b:=by unfold cK;simp
   rw[this]
   exact hR2.out.row.alloc _
 case round=>
  obtain⟨j,hj8,rfl,hb,hg,hr,hk⟩:=hrel
  by_cases hlt:j<8
  ·have hc:wr.cell? (w2.heap.size,j) =some (.int .u8 (((toB v).getD j 0).toNat:Int)):=by
    rw[hb.cell]
    have:=htl.out
    have:j< (toB v).length:=by omega
    simp[ag,List.getD,this]
   have hall:wr.cell? (g,5) =some (.slice gb (S.beg 6) (S.beg 6)):=by rw[hg.cell];rfl
   have hold : ∃x,wr.cell? ⟨gb,k+j,none⟩ =some (.int .u8 x):=by
    rw[hr.cell]
    have hl2:k+j< (cK S.b k ((toB v).take j)).length:=by
     rw[kJ _ _ _ (by rw[List.length_take,hlen.out];omega),hlen.out];omega
    exact⟨_,by simp[ag,hl2];rfl⟩
   obtain⟨x,hx⟩:=hold
   have hf:=hr.frozen (k+j)
   have hset:=hr.bG (k+j) (.int .u8 (((toB v).getD j 0).toNat:Int))
   rw[sW S.b k (toB v) j (by rw[htl.out];exact hlt) (by rw[hlen.out];omega)]at hset
   have q1:w2.heap.size≠gb:=λe=>by have:=hR2.out.row.lt;omega
   have q2:g≠gb:=hg.ne_ hr (by decide)
   replace q1:=hid q1
   replace q2:=hid q2
   replace hb:=hid hb
   replace hg:=hid hg
   replace hset:=hid hset
   replace hk:=hid hk
   generalize (((toB v).getD j 0).toNat:Int) =c at *
   generalize S.beg 6=N at *
   clear hr
   go_wp2
   go_region
   go_wp2
   go_roundw
   case rel=>exact⟨j+1,by omega,by go_num,(hb.out.far (p:=⟨gb,k+j,none⟩) q1.out _).drew,(hg.out.far (p:=⟨gb,k+j,none⟩) q2.out _).drew,hset.out.drew,(hk.out.setCell (.inl rfl) _).drew⟩
   case measure=>simp[RowKit.intOf];omega
  ·obtain rfl:j=8:=by omega
   have hlast: (toB v).take 8=toB v:=List.take_of_length_le (by rw[htl.out];omega)
   rw[hlast]at hr
   replace hr:=hid hr
   replace hk:=hid hk
   clear hb hg hlast
   go_wp2
   go_ret
   exact⟨rfl,hr.out,hk.out⟩
def KO(g:Nat)(S:Img) :Asr where
 holds w F:= ∃gb,cQ w g gb S∧∀k,F k↔k=g∨k=gb
 lt h hk:=by
  obtain⟨gb,h,hF⟩:=h
  rcases(hF _).1 hk with rfl|rfl
  ·exact h.blk.lt
  ·exact h.row.lt
 kept h hk hT:=by
  obtain⟨gb,h,hF⟩:=h
  exact⟨gb,⟨h.blk.kept hk (hT _ ((hF _).2 (.inl rfl))),h.row.kept hk (hT _ ((hF _).2 (.inr rfl))),h.ok⟩,hF⟩
theorem cQ.ne{w:World}{g gb:Nat}{S:Img}(h:cQ w g gb S) :g≠gb:=h.blk.ne_ h.row (by decide)
theorem FP{w:World}{g gb:Nat}{S:Img}(h:cQ w g gb S)(m a:Int)(n:Nat)(hn:n≠0)(hn2:n<=9223372036854775807)(wr:Bool) :
 (S.aS m a n wr=false∧Calls Tryz.prog 81 #[g,m,a,(n:Int),(ej wr)] w (gg (.bool false) w))∨
 (S.aS m a n wr=true∧∃k:Nat,a=k∧k+n<=S.beg 6∧Calls Tryz.prog 81 #[g,m,(k:Int),(n:Int),(ej wr)] w (gg (.bool true) w)):=by
 have hrow:=N6 h m a n hn2 wr
 cases hk:S.aS m a n wr
 ·rw[hk]at hrow
  exact .inl ⟨rfl,hrow⟩
 ·obtain⟨h0,h1⟩:=S.mh hk hn
  obtain⟨k,rfl⟩:=Int.eq_ofNat_of_zero_le h0
  rw[hk]at hrow
  exact .inr ⟨rfl,k,rfl,by omega,hrow⟩
section
variable {w0 w:World}{g:Nat}{S:Img}{L:List Asr}
theorem KO.rep(h:At w0 w (KO g S::L)) : ∃gb,cQ w g gb S:=by obtain⟨F,gb,h,_⟩:=h.first;exact⟨gb,h⟩
end
theorem Mg{w:World}{g gb:Nat}{S:Img}(h:cQ w g gb S)(hc:S.cl=false) :Calls Tryz.prog 51 #[.pointer (some ⟨g,0,none⟩)] w (aA (.int .i64 0) (w.setCell (g,6) (.bool true))):=by
 have hcl:=h.gh
 have hop:=h.mI
 have hf:=h.blk.frozen 6
 rw[hc]at hcl
 generalize S.op=o at hop
 clear h hc
 go_enter Tryz.func51,Tryz.ntmps51
 go_wp2
 go_ret
 exact⟨rfl,rfl⟩
theorem MD{w:World}{g gb:Nat}{S:Img}(h:cQ w g gb S)(hc:S.cl=false) :Calls Tryz.prog 52 #[.pointer (some ⟨g,0,none⟩)] w (aA (.int .i64 0) (w.setCell (g,7) (.bool true))):=by
 have hcl:=h.gh
 have hf:=h.blk.frozen 7
 rw[hc]at hcl
 clear h hc
 go_enter Tryz.func52,Tryz.ntmps52
 go_wp2
 go_ret
 exact⟨rfl,rfl⟩
section
variable {w0 w:World}{g:Nat}{S:Img}{L:List Asr}
end
theorem kE(n lo hi:Int)(h1:lo<=n)(h2:n<=hi)(h8:n % 8=0)(w:World) :Calls Tryz.prog 109 #[(n:Int),lo,hi] w (aA (.bool true) w):=by
 have h3:n.tmod 8=0:=(pY n).2 h8
 clear h8
 go_enter Tryz.func109,Tryz.ntmps109
 go_wp2
 go_ret
 exact⟨rfl,rfl⟩
set_option maxRecDepth 100000 in
theorem Gf{k s u d r:Nat}(hf:Fits k s u d r)(w:World) :Calls Tryz.prog 69 #[iF k s u d r] w (gg (.bool true) w):=by
 have f1:=hid λw=>kE k 16384 65536 (by have:=hf.k1;omega) (by have:=hf.k2;omega) (by have:=hf.k8;omega) w
 have f2:=hid λw=>kE s 0 4096 oM (by have:=hf.s2;omega) (by have:=hf.s8;omega) w
 have f3:=hid λw=>kE u 256 65536 (by have:=hf.u1;omega) (by have:=hf.u2;omega) (by have:=hf.u8;omega) w
 have f4:=hid λw=>kE d 64 4096 (by have:=hf.d1;omega) (by have:=hf.d2;omega) (by have:=hf.d8;omega) w
 have f5:=hid λw=>kE r 64 4096 (by have:=hf.r1;omega) (by have:=hf.r2;omega) (by have:=hf.r8;omega) w
 clear hf
 unfold iF
 go_enter Tryz.func69,Tryz.ntmps69
 go_wp2_with fail
 refine(f1.out _).mono ?_
 rintro e w1 ⟨rfl,rfl⟩
 go_wp2_with fail
 refine(f2.out _).mono ?_
 rintro e w1 ⟨rfl,rfl⟩
 go_wp2_with fail
 refine(f3.out _).mono ?_
 rintro e w1 ⟨rfl,rfl⟩
 go_wp2_with fail
 refine(f4.out _).mono ?_
 rintro e w1 ⟨rfl,rfl⟩
 go_wp2_with fail
 refine(f5.out _).mono ?_
 rintro e w1 ⟨rfl,rfl⟩
 go_wp2
 go_ret
 exact⟨rfl,(Below.refl _ _).alloc (Nat.le_refl _) _⟩
def EI(S:Img)(w:World)(e:Ending)(w':World) :Prop:= ∃g gb,e = .returned (.tuple #[.pointer (some ⟨g,0,none⟩),.bool true])∧w.heap.size<=g∧w.heap.size<=gb∧cQ w' g gb S∧Below w.heap.size w w'
set_option maxRecDepth 100000 in
theorem Lx(k s u d r:Nat)(hf:Fits k s u d r)(w:World) :Calls Tryz.prog 42 #[iF k s u d r] w (EI (dM k s u d r) w):=by
 have hfits:=hid λw=>Gf hf w
 have hok:=hid (nF hf)
 obtain⟨k1,k2,k8,s2,s8,u1,u2,u8,d1,d2,d8,r1,r2,r8⟩:=hf
 clear k1 k8 s8 u1 u8 d1 d8 r1 r8
 obtain⟨n,hn⟩ : ∃n,k+s+u+d+r=n:=⟨_,rfl⟩
 have hmk:=λw=>run_make_row' (P:=Tryz.prog) 92 5 (.int .u8 0) 1 Tryz.underlying92 kR rfl .i64 .i64 n oM oM w
 simp only[KU]at hmk
 have hsum: ((n:Nat) :Int) = (k:Int) +s+u+d+r:=by omega
 rw[hsum]at hmk
 clear hsum
 replace hn:=hid hn
 unfold iF at *
 go_enter Tryz.func42,Tryz.ntmps42
 go_wp2_with fail
 refine(hfits.out _).mono ?_
 rintro e w1 ⟨rfl,h1⟩
 have hb1:Blk w1 w.heap.size 62 #[(k:Int),(s:Int),(u:Int),(d:Int),(r:Int)]:=(Blk.new w _ _).below h1 (by simp)
 have hbl:=hid (((Below.refl w.heap.size w).alloc (Nat.le_refl _) _).trans (h1.mono (by simp)))
 have hsz:w.heap.size<w1.heap.size:=by have:=h1.size;simp at this;omega
 have c0:w1.cell? (w.heap.size,0) =some ((k:Int) :Vl):=hb1.cell 0
 have c1:w1.cell? (w.heap.size,1) =some ((s:Int) :Vl):=hb1.cell 1
 have c2:w1.cell? (w.heap.size,2) =some ((u:Int) :Vl):=hb1.cell 2
 have c3:w1.cell? (w.heap.size,3) =some ((d:Int) :Vl):=hb1.cell 3
 have c4:w1.cell? (w.heap.size,4) =some ((r:Int) :Vl):=hb1.cell 4
 clear h1 hb1
 go_wp2
 go_region
 go_wp2
 go_ret2
 refine⟨w1.heap.size+1,w1.heap.size,rfl,by omega,by omega,⟨?_,?_,hok.out⟩,((hbl.out.alloc oM _).alloc (by simp;omega) _).drew⟩
 ·have hn:=hn.out
  subst hn
  exact(Blk.nN (by simp)).drew
 ·have hn:=hn.out
  subst hn
  exact((Blk.new _ _ _).alloc _).drew
structure ao where
 op:Int
 arg:Int
 lit:Int
 cells:Int
def ao.none:ao:=⟨0,0,0,0⟩
def ao.v(i:ao) :Value:= .agg #[i.op,i.arg,i.lit,i.cells]
def ao.c(i:ao) :Array Value:= #[i.op,i.arg,i.lit,i.cells]
def Img.ax(S:Img)(m a:Int) :ao×Int:=
 if S.az m a false≠0 then(ao.none,S.az m a false)
 else if(Code.unpack (S.aR m a)).2.2=false then(ao.none,14)
 else if(Code.unpack (S.aR m a)).1=2 then
  (if S.az m (a+8) false≠0 then(ao.none,S.az m (a+8) false)else(⟨2,(Code.unpack (S.aR m a)).2.1,S.aR m (a+8),2⟩,0))
 else if(Code.unpack (S.aR m a)).1=19 then
  (if S.cZ m (a+8) (Code.unpack (S.aR m a)).2.1≠0 then(ao.none,S.cZ m (a+8) (Code.unpack (S.aR m a)).2.1)else(⟨19,(Code.unpack (S.aR m a)).2.1,0,1+ ((Code.unpack (S.aR m a)).2.1+7) /8⟩,0))
 else(⟨(Code.unpack (S.aR m a)).1,(Code.unpack (S.aR m a)).2.1,0,1⟩,0)
theorem o8(S:Img)(m a:Int)(w:Bool) :S.az m a w=0∨S.az m a w=5∨S.az m a w=6:=by
 unfold Img.az
 repeat' split
 all_goals simp
theorem wD(S:Img)(m a n:Int) :S.cZ m a n=0∨S.cZ m a n=5∨S.cZ m a n=19:=by
 unfold Img.cZ
 repeat' split
 all_goals simp
theorem iY{S:Img}{m a:Int}{w:Bool}(hS:S.Ok)(h:S.az m a w=0) :0<=a∧a+8<=143360:=by
 unfold Img.az at h
 split at h
 ·omega
 ·split at h
  ·rename_i h2
   have:=S.mh h2 oM
   have:=hS.small
   omega
  ·omega
section
variable {w0 w:World}{g b:Nat}{t:TypeId}{S:Img}{i:ao}{L:List Asr}
theorem At.four{cs:Array Value}(h:At w0 w (ae b t cs::L)) :Blk w b t cs:=h.blk
theorem lB{w:World}{b:Nat}{t:TypeId}{i:ao}(h:Blk w b t i.c) :
 (w.cell? (b,0) =some (i.op:Vl)∧w.cell? (b,1) =some (i.arg:Vl)∧w.cell? (b,2) =some (i.lit:Vl)∧w.cell? (b,3) =some (i.cells:Vl))∧
 (w.frozen? (b,0) =false∧w.frozen? (b,1) =false∧w.frozen? (b,2) =false∧w.frozen? (b,3) =false):=by
 refine⟨⟨?_,?_,?_,?_⟩,h.frozen 0,h.frozen 1,h.frozen 2,h.frozen 3⟩ <;>rw[h.cell] <;>rfl
theorem At.zH(h:At w0 w (ae b t i.c::L))(j:ao) :At w0 ((((w.setCell (b,0) (.int .i64 j.op)).setCell (b,1) (.int .i64 j.arg)).setCell (b,2) (.int .i64 j.lit)).setCell (b,3) (.int .i64 j.cells)) L:=
 ((((h.set 0 _).set 1 _).set 2 _).set 3 _).tail
end
section
variable {w0 w:World}{g:Nat}{S:Img}{L:List Asr}
set_option maxRecDepth 100000 in
theorem tT(h:At w0 w (au g S::L))(m a f:Int)(hf:S.az m a false=f)(hff:f=5∨f=6) :
 Calls Tryz.prog 65 #[g,m,a] w (kj (.tuple #[ao.none.v,f]) (au g S) w0 L):=by
 have hb:=h.box ao.none.c 155
 have hc:=jB hb.swap m a
 rw[hf]at hc
 replace hc:=hid hc
 generalize hv:S.aR m a=v at *
 clear hf hv hb
 rcases hff with rfl|rfl
 all_goals
  go_enter Tryz.func65,Tryz.ntmps65
  go_wp2_with fail
  refine hc.out.mono ?_
  rintro e w1 ⟨rfl,h1⟩
  obtain⟨⟨c0,c1,c2,c3⟩,f0,f1,f2,f3⟩:=lB h1.swap.blk
  have h2:=hid (h1.swap.zH ao.none)
  clear h1
  simp only[ao.none]at c0 c1 c2 c3
  go_wp2
  refine bodyPost_ret (v:= .tuple #[ao.none.v,.int .i64 _]) (by simp[results,Tryz.results65,go_sem,c0,c1,c2,c3,ao.v,ao.none]) rfl ⟨rfl,?_⟩
  exact h2.out
set_option maxRecDepth 100000 in
theorem zn(h:At w0 w (au g S::L))(m a v:Int)(hf:S.az m a false=0)(hv:S.aR m a=v)(hun:Code.unpack v= (0,0,false)) :
 Calls Tryz.prog 65 #[g,m,a] w (kj (.tuple #[ao.none.v,(14:Int)]) (au g S) w0 L):=by
 have hb:=h.box ao.none.c 155
 have hc:=jB hb.swap m a
 rw[hf,hv]at hc
 replace hc:=hid hc
 obtain⟨gb0,hrep⟩:=au.rep h
 obtain⟨q1,q2⟩:=iY hrep.ok hf
 clear hf hv hb h hrep
 have hu:=λw=>dt v w
 rw[hun]at hu
 replace hu:=hid hu
 clear hun
 go_enter Tryz.func65,Tryz.ntmps65
 go_wp2_with fail
 refine hc.out.mono ?_
 rintro e w1 ⟨rfl,h1⟩
 replace h1:=hid h1
 go_wp2_with fail
 refine(hu.out w1).mono ?_
 rintro e w2 ⟨rfl,rfl⟩
 obtain⟨⟨c0,c1,c2,c3⟩,f0,f1,f2,f3⟩:=lB h1.out.swap.blk
 have h2:=hid (h1.out.swap.zH ao.none)
 simp only[ao.none]at c0 c1 c2 c3
 go_wp2
 refine bodyPost_ret (v:= .tuple #[ao.none.v,.int .i64 _]) (by simp[results,Tryz.results65,go_sem,c0,c1,c2,c3,ao.v,ao.none]) rfl ⟨rfl,?_⟩
 exact h2.out
set_option maxRecDepth 100000 in
theorem wo(h:At w0 w (au g S::L))(m a v:Int)(hf:S.az m a false=0)(hv:S.aR m a=v)(op arg:Int)(hun:Code.unpack v= (op,arg,true))(n2: (op==2) =false)(n19: (op==19) =false) :
 Calls Tryz.prog 65 #[g,m,a] w (kj (.tuple #[ao.v ⟨op,arg,0,1⟩,(0:Int)]) (au g S) w0 L):=by
 have hb:=h.box ao.none.c 155
 have hc:=jB hb.swap m a
 rw[hf,hv]at hc
 replace hc:=hid hc
 obtain⟨gb0,hrep⟩:=au.rep h
 obtain⟨q1,q2⟩:=iY hrep.ok hf
 clear hf hv hb h hrep
 have hu:=λw=>dt v w
 rw[hun]at hu
 replace hu:=hid hu
 clear hun
 go_enter Tryz.func65,Tryz.ntmps65
 go_wp2_with fail
 refine hc.out.mono ?_
 rintro e w1 ⟨rfl,h1⟩
 replace h1:=hid h1
 go_wp2_with fail
 refine(hu.out w1).mono ?_
 rintro e w2 ⟨rfl,rfl⟩
 have hz:=h1.out.below.size
 have hB:=hid ((h1.out.box (ao.c ⟨op,arg,0,1⟩) 155).uO)
 obtain⟨⟨c0,c1,c2,c3⟩,f0,f1,f2,f3⟩:=lB hB.out.blk
 obtain⟨⟨d0,d1,d2,d3⟩,e0,e1,e2,e3⟩:=lB hB.out.swap.blk
 have h2:=hid (hB.out.zH ⟨op,arg,0,1⟩)
 simp only[ao.none,ao.c]at c0 c1 c2 c3 d0 d1 d2 d3 f0 f1 f2 f3
 go_wp2
 refine bodyPost_ret (v:= .tuple #[ao.v ⟨op,arg,0,1⟩,.int .i64 _]) (by simp[results,Tryz.results65,go_sem,c0,c1,c2,c3,ao.v]) rfl ⟨rfl,?_⟩
 exact h2.out.tail
set_option maxRecDepth 100000 in
theorem lJ(h:At w0 w (au g S::L))(m a v:Int)(hf:S.az m a false=0)(hv:S.aR m a=v)(arg:Int)(hun:Code.unpack v= (2,arg,true))(lit f:Int)(hf2:S.az m (a+8) false=f)(hv2:S.aR m (a+8) =lit)(hff:f=5∨f=6) :
 Calls Tryz.prog 65 #[g,m,a] w (kj (.tuple #[ao.none.v,f]) (au g S) w0 L):=by
 have hb:=h.box ao.none.c 155
 have hc:=jB hb.swap m a
 rw[hf,hv]at hc
 replace hc:=hid hc
 obtain⟨gb0,hrep⟩:=au.rep h
 obtain⟨q1,q2⟩:=iY hrep.ok hf
 clear hf hv hb h hrep
 have hu:=λw=>dt v w
 rw[hun]at hu
 replace hu:=hid hu
 clear hun
 rcases hff with rfl|rfl
 all_goals
  go_enter Tryz.func65,Tryz.ntmps65
  go_wp2_with fail
  refine hc.out.mono ?_
  rintro e w1 ⟨rfl,h1⟩
  replace h1:=hid h1
  go_wp2_with fail
  refine(hu.out w1).mono ?_
  rintro e w2 ⟨rfl,rfl⟩
  have hX:At w0 (w2.alloc (.cells #[(2:Int),arg,(0:Int),(1:Int)] 155)) (ae w2.heap.size 155 (ao.c ⟨2,arg,0,1⟩) ::_):=h1.out.box (ao.c ⟨2,arg,0,1⟩) 155
  replace hX:=hid hX
  have hc2:=jB hX.out.swap m (a+8)
  rw[hf2,hv2]at hc2
  replace hc2:=hid hc2
  obtain⟨⟨d0,d1,d2,d3⟩,e0,e1,e2,e3⟩:=lB hX.out.blk
  dsimp only at d0 d1 d2 d3 e0 e1 e2 e3
  go_wp2_with fail
  refine hc2.out.mono ?_
  rintro e w3 ⟨rfl,h3⟩
  replace h3:=hid h3
  clear d0 d1 d2 d3 e0 e1 e2 e3
  have hB:=hid h3.out.uO
  obtain⟨⟨c0,c1,c2,c3⟩,f0,f1,f2,f3⟩:=lB hB.out.blk
  obtain⟨⟨d0,d1,d2,d3⟩,e0,e1,e2,e3⟩:=lB h3.out.swap.blk
  simp only[ao.none]at c0 c1 c2 c3 d0 d1 d2 d3 f0 f1 f2 f3
  have hlt:w.heap.size<w2.heap.size:=h1.out.swap.blk.lt
  go_wp2
  refine bodyPost_ret (v:= .tuple #[ao.v ao.none,.int .i64 _]) (by simp[results,Tryz.results65,go_sem,c0,c1,c2,c3,ao.v,ao.none]) rfl ⟨rfl,?_⟩
  exact((h3.out.swap.set 2 _ |>.set 3 _).uO.zH ao.none).tail
set_option maxRecDepth 100000 in
theorem uH(h:At w0 w (au g S::L))(m a v:Int)(hf:S.az m a false=0)(hv:S.aR m a=v)(arg:Int)(hun:Code.unpack v= (2,arg,true))(lit f:Int)(hf2:S.az m (a+8) false=f)(hv2:S.aR m (a+8) =lit)(hff:f=0) :
 Calls Tryz.prog 65 #[g,m,a] w (kj (.tuple #[ao.v ⟨2,arg,lit,2⟩,(0:Int)]) (au g S) w0 L):=by
 have hb:=h.box ao.none.c 155
 have hc:=jB hb.swap m a
 rw[hf,hv]at hc
 replace hc:=hid hc
 obtain⟨gb0,hrep⟩:=au.rep h
 obtain⟨q1,q2⟩:=iY hrep.ok hf
 clear hf hv hb h hrep
 have hu:=λw=>dt v w
 rw[hun]at hu
 replace hu:=hid hu
 clear hun
 subst hff
 go_enter Tryz.func65,Tryz.ntmps65
 go_wp2_with fail
 refine hc.out.mono ?_
 rintro e w1 ⟨rfl,h1⟩
 replace h1:=hid h1
 go_wp2_with fail
 refine(hu.out w1).mono ?_
 rintro e w2 ⟨rfl,rfl⟩
 have hX:At w0 (w2.alloc (.cells #[(2:Int),arg,(0:Int),(1:Int)] 155)) (ae w2.heap.size 155 (ao.c ⟨2,arg,0,1⟩) ::_):=h1.out.box (ao.c ⟨2,arg,0,1⟩) 155
 replace hX:=hid hX
 have hc2:=jB hX.out.swap m (a+8)
 rw[hf2,hv2]at hc2
 replace hc2:=hid hc2
 obtain⟨⟨d0,d1,d2,d3⟩,e0,e1,e2,e3⟩:=lB hX.out.blk
 dsimp only at d0 d1 d2 d3 e0 e1 e2 e3
 go_wp2_with fail
 refine hc2.out.mono ?_
 rintro e w3 ⟨rfl,h3⟩
 replace h3:=hid h3
 clear d0 d1 d2 d3 e0 e1 e2 e3
 have hB:=hid h3.out.uO
 obtain⟨⟨c0,c1,c2,c3⟩,f0,f1,f2,f3⟩:=lB hB.out.blk
 obtain⟨⟨d0,d1,d2,d3⟩,e0,e1,e2,e3⟩:=lB h3.out.swap.blk
 simp only[ao.none]at c0 c1 c2 c3 d0 d1 d2 d3 f0 f1 f2 f3
 have hlt:w.heap.size<w2.heap.size:=h1.out.swap.blk.lt
 go_wp2
 refine bodyPost_ret (v:= .tuple #[ao.v ⟨2,arg,lit,2⟩,.int .i64 _]) (by simp[results,Tryz.results65,go_sem,c0,c1,c2,c3,ao.v]) rfl ⟨rfl,?_⟩
 exact((h3.out.swap.set 2 _ |>.set 3 _).uO.zH ⟨2,arg,lit,2⟩).tail
set_option maxRecDepth 100000 in
theorem kC(h:At w0 w (au g S::L))(m a v:Int)(hf:S.az m a false=0)(hv:S.aR m a=v)(arg:Int)(hun:Code.unpack v= (19,arg,true))(ha0:0<=arg)(ha1:arg<36028797018963968)(f:Int)(txt:ByteArray)(hf2:S.cZ m (a+8) arg=f)(hv2:S.text m (a+8) arg=txt)(hff:f=5∨f=19) :
 Calls Tryz.prog 65 #[g,m,a] w (kj (.tuple #[ao.none.v,f]) (au g S) w0 L):=by
 have hb:=h.box ao.none.c 155
 have hc:=jB hb.swap m a
 rw[hf,hv]at hc
 replace hc:=hid hc
 obtain⟨gb0,hrep⟩:=au.rep h
 obtain⟨q1,q2⟩:=iY hrep.ok hf
 clear hf hv hb h hrep
 have hu:=λw=>dt v w
 rw[hun]at hu
 replace hu:=hid hu
 clear hun
 rcases hff with rfl|rfl
 all_goals
  go_enter Tryz.func65,Tryz.ntmps65
  go_wp2_with fail
  refine hc.out.mono ?_
  rintro e w1 ⟨rfl,h1⟩
  replace h1:=hid h1
  go_wp2_with fail
  refine(hu.out w1).mono ?_
  rintro e w2 ⟨rfl,rfl⟩
  have hX:At w0 (w2.alloc (.cells #[(19:Int),arg,(0:Int),(1:Int)] 155)) (ae w2.heap.size 155 (ao.c ⟨19,arg,0,1⟩) ::_):=h1.out.box (ao.c ⟨19,arg,0,1⟩) 155
  replace hX:=hid hX
  have hc2:=GZ hX.out.swap m (a+8) arg oM
  rw[hv2,hf2]at hc2
  replace hc2:=hid hc2
  obtain⟨⟨d0,d1,d2,d3⟩,e0,e1,e2,e3⟩:=lB hX.out.blk
  dsimp only at d0 d1 d2 d3 e0 e1 e2 e3
  go_wp2_with fail
  refine hc2.out.mono ?_
  rintro e w3 ⟨rfl,hw3⟩
  have h3:At w0 w3 (au g S::ae w2.heap.size 155 (ao.c ⟨19,arg,0,1⟩) ::ae w.heap.size 155 ao.none.c::L):=by rw[hw3];exact hX.out.swap
  replace h3:=hid h3
  clear hw3
  clear d0 d1 d2 d3 e0 e1 e2 e3
  have hB:=hid h3.out.uO
  obtain⟨⟨c0,c1,c2,c3⟩,f0,f1,f2,f3⟩:=lB hB.out.blk
  obtain⟨⟨d0,d1,d2,d3⟩,e0,e1,e2,e3⟩:=lB h3.out.swap.blk
  simp only[ao.none]at c0 c1 c2 c3 d0 d1 d2 d3 f0 f1 f2 f3
  have hlt:w.heap.size<w2.heap.size:=h1.out.swap.blk.lt
  go_wp2
  refine bodyPost_ret (v:= .tuple #[ao.v ao.none,.int .i64 _]) (by simp[results,Tryz.results65,go_sem,c0,c1,c2,c3,ao.v,ao.none]) rfl ⟨rfl,?_⟩
  exact((h3.out.swap.set 3 _).uO.zH ao.none).tail
set_option maxRecDepth 100000 in
theorem sC(h:At w0 w (au g S::L))(m a v:Int)(hf:S.az m a false=0)(hv:S.aR m a=v)(arg:Int)(hun:Code.unpack v= (19,arg,true))(ha0:0<=arg)(ha1:arg<36028797018963968)(f:Int)(txt:ByteArray)(hf2:S.cZ m (a+8) arg=f)(hv2:S.text m (a+8) arg=txt)(hff:f=0) :
 Calls Tryz.prog 65 #[g,m,a] w (kj (.tuple #[ao.v ⟨19,arg,0,1+ (arg+7) /8⟩,(0:Int)]) (au g S) w0 L):=by
 have hb:=h.box ao.none.c 155
 have hc:=jB hb.swap m a
 rw[hf,hv]at hc
 replace hc:=hid hc
 obtain⟨gb0,hrep⟩:=au.rep h
 obtain⟨q1,q2⟩:=iY hrep.ok hf
 clear hf hv hb h hrep
 have hu:=λw=>dt v w
 rw[hun]at hu
 replace hu:=hid hu
 clear hun
 subst hff
 go_enter Tryz.func65,Tryz.ntmps65
 go_wp2_with fail
 refine hc.out.mono ?_
 rintro e w1 ⟨rfl,h1⟩
 replace h1:=hid h1
 go_wp2_with fail
 refine(hu.out w1).mono ?_
 rintro e w2 ⟨rfl,rfl⟩
 have hX:At w0 (w2.alloc (.cells #[(19:Int),arg,(0:Int),(1:Int)] 155)) (ae w2.heap.size 155 (ao.c ⟨19,arg,0,1⟩) ::_):=h1.out.box (ao.c ⟨19,arg,0,1⟩) 155
 replace hX:=hid hX
 have hc2:=GZ hX.out.swap m (a+8) arg oM
 rw[hv2,hf2]at hc2
 replace hc2:=hid hc2
 obtain⟨⟨d0,d1,d2,d3⟩,e0,e1,e2,e3⟩:=lB hX.out.blk
 dsimp only at d0 d1 d2 d3 e0 e1 e2 e3
 go_wp2_with fail
 refine hc2.out.mono ?_
 rintro e w3 ⟨rfl,hw3⟩
 have h3:At w0 w3 (au g S::ae w2.heap.size 155 (ao.c ⟨19,arg,0,1⟩) ::ae w.heap.size 155 ao.none.c::L):=by rw[hw3];exact hX.out.swap
 replace h3:=hid h3
 clear hw3
 clear d0 d1 d2 d3 e0 e1 e2 e3
 have hB:=hid h3.out.uO
 obtain⟨⟨c0,c1,c2,c3⟩,f0,f1,f2,f3⟩:=lB hB.out.blk
 obtain⟨⟨d0,d1,d2,d3⟩,e0,e1,e2,e3⟩:=lB h3.out.swap.blk
 simp only[ao.none]at c0 c1 c2 c3 d0 d1 d2 d3 f0 f1 f2 f3
 have hlt:w.heap.size<w2.heap.size:=h1.out.swap.blk.lt
 go_wp2
 refine bodyPost_ret (v:= .tuple #[ao.v ⟨19,arg,0,1+ (arg+7) /8⟩,.int .i64 _]) (by simp[results,Tryz.results65,go_sem,c0,c1,c2,c3,ao.v]) rfl ⟨rfl,?_⟩
 exact((h3.out.swap.set 3 _).uO.zH ⟨19,arg,0,1+ (arg+7) /8⟩).tail
theorem Hk{arg:Int}(h:Code.right 19 arg=true) :0<=arg∧arg<36028797018963968:=by
 rw[Code.ny]at h
 omega
theorem zA(h:At w0 w (au g S::L))(m a:Int) :
 Calls Tryz.prog 65 #[g,m,a] w (kj (.tuple #[(S.ax m a).1.v,.int .i64 (S.ax m a).2]) (au g S) w0 L):=by
 rcases o8 S m a false with hf|hf|hf
 rotate_left
 ·have e:S.ax m a= (ao.none,5):=by unfold Img.ax;simp[hf]
  rw[e];exact tT h m a 5 hf (.inl rfl)
 ·have e:S.ax m a= (ao.none,6):=by unfold Img.ax;simp[hf]
  rw[e];exact tT h m a 6 hf (.inr rfl)
 obtain⟨v,hv⟩ : ∃v,S.aR m a=v:=⟨_,rfl⟩
 rcases Code.xJ v with⟨op,arg,hun,hr,_⟩ |hun
 rotate_left
 ·have e:S.ax m a= (ao.none,14):=by unfold Img.ax;simp[hf,hv,hun]
  rw[e];exact zn h m a v hf hv hun
 by_cases h2:op=2
 ·subst h2
  obtain⟨lit,hl⟩ : ∃x,S.aR m (a+8) =x:=⟨_,rfl⟩
  rcases o8 S m (a+8) false with hf2|hf2|hf2
  ·have e:S.ax m a= (⟨2,arg,lit,2⟩,0):=by unfold Img.ax;simp[hf,hv,hun,hf2,hl]
   rw[e];exact uH h m a v hf hv arg hun lit 0 hf2 hl rfl
  ·have e:S.ax m a= (ao.none,5):=by unfold Img.ax;simp[hf,hv,hun,hf2]
   rw[e];exact lJ h m a v hf hv arg hun lit 5 hf2 hl (.inl rfl)
  ·have e:S.ax m a= (ao.none,6):=by unfold Img.ax;simp[hf,hv,hun,hf2]
   rw[e];exact lJ h m a v hf hv arg hun lit 6 hf2 hl (.inr rfl)
 by_cases h19:op=19
 ·subst h19
  obtain⟨b1,b2⟩:=Hk hr
  obtain⟨txt,hl⟩ : ∃x,S.text m (a+8) arg=x:=⟨_,rfl⟩
  rcases wD S m (a+8) arg with hf2|hf2|hf2
  ·have e:S.ax m a= (⟨19,arg,0,1+ (arg+7) /8⟩,0):=by unfold Img.ax;simp[hf,hv,hun,hf2]
   rw[e];exact sC h m a v hf hv arg hun b1 b2 0 txt hf2 hl rfl
  ·have e:S.ax m a= (ao.none,5):=by unfold Img.ax;simp[hf,hv,hun,hf2]
   rw[e];exact kC h m a v hf hv arg hun b1 b2 5 txt hf2 hl (.inl rfl)
  ·have e:S.ax m a= (ao.none,19):=by unfold Img.ax;simp[hf,hv,hun,hf2]
   rw[e];exact kC h m a v hf hv arg hun b1 b2 19 txt hf2 hl (.inr rfl)
 have e:S.ax m a= (⟨op,arg,0,1⟩,0):=by unfold Img.ax;simp[hf,hv,hun,h2,h19]
 rw[e];exact wo h m a v hf hv op arg hun (by simpa using h2) (by simpa using h19)
end
open Go.RowKit Go.Lib
namespace Vm
structure Stp where
 at_:Int
 op:Int
 dep:Int
 top:Int
 fuel:Int
structure Ext where
 text:ByteArray
 at_:Nat
def Ext.zero:Ext:=⟨⟨#[]⟩,0⟩
structure Mt where
 S:Img
 pd:Pl
 pr:Pl
 d:Nat
 r:Nat
 T:Caps.Tab
 hs:Int
 ls:Int
 hk:Int
 lk:Int
 fault:Int
 used:Int
 hidden:Int
 av:Bool
 seen:List Stp
 ext:Ext
structure Rn where
 mode:Int
 left:Int
 pc:Int
 next:Int
 over:Bool
 asked:Bool
 base:Int
namespace Mt
variable (s:Mt)
def top(n:Int) :Int:=jY s.S s.pd.fr s.d n
def bH(n:Int) :Int:=jY s.S s.pr.fr s.r n
def args(n:Nat) :List Int:=(List.range n).map λj=>s.top ((n-1-j:Nat) :Int)
def cY(l:List Int) :Mt:={ s with S:=bJ s.S s.pd.fr s.d l,d:=s.d+l.length }
def aE(l:List Int) :Mt:={ s with S:=bJ s.S s.pr.fr s.r l,r:=s.r+l.length }
def pG(n:Nat) :Mt:={ s with d:=n }
def iB(n:Nat) :Mt:={ s with r:=n }
def s6(n:Nat)(v:Int) :Mt:={ s with S:=sset s.S s.pr.fr (s.r-1-n) v }
def aq(n:Nat)(l:List Int) :Int×Mt:=
 if s.pd.rm- (s.d-n) <l.length then(2,s.pG (s.d-n))else(0,(s.pG (s.d-n)).cY l)
end Mt
def returns(op arg:Int)(same:Bool) :Int×Int:=
 if op=1∨op=14∨op=18 then(1,0)
 else if op=17 then(if arg=0 then(1,0)else(0,0))
 else if op=3∨op=16∨op=13 then(0,1)
 else if op=7 then(if same then(0,0)else(0,2))
 else if op=6 then(0,2)
 else if op=10 then(2,0)
 else if op=8∨op=9∨op=11 then(2,2)
 else if op=12 then(4,4)
 else if op=15 then(1,1)
 else(0,0)
def ev(op:Int) :Int:=
 if 78<=op∧op<=82 then 1
 else if op=83∨op=84 then 2
 else if op=87 then 4
 else if 87<op∧op<=93 then 8
 else if 100<=op∧op<=104 then 16
 else 0
def Mt.same(s:Mt) :Bool:=s.top 0==s.top 1
def asks(i:ao)(x:Rn)(s:Mt) :Int:=
 if(s.d:Int) < (Code.ah i.op).1 then 1
 else if(s.r:Int) -x.base< (returns i.op i.arg s.same).1 then 3
 else if(s.pd.rm:Int) <s.d- (Code.ah i.op).1+ (if i.op=26∧s.top 0=0 then(Code.ah i.op).1 else(Code.ah i.op).2)then 2
 else if(s.pr.rm:Int) <s.r- (returns i.op i.arg s.same).1+ (returns i.op i.arg s.same).2 then 4
 else if ev i.op≠0∧Caps.has s.T.aU x.mode (ev i.op) =false then 11
 else 0
structure Rs where
 f:Int
 x:Rn
 s:Mt
def back(x:Rn)(s:Mt) :Rs:=
 if s.r=0 then⟨3,x,s⟩else⟨0,{ x with next:=s.bH 0,over:=s.bH 0==0 },{ s with r:=s.r-1 }⟩
def aK(n:Nat)(l:List Int)(x:Rn)(s:Mt) :Rs:=⟨(s.aq n l).1,x,(s.aq n l).2⟩
def Rs.then(a:Rs)(k:Rn->Mt->Rs) :Rs:=if a.f=0 then k a.x a.s else a
def ee(n:Int)(ends:Bool)(at_:Int)(x:Rn)(s:Mt) :Rs:=
 if ends then⟨0,x,s.iB (s.r-2)⟩else⟨0,{ x with next:=at_ },s.s6 0 n⟩
def Mt.told(s:Mt)(x:Rn)(op:Int) :Mt:=if s.av then { s with seen:=s.seen ++ [⟨x.pc,op,s.d,s.top 0,x.left⟩] } else s
end Vm
end Go.Proofs.YtjohhkikoejadaaGreatDoor
