/- Chapter 3. Conditions: as written. -/
import Derived.Test.YtilaogbkdbbdkaaGreatDoorOm
import Derived.Test.YtilaogbkdbbdkaaGreatDoorZ11
import Derived.Deep.OwnRows
open Go.Proofs.Tryz
namespace Go.Proofs.YtilaogbkdbbdkaaGreatDoor
set_option linter.unusedVariables false
set_option maxHeartbeats 8000000
open Go.RowKit Go.Lib Go.Deep
structure Fits(k s u d r:Nat):Prop where
 k1:16384<=k
 k2:k<=65536
 k8:k % 8=0
 s2:s<=4096
 s8:s % 8=0
 u1:256<=u
 u2:u<=65536
 u8:u % 8=0
 d1:64<=d
 d2:d<=4096
 d8:d % 8=0
 r1:64<=r
 r2:r<=4096
 r8:r % 8=0
def ev(k s u d r:Nat):Img:=⟨k,s,u,d,r,List.replicate (k+s+u+d+r) 0,false,false⟩
theorem oB{k s u d r:Nat}(h:Fits k s u d r): (ev k s u d r).Ok:=by
 refine⟨by simp[ev,Img.beg],?_⟩
 simp only[ev,Img.beg]
 have:=h.k2
 have:=h.s2
 have:=h.u2
 have:=h.d2
 have:=h.r2
 omega
def jk(k s u d r:Nat):Value:= .agg #[(k:Int),(s:Int),(u:Int),(d:Int),(r:Int)]
def fN(S:Img)(j:Nat):Array Value:=
 #[(S.k:Int),(S.s:Int),(S.u:Int),(S.d:Int),(S.r:Int),
   .int .i64 0,.int .i64 0,.int .i64 (if 2<=j then S.beg 2 else 0:Nat),.int .i64 (if 3<=j then S.beg 3 else 0:Nat),.int .i64 (if 4<=j then S.beg 4 else 0:Nat),.int .i64 (if 5<=j then S.beg 5 else 0:Nat),.int .i64 (if 6<=j then S.beg 6 else 0:Nat),
   .slice none 0 0,.bool false,.bool false]
def Oz:Array Value:=#[(0:Int),(16384:Int),(0:Int),(256:Int),(64:Int),(64:Int)]
def Qn:Array Value:=#[(0:Int),(65536:Int),(4096:Int),(65536:Int),(4096:Int),(4096:Int)]
def JE(S:Img)(w:World)(e:Ending)(w':World):Prop:= ∃g gb,e = .returned (.tuple #[.pointer (some ⟨g,0,none⟩),(0:Int)])∧w.heap.size<=g∧w.heap.size<=gb∧b9 w' g gb S∧Below w.heap.size w w'
theorem iZ{w:World}{g:Nat}{t:TypeId}{a b:Array Value}(h:Blk w g t a)(e:a=b):Blk w g t b:=e▸h
theorem MU(n:Nat):madeCells #[Value.int .u8 0] n= (ah (List.replicate n 0)).toArray:=by
 apply Array.ext_getElem?
 intro i
 by_cases hi:i<n
 ·simp[madeCells,ah,hi,Nat.mod_one]
 ·simp[madeCells,ah,hi]
set_option maxRecDepth 100000 in
theorem QA(k s u d r:Nat)(hf:Fits k s u d r)(w:World):Calls prog 21 #[jk k s u d r] w (JE (ev k s u d r) w):=by
 have hf':=hid hf
 obtain⟨k1,k2,k8,s2,s8,u1,u2,u8,d1,d2,d8,r1,r2,r8⟩:=hf
 unfold jk
 go_enter func21,ntmps21
 go_wp2
 obtain⟨gl,Z0⟩: ∃gl,w.heap.size+1+1=gl:=⟨_,rfl⟩
 obtain⟨gm,hgm⟩: ∃gm,w.heap.size+1+1+1=gm:=⟨_,rfl⟩
 obtain⟨gi,hgi⟩: ∃gi,w.heap.size+1+1+1+1=gi:=⟨_,rfl⟩
 have heD: ∀w,(Instr.index 136 (.agg #[(0:Int),(k:Int),(s:Int),(u:Int),(d:Int),(r:Int)]) (.int .i64 0)).run prog w = .ok (.int .i64 0) w∧(Instr.index 136 (.agg #[(0:Int),(k:Int),(s:Int),(u:Int),(d:Int),(r:Int)]) (.int .i64 1)).run prog w = .ok (.int .i64 (k:Int)) w∧(Instr.index 136 (.agg #[(0:Int),(k:Int),(s:Int),(u:Int),(d:Int),(r:Int)]) (.int .i64 2)).run prog w = .ok (.int .i64 (s:Int)) w∧(Instr.index 136 (.agg #[(0:Int),(k:Int),(s:Int),(u:Int),(d:Int),(r:Int)]) (.int .i64 3)).run prog w = .ok (.int .i64 (u:Int)) w∧(Instr.index 136 (.agg #[(0:Int),(k:Int),(s:Int),(u:Int),(d:Int),(r:Int)]) (.int .i64 4)).run prog w = .ok (.int .i64 (d:Int)) w∧(Instr.index 136 (.agg #[(0:Int),(k:Int),(s:Int),(u:Int),(d:Int),(r:Int)]) (.int .i64 5)).run prog w = .ok (.int .i64 (r:Int)) w:=λw=>⟨by kernel_rfl,by kernel_rfl,by kernel_rfl,by kernel_rfl,by kernel_rfl,by kernel_rfl⟩
 replace heD:=hid heD
 rw[hgi,hgm,Z0]
 go_loopw [27] (λi wr=> ∃j:Nat,j<=6∧i = .int .i64 j∧Blk wr gl 136 Oz∧Blk wr gm 136 Qn∧Blk wr gi 139 (fN (ev k s u d r) j)∧Below w.heap.size w wr) (λi _=>6- (RowKit.intOf i).toNat)
 case atStart=>
  refine⟨0,by omega,rfl,?_,?_,?_,?_⟩
  ·subst Z0
   exact((Blk.oS (by simp)).alloc _).alloc _
  ·subst hgm
   exact(Blk.oS (by simp)).alloc _
  ·subst hgi
   exact Blk.oS (by simp)
  ·exact((((((Below.refl _ _).alloc (Nat.le_refl _) _).alloc (by simp) _).alloc (by simp;omega) _).alloc (by simp;omega) _).alloc (by simp;omega) _)
 case round=>
  obtain⟨j,hj6,rfl,hl,hm,hi,Q9⟩:=hrel
  replace Q9:=hid Q9
  have TJ:j=0∨j=1∨j=2∨j=3∨j=4∨j=5∨j=6:=by omega
  have q0:w.heap.size<=gi:=by omega
  have q1:gl≠gi:=by omega
  have q2:gm≠gi:=by omega
  replace⟨Z0,hgm,hgi⟩:=iC Z0 hgm hgi
  have RX:=hl.cell j
  have Wt:=hm.cell j
  have Zv:=hi.cell (5+j)
  have SI:=hi.cell (5+ (j+1))
  have hfb:=hi.frozen (5+ (j+1))
  replace⟨hl,hm,hi⟩:=iC hl hm hi
  obtain⟨x0,x1,x2,x3,x4,x5⟩:=heD.out wr
  rcases TJ with rfl|rfl|rfl|rfl|rfl|rfl|rfl
  ·replace RX:wr.cell? (gl,0)=some (.int .i64 0):=RX
   replace Wt:wr.cell? (gm,0)=some (.int .i64 0):=Wt
   replace Zv:wr.cell? (gi,5)=some (.int .i64 0):=Zv
   replace SI:wr.cell? (gi,6)=some (.int .i64 0):=SI
   replace hfb:wr.frozen? (gi,6)=false:=hfb
   clear x1 x2 x3 x4 x5
   have ON:=hi.out.bE 6 (.int .i64 (0))
   replace ON:=hid ON
   go_wp2
   go_region
   go_wp2
   go_roundw
   case rel=>exact⟨1,by omega,rfl,(hl.out.far (by simp;omega) _).drew,(hm.out.far (by simp;omega) _).drew,iZ ON.out.drew (by simp[fN,ev]),(Q9.out.setCell q0 _).drew⟩
   case measure=>simp[RowKit.intOf]
  ·replace RX:wr.cell? (gl,1)=some (.int .i64 16384):=RX
   replace Wt:wr.cell? (gm,1)=some (.int .i64 65536):=Wt
   replace Zv:wr.cell? (gi,6)=some (.int .i64 0):=Zv
   replace SI:wr.cell? (gi,7)=some (.int .i64 0):=SI
   replace hfb:wr.frozen? (gi,7)=false:=hfb
   clear x0 x2 x3 x4 x5
   have hcN: ((k:Int)).tmod 8=0:=by rw[Int.tmod_eq_emod_of_nonneg oM];omega
   have ON:=hi.out.bE 7 (.int .i64 (k:Int))
   replace ON:=hid ON
   go_wp2
   go_region
   go_wp2
   go_roundw
   case rel=>exact⟨2,by omega,rfl,(hl.out.far (by simp;omega) _).drew,(hm.out.far (by simp;omega) _).drew,iZ ON.out.drew (by simp[fN,ev,Img.beg]),(Q9.out.setCell q0 _).drew⟩
   case measure=>simp[RowKit.intOf]
  ·replace RX:wr.cell? (gl,2)=some (.int .i64 0):=RX
   replace Wt:wr.cell? (gm,2)=some (.int .i64 4096):=Wt
   replace Zv:wr.cell? (gi,7)=some ((k:Int):Vl):=Zv
   replace SI:wr.cell? (gi,8)=some (.int .i64 0):=SI
   replace hfb:wr.frozen? (gi,8)=false:=hfb
   clear x0 x1 x3 x4 x5
   have hcN: ((s:Int)).tmod 8=0:=by rw[Int.tmod_eq_emod_of_nonneg oM];omega
   have ON:=hi.out.bE 8 (.int .i64 ((k:Int) + (s:Int)))
   replace ON:=hid ON
   go_wp2
   go_region
   go_wp2
   go_roundw
   case rel=>exact⟨3,by omega,rfl,(hl.out.far (by simp;omega) _).drew,(hm.out.far (by simp;omega) _).drew,iZ ON.out.drew (by simp[fN,ev,Img.beg]),(Q9.out.setCell q0 _).drew⟩
   case measure=>simp[RowKit.intOf]
  ·replace RX:wr.cell? (gl,3)=some (.int .i64 256):=RX
   replace Wt:wr.cell? (gm,3)=some (.int .i64 65536):=Wt
   replace Zv:wr.cell? (gi,8)=some (((k+s:Nat):Int):Vl):=Zv
   replace SI:wr.cell? (gi,9)=some (.int .i64 0):=SI
   replace hfb:wr.frozen? (gi,9)=false:=hfb
   clear x0 x1 x2 x4 x5
   have hcN: ((u:Int)).tmod 8=0:=by rw[Int.tmod_eq_emod_of_nonneg oM];omega
   have ON:=hi.out.bE 9 (.int .i64 (((k+s:Nat):Int) + (u:Int)))
   replace ON:=hid ON
   go_wp2
   go_region
   go_wp2
   go_roundw
   case rel=>exact⟨4,by omega,rfl,(hl.out.far (by simp;omega) _).drew,(hm.out.far (by simp;omega) _).drew,iZ ON.out.drew (by simp[fN,ev,Img.beg]),(Q9.out.setCell q0 _).drew⟩
   case measure=>simp[RowKit.intOf]
  ·replace RX:wr.cell? (gl,4)=some (.int .i64 64):=RX
   replace Wt:wr.cell? (gm,4)=some (.int .i64 4096):=Wt
   replace Zv:wr.cell? (gi,9)=some (((k+s+u:Nat):Int):Vl):=Zv
   replace SI:wr.cell? (gi,10)=some (.int .i64 0):=SI
   replace hfb:wr.frozen? (gi,10)=false:=hfb
   clear x0 x1 x2 x3 x5
   have hcN: ((d:Int)).tmod 8=0:=by rw[Int.tmod_eq_emod_of_nonneg oM];omega
   have ON:=hi.out.bE 10 (.int .i64 (((k+s+u:Nat):Int) + (d:Int)))
   replace ON:=hid ON
   go_wp2
   go_region
   go_wp2
   go_roundw
   case rel=>exact⟨5,by omega,rfl,(hl.out.far (by simp;omega) _).drew,(hm.out.far (by simp;omega) _).drew,iZ ON.out.drew (by simp[fN,ev,Img.beg]),(Q9.out.setCell q0 _).drew⟩
   case measure=>simp[RowKit.intOf]
  ·replace RX:wr.cell? (gl,5)=some (.int .i64 64):=RX
   replace Wt:wr.cell? (gm,5)=some (.int .i64 4096):=Wt
   replace Zv:wr.cell? (gi,10)=some (((k+s+u+d:Nat):Int):Vl):=Zv
   replace SI:wr.cell? (gi,11)=some (.int .i64 0):=SI
   replace hfb:wr.frozen? (gi,11)=false:=hfb
   clear x0 x1 x2 x3 x4
   have hcN: ((r:Int)).tmod 8=0:=by rw[Int.tmod_eq_emod_of_nonneg oM];omega
   have ON:=hi.out.bE 11 (.int .i64 (((k+s+u+d:Nat):Int) + (r:Int)))
   replace ON:=hid ON
   go_wp2
   go_region
   go_wp2
   go_roundw
   case rel=>exact⟨6,by omega,rfl,(hl.out.far (by simp;omega) _).drew,(hm.out.far (by simp;omega) _).drew,iZ ON.out.drew (by simp[fN,ev,Img.beg]),(Q9.out.setCell q0 _).drew⟩
   case measure=>simp[RowKit.intOf]
  ·clear x0 x1 x2 x3 x4 x5 RX Wt Zv SI hfb
   have hjQ:wr.cell? (gi,11)=some (((k+s+u+d+r:Nat):Int):Vl):=by rw[hi.out.cell];rfl
   have hc12:wr.cell? (gi,12)=some (.slice none 0 0):=by rw[hi.out.cell];rfl
   have hf12:=hi.out.frozen 12
   obtain⟨n,hn⟩: ∃n,k+s+u+d+r=n:=⟨_,rfl⟩
   rw[hn]at hjQ
   have hmk:=run_make_row' (P:=prog) 93 5 (.int .u8 0) 1 underlying93 kR rfl .i64 .i64 n oM oM wr
   rw[MU]at hmk
   have hiA:=hi.out.alloc (.cells (ah (List.replicate n 0)).toArray 5)
   have hc12': (wr.alloc (.cells (ah (List.replicate n 0)).toArray 5)).cell? (gi,12)=some (.slice none 0 0):=by rw[hiA.cell];rfl
   have hf12':=hiA.frozen 12
   have ON:=hiA.bE 12 (.slice (some ⟨wr.heap.size,0,none⟩) n n)
   have RP:gi≠wr.heap.size:=by have:=hi.out.lt;omega
   have An:=(Blk.new wr 5 (ah (List.replicate n 0)).toArray).far (p:=⟨gi,12,none⟩) RP.symm (.slice (some ⟨wr.heap.size,0,none⟩) n n)
   clear RP hiA
   replace⟨hn,ON,An⟩:=iC hn ON An
   go_wp2
   go_ret2
   refine⟨gi,wr.heap.size,rfl,q0,Q9.out.size,⟨?_,?_,oB hf'.out⟩,(Q9.out.alloc Q9.out.size _).setCell q0 _⟩
   ·have hn:=hn.out
    subst hn
    exact iZ ON.out rfl
   ·have hn:=hn.out
    subst hn
    exact An.out
theorem QM{w0 w:World}{L:List Asr}(h:At w0 w L)(k s u d r:Nat)(hf:Fits k s u d r):Calls prog 21 #[jk k s u d r] w λe w'=> ∃g,e = .returned (.tuple #[.pointer (some ⟨g,0,none⟩),(0:Int)])∧At w0 w' (av g (ev k s u d r)::L):=by
 refine(QA k s u d r hf w).mono ?_
 rintro e w' ⟨g,gb,he,h1,h2,hr,hb⟩
 exact⟨g,he,h.add (A:=av g (ev k s u d r)) (F':=λi=>i=g∨i=gb) ⟨gb,hr,λ_=>Iff.rfl⟩ (Kept.gZ hb) (λi hi=>by rcases hi with rfl|rfl<;>assumption)⟩
def aL(gb:Nat)(S:Img):Array Value:=
 #[(S.k:Int),(S.s:Int),(S.u:Int),(S.d:Int),(S.r:Int),.slice gb (S.beg 6) (S.beg 6),.bool S.op,.bool S.cl]
structure cX(w:World)(g gb:Nat)(S:Img):Prop where
 blk:Blk w g 131 (aL gb S)
 row:Blk w gb 5 (ah S.b).toArray
 ok:S.Ok
namespace Img
def size(S:Img):Nat->Nat
 | 0=>S.k
 | 1=>S.s
 | 2=>S.u
 | 3=>S.d
 | 4=>S.r
 | _=>0
theorem GW(S:Img)(j:Nat)(hj:j<5):S.beg (j+1) +S.size j=S.beg (j+2):=by
 have:j=0∨j=1∨j=2∨j=3∨j=4:=by omega
 rcases this with rfl|rfl|rfl|rfl|rfl<;>simp[beg,size]
end Img
def B4(S:Img):Array Value:=#[(S.k:Int),(S.s:Int),(S.u:Int),(S.d:Int),(S.r:Int)]
theorem Je(S:Img)(j:Nat)(hj:j<5): (B4 S)[j]? = some ((S.size j:Int):Vl):=by
 have:j=0∨j=1∨j=2∨j=3∨j=4:=by omega
 rcases this with rfl|rfl|rfl|rfl|rfl<;>rfl
theorem cX.cells{w:World}{g gb:Nat}{S:Img}(h:cX w g gb S):w.cell? (g,0)=some ((S.k:Int):Vl)∧w.cell? (g,1)=some ((S.s:Int):Vl)∧w.cell? (g,2)=some ((S.u:Int):Vl)∧w.cell? (g,3)=some ((S.d:Int):Vl)∧w.cell? (g,4)=some ((S.r:Int):Vl):=by
 refine⟨?_,?_,?_,?_,?_⟩<;>rw[h.blk.cell]<;>rfl
theorem cX.nx{w:World}{g gb:Nat}{S:Img}(h:cX w g gb S):w.cell? (g,5)=some (.slice gb (S.beg 6) (S.beg 6)):=by rw[h.blk.cell];rfl
theorem cX.nK{w:World}{g gb:Nat}{S:Img}(h:cX w g gb S):w.cell? (g,6)=some (.bool S.op):=by rw[h.blk.cell];rfl
theorem cX.iw{w:World}{g gb:Nat}{S:Img}(h:cX w g gb S):w.cell? (g,7)=some (.bool S.cl):=by rw[h.blk.cell];rfl
theorem cX.below{w w':World}{g gb:Nat}{S:Img}(h:cX w g gb S)(hb:Below w.heap.size w w'):cX w' g gb S:=⟨h.blk.below hb h.blk.lt,h.row.below hb h.row.lt,h.ok⟩
def ii(v:Value)(w:World)(e:Ending)(w':World):Prop:=e = .returned v∧Below w.heap.size w w'
theorem Below.dN{B:Nat}{w w':World}(h:Below B w w')(n:Nat):Below B w (w'.drewN n):=⟨h.os,h.tape,h.output,h.size,h.block⟩
def dq(S:Img)(r:Int):Int:=if 1<=r∧r<=5 then(S.beg r.toNat:Int)else 0
def ic(S:Img)(r:Int):Int:=if 1<=r∧r<=5 then(S.beg (r.toNat+1):Int)else 0
set_option maxRecDepth 100000 in
theorem pB{w:World}{g gb:Nat}{S:Img}(h:cX w g gb S)(r:Int):Calls prog 51 #[g,r] w (ii (.tuple #[(dq S r),(ic S r)]) w):=by
 obtain⟨c0,c1,c2,c3,c4⟩:=h.cells
 have Zs:=h.ok.small
 clear h
 go_enter func51,ntmps51
 go_wp2
 go_region
 obtain⟨wa,Sh⟩: ∃wa,(w.alloc (Obj.cells (B4 S) 3)).drew=wa:=⟨_,rfl⟩
 rw[show(w.alloc (Obj.cells #[Value.int .i64 (S.k:Int),(S.s:Int),(S.u:Int),(S.d:Int),(S.r:Int)] 3)).drew=wa from Sh]
 have SC:Blk wa w.heap.size 3 (B4 S):=by rw[<-Sh];exact(Blk.new _ _ _).drew
 have Rr:Below w.heap.size w wa:=by rw[<-Sh];exact((Below.refl _ _).alloc (Nat.le_refl _) _).drew
 have SU: ∀j,j<5->wa.cell? ⟨w.heap.size,j,none⟩=some ((S.size j:Int):Vl):=λj hj=>by rw[SC.cell,Je S j hj]
 have hbm: ∀j,j<5->S.beg (j+2)<=143360:=λj hj=>by have:=S.bN (i:=j+2) (j:=6) oM oM oM;omega
 replace⟨SU,Rr,hbm⟩:=iC SU Rr hbm
 clear Sh SC c0 c1 c2 c3 c4 Zs
 go_wp2
 go_loop [7,8] (λa i=> ∃j:Nat,j<=5∧i = .int .i64 j∧a = .int .i64 (S.beg (j+1):Int)∧(∀q:Nat,q<j->r≠(q:Int) +1)) (λ_ i=>5- (RowKit.intOf i).toNat)
 case atStart=>exact⟨0,by omega,rfl,rfl,λq hq=>by omega⟩
 case round=>
  obtain⟨j,hj5,rfl,rfl,Um⟩:=hrel
  replace Um:=hid Um
  by_cases Rd:j<5
  ·have hc:=SU.out j Rd
   have hsz:=S.GW j Rd
   have Rm:=hbm.out j Rd
   by_cases hr:r= (j:Int) +1
   ·have WM:dq S r= (S.beg (j+1):Int):=by
     unfold dq
     rw[if_pos oM]
     have:r.toNat=j+1:=by omega
     rw[this]
    have Uc:ic S r= (S.beg (j+1) +S.size j:Nat):=by
     unfold ic
     rw[if_pos oM,hsz]
     have:r.toNat+1=j+2:=by omega
     rw[this]
    replace⟨WM,Uc⟩:=iB WM Uc
    have hji:S.beg (j+1) +S.size j<=143360:=by omega
    clear hsz Rm
    generalize S.beg (j+1)=x at *
    generalize S.size j=y at *
    subst hr
    go_wp2
    go_quiet (fail)
    go_wp2
    go_ret2
    exact⟨by rw[WM.out,Uc.out];rfl,Below.dN Rr.out _⟩
   ·have RP: (r== (j:Int) +1)=false:=by rw[beq_eq_false_iff_ne];exact hr
    have hji:S.beg (j+1) +S.size j<=143360:=by omega
    replace hsz:=hid hsz
    go_wp2
    go_round
    case rel=>
     refine⟨j+1,by omega,by go_num,?_,λq hq=> ?_⟩
     ·have:=hsz.out
      rw[<-this]
      go_num
     ·rcases Nat.lt_succ_iff_lt_or_eq.1 hq with h|rfl
      ·exact Um.out q h
      ·exact hr
    case measure=>simp[RowKit.intOf];omega
  ·obtain rfl:j=5:=by omega
   have hn: ¬(1<=r∧r<=5):=λhh=>Um.out (r-1).toNat oM oM
   have WM:dq S r=0:=by unfold dq;rw[if_neg hn]
   have Uc:ic S r=0:=by unfold ic;rw[if_neg hn]
   replace⟨WM,Uc⟩:=iB WM Uc
   go_wp2
   go_ret2
   exact⟨by rw[WM.out,Uc.out];rfl,Rr.out⟩
theorem x9(S:Img)(r:Nat)(h1:1<=r)(h5:r<=5):dq S (r:Int)= (S.beg r:Int)∧ic S (r:Int)= (S.beg (r+1):Int):=by
 unfold dq ic
 rw[if_pos oM,if_pos oM,Int.toNat_natCast]
 exact⟨rfl,rfl⟩
theorem EF(S:Img):dq S 0=0∧ic S 0=0:=by
 unfold dq ic
 rw[if_neg oM,if_neg oM]
 exact⟨rfl,rfl⟩
theorem HL{w:World}{g gb:Nat}{S:Img}(h:cX w g gb S)(a:Int):Calls prog 132 #[g,a] w (ii (.int .i64 (S.region a:Int)) w):=by
 replace h:=hid h
 go_enter func132,ntmps132
 go_wp2
 go_loopw [5] (λi wr=> ∃j:Nat,1<=j∧j<=6∧i = .int .i64 j∧(a<0∨(S.beg j:Int)<=a)∧Below w.heap.size w wr) (λi _=>7- (RowKit.intOf i).toNat)
 case atStart=>exact⟨1,by omega,by omega,rfl,by simp[Img.beg];omega,Below.refl _ _⟩
 case round=>
  obtain⟨j,hj1,hj6,rfl,Sg,Q9⟩:=hrel
  have hr:=h.out.below Q9
  replace⟨Q9,Sg⟩:=iB Q9 Sg
  by_cases Rd:j<6
  ·have Ru:=pB hr j
   obtain⟨e1,e2⟩:=x9 S j hj1 oM
   rw[e1,e2]at Ru
   replace Ru:=hid Ru
   have hmon:=hid (S.bN (i:=j) (j:=j+1) hj1 oM oM)
   clear e1 e2 hr
   have hg3: (a<0∧decide ((S.beg j:Int)<=a)=false)∨(0<=a∧decide ((S.beg j:Int)<=a)=true∧decide (a< (S.beg (j+1):Int))=true)∨(0<=a∧decide ((S.beg j:Int)<=a)=true∧decide (a< (S.beg (j+1):Int))=false):=by
    simp only[decide_eq_true_eq,decide_eq_false_iff_not]
    rcases Sg.out with h|h<;>omega
   rcases hg3 with⟨ha,hd1⟩ | ⟨ha,hd1,Wm⟩ | ⟨ha,hd1,Wm⟩
   ·go_wp2_with fail
    refine mo Ru.out λw2 h2=>?_
    replace h2:=hid h2
    go_wp2
    go_roundw
    case rel=>exact⟨j+1,by omega,by omega,by go_num,.inl ha,Q9.out.trans (h2.out.mono Q9.out.size)⟩
    case measure=>simp[RowKit.intOf];omega
   ·have Rl:=hid (S.dn ha hj1 oM (by simpa using hd1) (by simpa using Wm))
    go_wp2_with fail
    refine mo Ru.out λw2 h2=>?_
    replace h2:=hid h2
    go_wp2
    go_ret
    exact⟨by rw[Rl.out];rfl,Q9.out.trans (h2.out.mono Q9.out.size)⟩
   ·have Ud: (S.beg (j+1):Int)<=a:=by simp only[decide_eq_false_iff_not]at Wm;omega
    replace Ud:=hid Ud
    go_wp2_with fail
    refine mo Ru.out λw2 h2=>?_
    replace h2:=hid h2
    go_wp2
    go_roundw
    case rel=>exact⟨j+1,by omega,by omega,by go_num,.inr Ud.out,Q9.out.trans (h2.out.mono Q9.out.size)⟩
    case measure=>simp[RowKit.intOf];omega
  ·obtain rfl:j=6:=by omega
   have Rl:=hid (S.jQk Sg.out)
   go_wp2
   go_ret
   exact⟨by rw[Rl.out];rfl,Q9.out⟩
theorem Ng{w:World}{g gb:Nat}{S:Img}(h:cX w g gb S)(m:Int)(r:Nat)(hr:r<=5):Calls prog 133 #[g,m,(r:Int)] w (ax (S.may m r) w):=by
 have RH:=h.nK
 have RX:=h.iw
 clear h
 have hr:r=0∨r=1∨r=2∨r=3∨r=4∨r=5:=by omega
 have hm:m=0∨m=1∨m=2∨m<0∨2<m:=by omega
 rcases hr with rfl|rfl|rfl|rfl|rfl|rfl
 all_goals
  rcases hm with rfl|rfl|rfl|hm|hm
  all_goals
   go_enter func133,ntmps133
   go_wp2
   all_goals go_ret
   all_goals refine⟨congrArg (λn=>Ending.returned (.int .i64 n)) ?_,rfl⟩
   all_goals first
    | rfl
    | (simp[Img.may, *];done)
    | (unfold Img.may;rw[if_pos oM];done)
theorem IE(S:Img)(m:Int)(r:Nat)(wr:Bool): (decide (0<bits .and .i64 (S.may m r) (eK wr)))=S.lets m r wr:=by
 unfold Img.lets eK
 rcases vj S m r with h|h|h<;>rw[h]<;>cases wr<;>decide
theorem QC{w:World}{g gb:Nat}{S:Img}(h:cX w g gb S)(m a:Int)(n:Nat)(hn:n<=9223372036854775807)(wr:Bool):
 Calls prog 89 #[g,m,a,(n:Int),(eK wr)] w (ii (.bool (S.aO m a n wr)) w):=by
 by_cases h0:n=0
 ·subst h0
  have hk:S.aO m a 0 wr=true:=by unfold Img.aO;rfl
  rw[hk]
  clear hn h hk
  go_enter func89,ntmps89
  go_wp2
  go_ret
  exact⟨rfl,Below.refl _ _⟩
 have SN: ((n:Int) ==0)=false:=by rw[beq_eq_false_iff_ne];omega
 have Rl:=hid (HL h a)
 have Y6:=IE S m (S.region a) wr
 have Zs:=h.ok.small
 have hkk:S.aO m a n wr= (S.region a != 0&&decide ((n:Int)<=S.beg (S.region a+1) -a) &&S.lets m (S.region a) wr):=by
  unfold Img.aO
  rw[show(n==0)=false by simpa using h0,Bool.false_or]
 by_cases hr:S.region a=0
 ·have hk:S.aO m a n wr=false:=by rw[hkk,hr];rfl
  rw[hk]
  rw[hr]at Rl
  replace h:=hid h
  clear hkk hk hr Y6 Zs
  generalize eK wr=y at *
  go_enter func89,ntmps89
  go_wp2_with fail
  refine mo Rl.out λw1 h1=>?_
  have hR1:=hid (h.out.below h1)
  have Ru:=pB hR1.out 0
  obtain⟨e1,e2⟩:=EF S
  rw[e1,e2]at Ru
  replace⟨Ru,h1⟩:=iB Ru h1
  clear e1 e2
  go_wp2_with fail
  refine mo Ru.out λw2 h2=>?_
  have SA:=hid (hR1.out.below h2)
  have Rx:=hid (Ng SA.out m 0 oM)
  replace h2:=hid (h1.out.trans (h2.mono h1.out.size))
  go_wp2_with fail
  refine Rx.out.mono ?_
  rintro e w3 ⟨rfl,rfl⟩
  go_wp2
  go_ret
  exact⟨rfl,h2.out⟩
 obtain⟨WJ,Sg,ZA,h6,Ue,hr5⟩:=S.lT hr
 rw[hkk]
 replace h:=hid h
 have YK: (S.region a != 0)=true:=by simpa using hr
 rw[YK,Bool.true_and]
 obtain⟨e1,e2⟩:=x9 S (S.region a) Ue hr5
 have e1:=hid e1
 have e2:=hid e2
 have hzr0:0<=(S.beg (S.region a+1):Int) -a:=by omega
 clear hkk YK hr Sg ZA
 generalize hrd:S.region a=r at *
 replace hrd:=hid hrd
 generalize hz:S.beg (r+1)=z at *
 replace hz:=hid hz
 generalize hy:eK wr=y at *
 replace hy:=hid hy
 generalize hl:S.lets m r wr=l at *
 replace hl:=hid hl
 generalize hx:S.may m r=x at *
 replace hx:=hid hx
 have hzr: (z:Int) -a<=143360:=by omega
 have hq: (decide ((n:Int)<=z-a))=true∨(decide ((n:Int)<=z-a))=false:=by cases decide ((n:Int)<=z-a)<;>simp
 replace Ue:=hid Ue
 have hr0:decide (0< (r:Int))=true:=by have:=Ue.out;simp;omega
 rcases hq with hq|hq
 all_goals
  rw[hq]
  go_enter func89,ntmps89
  go_wp2_with fail
  refine mo Rl.out λw1 h1=>?_
  have hR1:=hid (h.out.below h1)
  have Ru:=pB hR1.out r
  rw[e1.out,e2.out]at Ru
  replace⟨Ru,h1⟩:=iB Ru h1
  go_wp2_with fail
  refine mo Ru.out λw2 h2=>?_
  have SA:=hid (hR1.out.below h2)
  have Rx:=Ng SA.out m r hr5
  rw[hx.out]at Rx
  replace Rx:=hid Rx
  replace h2:=hid (h1.out.trans (h2.mono h1.out.size))
  go_wp2_with fail
  refine Rx.out.mono ?_
  rintro e w3 ⟨rfl,rfl⟩
  go_wp2
  all_goals go_ret
  all_goals exact⟨by simp,h2.out⟩
def fU(v:Int)(j:Nat):Int:=(v % 18446744073709551616) /256 ^ j
theorem D8(v:Int)(j:Nat):fU v j/256=fU v (j+1):=by
 unfold fU
 rw[Int.pow_succ,Int.ediv_ediv_of_nonneg (Int.pow_nonneg (by decide))]
theorem zr(v:Int)(j:Nat):0<=fU v j:=by
 unfold fU
 exact Int.ediv_nonneg (Int.emod_nonneg _ (by decide)) (Int.pow_nonneg (by decide))
theorem KX(v:Int)(j:Nat):fU v j<=18446744073709551615:=by
 unfold fU
 have h1:0<=v % 18446744073709551616:=Int.emod_nonneg _ (by decide)
 have h2:v % 18446744073709551616<18446744073709551616:=Int.emod_lt_of_pos _ (by decide)
 have:=Int.ediv_le_self (256 ^ j) h1
 omega
theorem uW(v:Int)(j:Nat)(hj:j<8):fU v j % 256=v/2 ^ (8*j) % 256:=by
 unfold fU
 have:j=0∨j=1∨j=2∨j=3∨j=4∨j=5∨j=6∨j=7:=by omega
 rcases this with rfl|rfl|rfl|rfl|rfl|rfl|rfl|rfl<;>simp only[Int.reducePow,Nat.reduceMul,Int.ediv_one]<;>omega
set_option maxRecDepth 100000 in
theorem Cb(v:Int)(hv : -9223372036854775808<=v∧v<=9223372036854775807)(w:World):Calls prog 90 #[v] w (ii (.agg (ah (toB v)).toArray) w):=by
 have hq0:fU v 0=v % 18446744073709551616:=by unfold fU;simp
 replace hq0:=hid hq0
 go_enter func90,ntmps90
 go_wp2
 go_loopw [4,5] (λu i wr=> ∃j:Nat,j<=8∧i = .int .i64 j∧u = .int .u64 (fU v j)∧Blk wr (w.heap.size+1) 193 (filled v j)∧Blk wr w.heap.size 193 (filled v 0)∧Below w.heap.size w wr) (λ_ i _=>8- (RowKit.intOf i).toNat)
 case atStart=>
  exact⟨0,by omega,rfl,by rw[hq0.out,<-IntKind.wrap_u64],Blk.oS (by simp),(Blk.new _ _ _).alloc _,((Below.refl _ _).alloc (Nat.le_refl _) _).alloc (by simp) _⟩
 case round=>
  obtain⟨j,hj8,rfl,rfl,hb,RV,Q9⟩:=hrel
  by_cases Rd:j<8
  ·have hc:wr.cell? ⟨w.heap.size+1,j,none⟩=some (.int .u8 0):=by rw[hb.cell,tI v j Rd]
   have hf:=hb.frozen j
   have Rh:=hb.bE j (.int .u8 (v/2 ^ (8*j) % 256))
   rw[sJ v j Rd,<-uW v j Rd]at Rh
   have Rm:=RV.far (p:=⟨w.heap.size+1,j,none⟩) (by simp) (.int .u8 (v/2 ^ (8*j) % 256))
   rw[<-uW v j Rd]at Rm
   have hs:=D8 v j
   have h0:=zr v j
   have h1:=KX v j
   generalize hx:fU v j=x at *
   replace⟨Rh,Rm,hs,Q9⟩:=iD Rh Rm hs Q9
   clear hb RV hx
   go_wp2
   go_roundw
   case rel=>exact⟨j+1,by omega,by go_num,by rw[<-hs.out],Rh.out,Rm.out,Q9.out.setCell (by simp) _⟩
   case measure=>simp[RowKit.intOf];omega
  ·obtain rfl:j=8:=by omega
   have RJ:Blk wr (w.heap.size+1) 193 (ah (toB v)).toArray:=hb
   have e8:H9 wr (w.heap.size+1) (λi=> .int .u8 (tn v i)):=nP RJ (aI v)
   obtain⟨c0,c1,c2,c3,c4,c5,c6,c7⟩:=e8
   obtain⟨d0,d1,d2,d3,d4,d5,d6,d7⟩:=nP (l:=List.replicate 8 0) RV (by simp)
   have f0:=RV.frozen 0
   have f1:=RV.frozen 1
   have f2:=RV.frozen 2
   have f3:=RV.frozen 3
   have f4:=RV.frozen 4
   have f5:=RV.frozen 5
   have f6:=RV.frozen 6
   have f7:=RV.frozen 7
   clear hb RV RJ
   replace Q9:=hid Q9
   go_wp2
   refine bodyPost_ret (v:= .agg #[.int .u8 (tn v 0),.int .u8 (tn v 1),.int .u8 (tn v 2),.int .u8 (tn v 3),.int .u8 (tn v 4),.int .u8 (tn v 5),.int .u8 (tn v 6),.int .u8 (tn v 7)]) (by simp[results,results90,go_sem,d0,d1,d2,d3,d4,d5,d6,d7]) rfl ⟨by rw[oq],?_⟩
   exact(((((((Q9.out.setCell (Nat.le_refl _) _).setCell (Nat.le_refl _) _).setCell (Nat.le_refl _) _).setCell (Nat.le_refl _) _).setCell (Nat.le_refl _) _).setCell (Nat.le_refl _) _).setCell (Nat.le_refl _) _).setCell (Nat.le_refl _) _
theorem cX.byte{w:World}{g gb:Nat}{S:Img}(h:cX w g gb S)(i:Nat)(hi:i<S.beg 6):w.cell? (gb,i)=some (.int .u8 ((S.b.getD i 0).toNat:Int)):=by
 rw[h.row.cell]
 have:i<S.b.length:=by rw[h.ok.len];exact hi
 simp[ah,List.getD,this]
def copied(l:List UInt8)(j:Nat):Array Value:=(ah (l.take j++List.replicate (8-j) 0)).toArray
theorem yp(a:Int): (a.tmod 8=0)↔a % 8=0:=by rw[Int.tmod_eq_emod];split<;>omega
theorem tO(b:List UInt8)(k:Nat)(l:List UInt8)(j:Nat)(hj:j<l.length)(hk:k+j<b.length): (ah (cK b k (l.take j))).toArray.setIfInBounds (k+j) (.int .u8 ((l.getD j 0).toNat:Int))= (ah (cK b k (l.take (j+1)))).toArray:=by
 have Rd:l.take (j+1)=l.take j ++ [l.getD j 0]:=by
  rw[List.take_succ_eq_append_getElem hj,List.getD_eq_getElem?_getD,List.getElem?_eq_getElem hj]
  rfl
 have V8: (l.take j).length=j:=by rw[List.length_take];omega
 apply Array.ext_getElem?
 intro i
 rw[Rd]
 unfold cK
 rw[List.length_append,V8,List.length_singleton]
 generalize l.getD j 0=c
 have hfH:b.drop (k+j)=b[k+j]::b.drop (k+ (j+1)):=List.drop_eq_getElem_cons hk
 rw[hfH]
 have h1: (b.take k).length=k:=by rw[List.length_take];omega
 have e1:ah (b.take k++ (l.take j++b[k+j]::b.drop (k+ (j+1))))= (ah (b.take k++l.take j))++ (Value.int .u8 (b[k+j].toNat:Int)::ah (b.drop (k+ (j+1)))):=by simp[ah]
 have e2:ah (b.take k++ (l.take j ++ [c]++b.drop (k+ (j+1))))= (ah (b.take k++l.take j))++ (Value.int .u8 (c.toNat:Int)::ah (b.drop (k+ (j+1)))):=by simp[ah]
 have hlen: (ah (b.take k++l.take j)).length=k+j:=by unfold ah;rw[List.length_map,List.length_append,h1,V8]
 rw[e1,e2]
 generalize ah (b.take k++l.take j)=A at *
 generalize ah (b.drop (k+ (j+1)))=B at *
 generalize (Value.int .u8 (b[k+j].toNat:Int))=y
 rw[<-hlen]
 simp
set_option maxRecDepth 100000 in
theorem Eb{w:World}{g gb:Nat}{S:Img}(h:cX w g gb S)(m v:Int)(hv : -9223372036854775808<=v∧v<=9223372036854775807)(k:Nat)(hle:k+8<=S.beg 6)(RY: (k:Int) % 8=0)
 (An:Calls prog 89 #[g,m,(k:Int),(8:Int),(2:Int)] w (ii (.bool true) w)):
 Calls prog 64 #[g,m,(k:Int),v] w λe w'=>e = .returned (.int .i64 0)∧Blk w' gb 5 (ah (cK S.b k (toB v))).toArray∧Kept (λi=>i=gb) w w':=by
 have Ss: (k:Int).tmod 8=0:=(yp _).2 RY
 have Zs:=h.ok.small
 have hlen:=h.ok.len
 have Sv:=λw=>Cb v hv w
 have V8:=aI v
 rw[<-oq]at Sv
 replace⟨An,h,Sv,V8,hlen⟩:=iE An h Sv V8 hlen
 clear RY
 go_enter func64,ntmps64
 go_wp2_with fail
 refine mo An.out λw1 h1=>?_
 have hR1:=hid (h.out.below h1)
 have Zr:=hid (Kept.gZ h1)
 clear h1
 go_wp2_with fail
 refine mo (Sv.out w1) λw2 h2=>?_
 have SA:=hid (hR1.out.below h2)
 have SS:=hid (Zr.out.trans (Kept.gZ h2))
 clear h2
 go_wp2
 go_loopw [11] (λi wr=> ∃j:Nat,j<=8∧i = .int .i64 j∧Blk wr w2.heap.size 193 (ah (toB v)).toArray∧Blk wr g 131 (aL gb S)∧Blk wr gb 5 (ah (cK S.b k ((toB v).take j))).toArray∧Kept (λi=>i=gb) w wr) (λi _=>8- (RowKit.intOf i).toNat)
 case atStart=>
  refine⟨0,by omega,rfl,?_,SA.out.blk.alloc _,?_,(SS.out.mono (λ_ h=>h.elim)).alloc _⟩
  ·rw[<-oq];exact Blk.new _ _ _
  ·have:cK S.b k ((toB v).take 0)=S.b:=by unfold cK;simp
   rw[this]
   exact SA.out.row.alloc _
 case round=>
  obtain⟨j,hj8,rfl,hb,hg,hr,hk⟩:=hrel
  by_cases Rd:j<8
  ·have hc:wr.cell? (w2.heap.size,j)=some (.int .u8 (((toB v).getD j 0).toNat:Int)):=by
    rw[hb.cell]
    have:=V8.out
    have:j< (toB v).length:=by omega
    simp[ah,List.getD,this]
   have hall:wr.cell? (g,5)=some (.slice gb (S.beg 6) (S.beg 6)):=by rw[hg.cell];rfl
   have hold: ∃x,wr.cell? ⟨gb,k+j,none⟩=some (.int .u8 x):=by
    rw[hr.cell]
    have Ug:k+j< (cK S.b k ((toB v).take j)).length:=by
     rw[lv _ _ _ (by rw[List.length_take,hlen.out];omega),hlen.out];omega
    exact⟨_,by simp[ah,Ug];rfl⟩
   obtain⟨x,hx⟩:=hold
   have hf:=hr.frozen (k+j)
   have ON:=hr.bE (k+j) (.int .u8 (((toB v).getD j 0).toNat:Int))
   rw[tO S.b k (toB v) j (by rw[V8.out];exact Rd) (by rw[hlen.out];omega)]at ON
   have q1:w2.heap.size≠gb:=λe=>by have:=SA.out.row.lt;omega
   have q2:g≠gb:=hg.ne_ hr (by decide)
   replace⟨q1,q2,hb,hg,ON,hk⟩:=iF q1 q2 hb hg ON hk
   generalize (((toB v).getD j 0).toNat:Int)=c at *
   generalize S.beg 6=N at *
   clear hr
   go_wp2
   go_region
   go_wp2
   go_roundw
   case rel=>exact⟨j+1,by omega,by go_num,(hb.out.far (p:=⟨gb,k+j,none⟩) q1.out _).drew,(hg.out.far (p:=⟨gb,k+j,none⟩) q2.out _).drew,ON.out.drew,(hk.out.setCell (.inl rfl) _).drew⟩
   case measure=>simp[RowKit.intOf];omega
  ·obtain rfl:j=8:=by omega
   have Uy: (toB v).take 8=toB v:=List.take_of_length_le (by rw[V8.out];omega)
   rw[Uy]at hr
   replace⟨hr,hk⟩:=iB hr hk
   clear hb hg Uy
   go_wp2
   go_ret
   exact⟨rfl,hr.out,hk.out⟩
def MQ(g:Nat)(S:Img):Asr where
 holds w F:= ∃gb,cX w g gb S∧∀k,F k↔k=g∨k=gb
 lt h hk:=by
  obtain⟨gb,h,hF⟩:=h
  rcases(hF _).1 hk with rfl|rfl
  ·exact h.blk.lt
  ·exact h.row.lt
 kept h hk hT:=by
  obtain⟨gb,h,hF⟩:=h
  exact⟨gb,⟨h.blk.kept hk (hT _ ((hF _).2 (.inl rfl))),h.row.kept hk (hT _ ((hF _).2 (.inr rfl))),h.ok⟩,hF⟩
theorem cX.ne{w:World}{g gb:Nat}{S:Img}(h:cX w g gb S):g≠gb:=h.blk.ne_ h.row (by decide)
theorem Jv{w:World}{g gb:Nat}{S:Img}(h:cX w g gb S)(m a:Int)(n:Nat)(hn:n≠0)(Zx:n<=9223372036854775807)(wr:Bool):
 (S.aO m a n wr=false∧Calls prog 89 #[g,m,a,(n:Int),(eK wr)] w (ii (.bool false) w))∨
 (S.aO m a n wr=true∧∃k:Nat,a=k∧k+n<=S.beg 6∧Calls prog 89 #[g,m,(k:Int),(n:Int),(eK wr)] w (ii (.bool true) w)):=by
 have An:=QC h m a n Zx wr
 cases hk:S.aO m a n wr
 ·rw[hk]at An
  exact .inl ⟨rfl,An⟩
 ·obtain⟨h0,h1⟩:=S.lz hk hn
  obtain⟨k,rfl⟩:=Int.eq_ofNat_of_zero_le h0
  rw[hk]at An
  exact .inr ⟨rfl,k,rfl,by omega,An⟩
section
variable {w0 w:World}{g:Nat}{S:Img}{L:List Asr}
theorem MQ.rep(h:At w0 w (MQ g S::L)): ∃gb,cX w g gb S:=by obtain⟨F,gb,h,_⟩:=h.first;exact⟨gb,h⟩
end
theorem N9{w:World}{g gb:Nat}{S:Img}(h:cX w g gb S)(hc:S.cl=false):Calls prog 58 #[.pointer (some ⟨g,0,none⟩)] w (ax (.int .i64 0) (w.setCell (g,6) (.bool true))):=by
 have RX:=h.iw
 have RH:=h.nK
 have hf:=h.blk.frozen 6
 rw[hc]at RX
 generalize S.op=o at RH
 clear h hc
 go_enter func58,ntmps58
 go_wp2
 go_ret
 exact⟨rfl,rfl⟩
theorem O1{w:World}{g gb:Nat}{S:Img}(h:cX w g gb S)(hc:S.cl=false):Calls prog 59 #[.pointer (some ⟨g,0,none⟩)] w (ax (.int .i64 0) (w.setCell (g,7) (.bool true))):=by
 have RX:=h.iw
 have hf:=h.blk.frozen 7
 rw[hc]at RX
 clear h hc
 go_enter func59,ntmps59
 go_wp2
 go_ret
 exact⟨rfl,rfl⟩
section
variable {w0 w:World}{g:Nat}{S:Img}{L:List Asr}
end
theorem lq(n lo hi:Int)(h1:lo<=n)(h2:n<=hi)(h8:n % 8=0)(w:World):Calls prog 118 #[(n:Int),lo,hi] w (ax (.bool true) w):=by
 have h3:n.tmod 8=0:=(yp n).2 h8
 clear h8
 go_enter func118,ntmps118
 go_wp2
 go_ret
 exact⟨rfl,rfl⟩
set_option maxRecDepth 100000 in
theorem J9{k s u d r:Nat}(hf:Fits k s u d r)(w:World):Calls prog 77 #[jk k s u d r] w (ii (.bool true) w):=by
 have f1:=hid λw=>lq k 16384 65536 (by have:=hf.k1;omega) (by have:=hf.k2;omega) (by have:=hf.k8;omega) w
 have f2:=hid λw=>lq s 0 4096 oM (by have:=hf.s2;omega) (by have:=hf.s8;omega) w
 have f3:=hid λw=>lq u 256 65536 (by have:=hf.u1;omega) (by have:=hf.u2;omega) (by have:=hf.u8;omega) w
 have f4:=hid λw=>lq d 64 4096 (by have:=hf.d1;omega) (by have:=hf.d2;omega) (by have:=hf.d8;omega) w
 have f5:=hid λw=>lq r 64 4096 (by have:=hf.r1;omega) (by have:=hf.r2;omega) (by have:=hf.r8;omega) w
 clear hf
 unfold jk
 go_enter func77,ntmps77
 go_wp2_with fail
 refine(f1.out _).mono ?_
 rintro e w1 ⟨rfl,rfl⟩
 go_wp2_with fail
 refine(f2.out _).mono ?_
 rintro e w1 ⟨rfl,rfl⟩
 go_wp2_with fail
 refine(f3.out _).mono ?_
 rintro e w1 ⟨rfl,rfl⟩
 go_wp2_with fail
 refine(f4.out _).mono ?_
 rintro e w1 ⟨rfl,rfl⟩
 go_wp2_with fail
 refine(f5.out _).mono ?_
 rintro e w1 ⟨rfl,rfl⟩
 go_wp2
 go_ret
 exact⟨rfl,(Below.refl _ _).alloc (Nat.le_refl _) _⟩
def Ff(S:Img)(w:World)(e:Ending)(w':World):Prop:= ∃g gb,e = .returned (.tuple #[.pointer (some ⟨g,0,none⟩),.bool true])∧w.heap.size<=g∧w.heap.size<=gb∧cX w' g gb S∧Below w.heap.size w w'
set_option maxRecDepth 100000 in
theorem O2(k s u d r:Nat)(hf:Fits k s u d r)(w:World):Calls prog 49 #[jk k s u d r] w (Ff (ev k s u d r) w):=by
 have hfC:=hid λw=>J9 hf w
 have Rv:=hid (oB hf)
 obtain⟨k1,k2,k8,s2,s8,u1,u2,u8,d1,d2,d8,r1,r2,r8⟩:=hf
 clear k1 k8 s8 u1 u8 d1 d8 r1 r8
 obtain⟨n,hn⟩: ∃n,k+s+u+d+r=n:=⟨_,rfl⟩
 have hmk:=λw=>run_make_row' (P:=prog) 93 5 (.int .u8 0) 1 underlying93 kR rfl .i64 .i64 n oM oM w
 simp only[MU]at hmk
 have hfs: ((n:Nat):Int)= (k:Int) +s+u+d+r:=by omega
 rw[hfs]at hmk
 clear hfs
 replace hn:=hid hn
 unfold jk at *
 go_enter func49,ntmps49
 go_wp2_with fail
 refine mo (hfC.out _) λw1 h1=>?_
 have Rh:Blk w1 w.heap.size 65 #[(k:Int),(s:Int),(u:Int),(d:Int),(r:Int)]:=(Blk.new w _ _).below h1 (by simp)
 have Q9:=hid (((Below.refl w.heap.size w).alloc (Nat.le_refl _) _).trans (h1.mono (by simp)))
 have hsz:w.heap.size<w1.heap.size:=by have:=h1.size;simp at this;omega
 have c0:w1.cell? (w.heap.size,0)=some ((k:Int):Vl):=Rh.cell 0
 have c1:w1.cell? (w.heap.size,1)=some ((s:Int):Vl):=Rh.cell 1
 have c2:w1.cell? (w.heap.size,2)=some ((u:Int):Vl):=Rh.cell 2
 have c3:w1.cell? (w.heap.size,3)=some ((d:Int):Vl):=Rh.cell 3
 have c4:w1.cell? (w.heap.size,4)=some ((r:Int):Vl):=Rh.cell 4
 clear h1 Rh
 go_wp2
 go_region
 go_wp2
 go_ret2
 refine⟨w1.heap.size+1,w1.heap.size,rfl,by omega,by omega,⟨?_,?_,Rv.out⟩,((Q9.out.alloc oM _).alloc (by simp;omega) _).drew⟩
 ·have hn:=hn.out
  subst hn
  exact(Blk.oS (by simp)).drew
 ·have hn:=hn.out
  subst hn
  exact((Blk.new _ _ _).alloc _).drew
structure aq where
 op:Int
 arg:Int
 lit:Int
 cells:Int
def aq.none:aq:=⟨0,0,0,0⟩
def aq.v(i:aq):Value:= .agg #[i.op,i.arg,i.lit,i.cells]
def aq.c(i:aq):Array Value:=#[i.op,i.arg,i.lit,i.cells]
def Img.aE(S:Img)(m a:Int):aq×Int:=
 if S.ay m a false≠0 then(aq.none,S.ay m a false)
 else if(Code.unpack (S.aP m a)).2.2=false then(aq.none,14)
 else if(Code.unpack (S.aP m a)).1=2 then
  (if S.ay m (a+8) false≠0 then(aq.none,S.ay m (a+8) false)else(⟨2,(Code.unpack (S.aP m a)).2.1,S.aP m (a+8),2⟩,0))
 else if(Code.unpack (S.aP m a)).1=19 then
  (if S.cD m (a+8) (Code.unpack (S.aP m a)).2.1≠0 then(aq.none,S.cD m (a+8) (Code.unpack (S.aP m a)).2.1)else(⟨19,(Code.unpack (S.aP m a)).2.1,0,1+ ((Code.unpack (S.aP m a)).2.1+7) /8⟩,0))
 else(⟨(Code.unpack (S.aP m a)).1,(Code.unpack (S.aP m a)).2.1,0,1⟩,0)
theorem pZ(S:Img)(m a:Int)(w:Bool):S.ay m a w=0∨S.ay m a w=5∨S.ay m a w=6:=by
 unfold Img.ay
 repeat' split
 all_goals simp
theorem xZ(S:Img)(m a n:Int):S.cD m a n=0∨S.cD m a n=5∨S.cD m a n=19:=by
 unfold Img.cD
 repeat' split
 all_goals simp
theorem jK{S:Img}{m a:Int}{w:Bool}(hS:S.Ok)(h:S.ay m a w=0):0<=a∧a+8<=143360:=by
 unfold Img.ay at h
 split at h
 ·omega
 ·split at h
  ·rename_i h2
   have:=S.lz h2 oM
   have:=hS.small
   omega
  ·omega
section
variable {w0 w:World}{g b:Nat}{t:TypeId}{S:Img}{i:aq}{L:List Asr}
theorem mg{w:World}{b:Nat}{t:TypeId}{i:aq}(h:Blk w b t i.c):
 (w.cell? (b,0)=some (i.op:Vl)∧w.cell? (b,1)=some (i.arg:Vl)∧w.cell? (b,2)=some (i.lit:Vl)∧w.cell? (b,3)=some (i.cells:Vl))∧
 (w.frozen? (b,0)=false∧w.frozen? (b,1)=false∧w.frozen? (b,2)=false∧w.frozen? (b,3)=false):=by
 refine⟨⟨?_,?_,?_,?_⟩,h.frozen 0,h.frozen 1,h.frozen 2,h.frozen 3⟩<;>rw[h.cell]<;>rfl
theorem At.AY(h:At w0 w (ae b t i.c::L))(j:aq):At w0 ((((w.setCell (b,0) (.int .i64 j.op)).setCell (b,1) (.int .i64 j.arg)).setCell (b,2) (.int .i64 j.lit)).setCell (b,3) (.int .i64 j.cells)) L:=
 ((((h.set 0 _).set 1 _).set 2 _).set 3 _).tail
end
section
variable {w0 w:World}{g:Nat}{S:Img}{L:List Asr}
set_option maxRecDepth 100000 in
theorem ug(h:At w0 w (av g S::L))(m a f:Int)(hf:S.ay m a false=f)(ZU:f=5∨f=6):
 Calls prog 70 #[g,m,a] w (kP (.tuple #[aq.none.v,f]) (av g S) w0 L):=by
 have hb:=h.box aq.none.c 164
 have hc:=jZ hb.swap m a
 rw[hf]at hc
 replace hc:=hid hc
 generalize hv:S.aP m a=v at *
 clear hf hv hb
 rcases ZU with rfl|rfl
 all_goals
  go_enter func70,ntmps70
  go_wp2_with fail
  refine mo hc.out λw1 h1=>?_
  obtain⟨⟨c0,c1,c2,c3⟩,f0,f1,f2,f3⟩:=mg h1.swap.blk
  have h2:=hid (h1.swap.AY aq.none)
  clear h1
  simp only[aq.none]at c0 c1 c2 c3
  go_wp2
  refine bodyPost_ret (v:= .tuple #[aq.none.v,.int .i64 _]) (by simp[results,results70,go_sem,c0,c1,c2,c3,aq.v,aq.none]) rfl ⟨rfl,?_⟩
  exact h2.out
set_option maxRecDepth 100000 in
theorem AG(h:At w0 w (av g S::L))(m a v:Int)(hf:S.ay m a false=0)(hv:S.aP m a=v)(Sn:Code.unpack v= (0,0,false)):
 Calls prog 70 #[g,m,a] w (kP (.tuple #[aq.none.v,(14:Int)]) (av g S) w0 L):=by
 have hb:=h.box aq.none.c 164
 have hc:=jZ hb.swap m a
 rw[hf,hv]at hc
 replace hc:=hid hc
 obtain⟨gb0,RO⟩:=av.rep h
 obtain⟨q1,q2⟩:=jK RO.ok hf
 clear hf hv hb h RO
 have hu:=λw=>dR v w
 rw[Sn]at hu
 replace hu:=hid hu
 clear Sn
 go_enter func70,ntmps70
 go_wp2_with fail
 refine mo hc.out λw1 h1=>?_
 replace h1:=hid h1
 go_wp2_with fail
 refine(hu.out w1).mono ?_
 rintro e w2 ⟨rfl,rfl⟩
 obtain⟨⟨c0,c1,c2,c3⟩,f0,f1,f2,f3⟩:=mg h1.out.swap.blk
 have h2:=hid (h1.out.swap.AY aq.none)
 simp only[aq.none]at c0 c1 c2 c3
 go_wp2
 refine bodyPost_ret (v:= .tuple #[aq.none.v,.int .i64 _]) (by simp[results,results70,go_sem,c0,c1,c2,c3,aq.v,aq.none]) rfl ⟨rfl,?_⟩
 exact h2.out
set_option maxRecDepth 100000 in
theorem yz(h:At w0 w (av g S::L))(m a v:Int)(hf:S.ay m a false=0)(hv:S.aP m a=v)(op arg:Int)(Sn:Code.unpack v= (op,arg,true))(n2: (op==2)=false)(n19: (op==19)=false):
 Calls prog 70 #[g,m,a] w (kP (.tuple #[aq.v ⟨op,arg,0,1⟩,(0:Int)]) (av g S) w0 L):=by
 have hb:=h.box aq.none.c 164
 have hc:=jZ hb.swap m a
 rw[hf,hv]at hc
 replace hc:=hid hc
 obtain⟨gb0,RO⟩:=av.rep h
 obtain⟨q1,q2⟩:=jK RO.ok hf
 clear hf hv hb h RO
 have hu:=λw=>dR v w
 rw[Sn]at hu
 replace hu:=hid hu
 clear Sn
 go_enter func70,ntmps70
 go_wp2_with fail
 refine mo hc.out λw1 h1=>?_
 replace h1:=hid h1
 go_wp2_with fail
 refine(hu.out w1).mono ?_
 rintro e w2 ⟨rfl,rfl⟩
 have hz:=h1.out.below.size
 have hB:=hid ((h1.out.box (aq.c ⟨op,arg,0,1⟩) 164).wk)
 obtain⟨⟨c0,c1,c2,c3⟩,f0,f1,f2,f3⟩:=mg hB.out.blk
 obtain⟨⟨d0,d1,d2,d3⟩,e0,e1,e2,e3⟩:=mg hB.out.swap.blk
 have h2:=hid (hB.out.AY ⟨op,arg,0,1⟩)
 simp only[aq.none,aq.c]at c0 c1 c2 c3 d0 d1 d2 d3 f0 f1 f2 f3
 go_wp2
 refine bodyPost_ret (v:= .tuple #[aq.v ⟨op,arg,0,1⟩,.int .i64 _]) (by simp[results,results70,go_sem,c0,c1,c2,c3,aq.v]) rfl ⟨rfl,?_⟩
 exact h2.out.tail
set_option maxRecDepth 100000 in
theorem mr(h:At w0 w (av g S::L))(m a v:Int)(hf:S.ay m a false=0)(hv:S.aP m a=v)(arg:Int)(Sn:Code.unpack v= (2,arg,true))(lit f:Int)(RG:S.ay m (a+8) false=f)(Ry:S.aP m (a+8)=lit)(ZU:f=5∨f=6):
 Calls prog 70 #[g,m,a] w (kP (.tuple #[aq.none.v,f]) (av g S) w0 L):=by
 have hb:=h.box aq.none.c 164
 have hc:=jZ hb.swap m a
 rw[hf,hv]at hc
 replace hc:=hid hc
 obtain⟨gb0,RO⟩:=av.rep h
 obtain⟨q1,q2⟩:=jK RO.ok hf
 clear hf hv hb h RO
 have hu:=λw=>dR v w
 rw[Sn]at hu
 replace hu:=hid hu
 clear Sn
 rcases ZU with rfl|rfl
 all_goals
  go_enter func70,ntmps70
  go_wp2_with fail
  refine mo hc.out λw1 h1=>?_
  replace h1:=hid h1
  go_wp2_with fail
  refine(hu.out w1).mono ?_
  rintro e w2 ⟨rfl,rfl⟩
  have hX:At w0 (w2.alloc (.cells #[(2:Int),arg,(0:Int),(1:Int)] 164)) (ae w2.heap.size 164 (aq.c ⟨2,arg,0,1⟩)::_):=h1.out.box (aq.c ⟨2,arg,0,1⟩) 164
  replace hX:=hid hX
  have RZ:=jZ hX.out.swap m (a+8)
  rw[RG,Ry]at RZ
  replace RZ:=hid RZ
  obtain⟨⟨d0,d1,d2,d3⟩,e0,e1,e2,e3⟩:=mg hX.out.blk
  dsimp only at d0 d1 d2 d3 e0 e1 e2 e3
  go_wp2_with fail
  refine mo RZ.out λw3 h3=>?_
  replace h3:=hid h3
  clear d0 d1 d2 d3 e0 e1 e2 e3
  have hB:=hid h3.out.wk
  obtain⟨⟨c0,c1,c2,c3⟩,f0,f1,f2,f3⟩:=mg hB.out.blk
  obtain⟨⟨d0,d1,d2,d3⟩,e0,e1,e2,e3⟩:=mg h3.out.swap.blk
  simp only[aq.none]at c0 c1 c2 c3 d0 d1 d2 d3 f0 f1 f2 f3
  have Rd:w.heap.size<w2.heap.size:=h1.out.swap.blk.lt
  go_wp2
  refine bodyPost_ret (v:= .tuple #[aq.v aq.none,.int .i64 _]) (by simp[results,results70,go_sem,c0,c1,c2,c3,aq.v,aq.none]) rfl ⟨rfl,?_⟩
  exact((h3.out.swap.set 2 _ |>.set 3 _).wk.AY aq.none).tail
set_option maxRecDepth 100000 in
theorem wH(h:At w0 w (av g S::L))(m a v:Int)(hf:S.ay m a false=0)(hv:S.aP m a=v)(arg:Int)(Sn:Code.unpack v= (2,arg,true))(lit f:Int)(RG:S.ay m (a+8) false=f)(Ry:S.aP m (a+8)=lit)(ZU:f=0):
 Calls prog 70 #[g,m,a] w (kP (.tuple #[aq.v ⟨2,arg,lit,2⟩,(0:Int)]) (av g S) w0 L):=by
 have hb:=h.box aq.none.c 164
 have hc:=jZ hb.swap m a
 rw[hf,hv]at hc
 replace hc:=hid hc
 obtain⟨gb0,RO⟩:=av.rep h
 obtain⟨q1,q2⟩:=jK RO.ok hf
 clear hf hv hb h RO
 have hu:=λw=>dR v w
 rw[Sn]at hu
 replace hu:=hid hu
 clear Sn
 subst ZU
 go_enter func70,ntmps70
 go_wp2_with fail
 refine mo hc.out λw1 h1=>?_
 replace h1:=hid h1
 go_wp2_with fail
 refine(hu.out w1).mono ?_
 rintro e w2 ⟨rfl,rfl⟩
 have hX:At w0 (w2.alloc (.cells #[(2:Int),arg,(0:Int),(1:Int)] 164)) (ae w2.heap.size 164 (aq.c ⟨2,arg,0,1⟩)::_):=h1.out.box (aq.c ⟨2,arg,0,1⟩) 164
 replace hX:=hid hX
 have RZ:=jZ hX.out.swap m (a+8)
 rw[RG,Ry]at RZ
 replace RZ:=hid RZ
 obtain⟨⟨d0,d1,d2,d3⟩,e0,e1,e2,e3⟩:=mg hX.out.blk
 dsimp only at d0 d1 d2 d3 e0 e1 e2 e3
 go_wp2_with fail
 refine mo RZ.out λw3 h3=>?_
 replace h3:=hid h3
 clear d0 d1 d2 d3 e0 e1 e2 e3
 have hB:=hid h3.out.wk
 obtain⟨⟨c0,c1,c2,c3⟩,f0,f1,f2,f3⟩:=mg hB.out.blk
 obtain⟨⟨d0,d1,d2,d3⟩,e0,e1,e2,e3⟩:=mg h3.out.swap.blk
 simp only[aq.none]at c0 c1 c2 c3 d0 d1 d2 d3 f0 f1 f2 f3
 have Rd:w.heap.size<w2.heap.size:=h1.out.swap.blk.lt
 go_wp2
 refine bodyPost_ret (v:= .tuple #[aq.v ⟨2,arg,lit,2⟩,.int .i64 _]) (by simp[results,results70,go_sem,c0,c1,c2,c3,aq.v]) rfl ⟨rfl,?_⟩
 exact((h3.out.swap.set 2 _ |>.set 3 _).wk.AY ⟨2,arg,lit,2⟩).tail
set_option maxRecDepth 100000 in
theorem kQ(h:At w0 w (av g S::L))(m a v:Int)(hf:S.ay m a false=0)(hv:S.aP m a=v)(arg:Int)(Sn:Code.unpack v= (19,arg,true))(WJ:0<=arg)(ha1:arg<36028797018963968)(f:Int)(txt:ByteArray)(RG:S.cD m (a+8) arg=f)(Ry:S.text m (a+8) arg=txt)(ZU:f=5∨f=19):
 Calls prog 70 #[g,m,a] w (kP (.tuple #[aq.none.v,f]) (av g S) w0 L):=by
 have hb:=h.box aq.none.c 164
 have hc:=jZ hb.swap m a
 rw[hf,hv]at hc
 replace hc:=hid hc
 obtain⟨gb0,RO⟩:=av.rep h
 obtain⟨q1,q2⟩:=jK RO.ok hf
 clear hf hv hb h RO
 have hu:=λw=>dR v w
 rw[Sn]at hu
 replace hu:=hid hu
 clear Sn
 rcases ZU with rfl|rfl
 all_goals
  go_enter func70,ntmps70
  go_wp2_with fail
  refine mo hc.out λw1 h1=>?_
  replace h1:=hid h1
  go_wp2_with fail
  refine(hu.out w1).mono ?_
  rintro e w2 ⟨rfl,rfl⟩
  have hX:At w0 (w2.alloc (.cells #[(19:Int),arg,(0:Int),(1:Int)] 164)) (ae w2.heap.size 164 (aq.c ⟨19,arg,0,1⟩)::_):=h1.out.box (aq.c ⟨19,arg,0,1⟩) 164
  replace hX:=hid hX
  have RZ:=HG hX.out.swap m (a+8) arg oM
  rw[Ry,RG]at RZ
  replace RZ:=hid RZ
  obtain⟨⟨d0,d1,d2,d3⟩,e0,e1,e2,e3⟩:=mg hX.out.blk
  dsimp only at d0 d1 d2 d3 e0 e1 e2 e3
  go_wp2_with fail
  refine mo RZ.out λw3 Sx=>?_
  have h3:At w0 w3 (av g S::ae w2.heap.size 164 (aq.c ⟨19,arg,0,1⟩)::ae w.heap.size 164 aq.none.c::L):=by rw[Sx];exact hX.out.swap
  replace h3:=hid h3
  clear Sx
  clear d0 d1 d2 d3 e0 e1 e2 e3
  have hB:=hid h3.out.wk
  obtain⟨⟨c0,c1,c2,c3⟩,f0,f1,f2,f3⟩:=mg hB.out.blk
  obtain⟨⟨d0,d1,d2,d3⟩,e0,e1,e2,e3⟩:=mg h3.out.swap.blk
  simp only[aq.none]at c0 c1 c2 c3 d0 d1 d2 d3 f0 f1 f2 f3
  have Rd:w.heap.size<w2.heap.size:=h1.out.swap.blk.lt
  go_wp2
  refine bodyPost_ret (v:= .tuple #[aq.v aq.none,.int .i64 _]) (by simp[results,results70,go_sem,c0,c1,c2,c3,aq.v,aq.none]) rfl ⟨rfl,?_⟩
  exact((h3.out.swap.set 3 _).wk.AY aq.none).tail
set_option maxRecDepth 100000 in
theorem tr(h:At w0 w (av g S::L))(m a v:Int)(hf:S.ay m a false=0)(hv:S.aP m a=v)(arg:Int)(Sn:Code.unpack v= (19,arg,true))(WJ:0<=arg)(ha1:arg<36028797018963968)(f:Int)(txt:ByteArray)(RG:S.cD m (a+8) arg=f)(Ry:S.text m (a+8) arg=txt)(ZU:f=0):
 Calls prog 70 #[g,m,a] w (kP (.tuple #[aq.v ⟨19,arg,0,1+ (arg+7) /8⟩,(0:Int)]) (av g S) w0 L):=by
 have hb:=h.box aq.none.c 164
 have hc:=jZ hb.swap m a
 rw[hf,hv]at hc
 replace hc:=hid hc
 obtain⟨gb0,RO⟩:=av.rep h
 obtain⟨q1,q2⟩:=jK RO.ok hf
 clear hf hv hb h RO
 have hu:=λw=>dR v w
 rw[Sn]at hu
 replace hu:=hid hu
 clear Sn
 subst ZU
 go_enter func70,ntmps70
 go_wp2_with fail
 refine mo hc.out λw1 h1=>?_
 replace h1:=hid h1
 go_wp2_with fail
 refine(hu.out w1).mono ?_
 rintro e w2 ⟨rfl,rfl⟩
 have hX:At w0 (w2.alloc (.cells #[(19:Int),arg,(0:Int),(1:Int)] 164)) (ae w2.heap.size 164 (aq.c ⟨19,arg,0,1⟩)::_):=h1.out.box (aq.c ⟨19,arg,0,1⟩) 164
 replace hX:=hid hX
 have RZ:=HG hX.out.swap m (a+8) arg oM
 rw[Ry,RG]at RZ
 replace RZ:=hid RZ
 obtain⟨⟨d0,d1,d2,d3⟩,e0,e1,e2,e3⟩:=mg hX.out.blk
 dsimp only at d0 d1 d2 d3 e0 e1 e2 e3
 go_wp2_with fail
 refine mo RZ.out λw3 Sx=>?_
 have h3:At w0 w3 (av g S::ae w2.heap.size 164 (aq.c ⟨19,arg,0,1⟩)::ae w.heap.size 164 aq.none.c::L):=by rw[Sx];exact hX.out.swap
 replace h3:=hid h3
 clear Sx
 clear d0 d1 d2 d3 e0 e1 e2 e3
 have hB:=hid h3.out.wk
 obtain⟨⟨c0,c1,c2,c3⟩,f0,f1,f2,f3⟩:=mg hB.out.blk
 obtain⟨⟨d0,d1,d2,d3⟩,e0,e1,e2,e3⟩:=mg h3.out.swap.blk
 simp only[aq.none]at c0 c1 c2 c3 d0 d1 d2 d3 f0 f1 f2 f3
 have Rd:w.heap.size<w2.heap.size:=h1.out.swap.blk.lt
 go_wp2
 refine bodyPost_ret (v:= .tuple #[aq.v ⟨19,arg,0,1+ (arg+7) /8⟩,.int .i64 _]) (by simp[results,results70,go_sem,c0,c1,c2,c3,aq.v]) rfl ⟨rfl,?_⟩
 exact((h3.out.swap.set 3 _).wk.AY ⟨19,arg,0,1+ (arg+7) /8⟩).tail
theorem Gq{arg:Int}(h:Code.right 19 arg=true):0<=arg∧arg<36028797018963968:=by
 rw[Code.oH]at h
 omega
theorem BX(h:At w0 w (av g S::L))(m a:Int):
 Calls prog 70 #[g,m,a] w (kP (.tuple #[(S.aE m a).1.v,.int .i64 (S.aE m a).2]) (av g S) w0 L):=by
 rcases pZ S m a false with hf|hf|hf
 rotate_left
 ·have e:S.aE m a= (aq.none,5):=by unfold Img.aE;simp[hf]
  rw[e];exact ug h m a 5 hf (.inl rfl)
 ·have e:S.aE m a= (aq.none,6):=by unfold Img.aE;simp[hf]
  rw[e];exact ug h m a 6 hf (.inr rfl)
 obtain⟨v,hv⟩: ∃v,S.aP m a=v:=⟨_,rfl⟩
 rcases Code.xx v with⟨op,arg,Sn,hr,_⟩ |Sn
 rotate_left
 ·have e:S.aE m a= (aq.none,14):=by unfold Img.aE;simp[hf,hv,Sn]
  rw[e];exact AG h m a v hf hv Sn
 by_cases h2:op=2
 ·subst h2
  obtain⟨lit,hl⟩: ∃x,S.aP m (a+8)=x:=⟨_,rfl⟩
  rcases pZ S m (a+8) false with RG|RG|RG
  ·have e:S.aE m a= (⟨2,arg,lit,2⟩,0):=by unfold Img.aE;simp[hf,hv,Sn,RG,hl]
   rw[e];exact wH h m a v hf hv arg Sn lit 0 RG hl rfl
  ·have e:S.aE m a= (aq.none,5):=by unfold Img.aE;simp[hf,hv,Sn,RG]
   rw[e];exact mr h m a v hf hv arg Sn lit 5 RG hl (.inl rfl)
  ·have e:S.aE m a= (aq.none,6):=by unfold Img.aE;simp[hf,hv,Sn,RG]
   rw[e];exact mr h m a v hf hv arg Sn lit 6 RG hl (.inr rfl)
 by_cases h19:op=19
 ·subst h19
  obtain⟨b1,b2⟩:=Gq hr
  obtain⟨txt,hl⟩: ∃x,S.text m (a+8) arg=x:=⟨_,rfl⟩
  rcases xZ S m (a+8) arg with RG|RG|RG
  ·have e:S.aE m a= (⟨19,arg,0,1+ (arg+7) /8⟩,0):=by unfold Img.aE;simp[hf,hv,Sn,RG]
   rw[e];exact tr h m a v hf hv arg Sn b1 b2 0 txt RG hl rfl
  ·have e:S.aE m a= (aq.none,5):=by unfold Img.aE;simp[hf,hv,Sn,RG]
   rw[e];exact kQ h m a v hf hv arg Sn b1 b2 5 txt RG hl (.inl rfl)
  ·have e:S.aE m a= (aq.none,19):=by unfold Img.aE;simp[hf,hv,Sn,RG]
   rw[e];exact kQ h m a v hf hv arg Sn b1 b2 19 txt RG hl (.inr rfl)
 have e:S.aE m a= (⟨op,arg,0,1⟩,0):=by unfold Img.aE;simp[hf,hv,Sn,h2,h19]
 rw[e];exact yz h m a v hf hv op arg Sn (by simpa using h2) (by simpa using h19)
end
open Go.RowKit Go.Lib
namespace Vm
structure Stp where
 at_:Int
 op:Int
 dep:Int
 top:Int
 aZ:Int
structure Ext where
 text:ByteArray
 at_:Nat
def Ext.zero:Ext:=⟨⟨#[]⟩,0⟩
structure Mt where
 S:Img
 pd:Pl
 pr:Pl
 d:Nat
 r:Nat
 T:af.Tab
 hs:Int
 ls:Int
 hk:Int
 lk:Int
 fault:Int
 used:Int
 hidden:Int
 au:Bool
 seen:List Stp
 ext:Ext
structure Rn where
 mode:Int
 left:Int
 pc:Int
 next:Int
 over:Bool
 asked:Bool
 base:Int
namespace Mt
variable (s:Mt)
def top(n:Int):Int:=lc s.S s.pd.fr s.d n
def bu(n:Int):Int:=lc s.S s.pr.fr s.r n
def args(n:Nat):List Int:=(List.range n).map λj=>s.top ((n-1-j:Nat):Int)
def dy(l:List Int):Mt:={ s with S:=aY s.S s.pd.fr s.d l,d:=s.d+l.length }
def az(l:List Int):Mt:={ s with S:=aY s.S s.pr.fr s.r l,r:=s.r+l.length }
def jJ(n:Nat):Mt:={ s with d:=n }
def eu(n:Nat):Mt:={ s with r:=n }
def nS(n:Nat)(v:Int):Mt:={ s with S:=fh s.S s.pr.fr (s.r-1-n) v }
def ak(n:Nat)(l:List Int):Int×Mt:=
 if s.pd.rm- (s.d-n) <l.length then(2,s.jJ (s.d-n))else(0,(s.jJ (s.d-n)).dy l)
end Mt
def returns(op arg:Int)(same:Bool):Int×Int:=
 if op=1∨op=14∨op=18 then(1,0)
 else if op=17 then(if arg=0 then(1,0)else(0,0))
 else if op=3∨op=16∨op=13 then(0,1)
 else if op=7 then(if same then(0,0)else(0,2))
 else if op=6 then(0,2)
 else if op=10 then(2,0)
 else if op=8∨op=9∨op=11 then(2,2)
 else if op=12 then(4,4)
 else if op=15 then(1,1)
 else(0,0)
def dM(op:Int):Int:=
 if 78<=op∧op<=82 then 1
 else if op=83∨op=84 then 2
 else if op=87 then 4
 else if 87<op∧op<=93 then 8
 else if 100<=op∧op<=104 then 16
 else 0
def Mt.same(s:Mt):Bool:=s.top 0==s.top 1
def asks(i:aq)(x:Rn)(s:Mt):Int:=
 if(s.d:Int) < (Code.ai i.op).1 then 1
 else if(s.r:Int) -x.base< (returns i.op i.arg s.same).1 then 3
 else if(s.pd.rm:Int) <s.d- (Code.ai i.op).1+ (if i.op=26∧s.top 0=0 then(Code.ai i.op).1 else(Code.ai i.op).2)then 2
 else if(s.pr.rm:Int) <s.r- (returns i.op i.arg s.same).1+ (returns i.op i.arg s.same).2 then 4
 else if dM i.op≠0∧af.has s.T.aC x.mode (dM i.op)=false then 11
 else 0
structure Rs where
 f:Int
 x:Rn
 s:Mt
def back(x:Rn)(s:Mt):Rs:=
 if s.r=0 then⟨3,x,s⟩else⟨0,{ x with next:=s.bu 0,over:=s.bu 0==0 },{ s with r:=s.r-1 }⟩
def aJ(n:Nat)(l:List Int)(x:Rn)(s:Mt):Rs:=⟨(s.ak n l).1,x,(s.ak n l).2⟩
def Rs.then(a:Rs)(k:Rn->Mt->Rs):Rs:=if a.f=0 then k a.x a.s else a
def dx(n:Int)(ends:Bool)(at_:Int)(x:Rn)(s:Mt):Rs:=
 if ends then⟨0,x,s.eu (s.r-2)⟩else⟨0,{ x with next:=at_ },s.nS 0 n⟩
def Mt.told(s:Mt)(x:Rn)(op:Int):Mt:=if s.au then { s with seen:=s.seen ++ [⟨x.pc,op,s.d,s.top 0,x.left⟩] } else s
