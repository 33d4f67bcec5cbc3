/- Chapter 1: a cell as bytes, bytes as a cell: the document's functions. Condition: eight bytes. -/
import Derived.Test.YteaijdgnagkllaaGreatDoorZd15
open Go.Proofs.Tryz
namespace Go.Proofs.YteaijdgnagkllaaGreatDoor
set_option linter.unusedVariables false
set_option linter.unusedSimpArgs false
set_option maxHeartbeats 8000000
open Go.RowKit Go.Lib Go.Deep
def quotOf(v:Int)(j:Nat):Int:=(v % 18446744073709551616) /256 ^ j
theorem quot_succ(v:Int)(j:Nat):quotOf v j/256=quotOf v (j+1):=by
 unfold quotOf
 rw[Int.pow_succ,Int.ediv_ediv_of_nonneg (Int.pow_nonneg (by decide))]
theorem quot_nonneg(v:Int)(j:Nat):0<=quotOf v j:=by
 unfold quotOf
 exact Int.ediv_nonneg (Int.emod_nonneg _ (by decide)) (Int.pow_nonneg (by decide))
theorem quot_le(v:Int)(j:Nat):quotOf v j<=18446744073709551615:=by
 unfold quotOf
 have h1:0<=v % 18446744073709551616:=Int.emod_nonneg _ (by decide)
 have h2:v % 18446744073709551616<18446744073709551616:=Int.emod_lt_of_pos _ (by decide)
 have:=Int.ediv_le_self (256 ^ j) h1
 omega
theorem quot_byte(v:Int)(j:Nat)(hj:j<8):quotOf v j % 256=v/2 ^ (8*j) % 256:=by
 unfold quotOf
 have:j=0∨j=1∨j=2∨j=3∨j=4∨j=5∨j=6∨j=7:=by omega
 rcases this with rfl|rfl|rfl|rfl|rfl|rfl|rfl|rfl<;>simp only[Int.reducePow,Nat.reduceMul,Int.ediv_one]<;>omega
set_option maxRecDepth 100000 in
theorem Bytes_walk(v:Int)(hv : -9223372036854775808<=v∧v<=9223372036854775807)(w:World):Calls prog 66 #[v] w (Gives (.agg (bcells (toB v)).toArray) w):=by
 have hq0:quotOf v 0=v % 18446744073709551616:=by unfold quotOf;simp
 replace hq0:=hid hq0
 go_enter func66,ntmps66
 go_wp2
 go_loopw [4,5] (λu i wr=> ∃j:Nat,j<=8∧i = .int .i64 j∧u = .int .u64 (quotOf v j)∧Blk wr (w.heap.size+1) 158 (filled v j)∧Blk wr w.heap.size 158 (filled v 0)∧Below w.heap.size w wr) (λ_ i _=>8- (RowKit.intOf i).toNat)
 case atStart=>
  exact⟨0,by omega,rfl,by rw[hq0.out,<-IntKind.wrap_u64],Blk.new' (by simp),(Blk.new _ _ _).alloc _,((Below.refl _ _).alloc (Nat.le_refl _) _).alloc (by simp) _⟩
 case round=>
  obtain⟨j,hj8,rfl,rfl,hb,hb0,hbl⟩:=hrel
  by_cases hlt:j<8
  ·have hc:wr.cell? ⟨w.heap.size+1,j,none⟩=some (.int .u8 0):=by rw[hb.cell,filled_at v j hlt]
   have hf:=hb.frozen j
   have hb1:=hb.set_ j (.int .u8 (v/2 ^ (8*j) % 256))
   rw[filled_set v j hlt,<-quot_byte v j hlt]at hb1
   have hb2:=hb0.far (p:=⟨w.heap.size+1,j,none⟩) (by simp) (.int .u8 (v/2 ^ (8*j) % 256))
   rw[<-quot_byte v j hlt]at hb2
   have hs:=quot_succ v j
   have h0:=quot_nonneg v j
   have h1:=quot_le v j
   generalize hx:quotOf v j=x at *
   replace hb1:=hid hb1
   replace hb2:=hid hb2
   replace hs:=hid hs
   clear hb hb0 hx
   replace hbl:=hid hbl
   go_wp2
   go_roundw
   case rel=>exact⟨j+1,by omega,by go_num,by rw[<-hs.out],hb1.out,hb2.out,hbl.out.setCell (by simp) _⟩
   case measure=>simp[RowKit.intOf];omega
  ·obtain rfl:j=8:=by omega
   have hb':Blk wr (w.heap.size+1) 158 (bcells (toB v)).toArray:=hb
   have e8:Eight wr (w.heap.size+1) (λi=> .int .u8 (tn v i)):=eight_of hb' (toB_len v)
   obtain⟨c0,c1,c2,c3,c4,c5,c6,c7⟩:=e8
   obtain⟨d0,d1,d2,d3,d4,d5,d6,d7⟩:=eight_of (l:=List.replicate 8 0) hb0 (by simp)
   have f0:=hb0.frozen 0
   have f1:=hb0.frozen 1
   have f2:=hb0.frozen 2
   have f3:=hb0.frozen 3
   have f4:=hb0.frozen 4
   have f5:=hb0.frozen 5
   have f6:=hb0.frozen 6
   have f7:=hb0.frozen 7
   clear hb hb0 hb'
   replace hbl:=hid hbl
   go_wp2
   refine bodyPost_ret (v:= .agg #[.int .u8 (tn v 0),.int .u8 (tn v 1),.int .u8 (tn v 2),.int .u8 (tn v 3),.int .u8 (tn v 4),.int .u8 (tn v 5),.int .u8 (tn v 6),.int .u8 (tn v 7)]) (by simp[results,results66,go_sem,d0,d1,d2,d3,d4,d5,d6,d7]) rfl ⟨by rw[tn_all],?_⟩
   exact(((((((hbl.out.setCell (Nat.le_refl _) _).setCell (Nat.le_refl _) _).setCell (Nat.le_refl _) _).setCell (Nat.le_refl _) _).setCell (Nat.le_refl _) _).setCell (Nat.le_refl _) _).setCell (Nat.le_refl _) _).setCell (Nat.le_refl _) _
theorem IRRep.byte{w:World}{g gb:Nat}{S:Img}(h:IRRep w g gb S)(i:Nat)(hi:i<S.beg 6):w.cell? (gb,i)=some (.int .u8 ((S.b.getD i 0).toNat:Int)):=by
 rw[h.row.cell]
 have:i<S.b.length:=by rw[h.ok.len];exact hi
 simp[bcells,List.getD,this]
theorem tmod8(a:Int): (a.tmod 8=0)↔a % 8=0:=by rw[Int.tmod_eq_emod];split<;>omega
theorem putL_snoc(b:List UInt8)(k:Nat)(l:List UInt8)(j:Nat)(hj:j<l.length)(hk:k+j<b.length): (bcells (putL b k (l.take j))).toArray.setIfInBounds (k+j) (.int .u8 ((l.getD j 0).toNat:Int))= (bcells (putL b k (l.take (j+1)))).toArray:=by
 have hlt:l.take (j+1)=l.take j ++ [l.getD j 0]:=by
  rw[List.take_succ_eq_append_getElem hj,List.getD_eq_getElem?_getD,List.getElem?_eq_getElem hj]
  rfl
 have htl: (l.take j).length=j:=by rw[List.length_take];omega
 apply Array.ext_getElem?
 intro i
 rw[hlt]
 unfold putL
 rw[List.length_append,htl,List.length_singleton]
 generalize l.getD j 0=c
 have hdrop:b.drop (k+j)=b[k+j]::b.drop (k+ (j+1)):=List.drop_eq_getElem_cons hk
 rw[hdrop]
 have h1: (b.take k).length=k:=by rw[List.length_take];omega
 have e1:bcells (b.take k++ (l.take j++b[k+j]::b.drop (k+ (j+1))))= (bcells (b.take k++l.take j))++ (Value.int .u8 (b[k+j].toNat:Int)::bcells (b.drop (k+ (j+1)))):=by simp[bcells]
 have e2:bcells (b.take k++ (l.take j ++ [c]++b.drop (k+ (j+1))))= (bcells (b.take k++l.take j))++ (Value.int .u8 (c.toNat:Int)::bcells (b.drop (k+ (j+1)))):=by simp[bcells]
 have hlen: (bcells (b.take k++l.take j)).length=k+j:=by unfold bcells;rw[List.length_map,List.length_append,h1,htl]
 rw[e1,e2]
 generalize bcells (b.take k++l.take j)=A at *
 generalize bcells (b.drop (k+ (j+1)))=B at *
 generalize (Value.int .u8 (b[k+j].toNat:Int))=y
 rw[<-hlen]
 simp
set_option maxRecDepth 100000 in
theorem r_set_yes{w:World}{g gb:Nat}{S:Img}(h:IRRep w g gb S)(m v:Int)(hv : -9223372036854775808<=v∧v<=9223372036854775807)(k:Nat)(hle:k+8<=S.beg 6)(hal: (k:Int) % 8=0)
 (hrow:Calls prog 65 #[g,m,(k:Int),(8:Int),(2:Int)] w (Gives (.bool true) w)):
 Calls prog 38 #[g,m,(k:Int),v] w λe w'=>e = .returned (.int .i64 0)∧Blk w' gb 5 (bcells (putL S.b k (toB v))).toArray∧Kept (λi=>i=gb) w w':=by
 have hal1: (k:Int).tmod 8=0:=(tmod8 _).2 hal
 have hsm:=h.ok.small
 have hlen:=h.ok.len
 have hby:=λw=>Bytes_walk v hv w
 have htl:=toB_len v
 rw[<-tn_all]at hby
 replace hrow:=hid hrow
 replace h:=hid h
 replace hby:=hid hby
 replace htl:=hid htl
 replace hlen:=hid hlen
 clear hal
 go_enter func38,ntmps38
 go_wp2_with fail
 refine mo hrow.out λw1 h1=>?_
 have hR1:=hid (h.out.below h1)
 have hk1:=hid (Kept.ofBelow0 h1)
 clear h1
 go_wp2_with fail
 refine mo (hby.out w1) λw2 h2=>?_
 have hR2:=hid (hR1.out.below h2)
 have hk2:=hid (hk1.out.trans (Kept.ofBelow0 h2))
 clear h2
 go_wp2
 go_loopw [11] (λi wr=> ∃j:Nat,j<=8∧i = .int .i64 j∧Blk wr w2.heap.size 158 (bcells (toB v)).toArray∧Blk wr g 130 (rimgCells gb S)∧Blk wr gb 5 (bcells (putL S.b k ((toB v).take j))).toArray∧Kept (λi=>i=gb) w wr) (λi _=>8- (RowKit.intOf i).toNat)
 case atStart=>
  refine⟨0,by omega,rfl,?_,hR2.out.blk.alloc _,?_,(hk2.out.mono (λ_ h=>h.elim)).alloc _⟩
  ·rw[<-tn_all];exact Blk.new _ _ _
  ·have:putL S.b k ((toB v).take 0)=S.b:=by unfold putL;simp
   rw[this]
   exact hR2.out.row.alloc _
 case round=>
  obtain⟨j,hj8,rfl,hb,hg,hr,hk⟩:=hrel
  by_cases hlt:j<8
  ·have hc:wr.cell? (w2.heap.size,j)=some (.int .u8 (((toB v).getD j 0).toNat:Int)):=by
    rw[hb.cell]
    have:=htl.out
    have:j< (toB v).length:=by omega
    simp[bcells,List.getD,this]
   have hall:wr.cell? (g,5)=some (.slice gb (S.beg 6) (S.beg 6)):=by rw[hg.cell];rfl
   have hold: ∃x,wr.cell? ⟨gb,k+j,none⟩=some (.int .u8 x):=by
    rw[hr.cell]
    have hl2:k+j< (putL S.b k ((toB v).take j)).length:=by
     rw[putL_len _ _ _ (by rw[List.length_take,hlen.out];omega),hlen.out];omega
    exact⟨_,by simp[bcells,hl2];rfl⟩
   obtain⟨x,hx⟩:=hold
   have hf:=hr.frozen (k+j)
   have hset:=hr.set_ (k+j) (.int .u8 (((toB v).getD j 0).toNat:Int))
   rw[putL_snoc S.b k (toB v) j (by rw[htl.out];exact hlt) (by rw[hlen.out];omega)]at hset
   have q1:w2.heap.size≠gb:=λe=>by have:=hR2.out.row.lt;omega
   have q2:g≠gb:=hg.ne_ hr (by decide)
   replace q1:=hid q1
   replace q2:=hid q2
   replace hb:=hid hb
   replace hg:=hid hg
   replace hset:=hid hset
   replace hk:=hid hk
   generalize (((toB v).getD j 0).toNat:Int)=c at *
   generalize S.beg 6=N at *
   clear hr
   go_wp2
   go_region
   go_wp2
   go_roundw
   case rel=>exact⟨j+1,by omega,by go_num,(hb.out.far (p:=⟨gb,k+j,none⟩) q1.out _).drew,(hg.out.far (p:=⟨gb,k+j,none⟩) q2.out _).drew,hset.out.drew,(hk.out.setCell (.inl rfl) _).drew⟩
   case measure=>simp[RowKit.intOf];omega
  ·obtain rfl:j=8:=by omega
   have hlast: (toB v).take 8=toB v:=List.take_of_length_le (by rw[htl.out];omega)
   rw[hlast]at hr
   replace hr:=hid hr
   replace hk:=hid hk
   clear hb hg hlast
   go_wp2
   go_ret
   exact⟨rfl,hr.out,hk.out⟩
def RimgA(g:Nat)(S:Img):Asr where
 holds w F:= ∃gb,IRRep w g gb S∧∀k,F k↔k=g∨k=gb
 lt h hk:=by
  obtain⟨gb,h,hF⟩:=h
  rcases(hF _).1 hk with rfl|rfl
  ·exact h.blk.lt
  ·exact h.row.lt
 kept h hk hT:=by
  obtain⟨gb,h,hF⟩:=h
  exact⟨gb,⟨h.blk.kept hk (hT _ ((hF _).2 (.inl rfl))),h.row.kept hk (hT _ ((hF _).2 (.inr rfl))),h.ok⟩,hF⟩
theorem IRRep.ne{w:World}{g gb:Nat}{S:Img}(h:IRRep w g gb S):g≠gb:=h.blk.ne_ h.row (by decide)
theorem r_row_of{w:World}{g gb:Nat}{S:Img}(h:IRRep w g gb S)(m a:Int)(n:Nat)(hn:n≠0)(hn2:n<=9223372036854775807)(wr:Bool):
 (S.rowOk m a n wr=false∧Calls prog 65 #[g,m,a,(n:Int),(rightOf wr)] w (Gives (.bool false) w))∨
 (S.rowOk m a n wr=true∧∃k:Nat,a=k∧k+n<=S.beg 6∧Calls prog 65 #[g,m,(k:Int),(n:Int),(rightOf wr)] w (Gives (.bool true) w)):=by
 have hrow:=r_row h m a n hn2 wr
 cases hk:S.rowOk m a n wr
 ·rw[hk]at hrow
  exact .inl ⟨rfl,hrow⟩
 ·obtain⟨h0,h1⟩:=S.row_in hk hn
  obtain⟨k,rfl⟩:=Int.eq_ofNat_of_zero_le h0
  rw[hk]at hrow
  exact .inr ⟨rfl,k,rfl,by omega,hrow⟩
section
variable {w0 w:World}{g:Nat}{S:Img}{L:List Asr}
theorem RimgA.rep(h:At w0 w (RimgA g S::L)): ∃gb,IRRep w g gb S:=by obtain⟨F,gb,h,_⟩:=h.first;exact⟨gb,h⟩
end
theorem r_seal{w:World}{g gb:Nat}{S:Img}(h:IRRep w g gb S)(hc:S.cl=false):Calls prog 63 #[.pointer (some ⟨g,0,none⟩)] w (Same (.int .i64 0) (w.setCell (g,7) (.bool true))):=by
 have hcl:=h.cl_cell
 have hf:=h.blk.frozen 7
 rw[hc]at hcl
 clear h hc
 go_enter func63,ntmps63
 go_wp2
 go_ret
 exact⟨rfl,rfl⟩
section
variable {w0 w:World}{g:Nat}{S:Img}{L:List Asr}
end
theorem fits_yes(n lo hi:Int)(h1:lo<=n)(h2:n<=hi)(h8:n % 8=0)(w:World):Calls prog 127 #[(n:Int),lo,hi] w (Same (.bool true) w):=by
 have h3:n.tmod 8=0:=(tmod8 n).2 h8
 clear h8
 go_enter func127,ntmps127
 go_wp2
 go_ret
 exact⟨rfl,rfl⟩
set_option maxRecDepth 100000 in
theorem Fits_yes{k s u d r:Nat}(hf:Fits k s u d r)(w:World):Calls prog 85 #[layoutV k s u d r] w (Gives (.bool true) w):=by
 have f1:=hid λw=>fits_yes k 16384 65536 (by have:=hf.k1;omega) (by have:=hf.k2;omega) (by have:=hf.k8;omega) w
 have f2:=hid λw=>fits_yes s 0 4096 oM (by have:=hf.s2;omega) (by have:=hf.s8;omega) w
 have f3:=hid λw=>fits_yes u 256 65536 (by have:=hf.u1;omega) (by have:=hf.u2;omega) (by have:=hf.u8;omega) w
 have f4:=hid λw=>fits_yes d 64 4096 (by have:=hf.d1;omega) (by have:=hf.d2;omega) (by have:=hf.d8;omega) w
 have f5:=hid λw=>fits_yes r 64 4096 (by have:=hf.r1;omega) (by have:=hf.r2;omega) (by have:=hf.r8;omega) w
 clear hf
 unfold layoutV
 go_enter func85,ntmps85
 go_wp2_with fail
 refine(f1.out _).mono ?_
 rintro e w1 ⟨rfl,rfl⟩
 go_wp2_with fail
 refine(f2.out _).mono ?_
 rintro e w1 ⟨rfl,rfl⟩
 go_wp2_with fail
 refine(f3.out _).mono ?_
 rintro e w1 ⟨rfl,rfl⟩
 go_wp2_with fail
 refine(f4.out _).mono ?_
 rintro e w1 ⟨rfl,rfl⟩
 go_wp2_with fail
 refine(f5.out _).mono ?_
 rintro e w1 ⟨rfl,rfl⟩
 go_wp2
 go_ret
 exact⟨rfl,(Below.refl _ _).alloc (Nat.le_refl _) _⟩
def IRNewPost(S:Img)(w:World)(e:Ending)(w':World):Prop:= ∃g gb,e = .returned (.tuple #[.pointer (some ⟨g,0,none⟩),.bool true])∧w.heap.size<=g∧w.heap.size<=gb∧IRRep w' g gb S∧Below w.heap.size w w'
set_option maxRecDepth 100000 in
theorem ir_new(k s u d r:Nat)(hf:Fits k s u d r)(w:World):Calls prog 52 #[layoutV k s u d r] w (IRNewPost (newImg k s u d r) w):=by
 have hfits:=hid λw=>Fits_yes hf w
 have hok:=hid (newImg_ok hf)
 obtain⟨k1,k2,k8,s2,s8,u1,u2,u8,d1,d2,d8,r1,r2,r8⟩:=hf
 clear k1 k8 s8 u1 u8 d1 d8 r1 r8
 obtain⟨n,hn⟩: ∃n,k+s+u+d+r=n:=⟨_,rfl⟩
 have hmk:=λw=>run_make_row' (P:=prog) 43 5 (.int .u8 0) 1 underlying43 kR rfl .i64 .i64 n oM oM w
 simp only[made0]at hmk
 have hsum: ((n:Nat):Int)= (k:Int) +s+u+d+r:=by omega
 rw[hsum]at hmk
 clear hsum
 replace hn:=hid hn
 unfold layoutV at *
 go_enter func52,ntmps52
 go_wp2_with fail
 refine mo (hfits.out _) λw1 h1=>?_
 have hb1:Blk w1 w.heap.size 70 #[(k:Int),(s:Int),(u:Int),(d:Int),(r:Int)]:=(Blk.new w _ _).below h1 (by simp)
 have hbl:=hid (((Below.refl w.heap.size w).alloc (Nat.le_refl _) _).trans (h1.mono (by simp)))
 have hsz:w.heap.size<w1.heap.size:=by have:=h1.size;simp at this;omega
 have c0:w1.cell? (w.heap.size,0)=some ((k:Int):Vl):=hb1.cell 0
 have c1:w1.cell? (w.heap.size,1)=some ((s:Int):Vl):=hb1.cell 1
 have c2:w1.cell? (w.heap.size,2)=some ((u:Int):Vl):=hb1.cell 2
 have c3:w1.cell? (w.heap.size,3)=some ((d:Int):Vl):=hb1.cell 3
 have c4:w1.cell? (w.heap.size,4)=some ((r:Int):Vl):=hb1.cell 4
 clear h1 hb1
 go_wp2
 go_region
 go_wp2
 go_ret2
 refine⟨w1.heap.size+1,w1.heap.size,rfl,by omega,by omega,⟨?_,?_,hok.out⟩,((hbl.out.alloc oM _).alloc (by simp;omega) _).drew⟩
 ·have hn:=hn.out
  subst hn
  exact(Blk.new' (by simp)).drew
 ·have hn:=hn.out
  subst hn
  exact((Blk.new _ _ _).alloc _).drew
structure Inst where
 op:Int
 arg:Int
 lit:Int
 cells:Int
def Inst.none:Inst:=⟨0,0,0,0⟩
def Inst.v(i:Inst):Value:= .agg #[i.op,i.arg,i.lit,i.cells]
def Inst.c(i:Inst):Array Value:=#[i.op,i.arg,i.lit,i.cells]
def Img.fetch(S:Img)(m a:Int):Inst×Int:=
 if S.cellF m a false≠0 then(Inst.none,S.cellF m a false)
 else if(Code.unpack (S.cellV m a)).2.2=false then(Inst.none,14)
 else if(Code.unpack (S.cellV m a)).1=2 then
  (if S.cellF m (a+8) false≠0 then(Inst.none,S.cellF m (a+8) false)else(⟨2,(Code.unpack (S.cellV m a)).2.1,S.cellV m (a+8),2⟩,0))
 else if(Code.unpack (S.cellV m a)).1=19 then
  (if S.textF m (a+8) (Code.unpack (S.cellV m a)).2.1≠0 then(Inst.none,S.textF m (a+8) (Code.unpack (S.cellV m a)).2.1)else(⟨19,(Code.unpack (S.cellV m a)).2.1,0,1+ ((Code.unpack (S.cellV m a)).2.1+7) /8⟩,0))
 else(⟨(Code.unpack (S.cellV m a)).1,(Code.unpack (S.cellV m a)).2.1,0,1⟩,0)
theorem cellF_cases(S:Img)(m a:Int)(w:Bool):S.cellF m a w=0∨S.cellF m a w=5∨S.cellF m a w=6:=by
 unfold Img.cellF
 repeat' split
 all_goals simp
theorem textF_cases(S:Img)(m a n:Int):S.textF m a n=0∨S.textF m a n=5∨S.textF m a n=19:=by
 unfold Img.textF
 repeat' split
 all_goals simp
theorem cellF_in{S:Img}{m a:Int}{w:Bool}(hS:S.Ok)(h:S.cellF m a w=0):0<=a∧a+8<=143360:=by
 unfold Img.cellF at h
 split at h
 ·omega
 ·split at h
  ·rename_i h2
   have:=S.row_in h2 oM
   have:=hS.small
   omega
  ·omega
section
variable {w0 w:World}{g b:Nat}{t:TypeId}{S:Img}{i:Inst}{L:List Asr}
theorem box4{w:World}{b:Nat}{t:TypeId}{i:Inst}(h:Blk w b t i.c):
 (w.cell? (b,0)=some (i.op:Vl)∧w.cell? (b,1)=some (i.arg:Vl)∧w.cell? (b,2)=some (i.lit:Vl)∧w.cell? (b,3)=some (i.cells:Vl))∧
 (w.frozen? (b,0)=false∧w.frozen? (b,1)=false∧w.frozen? (b,2)=false∧w.frozen? (b,3)=false):=by
 refine⟨⟨?_,?_,?_,?_⟩,h.frozen 0,h.frozen 1,h.frozen 2,h.frozen 3⟩<;>rw[h.cell]<;>rfl
theorem At.put4(h:At w0 w (BlkA b t i.c::L))(j:Inst):At w0 ((((w.setCell (b,0) (.int .i64 j.op)).setCell (b,1) (.int .i64 j.arg)).setCell (b,2) (.int .i64 j.lit)).setCell (b,3) (.int .i64 j.cells)) L:=
 ((((h.set 0 _).set 1 _).set 2 _).set 3 _).tail
end
section
variable {w0 w:World}{g:Nat}{S:Img}{L:List Asr}
set_option maxRecDepth 100000 in
theorem fetch_bad(h:At w0 w (ImgA g S::L))(m a f:Int)(hf:S.cellF m a false=f)(hff:f=5∨f=6):
 Calls prog 193 #[g,m,a] w (Got1 (.tuple #[Inst.none.v,f]) (ImgA g S) w0 L):=by
 have hb:=h.box Inst.none.c 293
 have hc:=a_cell hb.swap m a
 rw[hf]at hc
 replace hc:=hid hc
 generalize hv:S.cellV m a=v at *
 clear hf hv hb
 rcases hff with rfl|rfl
 all_goals
  go_enter func193,ntmps193
  go_wp2_with fail
  refine mo hc.out λw1 h1=>?_
  obtain⟨⟨c0,c1,c2,c3⟩,f0,f1,f2,f3⟩:=box4 h1.swap.blk
  have h2:=hid (h1.swap.put4 Inst.none)
  clear h1
  simp only[Inst.none]at c0 c1 c2 c3
  go_wp2
  refine bodyPost_ret (v:= .tuple #[Inst.none.v,.int .i64 _]) (by simp[results,results193,go_sem,c0,c1,c2,c3,Inst.v,Inst.none]) rfl ⟨rfl,?_⟩
  exact h2.out
set_option maxRecDepth 100000 in
theorem fetch_none(h:At w0 w (ImgA g S::L))(m a v:Int)(hf:S.cellF m a false=0)(hv:S.cellV m a=v)(hun:Code.unpack v= (0,0,false)):
 Calls prog 193 #[g,m,a] w (Got1 (.tuple #[Inst.none.v,(14:Int)]) (ImgA g S) w0 L):=by
 have hb:=h.box Inst.none.c 293
 have hc:=a_cell hb.swap m a
 rw[hf,hv]at hc
 replace hc:=hid hc
 obtain⟨gb0,hrep⟩:=ImgA.rep h
 obtain⟨q1,q2⟩:=cellF_in hrep.ok hf
 clear hf hv hb h hrep
 have hu:=λw=>unpack_walk v w
 rw[hun]at hu
 replace hu:=hid hu
 clear hun
 go_enter func193,ntmps193
 go_wp2_with fail
 refine mo hc.out λw1 h1=>?_
 replace h1:=hid h1
 go_wp2_with fail
 refine(hu.out w1).mono ?_
 rintro e w2 ⟨rfl,rfl⟩
 obtain⟨⟨c0,c1,c2,c3⟩,f0,f1,f2,f3⟩:=box4 h1.out.swap.blk
 have h2:=hid (h1.out.swap.put4 Inst.none)
 simp only[Inst.none]at c0 c1 c2 c3
 go_wp2
 refine bodyPost_ret (v:= .tuple #[Inst.none.v,.int .i64 _]) (by simp[results,results193,go_sem,c0,c1,c2,c3,Inst.v,Inst.none]) rfl ⟨rfl,?_⟩
 exact h2.out
set_option maxRecDepth 100000 in
theorem fetch_other(h:At w0 w (ImgA g S::L))(m a v:Int)(hf:S.cellF m a false=0)(hv:S.cellV m a=v)(op arg:Int)(hun:Code.unpack v= (op,arg,true))(n2: (op==2)=false)(n19: (op==19)=false):
 Calls prog 193 #[g,m,a] w (Got1 (.tuple #[Inst.v ⟨op,arg,0,1⟩,(0:Int)]) (ImgA g S) w0 L):=by
 have hb:=h.box Inst.none.c 293
 have hc:=a_cell hb.swap m a
 rw[hf,hv]at hc
 replace hc:=hid hc
 obtain⟨gb0,hrep⟩:=ImgA.rep h
 obtain⟨q1,q2⟩:=cellF_in hrep.ok hf
 clear hf hv hb h hrep
 have hu:=λw=>unpack_walk v w
 rw[hun]at hu
 replace hu:=hid hu
 clear hun
 go_enter func193,ntmps193
 go_wp2_with fail
 refine mo hc.out λw1 h1=>?_
 replace h1:=hid h1
 go_wp2_with fail
 refine(hu.out w1).mono ?_
 rintro e w2 ⟨rfl,rfl⟩
 have hz:=h1.out.below.size
 have hB:=hid ((h1.out.box (Inst.c ⟨op,arg,0,1⟩) 293).rot3)
 obtain⟨⟨c0,c1,c2,c3⟩,f0,f1,f2,f3⟩:=box4 hB.out.blk
 obtain⟨⟨d0,d1,d2,d3⟩,e0,e1,e2,e3⟩:=box4 hB.out.swap.blk
 have h2:=hid (hB.out.put4 ⟨op,arg,0,1⟩)
 simp only[Inst.none,Inst.c]at c0 c1 c2 c3 d0 d1 d2 d3 f0 f1 f2 f3
 go_wp2
 refine bodyPost_ret (v:= .tuple #[Inst.v ⟨op,arg,0,1⟩,.int .i64 _]) (by simp[results,results193,go_sem,c0,c1,c2,c3,Inst.v]) rfl ⟨rfl,?_⟩
 exact h2.out.tail
set_option maxRecDepth 100000 in
theorem fetch_lit_bad(h:At w0 w (ImgA g S::L))(m a v:Int)(hf:S.cellF m a false=0)(hv:S.cellV m a=v)(arg:Int)(hun:Code.unpack v= (2,arg,true))(lit f:Int)(hf2:S.cellF m (a+8) false=f)(hv2:S.cellV m (a+8)=lit)(hff:f=5∨f=6):
 Calls prog 193 #[g,m,a] w (Got1 (.tuple #[Inst.none.v,f]) (ImgA g S) w0 L):=by
 have hb:=h.box Inst.none.c 293
 have hc:=a_cell hb.swap m a
 rw[hf,hv]at hc
 replace hc:=hid hc
 obtain⟨gb0,hrep⟩:=ImgA.rep h
 obtain⟨q1,q2⟩:=cellF_in hrep.ok hf
 clear hf hv hb h hrep
 have hu:=λw=>unpack_walk v w
 rw[hun]at hu
 replace hu:=hid hu
 clear hun
 rcases hff with rfl|rfl
 all_goals
  go_enter func193,ntmps193
  go_wp2_with fail
  refine mo hc.out λw1 h1=>?_
  replace h1:=hid h1
  go_wp2_with fail
  refine(hu.out w1).mono ?_
  rintro e w2 ⟨rfl,rfl⟩
  have hX:At w0 (w2.alloc (.cells #[(2:Int),arg,(0:Int),(1:Int)] 293)) (BlkA w2.heap.size 293 (Inst.c ⟨2,arg,0,1⟩)::_):=h1.out.box (Inst.c ⟨2,arg,0,1⟩) 293
  replace hX:=hid hX
  have hc2:=a_cell hX.out.swap m (a+8)
  rw[hf2,hv2]at hc2
  replace hc2:=hid hc2
  obtain⟨⟨d0,d1,d2,d3⟩,e0,e1,e2,e3⟩:=box4 hX.out.blk
  dsimp only at d0 d1 d2 d3 e0 e1 e2 e3
  go_wp2_with fail
  refine mo hc2.out λw3 h3=>?_
  replace h3:=hid h3
  clear d0 d1 d2 d3 e0 e1 e2 e3
  have hB:=hid h3.out.rot3
  obtain⟨⟨c0,c1,c2,c3⟩,f0,f1,f2,f3⟩:=box4 hB.out.blk
  obtain⟨⟨d0,d1,d2,d3⟩,e0,e1,e2,e3⟩:=box4 h3.out.swap.blk
  simp only[Inst.none]at c0 c1 c2 c3 d0 d1 d2 d3 f0 f1 f2 f3
  have hlt:w.heap.size<w2.heap.size:=h1.out.swap.blk.lt
  go_wp2
  refine bodyPost_ret (v:= .tuple #[Inst.v Inst.none,.int .i64 _]) (by simp[results,results193,go_sem,c0,c1,c2,c3,Inst.v,Inst.none]) rfl ⟨rfl,?_⟩
  exact((h3.out.swap.set 2 _ |>.set 3 _).rot3.put4 Inst.none).tail
set_option maxRecDepth 100000 in
theorem fetch_lit_ok(h:At w0 w (ImgA g S::L))(m a v:Int)(hf:S.cellF m a false=0)(hv:S.cellV m a=v)(arg:Int)(hun:Code.unpack v= (2,arg,true))(lit f:Int)(hf2:S.cellF m (a+8) false=f)(hv2:S.cellV m (a+8)=lit)(hff:f=0):
 Calls prog 193 #[g,m,a] w (Got1 (.tuple #[Inst.v ⟨2,arg,lit,2⟩,(0:Int)]) (ImgA g S) w0 L):=by
 have hb:=h.box Inst.none.c 293
 have hc:=a_cell hb.swap m a
 rw[hf,hv]at hc
 replace hc:=hid hc
 obtain⟨gb0,hrep⟩:=ImgA.rep h
 obtain⟨q1,q2⟩:=cellF_in hrep.ok hf
 clear hf hv hb h hrep
 have hu:=λw=>unpack_walk v w
 rw[hun]at hu
 replace hu:=hid hu
 clear hun
 subst hff
 go_enter func193,ntmps193
 go_wp2_with fail
 refine mo hc.out λw1 h1=>?_
 replace h1:=hid h1
 go_wp2_with fail
 refine(hu.out w1).mono ?_
 rintro e w2 ⟨rfl,rfl⟩
 have hX:At w0 (w2.alloc (.cells #[(2:Int),arg,(0:Int),(1:Int)] 293)) (BlkA w2.heap.size 293 (Inst.c ⟨2,arg,0,1⟩)::_):=h1.out.box (Inst.c ⟨2,arg,0,1⟩) 293
 replace hX:=hid hX
 have hc2:=a_cell hX.out.swap m (a+8)
 rw[hf2,hv2]at hc2
 replace hc2:=hid hc2
 obtain⟨⟨d0,d1,d2,d3⟩,e0,e1,e2,e3⟩:=box4 hX.out.blk
 dsimp only at d0 d1 d2 d3 e0 e1 e2 e3
 go_wp2_with fail
 refine mo hc2.out λw3 h3=>?_
 replace h3:=hid h3
 clear d0 d1 d2 d3 e0 e1 e2 e3
 have hB:=hid h3.out.rot3
 obtain⟨⟨c0,c1,c2,c3⟩,f0,f1,f2,f3⟩:=box4 hB.out.blk
 obtain⟨⟨d0,d1,d2,d3⟩,e0,e1,e2,e3⟩:=box4 h3.out.swap.blk
 simp only[Inst.none]at c0 c1 c2 c3 d0 d1 d2 d3 f0 f1 f2 f3
 have hlt:w.heap.size<w2.heap.size:=h1.out.swap.blk.lt
 go_wp2
 refine bodyPost_ret (v:= .tuple #[Inst.v ⟨2,arg,lit,2⟩,.int .i64 _]) (by simp[results,results193,go_sem,c0,c1,c2,c3,Inst.v]) rfl ⟨rfl,?_⟩
 exact((h3.out.swap.set 2 _ |>.set 3 _).rot3.put4 ⟨2,arg,lit,2⟩).tail
set_option maxRecDepth 100000 in
theorem fetch_text_bad(h:At w0 w (ImgA g S::L))(m a v:Int)(hf:S.cellF m a false=0)(hv:S.cellV m a=v)(arg:Int)(hun:Code.unpack v= (19,arg,true))(ha0:0<=arg)(ha1:arg<36028797018963968)(f:Int)(txt:ByteArray)(hf2:S.textF m (a+8) arg=f)(hv2:S.text m (a+8) arg=txt)(hff:f=5∨f=19):
 Calls prog 193 #[g,m,a] w (Got1 (.tuple #[Inst.none.v,f]) (ImgA g S) w0 L):=by
 have hb:=h.box Inst.none.c 293
 have hc:=a_cell hb.swap m a
 rw[hf,hv]at hc
 replace hc:=hid hc
 obtain⟨gb0,hrep⟩:=ImgA.rep h
 obtain⟨q1,q2⟩:=cellF_in hrep.ok hf
 clear hf hv hb h hrep
 have hu:=λw=>unpack_walk v w
 rw[hun]at hu
 replace hu:=hid hu
 clear hun
 rcases hff with rfl|rfl
 all_goals
  go_enter func193,ntmps193
  go_wp2_with fail
  refine mo hc.out λw1 h1=>?_
  replace h1:=hid h1
  go_wp2_with fail
  refine(hu.out w1).mono ?_
  rintro e w2 ⟨rfl,rfl⟩
  have hX:At w0 (w2.alloc (.cells #[(19:Int),arg,(0:Int),(1:Int)] 293)) (BlkA w2.heap.size 293 (Inst.c ⟨19,arg,0,1⟩)::_):=h1.out.box (Inst.c ⟨19,arg,0,1⟩) 293
  replace hX:=hid hX
  have hc2:=a_text hX.out.swap m (a+8) arg oM
  rw[hv2,hf2]at hc2
  replace hc2:=hid hc2
  obtain⟨⟨d0,d1,d2,d3⟩,e0,e1,e2,e3⟩:=box4 hX.out.blk
  dsimp only at d0 d1 d2 d3 e0 e1 e2 e3
  go_wp2_with fail
  refine mo hc2.out λw3 hw3=>?_
  have h3:At w0 w3 (ImgA g S::BlkA w2.heap.size 293 (Inst.c ⟨19,arg,0,1⟩)::BlkA w.heap.size 293 Inst.none.c::L):=by rw[hw3];exact hX.out.swap
  replace h3:=hid h3
  clear hw3
  clear d0 d1 d2 d3 e0 e1 e2 e3
  have hB:=hid h3.out.rot3
  obtain⟨⟨c0,c1,c2,c3⟩,f0,f1,f2,f3⟩:=box4 hB.out.blk
  obtain⟨⟨d0,d1,d2,d3⟩,e0,e1,e2,e3⟩:=box4 h3.out.swap.blk
  simp only[Inst.none]at c0 c1 c2 c3 d0 d1 d2 d3 f0 f1 f2 f3
  have hlt:w.heap.size<w2.heap.size:=h1.out.swap.blk.lt
  go_wp2
  refine bodyPost_ret (v:= .tuple #[Inst.v Inst.none,.int .i64 _]) (by simp[results,results193,go_sem,c0,c1,c2,c3,Inst.v,Inst.none]) rfl ⟨rfl,?_⟩
  exact((h3.out.swap.set 3 _).rot3.put4 Inst.none).tail
set_option maxRecDepth 100000 in
theorem fetch_text_ok(h:At w0 w (ImgA g S::L))(m a v:Int)(hf:S.cellF m a false=0)(hv:S.cellV m a=v)(arg:Int)(hun:Code.unpack v= (19,arg,true))(ha0:0<=arg)(ha1:arg<36028797018963968)(f:Int)(txt:ByteArray)(hf2:S.textF m (a+8) arg=f)(hv2:S.text m (a+8) arg=txt)(hff:f=0):
 Calls prog 193 #[g,m,a] w (Got1 (.tuple #[Inst.v ⟨19,arg,0,1+ (arg+7) /8⟩,(0:Int)]) (ImgA g S) w0 L):=by
 have hb:=h.box Inst.none.c 293
 have hc:=a_cell hb.swap m a
 rw[hf,hv]at hc
 replace hc:=hid hc
 obtain⟨gb0,hrep⟩:=ImgA.rep h
 obtain⟨q1,q2⟩:=cellF_in hrep.ok hf
 clear hf hv hb h hrep
 have hu:=λw=>unpack_walk v w
 rw[hun]at hu
 replace hu:=hid hu
 clear hun
 subst hff
 go_enter func193,ntmps193
 go_wp2_with fail
 refine mo hc.out λw1 h1=>?_
 replace h1:=hid h1
 go_wp2_with fail
 refine(hu.out w1).mono ?_
 rintro e w2 ⟨rfl,rfl⟩
 have hX:At w0 (w2.alloc (.cells #[(19:Int),arg,(0:Int),(1:Int)] 293)) (BlkA w2.heap.size 293 (Inst.c ⟨19,arg,0,1⟩)::_):=h1.out.box (Inst.c ⟨19,arg,0,1⟩) 293
 replace hX:=hid hX
 have hc2:=a_text hX.out.swap m (a+8) arg oM
 rw[hv2,hf2]at hc2
 replace hc2:=hid hc2
 obtain⟨⟨d0,d1,d2,d3⟩,e0,e1,e2,e3⟩:=box4 hX.out.blk
 dsimp only at d0 d1 d2 d3 e0 e1 e2 e3
 go_wp2_with fail
 refine mo hc2.out λw3 hw3=>?_
 have h3:At w0 w3 (ImgA g S::BlkA w2.heap.size 293 (Inst.c ⟨19,arg,0,1⟩)::BlkA w.heap.size 293 Inst.none.c::L):=by rw[hw3];exact hX.out.swap
 replace h3:=hid h3
 clear hw3
 clear d0 d1 d2 d3 e0 e1 e2 e3
 have hB:=hid h3.out.rot3
 obtain⟨⟨c0,c1,c2,c3⟩,f0,f1,f2,f3⟩:=box4 hB.out.blk
 obtain⟨⟨d0,d1,d2,d3⟩,e0,e1,e2,e3⟩:=box4 h3.out.swap.blk
 simp only[Inst.none]at c0 c1 c2 c3 d0 d1 d2 d3 f0 f1 f2 f3
 have hlt:w.heap.size<w2.heap.size:=h1.out.swap.blk.lt
 go_wp2
 refine bodyPost_ret (v:= .tuple #[Inst.v ⟨19,arg,0,1+ (arg+7) /8⟩,.int .i64 _]) (by simp[results,results193,go_sem,c0,c1,c2,c3,Inst.v]) rfl ⟨rfl,?_⟩
 exact((h3.out.swap.set 3 _).rot3.put4 ⟨19,arg,0,1+ (arg+7) /8⟩).tail
theorem text_arg{arg:Int}(h:Code.right 19 arg=true):0<=arg∧arg<36028797018963968:=by
 rw[Code.right_iff]at h
 omega
theorem fetch_walk(h:At w0 w (ImgA g S::L))(m a:Int):
 Calls prog 193 #[g,m,a] w (Got1 (.tuple #[(S.fetch m a).1.v,.int .i64 (S.fetch m a).2]) (ImgA g S) w0 L):=by
 rcases cellF_cases S m a false with hf|hf|hf
 rotate_left
 ·have e:S.fetch m a= (Inst.none,5):=by unfold Img.fetch;simp[hf]
  rw[e];exact fetch_bad h m a 5 hf (.inl rfl)
 ·have e:S.fetch m a= (Inst.none,6):=by unfold Img.fetch;simp[hf]
  rw[e];exact fetch_bad h m a 6 hf (.inr rfl)
 obtain⟨v,hv⟩: ∃v,S.cellV m a=v:=⟨_,rfl⟩
 rcases Code.pack_unpack v with⟨op,arg,hun,hr,_⟩ |hun
 rotate_left
 ·have e:S.fetch m a= (Inst.none,14):=by unfold Img.fetch;simp[hf,hv,hun]
  rw[e];exact fetch_none h m a v hf hv hun
 by_cases h2:op=2
 ·subst h2
  obtain⟨lit,hl⟩: ∃x,S.cellV m (a+8)=x:=⟨_,rfl⟩
  rcases cellF_cases S m (a+8) false with hf2|hf2|hf2
  ·have e:S.fetch m a= (⟨2,arg,lit,2⟩,0):=by unfold Img.fetch;simp[hf,hv,hun,hf2,hl]
   rw[e];exact fetch_lit_ok h m a v hf hv arg hun lit 0 hf2 hl rfl
  ·have e:S.fetch m a= (Inst.none,5):=by unfold Img.fetch;simp[hf,hv,hun,hf2]
   rw[e];exact fetch_lit_bad h m a v hf hv arg hun lit 5 hf2 hl (.inl rfl)
  ·have e:S.fetch m a= (Inst.none,6):=by unfold Img.fetch;simp[hf,hv,hun,hf2]
   rw[e];exact fetch_lit_bad h m a v hf hv arg hun lit 6 hf2 hl (.inr rfl)
 by_cases h19:op=19
 ·subst h19
  obtain⟨b1,b2⟩:=text_arg hr
  obtain⟨txt,hl⟩: ∃x,S.text m (a+8) arg=x:=⟨_,rfl⟩
  rcases textF_cases S m (a+8) arg with hf2|hf2|hf2
  ·have e:S.fetch m a= (⟨19,arg,0,1+ (arg+7) /8⟩,0):=by unfold Img.fetch;simp[hf,hv,hun,hf2]
   rw[e];exact fetch_text_ok h m a v hf hv arg hun b1 b2 0 txt hf2 hl rfl
  ·have e:S.fetch m a= (Inst.none,5):=by unfold Img.fetch;simp[hf,hv,hun,hf2]
   rw[e];exact fetch_text_bad h m a v hf hv arg hun b1 b2 5 txt hf2 hl (.inl rfl)
  ·have e:S.fetch m a= (Inst.none,19):=by unfold Img.fetch;simp[hf,hv,hun,hf2]
   rw[e];exact fetch_text_bad h m a v hf hv arg hun b1 b2 19 txt hf2 hl (.inr rfl)
 have e:S.fetch m a= (⟨op,arg,0,1⟩,0):=by unfold Img.fetch;simp[hf,hv,hun,h2,h19]
 rw[e];exact fetch_other h m a v hf hv op arg hun (by simpa using h2) (by simpa using h19)
end
open Go.RowKit Go.Lib
namespace Vm
structure Stp where
 at_:Int
 op:Int
 dep:Int
 top:Int
 fuel:Int
structure Ext where
 text:ByteArray
 at_:Nat
def Ext.zero:Ext:=⟨⟨#[]⟩,0⟩
structure Mt where
 S:Img
 pd:Pl
 pr:Pl
 d:Nat
 r:Nat
 T:Caps.Tab
 hs:Int
 ls:Int
 hk:Int
 lk:Int
 fault:Int
 used:Int
 hidden:Int
 tells:Bool
 seen:List Stp
 ext:Ext
structure Rn where
 mode:Int
 left:Int
 pc:Int
 next:Int
 over:Bool
 asked:Bool
 base:Int
namespace Mt
variable (s:Mt)
def top(n:Int):Int:=stopv s.S s.pd.fr s.d n
def rtop(n:Int):Int:=stopv s.S s.pr.fr s.r n
def args(n:Nat):List Int:=(List.range n).map λj=>s.top ((n-1-j:Nat):Int)
def pushD(l:List Int):Mt:={ s with S:=spush s.S s.pd.fr s.d l,d:=s.d+l.length }
def pushR(l:List Int):Mt:={ s with S:=spush s.S s.pr.fr s.r l,r:=s.r+l.length }
def cutD(n:Nat):Mt:={ s with d:=n }
def cutR(n:Nat):Mt:={ s with r:=n }
def pokeR(n:Nat)(v:Int):Mt:={ s with S:=sset s.S s.pr.fr (s.r-1-n) v }
def lays(n:Nat)(l:List Int):Int×Mt:=
 if s.pd.rm- (s.d-n) <l.length then(2,s.cutD (s.d-n))else(0,(s.cutD (s.d-n)).pushD l)
end Mt
def returns(op arg:Int)(same:Bool):Int×Int:=
 if op=1∨op=14∨op=18 then(1,0)
 else if op=17 then(if arg=0 then(1,0)else(0,0))
 else if op=3∨op=16∨op=13 then(0,1)
 else if op=7 then(if same then(0,0)else(0,2))
 else if op=6 then(0,2)
 else if op=10 then(2,0)
 else if op=8∨op=9∨op=11 then(2,2)
 else if op=12 then(4,4)
 else if op=15 then(1,1)
 else(0,0)
def needs(op:Int):Int:=
 if 78<=op∧op<=82 then 1
 else if op=83∨op=84 then 2
 else if op=87 then 4
 else if 87<op∧op<=93 then 8
 else if 100<=op∧op<=104 then 16
 else 0
def Mt.same(s:Mt):Bool:=s.top 0==s.top 1
def asks(i:Inst)(x:Rn)(s:Mt):Int:=
 if(s.d:Int) < (Code.wants i.op).1 then 1
 else if(s.r:Int) -x.base< (returns i.op i.arg s.same).1 then 3
 else if(s.pd.rm:Int) <s.d- (Code.wants i.op).1+ (if i.op=26∧s.top 0=0 then(Code.wants i.op).1 else(Code.wants i.op).2)then 2
 else if(s.pr.rm:Int) <s.r- (returns i.op i.arg s.same).1+ (returns i.op i.arg s.same).2 then 4
 else if needs i.op≠0∧Caps.has s.T.pupil x.mode (needs i.op)=false then 11
 else 0
structure Rs where
 f:Int
 x:Rn
 s:Mt
def back(x:Rn)(s:Mt):Rs:=
 if s.r=0 then⟨3,x,s⟩else⟨0,{ x with next:=s.rtop 0,over:=s.rtop 0==0 },{ s with r:=s.r-1 }⟩
def laysR(n:Nat)(l:List Int)(x:Rn)(s:Mt):Rs:=⟨(s.lays n l).1,x,(s.lays n l).2⟩
def turn(n:Int)(ends:Bool)(at_:Int)(x:Rn)(s:Mt):Rs:=
 if ends then⟨0,x,s.cutR (s.r-2)⟩else⟨0,{ x with next:=at_ },s.pokeR 0 n⟩
def Mt.told(s:Mt)(x:Rn)(op:Int):Mt:=if s.tells then { s with seen:=s.seen ++ [⟨x.pc,op,s.d,s.top 0,x.left⟩] } else s
end Vm
end Go.Proofs.YteaijdgnagkllaaGreatDoor
