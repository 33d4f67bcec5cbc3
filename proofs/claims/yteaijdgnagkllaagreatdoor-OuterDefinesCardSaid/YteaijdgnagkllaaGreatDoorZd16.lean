/- Chapter 4: the program's stacks in memory. Conditions: as written. -/
import Derived.Test.YteaijdgnagkllaaGreatDoorZd15
import Derived.Deep.LoopGhost
open Go.Proofs.Tryz
namespace Go.Proofs.YteaijdgnagkllaaGreatDoor
set_option linter.unusedVariables false
set_option linter.unusedSimpArgs false
set_option maxHeartbeats 8000000
set_option maxRecDepth 100000
open Go.RowKit Go.Lib Go.Deep
namespace Vm
def stkC(gI:Nat)(p:Pl)(d:Nat):Array Value:=#[gI,(p.fr:Int),(p.rm:Int),(d:Int),p.un,p.ov]
def StkA(gI g:Nat)(p:Pl)(d:Nat):Asr:=BlkA g 110 (stkC gI p d)
def Quiet(v:Value)(w:World)(e:Ending)(w':World):Prop:=e = .returned v∧Below w.heap.size w w'
def V64(v:Int):Prop:= -9223372036854775808<=v∧v<=9223372036854775807
theorem On.img{F:Nat->Prop}{w w':World}{L:List Asr}{g:Nat}{S:Img}(i:Nat)(h:On F w (AllA L) w')(hA:L[i]? = some (ImgA g S)): ∃gb,IRep w' g gb S:=by
 obtain⟨F',gb,hr,_⟩:=h.at_ i hA
 exact⟨gb,hr⟩
theorem g_setCell{w:World}{F:Nat->Prop}{g:Nat}{S:Img}(hb: (ImgA g S).holds w F)(m a v:Int)(hv:V64 v):Calls prog 36 #[g,m,a,v] w (Got (.returned (S.cellF m a true)) (ImgA g (S.setCell m a v)) F w):=
 got_of_at hb λw0 L h=>a_setCell h m a v hv
section
variable {w:World}{F:Nat->Prop}{g gI gb:Nat}{p:Pl}{d:Nat}{S:Img}
theorem k_depth(hs:Blk w g 110 (stkC gI p d)):Calls prog 158 #[g] w (Same (d:Int) w):=by
 have c3:w.cell? (g,3)=some ((d:Int):Vl):=hs.cell 3
 clear hs
 go_enter func158,ntmps158
 go_wp2
 go_ret
 exact⟨rfl,rfl⟩
theorem k_room(hs:Blk w g 110 (stkC gI p d)):Calls prog 157 #[g] w (Same (p.rm:Int) w):=by
 have c3:w.cell? (g,2)=some ((p.rm:Int):Vl):=hs.cell 2
 clear hs
 go_enter func157,ntmps157
 go_wp2
 go_ret
 exact⟨rfl,rfl⟩
def hasB(d:Nat)(n:Int):Bool:=decide (0<=n) &&decide (n< (d:Int))
theorem k_has(hs:Blk w g 110 (stkC gI p d))(n:Int):Calls prog 204 #[g,n] w (Same (.bool (hasB d n)) w):=by
 have c3:w.cell? (g,3)=some ((d:Int):Vl):=hs.cell 3
 clear hs
 obtain⟨b,hb⟩: ∃b,hasB d n=b:=⟨_,rfl⟩
 rw[hb]
 by_cases h0:0<=n
 ·by_cases h1:n< (d:Int)
  ·have e:b=true:=by rw[<-hb];simp[hasB,h0,h1]
   subst e
   clear hb
   go_enter func204,ntmps204
   go_wp2
   go_ret
   exact⟨rfl,rfl⟩
  ·have e:b=false:=by rw[<-hb];simp[hasB,h0,h1]
   subst e
   clear hb
   go_enter func204,ntmps204
   go_wp2
   go_ret
   exact⟨rfl,rfl⟩
 ·have e:b=false:=by rw[<-hb];simp[hasB,h0]
  subst e
  clear hb
  go_enter func204,ntmps204
  go_wp2
  go_ret
  exact⟨rfl,rfl⟩
theorem wr8(fr i:Nat)(h1:fr<=143360)(hn:i<=17920):IntKind.i64.wrap ((fr:Int) +IntKind.i64.wrap (8* (i:Int)))= (fr:Int) +8* (i:Int):=by
 rw[IntWalk.i64_in (8* (i:Int)) oM,IntWalk.i64_in _ oM]
theorem k_get(hs:Blk w g 110 (stkC gI p d))(hi:IRep w gI gb S)(hp:p.Ok)(i:Nat)(hn:i<=17920):
 Calls prog 46 #[g,(i:Int)] w (Quiet (sget S p.fr i) w):=by
 have c0:w.cell? (g,0)=some (gI:Vl):=hs.cell 0
 have c1:w.cell? (g,1)=some ((p.fr:Int):Vl):=hs.cell 1
 have hlt:=hs.lt
 have hc:Calls prog 79 #[gI,(0:Int),((p.fr:Int) +8* (i:Int):Int)] w.drew λe w'=>e = .returned (.tuple #[(sget S p.fr i),(S.cellF 0 ((p.fr:Int) +8* (i:Int)) false)])∧Below w.drew.heap.size w.drew w':=
  i_cell (w:=w.drew) ⟨hi.blk,hi.row,hi.ok⟩ 0 ((p.fr:Int) +8* (i:Int))
 rw[<-wr8 p.fr i hp.fr hn]at hc
 generalize sget S p.fr i=v at *
 generalize S.cellF 0 _ false=f at *
 generalize p.fr=fr at *
 replace hc:=hid hc
 clear hs hi hp
 go_enter func46,ntmps46
 go_wp2_with fail
 go_region_held (λw'=>w'.cell? (g,0)=some (gI:Vl)∧w'.cell? (g,1)=some ((fr:Int):Vl)) (go_keep)
  ((go_at_call 79;refine mo hc.out λw1 h=>?_;have m0:=(h.cell (p:=⟨g,0,none⟩) hlt).trans c0;have m1:=(h.cell (p:=⟨g,1,none⟩) hlt).trans c1;replace h:=hid h))
 go_wp2
 go_ret
 exact⟨rfl,(Below.refl _ _).drew.trans h.out⟩
theorem k_peek_yes(hs:Blk w g 110 (stkC gI p d))(hi:IRep w gI gb S)(hp:p.Ok)(hd:d<=17920)(n:Nat)(hn:n<d):
 Calls prog 183 #[g,(n:Int)] w (Quiet (.tuple #[(sget S p.fr (d-1-n)),(0:Int)]) w):=by
 have c3:w.cell? (g,3)=some ((d:Int):Vl):=hs.cell 3
 have hh:=k_has hs (n:Int)
 have e:hasB d (n:Int)=true:=by simp[hasB];omega
 rw[e]at hh
 have hg:=k_get hs hi hp (d-1-n) oM
 rw[show((d-1-n:Nat):Int)= (d:Int) -1- (n:Int)by omega]at hg
 generalize sget S p.fr (d-1-n)=v at *
 clear hs hi e
 replace hh:=hid hh
 replace hg:=hid hg
 go_enter func183,ntmps183
 go_wp2_with fail
 refine hh.out.mono ?_
 rintro e w1 ⟨rfl,rfl⟩
 go_wp2_with fail
 refine mo hg.out λw1 h=>?_
 replace h:=hid h
 go_wp2
 go_ret2
 exact⟨rfl,h.out⟩
theorem k_peek_no(hs:Blk w g 110 (stkC gI p d))(n:Int)(hn:hasB d n=false):
 Calls prog 183 #[g,n] w (Quiet (.tuple #[(0:Int),p.un]) w):=by
 have c4:w.cell? (g,4)=some (p.un:Vl):=hs.cell 4
 have hh:=k_has hs n
 rw[hn]at hh
 clear hs hn
 replace hh:=hid hh
 go_enter func183,ntmps183
 go_wp2_with fail
 refine hh.out.mono ?_
 rintro e w1 ⟨rfl,rfl⟩
 go_wp2_with fail
 go_quiet (fail)
 go_wp2
 go_ret2
 exact⟨rfl,(Kept.refl Nob _).drewN _ |>.below0⟩
def peekV(S:Img)(p:Pl)(d:Nat)(n:Int):Value:= .tuple #[(stopv S p.fr d n),(if hasB d n then 0 else p.un:Int)]
theorem k_peek(hs:Blk w g 110 (stkC gI p d))(hi:IRep w gI gb S)(hp:p.Ok)(hd:d<=17920)(n:Int):
 Calls prog 183 #[g,n] w (Quiet (peekV S p d n) w):=by
 unfold peekV stopv
 rcases hb:hasB d n with _|_
 ·have h1:=hb
  unfold hasB at h1
  rw[if_neg (by simp at h1;omega)]
  exact k_peek_no hs n hb
 ·have h1:=hb
  unfold hasB at h1
  simp at h1
  rw[if_pos oM]
  have h2:=k_peek_yes hs hi hp hd n.toNat oM
  rw[show((n.toNat:Nat):Int)=n by omega]at h2
  exact h2
theorem On.stk{L:List Asr}{w':World}(i:Nat)(h:On F w (AllA L) w')(hA:L[i]? = some (StkA gI g p d)):Blk w' g 110 (stkC gI p d):=h.blkAt i hA
theorem k_set(hb: (AllA [StkA gI g p d,ImgA gI S]).holds w F)(hp:p.Ok)(i:Nat)(hi:i<=17920)(v:Int)(hv:V64 v):
 Calls prog 164 #[g,(i:Int),v] w (Got (.returned (.tuple #[])) (AllA [StkA gI g p d,ImgA gI (sset S p.fr i v)]) F w):=by
 have hon:=On.refl hb
 have hs:=hon.stk 0 rfl
 have c0:w.cell? (g,0)=some (gI:Vl):=hs.cell 0
 have c1:w.cell? (g,1)=some ((p.fr:Int):Vl):=hs.cell 1
 have hc:=(hon.drew).callAtG 1 rfl (λF' ha=>g_setCell ha 0 ((p.fr:Int) +8* (i:Int)) v hv)
 have hr:sset S p.fr i v=S.setCell 0 ((p.fr:Int) +8* (i:Int)) v:=rfl
 rw[<-hr]at hc
 generalize sset S p.fr i v=S' at *
 generalize S.cellF 0 ((p.fr:Int) +8* (i:Int)) true=f at *
 rw[<-wr8 p.fr i hp.fr hi]at hc
 replace hc:=hid hc
 clear hs hp hb hon hr hv
 go_enter func164,ntmps164
 go_wp2_with fail
 go_region_held (λw'=>w'.cell? (g,0)=some (gI:Vl)∧w'.cell? (g,1)=some ((p.fr:Int):Vl)) (go_keep)
  ((go_at_call 36;refine mo hc.out λw1 h=>?_;have hs1:=h.stk 0 rfl;have m0:w1.cell? (g,0)=some (gI:Vl):=hs1.cell 0;have m1:w1.cell? (g,1)=some ((p.fr:Int):Vl):=hs1.cell 1;replace h:=hid h))
 go_wp2
 go_end0
 exact⟨rfl,h.out⟩
end
def Ints(w:World)(A:Option Addr)(l:List Int):Prop:= ∀j x,l[j]? = some x->∃a,A=some a∧w.cell? (a.add j)=some (.int .i64 x)
def Far(F:Nat->Prop)(A:Option Addr):Prop:= ∀a,A=some a->¬F a.block
theorem On.ints{F:Nat->Prop}{w w':World}{X:Asr}{A:Option Addr}{l:List Int}(h:On F w X w')(hi:Ints w A l)(hf:Far F A):Ints w' A l:=by
 intro j x hj
 obtain⟨a,rfl,hc⟩:=hi j x hj
 exact⟨a,rfl,h.cellOut hc (by unfold Addr.add;split<;>exact hf a rfl)⟩
section
variable {w:World}{F:Nat->Prop}{g gI gb:Nat}{p:Pl}{d:Nat}{S:Img}
theorem push_deferred(bs bv:Nat)(A:Option Addr)(n cap:Nat)(u:FrameMode)(hs:Blk w g 110 (stkC gI p d))(hn:n<=100000)(hd:d<=17920)
 (h1:w.cell? (bs,0)=some (g:Vl)) (h2:w.cell? (bv,0)=some (.slice A n cap)):
 CallsD prog 163 #[bs,bv] u w λe u' w'=>u'=u∧e = .returned (.tuple #[])∧w'= (w.setCell (g,3) (.int .i64 ((d:Int) + (n:Int)))).drew:=by
 have c3:w.cell? (g,3)=some ((d:Int):Vl):=hs.cell 3
 have f3:=hs.frozen 3
 clear hs
 go_enter_d func163,ntmps163
 go_region
 all_goals go_wp2
 all_goals go_end0
 all_goals exact⟨rfl,rfl⟩
theorem stkC_set(gI:Nat)(p:Pl)(d:Nat)(n:Int)(m:Nat)(h:n= (m:Int)): (stkC gI p d).setIfInBounds 3 (.int .i64 n)=stkC gI p m:=by subst h;rfl
theorem ints_at{w:World}{A:Option Addr}{l:List Int}(hi:Ints w A l)(j:Nat)(hj:j<l.length): ∃a,A=some a∧w.cell? (a.add j)=some ((l.getD j 0):Vl):=by
 obtain⟨a,h1,h2⟩:=hi j (l.getD j 0) (by rw[List.getD_eq_getElem?_getD,List.getElem?_eq_getElem hj];rfl)
 exact⟨a,h1,h2⟩
theorem spush_take(S:Img)(fr d:Nat)(l:List Int)(j:Nat)(hj:j<l.length):sset (spush S fr d (l.take j)) fr (d+j) (l.getD j 0)=spush S fr d (l.take (j+1)):=by
 have e:l.take (j+1)=l.take j ++ [l.getD j 0]:=by
  rw[List.take_succ_eq_append_getElem hj,List.getD_eq_getElem?_getD,List.getElem?_eq_getElem hj]
  rfl
 rw[e,spush_snoc,List.length_take,Nat.min_eq_left oM]
theorem k_push_yes(hb: (AllA [StkA gI g p d,ImgA gI S]).holds w F)(hp:p.Ok)(l:List Int)(hl: ∀x∈l,V64 x)(A:Option Addr)(cap:Nat)(hi:Ints w A l)(hf:Far F A)(hd:d<=p.rm)(hroom:l.length<=p.rm-d):
 Calls prog 113 #[g,.slice A l.length cap] w (Got (.returned (.int .i64 0)) (AllA [StkA gI g p (d+l.length),ImgA gI (spush S p.fr d l)]) F w):=by
 have hon:=On.refl hb
 have hs:=hon.stk 0 rfl
 have c2:w.cell? (g,2)=some ((p.rm:Int):Vl):=hs.cell 2
 have c3:w.cell? (g,3)=some ((d:Int):Vl):=hs.cell 3
 have h1:=hp.rm
 have hlt:=hs.lt
 have hgt:decide ((p.rm:Int) - (d:Int) < (l.length:Int))=false:=decide_eq_false oM
 have hon2:=(hon.box #[g] 51).box #[.slice A l.length cap] 50
 have hz: (w.alloc (Obj.cells #[g] 51)).heap.size=w.heap.size+1:=by simp
 rw[hz]at hon2
 have hmf: ∀(fn:Fn) (first cap:Array Value) (w:World),(Instr.makeFunc fn first cap).run prog w = .ok (.func fn first cap) w:=λ_ _ _ _=>rfl
 replace hon:=hid hon
 replace hon2:=hid hon2
 replace hi:=hid hi
 replace hf:=hid hf
 replace hl:=hid hl
 replace hp:=hid hp
 clear hs hb hz
 go_enter_defers func113,ntmps113
 go_wp2
 go_quiet (fail)
 go_wp2
 go_loopg [29] l.length (λk t wr=> ∃j:Nat,j+k=l.length∧t = .int .i64 (j:Int)∧On F w (AllA [BlkA (w.heap.size+1) 50 #[.slice A l.length cap],BlkA w.heap.size 51 #[g],StkA gI g p d,ImgA gI (spush S p.fr d (l.take j))]) wr)
 case atStart=>exact⟨0,by omega,rfl,(hon2.out).drewN _⟩
 case round=>
  obtain⟨j,hj,rfl,honj⟩:=hrel
  have b0:wr.cell? (w.heap.size,0)=some (g:Vl):=(honj.blkAt 1 rfl).cell 0
  have b1:wr.cell? ⟨w.heap.size+1,0,none⟩=some (.slice A l.length cap):=(honj.blkAt 0 rfl).cell 0
  have m3:wr.cell? (g,3)=some ((d:Int):Vl):=(honj.stk 2 rfl).cell 3
  by_cases hjl:j<l.length
  ·obtain⟨a,rfl,hc⟩:=ints_at hi.out j hjl
   have hc':wr.cell? (a.add j)=some ((l.getD j 0):Vl):=honj.cellOut hc (by unfold Addr.add;split<;>exact hf.out a rfl)
   have hset:=honj.callAt2G 2 3 (by decide) rfl rfl (λF' ha=>k_set ha hp.out (d+j) oM (l.getD j 0) (hl.out _ (by rw[List.getD_eq_getElem?_getD,List.getElem?_eq_getElem hjl];exact List.getElem_mem hjl)))
   rw[spush_take S p.fr d l j hjl]at hset
   rw[show(((d+j:Nat)):Int)= (d:Int) + (j:Int)by omega]at hset
   generalize l.getD j 0=x at *
   replace hset:=hid hset
   replace honj:=hid honj
   clear hc
   go_wp2_with fail
   refine mo hset.out λw1 h=>?_
   replace h:=hid h
   go_wp2
   go_roundg (gk-1)
   case measure=>omega
   case rel=>exact⟨j+1,by omega,by go_num,h.out⟩
  ·have hjl':j=l.length:=by omega
   subst hjl'
   have hdec:decide ((l.length:Int) < (l.length:Int))=false:=by simp
   have e1:spush S p.fr d (l.take l.length)=spush S p.fr d l:=by rw[List.take_length]
   rw[e1]at honj
   have hst:=honj.stk 2 rfl
   have hfin:=((honj.setAt 2 rfl 3 (.int .i64 ((d:Int) + (l.length:Int)))).tail).tail
   have hst2:=stkC_set gI p d ((d:Int) + (l.length:Int)) (d+l.length) oM
   replace honj:=hid honj
   replace hst:=hid hst
   replace hst2:=hid hst2
   replace hfin:=hid hfin
   replace e1:=hid e1
   go_wp2
   refine leaves_cons (f:=163) (args:=#[w.heap.size,.pointer (some ⟨w.heap.size+1,0,none⟩)]) (by simp) (by simp[go_sem]) ?_
   refine(push_deferred w.heap.size (w.heap.size+1) A l.length cap .returning hst.out oM oM b0 b1).mono ?_
   rintro e u' w'' ⟨rfl,rfl,rfl⟩
   refine⟨_,results_tmp rfl _ _ _,rfl,?_⟩
   have h3:=hfin.out.drew
   rw[hst2.out]at h3
   exact h3
theorem k_poke(hb: (AllA [StkA gI g p d,ImgA gI S]).holds w F)(hp:p.Ok)(n:Nat)(hn:n<d)(hd:d<=p.rm)(v:Int)(hv:V64 v):
 Calls prog 280 #[g,(n:Int),v] w (Got (.returned (.int .i64 0)) (AllA [StkA gI g p d,ImgA gI (sset S p.fr (d-1-n) v)]) F w):=by
 have hon:=On.refl hb
 have hs:=hon.stk 0 rfl
 have c3:w.cell? (g,3)=some ((d:Int):Vl):=hs.cell 3
 have h1:=hp.rm
 have hh:=k_has hs (n:Int)
 have e:hasB d (n:Int)=true:=by simp[hasB];omega
 rw[e]at hh
 have hset:=k_set hb hp (d-1-n) oM v hv
 rw[show((d-1-n:Nat):Int)= (d:Int) -1- (n:Int)by omega]at hset
 generalize sset S p.fr (d-1-n) v=S' at *
 replace hset:=hid hset
 replace hh:=hid hh
 clear hs hb hon e hv
 go_enter func280,ntmps280
 go_wp2_with fail
 refine hh.out.mono ?_
 rintro e w1 ⟨rfl,rfl⟩
 go_wp2_with fail
 refine mo hset.out λw2 h=>?_
 replace h:=hid h
 go_wp2
 go_ret
 exact⟨rfl,h.out⟩
theorem k_pop(hb: (AllA [StkA gI g p d,ImgA gI S]).holds w F)(hp:p.Ok)(h0:0<d)(hd:d<=p.rm):
 Calls prog 151 #[g] w (Got (.returned (.tuple #[(sget S p.fr (d-1)),(0:Int)])) (AllA [StkA gI g p (d-1),ImgA gI S]) F w):=by
 have hon:=On.refl hb
 have h1:=hp.rm
 have hs:=hon.stk 0 rfl
 obtain⟨gb,hi⟩:=hon.img 1 rfl
 have hk:=k_peek_yes hs hi hp oM 0 h0
 rw[Nat.sub_zero]at hk
 generalize sget S p.fr (d-1)=v at *
 replace hk:=hid hk
 replace hon:=hid hon
 clear hs hb hi
 go_enter func151,ntmps151
 go_wp2_with fail
 refine mo hk.out λw1 h=>?_
 have hon1:=hon.out.below h
 have c3:w1.cell? (g,3)=some ((d:Int):Vl):=(hon1.stk 0 rfl).cell 3
 have f3:w1.frozen? (g,3)=false:=(hon1.stk 0 rfl).frozen 3
 have hfin:=hon1.setAt 0 rfl 3 (.int .i64 ((d:Int) -1))
 rw[stkC_set gI p d ((d:Int) -1) (d-1) oM]at hfin
 replace hfin:=hid hfin
 clear hon1 h
 go_wp2
 go_ret2
 exact⟨rfl,hfin.out⟩
theorem k_cut(hb: (AllA [StkA gI g p d,ImgA gI S]).holds w F)(hp:p.Ok)(n:Nat)(hn:n<=d)(hd:d<=p.rm):
 Calls prog 228 #[g,(n:Int)] w (Got (.returned (.bool true)) (AllA [StkA gI g p n,ImgA gI S]) F w):=by
 have hon:=On.refl hb
 have hs:=hon.stk 0 rfl
 have c2:w.cell? (g,2)=some ((p.rm:Int):Vl):=hs.cell 2
 have c3:w.cell? (g,3)=some ((d:Int):Vl):=hs.cell 3
 have f3:=hs.frozen 3
 have h1:=hp.rm
 have hn0:decide ((n:Int) <0)=false:=decide_eq_false oM
 have hgt:decide ((p.rm:Int) < (n:Int))=false:=decide_eq_false oM
 have hgt':decide (p.rm<n)=false:=decide_eq_false oM
 have hlt:decide ((d:Int) < (n:Int))=false:=decide_eq_false oM
 have hlt':decide (d<n)=false:=decide_eq_false oM
 have hfin:=hon.setAt 0 rfl 3 (.int .i64 (n:Int))
 rw[stkC_set gI p d (n:Int) n rfl]at hfin
 replace hfin:=hid hfin
 clear hs hb hon
 go_enter func228,ntmps228
 go_wp2
 go_loopg [5] 0 (λk t wr=>wr=w∧t = .int .i64 (d:Int))
 case atStart=>exact⟨rfl,rfl⟩
 case round=>
  obtain⟨rfl,rfl⟩:=hrel
  go_wp2
  go_ret
  exact⟨rfl,hfin.out⟩
end
theorem b_no(p:Value)(m a:Int)(w:World)(hrow:Calls prog 51 #[p,m,a,(1:Int),(1:Int)] w (Same (.tuple #[.slice none 0 0,.bool false]) w)):
 Calls prog 175 #[p,m,a] w (Same (.tuple #[.int .u8 0,(5:Int)]) w):=by
 replace hrow:=hid hrow
 go_enter func175,ntmps175
 go_wp2_with fail
 refine hrow.out.mono ?_
 rintro e w1 ⟨rfl,rfl⟩
 go_wp2
 go_ret2
 exact⟨rfl,rfl⟩
theorem b_yes(p:Value)(m:Int)(gb k:Nat)(b:Int)(w:World)(hrow:Calls prog 51 #[p,m,(k:Int),(1:Int),(1:Int)] w (Same (.tuple #[.slice (some ⟨gb,k,none⟩) 1 1,.bool true]) w))
 (hc:w.cell? (gb,k)=some (.int .u8 b)):
 Calls prog 175 #[p,m,(k:Int)] w (Same (.tuple #[.int .u8 b,(0:Int)]) w):=by
 replace hrow:=hid hrow
 go_enter func175,ntmps175
 go_wp2_with fail
 refine hrow.out.mono ?_
 rintro e w1 ⟨rfl,rfl⟩
 go_wp2
 go_ret2
 exact⟨rfl,rfl⟩
theorem sb_no(p:Value)(m a:Int)(b:Int)(w:World)(hrow:Calls prog 51 #[p,m,a,(1:Int),(2:Int)] w (Same (.tuple #[.slice none 0 0,.bool false]) w)):
 Calls prog 178 #[p,m,a,.int .u8 b] w (Same (.int .i64 5) w):=by
 replace hrow:=hid hrow
 go_enter func178,ntmps178
 go_wp2_with fail
 refine hrow.out.mono ?_
 rintro e w1 ⟨rfl,rfl⟩
 go_wp2
 go_ret
 exact⟨rfl,rfl⟩
theorem sb_yes(p:Value)(m:Int)(gb k:Nat)(b b0:Int)(w:World)(hrow:Calls prog 51 #[p,m,(k:Int),(1:Int),(2:Int)] w (Same (.tuple #[.slice (some ⟨gb,k,none⟩) 1 1,.bool true]) w))
 (hc:w.cell? (gb,k)=some (.int .u8 b0)) (hf:w.frozen? (gb,k)=false):
 Calls prog 178 #[p,m,(k:Int),.int .u8 b] w (Same (.int .i64 0) (w.setCell (gb,k) (.int .u8 b))):=by
 replace hrow:=hid hrow
 go_enter func178,ntmps178
 go_wp2_with fail
 refine hrow.out.mono ?_
 rintro e w1 ⟨rfl,rfl⟩
 go_wp2
 go_ret
 exact⟨rfl,rfl⟩
theorem i_byte{w:World}{g gb:Nat}{S:Img}(h:IRep w g gb S)(m a:Int):
 Calls prog 175 #[g,m,a] w (Same (.tuple #[.int .u8 ((S.byteV m a).toNat:Int),(S.byteF m a false)]) w):=by
 rcases i_row_of h m a 1 oM oM false with⟨hk,hrow⟩ | ⟨hk,k,rfl,hle,hrow⟩
 ·have e1:S.byteF m a false=5:=by unfold Img.byteF;simp[hk]
  have e2:S.byteV m a=0:=by unfold Img.byteV;simp[hk]
  rw[e1,e2]
  exact b_no _ m a w hrow
 ·have e1:S.byteF m (k:Int) false=0:=by unfold Img.byteF;simp[hk]
  have e2:S.byteV m (k:Int)=S.b.getD k 0:=by unfold Img.byteV;simp[hk]
  rw[e1,e2]
  exact b_yes _ m gb k _ w hrow (h.byte k oM)
theorem set_put(b:List UInt8)(k:Nat)(c:UInt8)(h:k<b.length): ((bcells b).toArray).setIfInBounds k (.int .u8 (c.toNat:Int))= (bcells (putL b k [c])).toArray:=by
 apply Array.ext'
 simp only[Array.toList_setIfInBounds]
 unfold putL bcells
 apply List.ext_getElem?
 intro i
 rw[List.getElem?_set]
 simp only[List.length_map,List.getElem?_map,List.getElem?_append,List.length_take]
 have h1:min k b.length=k:=by omega
 rw[h1]
 by_cases e:k=i
 ·subst e
  simp[h]
 ·rw[if_neg e]
  by_cases hlt:i<k
  ·rw[if_pos hlt,List.getElem?_take,if_pos hlt]
  ·rw[if_neg hlt]
   have h2:i-k≠0:=by omega
   simp only[List.length_cons,List.length_nil]
   rw[if_neg oM,List.getElem?_drop]
   congr 2
   omega
theorem g_setByte{w:World}{F:Nat->Prop}{g:Nat}{S:Img}(hb: (ImgA g S).holds w F)(m a:Int)(b:UInt8):Calls prog 178 #[g,m,a,.int .u8 (b.toNat:Int)] w (Got (.returned (S.byteF m a true)) (ImgA g (S.setByte m a b)) F w):=by
 obtain⟨gb,hr,hFk⟩:=hb
 rcases i_row_of hr m a 1 oM oM true with⟨hk,hrow⟩ | ⟨hk,k,rfl,hle,hrow⟩
 ·have e1:S.byteF m a true=5:=by unfold Img.byteF;simp[hk]
  have e2:S.setByte m a b=S:=by unfold Img.setByte;simp[hk]
  rw[e1,e2]
  refine(sb_no _ m a _ w hrow).mono ?_
  rintro e w1 ⟨rfl,rfl⟩
  exact⟨rfl,On.refl ⟨gb,hr,hFk⟩⟩
 ·have e1:S.byteF m (k:Int) true=0:=by unfold Img.byteF;simp[hk]
  have e2:S.setByte m (k:Int) b=S.put k [b]:=by unfold Img.setByte;simp[hk]
  rw[e1,e2]
  refine(sb_yes _ m gb k _ _ w hrow (hr.byte k oM) (hr.row.frozen k)).mono ?_
  rintro e w1 ⟨rfl,rfl⟩
  refine⟨rfl,F,⟨gb,⟨hr.blk.far (p:=⟨gb,k,none⟩) hr.ne _,?_,hr.ok.put k _ hle⟩,hFk⟩,(Kept.refl F w).setCell (p:=⟨gb,k,none⟩) (.inl ((hFk gb).2 (.inr rfl))) _,λ_ h=> .inl h⟩
  have h2:=hr.row.set_ k (.int .u8 (b.toNat:Int))
  rw[set_put S.b k b (by rw[hr.ok.len];omega)]at h2
  exact h2
end Vm
open Go.RowKit Go.Lib
namespace Vm
def symQ(a b:Int):Int:=wrap64 (a.tdiv b)
def symR(a b:Int):Int:=a.tmod b
def offQ(a b:Int):Bool:=decide (symR a b≠0) &&decide (bits .xor .i64 (symR a b) b<0)
def floQ(a b:Int):Int:=if offQ a b then wrap64 (symQ a b-1)else symQ a b
def floR(a b:Int):Int:=if offQ a b then wrap64 (symR a b+b)else symR a b
theorem symR_v64{a b:Int}(ha:V64 a)(hb:V64 b):V64 (symR a b):=by
 unfold symR
 have h1:=Int.natAbs_tmod a b
 have h2:a.natAbs % b.natAbs<=a.natAbs:=Nat.mod_le _ _
 have h3:0<=a->0<=a.tmod b:=Int.tmod_nonneg b
 have h4:a<=0->a.tmod b<=0:=λh=>by
  have h5:=Int.tmod_nonneg b (show 0<= -a by omega)
  rw[Int.neg_tmod]at h5
  omega
 generalize a.tmod b=m at *
 generalize a.natAbs % b.natAbs=k at *
 unfold V64 at *
 omega
theorem wrap_v64q(n:Int):V64 (wrap64 n):=by unfold V64 wrap64;omega
theorem floQ_v64(a b:Int):V64 (floQ a b):=by
 unfold floQ symQ
 split<;>exact wrap_v64q _
theorem floR_v64{a b:Int}(ha:V64 a)(hb:V64 b):V64 (floR a b):=by
 unfold floR
 split
 ·exact wrap_v64q _
 ·exact symR_v64 ha hb
def Drew(v:Value)(w:World)(e:Ending)(w':World):Prop:=e = .returned v∧∃n,w'=w.drewN n
theorem c_sym(a b:Int)(w:World):Calls prog 264 #[a,b] w (Drew (if b=0 then .tuple #[(0:Int),(0:Int),(7:Int)]else .tuple #[(symQ a b),(symR a b),(0:Int)]) w):=by
 by_cases hb:b=0
 ·subst hb
  rw[if_pos rfl]
  go_enter func264,ntmps264
  go_wp2
  exact bodyPost_ret (v:= .tuple #[(0:Int),(0:Int),(7:Int)]) (by simp[results,results264,go_sem]) rfl ⟨rfl,0,rfl⟩
 ·rw[if_neg hb]
  have e: (b==0)=false:=by simpa using hb
  unfold symQ symR
  go_enter func264,ntmps264
  go_wp2_with fail
  go_region
  all_goals go_wp2
  all_goals exact bodyPost_ret (v:= .tuple #[(wrap64 (a.tdiv b)),(a.tmod b),(0:Int)]) (by simp[results,results264,go_sem]) rfl ⟨rfl,1,rfl⟩
def floV(a b:Int):Value:=if b=0 then .tuple #[(0:Int),(0:Int),(7:Int)]else .tuple #[(floQ a b),(floR a b),(0:Int)]
theorem c_flo(a b:Int)(w:World):Calls prog 230 #[a,b] w (Drew (floV a b) w):=by
 have hs:=c_sym a b w
 unfold floV
 by_cases hb:b=0
 ·subst hb
  rw[if_pos rfl]at hs⊢
  replace hs:=hid hs
  go_enter func230,ntmps230
  go_wp2_with fail
  refine hs.out.mono ?_
  rintro e w1 ⟨rfl,n,rfl⟩
  simp only[]
  go_wp2
  exact bodyPost_ret (v:= .tuple #[(0:Int),(0:Int),(7:Int)]) (by simp[results,results230,go_sem]) rfl ⟨rfl,n,rfl⟩
 ·rw[if_neg hb]at hs⊢
  unfold floQ floR
  replace hs:=hid hs
  clear hb
  by_cases hr:symR a b=0
  ·have eo:offQ a b=false:=by unfold offQ;simp[hr]
   rw[eo]
   have t1: (symR a b != 0)=false:=by simpa using hr
   generalize symQ a b=Q at *
   generalize symR a b=R at *
   replace hr:=hid hr
   show Calls _ _ _ _ (Drew (.tuple #[Q,R,(0:Int)]) w)
   clear eo
   go_enter func230,ntmps230
   go_wp2_with fail
   refine hs.out.mono ?_
   rintro e w1 ⟨rfl,n,rfl⟩
   simp only[]
   go_wp2
   exact bodyPost_ret (v:= .tuple #[Q,R,(0:Int)]) (by simp[results,results230,go_sem]) rfl ⟨rfl,n,rfl⟩
  have t1: (symR a b != 0)=true:=by simpa using hr
  by_cases hx:bits .xor .i64 (symR a b) b<0
  ·have eo:offQ a b=true:=by unfold offQ;simp[hr,hx]
   rw[eo]
   have t2:decide (bits .xor .i64 (symR a b) b<0)=true:=decide_eq_true hx
   generalize symQ a b=Q at *
   generalize symR a b=R at *
   replace hr:=hid hr
   replace hx:=hid hx
   show Calls _ _ _ _ (Drew (.tuple #[(wrap64 (Q-1)),(wrap64 (R+b)),(0:Int)]) w)
   clear eo
   go_enter func230,ntmps230
   go_wp2_with fail
   refine hs.out.mono ?_
   rintro e w1 ⟨rfl,n,rfl⟩
   simp only[]
   go_wp2
   exact bodyPost_ret (v:= .tuple #[(wrap64 (Q-1)),(wrap64 (R+b)),(0:Int)]) (by simp[results,results230,go_sem]) rfl ⟨rfl,n,rfl⟩
  ·have eo:offQ a b=false:=by unfold offQ;simp[hx]
   rw[eo]
   have t2:decide (bits .xor .i64 (symR a b) b<0)=false:=decide_eq_false hx
   generalize symQ a b=Q at *
   generalize symR a b=R at *
   replace hr:=hid hr
   replace hx:=hid hx
   show Calls _ _ _ _ (Drew (.tuple #[Q,R,(0:Int)]) w)
   clear eo
   go_enter func230,ntmps230
   go_wp2_with fail
   refine hs.out.mono ?_
   rintro e w1 ⟨rfl,n,rfl⟩
   simp only[]
   go_wp2
   exact bodyPost_ret (v:= .tuple #[Q,R,(0:Int)]) (by simp[results,results230,go_sem]) rfl ⟨rfl,n,rfl⟩
end Vm
end Go.Proofs.YteaijdgnagkllaaGreatDoor
