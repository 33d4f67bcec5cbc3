/- Chapter 11. Conditions: as written. -/
import Derived.Test.YtilaogbkdbbdkaaGreatDoorOm
import Derived.Test.YtilaogbkdbbdkaaGreatDoorZ17
open Go.Proofs.Tryz
namespace Go.Proofs.YtilaogbkdbbdkaaGreatDoor
set_option linter.unusedVariables false
set_option maxHeartbeats 8000000
set_option maxRecDepth 100000
open Go.RowKit Go.Lib Go.Deep
namespace Vm
section
variable {w w':World}{F:Nat->Prop}{c:Vc}{g:Nat}{x:Rn}{src:Value}{s:Mt}
theorem On.C9(h:On F w (VA c g x src s) w')(n:Int):On F w (VA c g { x with next:=n } src s) (w'.setCell (g,4) (.int .i64 n)):=h.setAt 0 rfl 4 (.int .i64 n)
theorem On.ME(h:On F w (VA c g x src s) w')(b:Bool):On F w (VA c g { x with over:=b } src s) (w'.setCell (g,5) (.bool b)):=h.setAt 0 rfl 5 (.bool b)
theorem NS(h:On F w (VA c g x src s) w')(hs:s.Ok)(h0:0<s.r):Calls prog 187 #[c.gR] w' (Got (.returned (.tuple #[(s.bu 0),(0:Int)])) (VA c g x src { s with r:=s.r-1 }) F w):=by
 have e:s.bu 0=gv s.S s.pr.fr (s.r-1):=by unfold Mt.bu lc;rw[if_pos oM];rfl
 rw[e]
 exact h.cn 4 2 (by decide) rfl rfl λF' ha=>Ql ha hs.pr h0 hs.r
theorem BJ(hb: (VA c g x src s).holds w F)(hs:s.Ok)(h0:0<s.r):Calls prog 136 #[g] w (Got (.returned (.tuple #[])) (VA c g (back x s).x src (back x s).s) F w):=by
 have so:=On.refl hb
 have r0:=so.r0
 have m6:=so.m6
 have heO:=NS so hs h0
 have Rq:back x s= ⟨0,{ x with next:=s.bu 0,over:=s.bu 0==0 },{ s with r:=s.r-1 }⟩:=by unfold back;rw[if_neg oM]
 rw[Rq]
 generalize s.bu 0=a at *
 generalize ({ s with r:=s.r-1 }:Mt)=s2 at *
 replace heO:=hid heO
 clear hb hs Rq so h0
 go_enter func136,ntmps136
 go_wp2_with fail
 refine mo heO.out λw1 h=>?_
 have f4:=h.rf 4
 have f5:=h.rf 5
 have IS:=(h.C9 a).ME (a==0)
 replace IS:=hid IS
 have k0:=h.r0
 have hg:=h.r4
 have hg5:=h.r5
 clear h
 go_wp2_with fail
 refine(bL _).mono ?_
 rintro e w3 ⟨rfl,rfl⟩
 go_wp2
 go_end0
 exact⟨rfl,IS.out⟩
def kJ(s:Mt)(n k:Nat):Array Value:=((List.range n).map λj=>Value.int .i64 (if n-1-j<k then s.top ((n-1-j:Nat):Int)else 0)).toArray
theorem NC(s:Mt)(n:Nat):madeCells #[Value.int .i64 0] n=kJ s n 0:=by
 unfold kJ
 apply Array.ext'
 simp[madeCells,Nat.mod_one]
theorem Ju(s:Mt)(n k:Nat)(hk:k<n): ∃v,(kJ s n k)[n-1-k]? = some (v:Vl):=by
 unfold kJ
 simp[show n-1-k<n by omega]
theorem DD(s:Mt)(n k:Nat)(hk:k<n): (kJ s n k).setIfInBounds (n-1-k) (.int .i64 (s.top (k:Int)))=kJ s n (k+1):=by
 unfold kJ
 apply Array.ext'
 simp only[Array.toList_setIfInBounds]
 apply List.ext_getElem?
 intro i
 rw[List.getElem?_set]
 by_cases hi:i<n
 ·by_cases e:n-1-k=i
  ·subst e
   have e2:n-1- (n-1-k)=k:=by omega
   simp[show n-1-k<n by omega,e2]
  ·have e2: (n-1-i<k+1)↔(n-1-i<k):=by omega
   simp[hi,e,e2]
 ·simp[hi,show¬(n-1-k=i)by omega]
theorem Np(hb: (VA c g x src s).holds w F)(hs:s.Ok)(n:Nat)(hn:n<=8):
 Calls prog 101 #[g,(n:Int)] w (λe w'=>e = .returned (.slice w.heap.size n n)∧On F w (aa (ae w.heap.size 3 (kJ s n n)::vL c g x src s)) w'):=by
 have so:=On.refl hb
 have hmk:=run_make_row' (P:=prog) 23 3 (.int .i64 0) 8 underlying23 kR rfl .i64 .i64 n oM oM w
 rw[NC s n]at hmk
 have Ub:=so.box (kJ s n 0) 3
 have Rd:=so.rlt
 replace⟨so,Ub⟩:=iB so Ub
 clear hb
 go_enter func101,ntmps101
 go_wp2
 go_loopg [11] n (λk t wr=> ∃j:Nat,j+k=n∧t = .int .i64 (j:Int)∧On F w (aa (ae w.heap.size 3 (kJ s n j)::vL c g x src s)) wr)
 case atStart=>exact⟨0,by omega,rfl,Ub.out⟩
 case round=>
  obtain⟨j,hj,rfl,R5⟩:=hrel
  by_cases RQ:j<n
  ·have ht:=xd R5.tail hs (j:Int)
   have ON:=DD s n j RQ
   have Ui:IntKind.i64.wrap ((n:Int) -1- (j:Int))= ((n-1-j:Nat):Int):=by rw[IntWalk.i64_in _ oM];omega
   generalize s.top (j:Int)=v at *
   replace⟨ht,ON,R5⟩:=iC ht ON R5
   go_wp2_with fail
   refine mo ht.out λw1 Q9=>?_
   have M0:=R5.out.below Q9
   have SC:=M0.ab 0 rfl
   have ff:=SC.frozen (n-1-j)
   obtain⟨v0,cc⟩:=Ju s n j RQ
   replace cc:=(SC.cell (n-1-j)).trans cc
   have IS:=M0.setAt 0 rfl (n-1-j) (.int .i64 v)
   rw[ON.out]at IS
   replace⟨IS,M0⟩:=iB IS M0
   clear SC
   clear Q9
   go_wp2
   go_roundg (gk-1)
   case measure=>omega
   case rel=>exact⟨j+1,by omega,by go_num,IS.out⟩
  ·have YM:j=n:=by omega
   subst YM
   have X6:decide ((j:Int) < (j:Int))=false:=by simp
   replace R5:=hid R5
   go_wp2
   go_ret
   exact⟨rfl,R5.out⟩
theorem xn(s:Mt)(n:Nat):kJ s n n= ((s.args n).map (Value.int .i64)).toArray:=by
 unfold kJ Mt.args
 congr 1
 rw[List.map_map]
 apply List.map_congr_left
 intro j hj
 have:j<n:=by simpa using hj
 simp[show n-1-j<n by omega]
end
def Rk(gI g fr en:Nat)(D:Dc):Asr:=kD gI g fr en (D.h:Int) (D.l:Int)
structure At8(S:Img)(D:Dc)(fr en:Nat):Prop where
 ok:D.Ok S
 img:S.Ok
 fr:D.fr S=fr
 lim:D.lim S=en
theorem At8.le{S:Img}{D:Dc}{fr en:Nat}(h:At8 S D fr en):en<=143360:=by rw[<-h.lim];exact h.ok.le h.img
theorem At8.lo{S:Img}{D:Dc}{fr en:Nat}(h:At8 S D fr en):fr<=D.h∧D.h<=en:=by rw[<-h.lim,<-h.fr];exact⟨h.ok.lo,h.ok.hi⟩
theorem At8.next{S S':Img}{D D':Dc}{fr en:Nat}(h:At8 S D fr en)(hS:S'.Ok)(hD:D'.Ok S')(ha:Alike S S')(hr:D'.rg=D.rg):At8 S' D' fr en:=by
 refine⟨hD,hS,?_,?_⟩
 ·rw[<-h.fr]
  unfold Dc.fr
  rw[hr,ha.beg]
 ·rw[<-h.lim]
  unfold Dc.lim
  rw[hr,ha.beg]
section
variable {w:World}{F:Nat->Prop}{g gI fr en:Nat}{D:Dc}{S:Img}
theorem mJ(gI fr en:Nat)(h l n:Int): (cm gI fr en h l).setIfInBounds 3 (.int .i64 n)=cm gI fr en n l:=rfl
theorem O7(hb:Blk w g 123 (cm gI fr en (D.h:Int) (D.l:Int))):Calls prog 153 #[g] w (ax (D.h:Int) w):=by
 have c3:w.cell? (g,3)=some ((D.h:Int):Vl):=hb.cell 3
 clear hb
 go_enter func153,ntmps153
 go_wp2
 go_ret
 exact⟨rfl,rfl⟩
theorem Aa(hb: (aa [Rk gI g fr en D,av gI S]).holds w F)(h8:At8 S D fr en)(hf:en<D.h+8)(v:Int):
 Calls prog 83 #[g,v] w (Got (.returned (.int .i64 9)) (aa [Rk gI g fr en D,av gI S]) F w):=by
 have so:=On.refl hb
 have hs:Blk w g 123 (cm gI fr en (D.h:Int) (D.l:Int)):=so.ab 0 rfl
 have c2:w.cell? (g,2)=some ((en:Int):Vl):=hs.cell 2
 have c3:w.cell? (g,3)=some ((D.h:Int):Vl):=hs.cell 3
 have h1:=h8.le
 have h2:=h8.lo.2
 have ht:decide ((en:Int) -8< (D.h:Int))=true:=decide_eq_true oM
 replace so:=hid so
 clear hs hb h8
 go_enter func83,ntmps83
 go_wp2
 go_quiet (fail)
 go_wp2
 go_ret
 exact⟨rfl,so.out.drewN _⟩
theorem DB(hb: (aa [Rk gI g fr en D,av gI S]).holds w F)(h8:At8 S D fr en)(hf: ¬en<D.h+8)(v:Int)(hv:V64 v)(f:Int)(hF:S.ay 0 (D.h:Int) true=f)(RP:f≠0):
 Calls prog 83 #[g,v] w (Got (.returned f) (aa [Rk gI g fr en D,av gI S]) F w):=by
 have so:=On.refl hb
 have hs:Blk w g 123 (cm gI fr en (D.h:Int) (D.l:Int)):=so.ab 0 rfl
 have c0:w.cell? (g,0)=some (gI:Vl):=hs.cell 0
 have c2:w.cell? (g,2)=some ((en:Int):Vl):=hs.cell 2
 have c3:w.cell? (g,3)=some ((D.h:Int):Vl):=hs.cell 3
 have h1:=h8.le
 have h2:=h8.lo.2
 have ht:decide ((en:Int) -8< (D.h:Int))=false:=decide_eq_false oM
 have hz: (f==0)=false:=by simpa using RP
 have ON:=λn=>(so.drewN n).drew.bG 1 rfl (λF' ha=>fY ha 0 (D.h:Int) v hv)
 have e2:S.setCell 0 (D.h:Int) v=S:=by unfold Img.setCell;rw[if_neg (by rw[hF];exact RP)]
 rw[hF,e2]at ON
 replace⟨so,ON⟩:=iB so ON
 clear hs hb h8 hF hv RP e2 hf
 go_enter func83,ntmps83
 go_wp2
 go_quiet (fail)
 go_wp2_with fail
 go_region_held (λw'=>w'.cell? (g,0)=some (gI:Vl)∧w'.cell? (g,3)=some ((D.h:Int):Vl)) (go_keep)
  ((go_at_call 62;refine mo (ON.out _) λw1 h=>?_;have m0:w1.cell? (g,0)=some (gI:Vl):=(h.ab 0 rfl).cell 0;have m3:w1.cell? (g,3)=some ((D.h:Int):Vl):=(h.ab 0 rfl).cell 3;replace h:=hid h))
 go_wp2
 go_ret
 exact⟨rfl,h.out⟩
theorem Du(hb: (aa [Rk gI g fr en D,av gI S]).holds w F)(h8:At8 S D fr en)(hf: ¬en<D.h+8)(v:Int)(hv:V64 v)(hF:S.ay 0 (D.h:Int) true=0):
 Calls prog 83 #[g,v] w (Got (.returned (.int .i64 0)) (aa [Rk gI g fr en { D with h:=D.h+8 },av gI (S.put D.h (toB v))]) F w):=by
 have so:=On.refl hb
 have hs:Blk w g 123 (cm gI fr en (D.h:Int) (D.l:Int)):=so.ab 0 rfl
 have c0:w.cell? (g,0)=some (gI:Vl):=hs.cell 0
 have c2:w.cell? (g,2)=some ((en:Int):Vl):=hs.cell 2
 have c3:w.cell? (g,3)=some ((D.h:Int):Vl):=hs.cell 3
 have h1:=h8.le
 have h2:=h8.lo.2
 have ht:decide ((en:Int) -8< (D.h:Int))=false:=decide_eq_false oM
 have ON:=λn=>(so.drewN n).drew.bG 1 rfl (λF' ha=>fY ha 0 (D.h:Int) v hv)
 have e2:S.setCell 0 (D.h:Int) v=S.put D.h (toB v):=by unfold Img.setCell;rw[if_pos hF];rfl
 rw[hF,e2]at ON
 generalize S.put D.h (toB v)=S' at *
 replace⟨so,ON⟩:=iB so ON
 clear hs hb h8 hF hv e2 hf
 go_enter func83,ntmps83
 go_wp2
 go_quiet (fail)
 go_wp2_with fail
 go_region_held (λw'=>w'.cell? (g,0)=some (gI:Vl)∧w'.cell? (g,3)=some ((D.h:Int):Vl)) (go_keep)
  ((go_at_call 62;refine mo (ON.out _) λw1 h=>?_;have m0:w1.cell? (g,0)=some (gI:Vl):=(h.ab 0 rfl).cell 0;have m3:w1.cell? (g,3)=some ((D.h:Int):Vl):=(h.ab 0 rfl).cell 3;have f3:w1.frozen? (g,3)=false:=(h.ab 0 rfl).frozen 3;have IS:=h.setAt 0 rfl 3 (.int .i64 ((D.h:Int) +8));rw[mJ]at IS;replace h:=hid h;replace IS:=hid IS))
 go_wp2
 go_ret
 exact⟨rfl,IS.out⟩
theorem vx(hb: (aa [Rk gI g fr en D,av gI S]).holds w F)(h8:At8 S D fr en)(v:Int)(hv:V64 v):
 Calls prog 83 #[g,v] w (Got (.returned (D.bm S)) (aa [Rk gI g fr en (D.bw S),av gI (D.bi S v)]) F w):=by
 have h2:=h8.lo
 by_cases hf:en<D.h+8
 ·have e:D.bm S=9:=by unfold Dc.bm;rw[h8.lim,if_pos hf]
  unfold Dc.bw Dc.bi
  rw[e,if_neg (by decide),if_neg (by decide)]
  exact Aa hb h8 hf v
 ·have hc:=h8.ok.QG D.h (by rw[h8.fr];exact h2.1) (by rw[h8.lim];omega)
  have e:D.bm S=S.ay 0 (D.h:Int) true:=by rw[hc];unfold Dc.bm;rw[h8.lim,if_neg hf]
  unfold Dc.bw Dc.bi
  rw[e]
  by_cases h0:S.ay 0 (D.h:Int) true=0
  ·rw[h0,if_pos rfl,if_pos rfl]
   exact Du hb h8 hf v hv h0
  ·rw[if_neg h0,if_neg h0]
   exact DB hb h8 hf v hv _ rfl h0
end
section
variable {w:World}{F:Nat->Prop}{g gI fr en:Nat}{D:Dc}{S:Img}
theorem yU(hb: (aa [Rk gI g fr en D,av gI S]).holds w F)(h8:At8 S D fr en)(hf:en<=D.h)(b:Int):
 Calls prog 124 #[g,.int .u8 b] w (Got (.returned (.int .i64 9)) (aa [Rk gI g fr en D,av gI S]) F w):=by
 have so:=On.refl hb
 have hs:Blk w g 123 (cm gI fr en (D.h:Int) (D.l:Int)):=so.ab 0 rfl
 have c2:w.cell? (g,2)=some ((en:Int):Vl):=hs.cell 2
 have c3:w.cell? (g,3)=some ((D.h:Int):Vl):=hs.cell 3
 have ht:decide ((en:Int)<=(D.h:Int))=true:=decide_eq_true oM
 have ht':decide (en<=D.h)=true:=decide_eq_true hf
 replace so:=hid so
 clear hs hb h8
 go_enter func124,ntmps124
 go_wp2
 go_quiet (fail)
 go_wp2
 go_ret
 exact⟨rfl,so.out.drewN _⟩
theorem xF(hb: (aa [Rk gI g fr en D,av gI S]).holds w F)(h8:At8 S D fr en)(hf: ¬en<=D.h)(b:UInt8)(hF:S.bV 0 (D.h:Int) true=5):
 Calls prog 124 #[g,.int .u8 (b.toNat:Int)] w (Got (.returned (.int .i64 5)) (aa [Rk gI g fr en D,av gI S]) F w):=by
 have so:=On.refl hb
 have hs:Blk w g 123 (cm gI fr en (D.h:Int) (D.l:Int)):=so.ab 0 rfl
 have c0:w.cell? (g,0)=some (gI:Vl):=hs.cell 0
 have c2:w.cell? (g,2)=some ((en:Int):Vl):=hs.cell 2
 have c3:w.cell? (g,3)=some ((D.h:Int):Vl):=hs.cell 3
 have ht:decide ((en:Int)<=(D.h:Int))=false:=decide_eq_false oM
 have ht':decide (en<=D.h)=false:=decide_eq_false hf
 have ON:=λn=>(so.drewN n).drew.bG 1 rfl (λF' ha=>jQ ha 0 (D.h:Int) b)
 have e2:S.aS 0 (D.h:Int) b=S:=by
  unfold Img.bV at hF
  unfold Img.aS
  split
  ·rename_i h
   rw[if_pos h]at hF
   cases hF
  ·rfl
 rw[hF,e2]at ON
 replace⟨so,ON⟩:=iB so ON
 clear hs hb h8 hF e2 hf
 go_enter func124,ntmps124
 go_wp2
 go_quiet (fail)
 go_wp2_with fail
 go_region_held (λw'=>w'.cell? (g,0)=some (gI:Vl)∧w'.cell? (g,3)=some ((D.h:Int):Vl)) (go_keep)
  ((go_at_call 149;refine mo (ON.out _) λw1 h=>?_;have m0:w1.cell? (g,0)=some (gI:Vl):=(h.ab 0 rfl).cell 0;have m3:w1.cell? (g,3)=some ((D.h:Int):Vl):=(h.ab 0 rfl).cell 3;replace h:=hid h))
 go_wp2
 go_ret
 exact⟨rfl,h.out⟩
theorem AH(hb: (aa [Rk gI g fr en D,av gI S]).holds w F)(h8:At8 S D fr en)(hf: ¬en<=D.h)(b:UInt8)(hF:S.bV 0 (D.h:Int) true=0):
 Calls prog 124 #[g,.int .u8 (b.toNat:Int)] w (Got (.returned (.int .i64 0)) (aa [Rk gI g fr en { D with h:=D.h+1 },av gI (S.put D.h [b])]) F w):=by
 have so:=On.refl hb
 have hs:Blk w g 123 (cm gI fr en (D.h:Int) (D.l:Int)):=so.ab 0 rfl
 have c0:w.cell? (g,0)=some (gI:Vl):=hs.cell 0
 have c2:w.cell? (g,2)=some ((en:Int):Vl):=hs.cell 2
 have c3:w.cell? (g,3)=some ((D.h:Int):Vl):=hs.cell 3
 have h1:=h8.le
 have h2:=h8.lo.2
 have ht:decide ((en:Int)<=(D.h:Int))=false:=decide_eq_false oM
 have ht':decide (en<=D.h)=false:=decide_eq_false hf
 have ON:=λn=>(so.drewN n).drew.bG 1 rfl (λF' ha=>jQ ha 0 (D.h:Int) b)
 have e2:S.aS 0 (D.h:Int) b=S.put D.h [b]:=by
  unfold Img.bV at hF
  unfold Img.aS
  split
  ·rfl
  ·rename_i h
   rw[if_neg h]at hF
   cases hF
 rw[hF,e2]at ON
 generalize S.put D.h [b]=S' at *
 replace⟨so,ON⟩:=iB so ON
 clear hs hb h8 hF e2 hf
 go_enter func124,ntmps124
 go_wp2
 go_quiet (fail)
 go_wp2_with fail
 go_region_held (λw'=>w'.cell? (g,0)=some (gI:Vl)∧w'.cell? (g,3)=some ((D.h:Int):Vl)) (go_keep)
  ((go_at_call 149;refine mo (ON.out _) λw1 h=>?_;have m0:w1.cell? (g,0)=some (gI:Vl):=(h.ab 0 rfl).cell 0;have m3:w1.cell? (g,3)=some ((D.h:Int):Vl):=(h.ab 0 rfl).cell 3;have f3:w1.frozen? (g,3)=false:=(h.ab 0 rfl).frozen 3;have IS:=h.setAt 0 rfl 3 (.int .i64 ((D.h:Int) +1));rw[mJ]at IS;replace h:=hid h;replace IS:=hid IS))
 go_wp2
 go_ret
 exact⟨rfl,IS.out⟩
theorem rV(hb: (aa [Rk gI g fr en D,av gI S]).holds w F)(h8:At8 S D fr en)(b:UInt8):
 Calls prog 124 #[g,.int .u8 (b.toNat:Int)] w (Got (.returned (D.cA S)) (aa [Rk gI g fr en (D.eA S),av gI (D.de S b)]) F w):=by
 have h2:=h8.lo
 by_cases hf:en<=D.h
 ·have e:D.cA S=9:=by unfold Dc.cA;rw[h8.lim,if_pos hf]
  unfold Dc.eA Dc.de
  rw[e,if_neg (by decide),if_neg (by decide)]
  exact yU hb h8 hf _
 ·have hc:=h8.ok.Nh D.h (by rw[h8.fr];exact h2.1) (by rw[h8.lim];omega)
  have e:D.cA S=S.bV 0 (D.h:Int) true:=by rw[hc];unfold Dc.cA;rw[h8.lim,if_neg hf]
  unfold Dc.eA Dc.de
  rw[e]
  by_cases h0:D.shut S=true
  ·rw[if_pos h0]at hc
   rw[hc,if_neg (by decide),if_neg (by decide)]
   exact xF hb h8 hf b hc
  ·rw[if_neg h0]at hc
   rw[hc,if_pos rfl,if_pos rfl]
   exact AH hb h8 hf b hc
def laidB(D:Dc)(n:Nat):Dc:={ D with h:=D.h+n }
theorem ni(h8:At8 S D fr en)(hs:D.shut S=false)(l:List UInt8)(hl:D.h+l.length<=en):At8 (S.put D.h l) (laidB D l.length) fr en:=by
 have h2:=h8.lo
 have ha:=Alike.put S D.h l
 refine h8.next (cY h8.img _ _ (by have:=h8.ok.all;rw[h8.lim]at this;omega)) (Dc.Ok.alike (h8.ok.with _ _ (by rw[h8.fr];omega) (by rw[h8.lim];exact hl) h8.ok.l) ha) ha rfl
theorem pH(h8:At8 S D fr en)(hs:D.shut S=false)(l:List UInt8)(b:UInt8)(hl:D.h+l.length<en)(hb: (aa [Rk gI g fr en (laidB D l.length),av gI (S.put D.h l)]).holds w F):
 Calls prog 124 #[g,.int .u8 (b.toNat:Int)] w (Got (.returned (.int .i64 0)) (aa [Rk gI g fr en (laidB D (l.length+1)),av gI (S.put D.h (l ++ [b]))]) F w):=by
 have h:=rV hb (ni h8 hs l oM) b
 have R7: (laidB D l.length).shut (S.put D.h l)=false:=by rw[<-hs];rfl
 have h9:=ni h8 hs l oM
 have e: (laidB D l.length).cA (S.put D.h l)=0:=by
  unfold Dc.cA
  rw[h9.lim,R7,if_neg (by show¬en<=D.h+l.length;omega)]
  rfl
 unfold Dc.eA Dc.de at h
 rw[e,if_pos rfl,if_pos rfl]at h
 have h2:=h8.lo
 have e2: (S.put D.h l).put (laidB D l.length).h [b]=S.put D.h (l ++ [b]):=S.iU D.h l [b] (by rw[h8.img.len];have:=h8.ok.all;rw[h8.lim]at this;omega)
 rw[e2]at h
 exact h
theorem QN: (((0:UInt8).toNat:Nat):Int)=0:=rfl
theorem Rk.c3{w':World}{L:List Asr}(h:On F w (aa (Rk gI g fr en D::L)) w'):w'.cell? (g,3)=some ((D.h:Int):Vl):=(show Blk w' g 123 (cm gI fr en (D.h:Int) (D.l:Int))from h.ab 0 rfl).cell 3
theorem vp(hb: (aa [Rk gI g fr en D,av gI S]).holds w F)(h8:At8 S D fr en)(h0:D.h % 8≠0)(hs:D.shut S=true):
 Calls prog 123 #[g] w (Got (.returned (.int .i64 5)) (aa [Rk gI g fr en D,av gI S]) F w):=by
 have so:=On.refl hb
 have h1:=h8.lo
 have h2:=h8.ok.al.1
 rw[h8.lim]at h2
 have hcc:=so.tP (λF' ha=>rV ha h8 0)
 have e:D.cA S=5:=by unfold Dc.cA;rw[h8.lim,if_neg oM,if_pos hs]
 unfold Dc.eA Dc.de at hcc
 rw[e,if_neg (by decide),if_neg (by decide),QN]at hcc
 have VQ:=λw1 (h:On F w (aa [Rk gI g fr en D,av gI S]) w1)=>Rk.c3 h
 have ht: (((D.h:Int) % 8) != 0)=true:=by rw[bne_iff_ne];omega
 generalize D.h=k at *
 replace⟨hcc,so,VQ⟩:=iC hcc so VQ
 clear hb h8 hs e h2 h0
 go_enter func123,ntmps123
 go_wp2
 go_loopg [3] 1 (λm t wr=>(m=1∧t = .int .i64 0∧wr=w)∨(m=0∧t = .int .i64 5∧On F w (aa [Rk gI g fr en D,av gI S]) wr))
 case atStart=>exact .inl ⟨rfl,rfl,rfl⟩
 case round=>
  rcases hrel with⟨hm,rfl,rfl⟩ | ⟨hm,rfl,h⟩
  ·have c3:=VQ.out _ so.out
   replace hm:=hid hm
   go_wp2_with fail
   refine mo hcc.out λw1 h=>?_
   replace h:=hid h
   go_wp2
   go_roundg 0
   case measure=>rw[hm.out];omega
   case rel=>exact .inr ⟨rfl,rfl,h.out⟩
  ·have c3:=VQ.out _ h
   replace⟨h,hm⟩:=iB h hm
   go_wp2
   go_ret
   exact⟨rfl,h.out⟩
theorem pO(hb: (aa [Rk gI g fr en D,av gI S]).holds w F)(h8:At8 S D fr en)(hs:D.h % 8=0∨D.shut S=false):
 Calls prog 123 #[g] w (Got (.returned (.int .i64 0)) (aa [Rk gI g fr en (laidB D (up D.h-D.h)),av gI (S.put D.h (List.replicate (up D.h-D.h) 0))]) F w):=by
 have so:=On.refl hb
 have h1:=h8.lo
 have hle:=h8.le
 have h2:=h8.ok.al.1
 rw[h8.lim]at h2
 have WG:=ee D.h
 have haM:=λ(j:Nat) (hj:j<up D.h-D.h) w1 (h:On F w (aa [Rk gI g fr en (laidB D j),av gI (S.put D.h (List.replicate j 0))]) w1)=>
  h.tP (λF' ha=>by
   have hj1:D.h+j<en:=by omega
   have R7:D.shut S=false:=by
    rcases hs with hs|hs
    ·rw[P8 _ hs]at hj;omega
    ·exact hs
   have hl: (List.replicate j (0:UInt8)).length=j:=by simp
   have hq:=pH (w:=w1) (F:=F') h8 R7 (List.replicate j 0) 0 (by rw[hl];exact hj1) (by rw[hl];exact ha)
   rw[hl,iV,QN]at hq
   exact hq)
 have VQ:=λj w1 (h:On F w (aa [Rk gI g fr en (laidB D j),av gI (S.put D.h (List.replicate j 0))]) w1)=>Rk.c3 h
 have h00:On F w (aa [Rk gI g fr en (laidB D 0),av gI (S.put D.h (List.replicate 0 0))]) w:=by
  rw[show List.replicate 0 (0:UInt8)= []from rfl,Img.fK]
  exact so
 have hk: ∀j,(((laidB D j).h:Nat):Int)= (D.h:Int) + (j:Int):=λj=>by unfold laidB;simp
 have htt: ∀j,j<up D.h-D.h->((((D.h:Int) + (j:Int)) % 8) != 0)=true:=λj hj=>by rw[bne_iff_ne];unfold up at hj;omega
 have htf: ((((D.h:Int) + ((up D.h-D.h:Nat):Int)) % 8) != 0)=false:=by rw[bne_eq_false_iff_eq];omega
 generalize hn:up D.h-D.h=n at *
 have hn8:n<=8:=by omega
 have hk0:D.h<=143360:=by omega
 generalize D.h=k at *
 replace⟨haM,VQ,h00,hk,htt⟩:=iE haM VQ h00 hk htt
 clear hb h8 hs h2 WG so hn h1 hle
 go_enter func123,ntmps123
 go_wp2
 go_loopg [3] n (λm t wr=> ∃j:Nat,j+m=n∧t = .int .i64 0∧On F w (aa [Rk gI g fr en (laidB D j),av gI (S.put k (List.replicate j 0))]) wr)
 case atStart=>exact⟨0,by omega,rfl,h00.out⟩
 case round=>
  obtain⟨j,hj,rfl,h⟩:=hrel
  have c3:=VQ.out j _ h
  rw[hk.out]at c3
  by_cases YM:j<n
  ·have ht:=htt.out j YM
   have hq:=hid (haM.out j YM _ h)
   replace h:=hid h
   go_wp2_with fail
   refine mo hq.out λw1 h2=>?_
   replace h2:=hid h2
   go_wp2
   go_roundg (gk-1)
   case measure=>omega
   case rel=>exact⟨j+1,by omega,rfl,h2.out⟩
  ·have TJ:j=n:=by omega
   subst TJ
   replace h:=hid h
   go_wp2
   go_ret
   exact⟨rfl,h.out⟩
theorem Lf(hb: (aa [Rk gI g fr en D,av gI S]).holds w F)(h8:At8 S D fr en):
 Calls prog 123 #[g] w (Got (.returned (D.fF S)) (aa [Rk gI g fr en (D.iP S),av gI (D.fj S)]) F w):=by
 unfold Dc.iP Dc.fj
 by_cases h:D.h % 8≠0∧D.shut S=true
 ·have e:D.fF S=5:=by unfold Dc.fF;rw[if_pos h]
  rw[e,if_neg (by decide),if_neg (by decide)]
  exact vp hb h8 h.1 h.2
 ·have e:D.fF S=0:=by unfold Dc.fF;rw[if_neg h]
  rw[e,if_pos rfl,if_pos rfl]
  have WG:=ee D.h
  have h2:=pO hb h8 (by
   by_cases h0:D.h % 8=0
   ·exact .inl h0
   ·right
    rcases hs:D.shut S with _|_
    ·rfl
    ·exact absurd ⟨h0,hs⟩ h)
  have e2:laidB D (up D.h-D.h)= { D with h:=up D.h }:=by
   unfold laidB
   congr 1
   omega
  rw[e2]at h2
  exact h2
end
def Small(p:Int×Int):Prop:=0<=p.1∧p.1<=4∧0<=p.2∧p.2<=4
theorem M7{α:Type}{P:α->Prop}{c:Prop}[Decidable c]{a b:α}(h1:P a)(h2:P b):P (if c then a else b):=by split<;>assumption
theorem uX(a b:Int)(h:0<=a∧a<=4∧0<=b∧b<=4):Small (a,b):=h
theorem nA(op:Int):0<=(Code.ai op).1∧(Code.ai op).1<=4∧0<=(Code.ai op).2∧(Code.ai op).2<=4:=by
 show Small (Code.ai op)
 unfold Code.ai
 repeat' apply M7
 all_goals exact uX _ _ (by decide)
theorem Ar(op arg:Int)(b:Bool):0<=(returns op arg b).1∧(returns op arg b).1<=4∧0<=(returns op arg b).2∧(returns op arg b).2<=4:=by
 show Small (returns op arg b)
 unfold returns
 repeat' apply M7
 all_goals exact uX _ _ (by decide)
theorem jn(op:Int)(w:World):Calls prog 94 #[op] w (Quiet (.tuple #[.int .i64 (Code.ai op).1,.int .i64 (Code.ai op).2]) w):=by
 rcases h:Code.pI op with _|_
 ·refine(DO op h w).mono ?_
  rintro e w' ⟨rfl,rfl⟩
  refine⟨?_,Below.refl _ _⟩
  have:Code.ai op= (0,0):=by
   have h1:op<1∨106<op:=by unfold Code.pI at h;simp at h;omega
   unfold Code.ai
   simp only[List.mem_cons,List.mem_nil_iff,or_false]
   repeat' rw[if_neg oM]
  rw[this]
 ·unfold Code.pI at h
  simp at h
  obtain⟨i,hi,rfl⟩: ∃i:Nat,i<106∧op= (i:Int) +1:=⟨(op-1).toNat,by omega,by omega⟩
  refine(Gf i hi w).mono ?_
  rintro e w' ⟨rfl,n,rfl⟩
  exact⟨rfl,((Kept.refl Nob _).drewN _).sU⟩
theorem dead{P:Program}{f:FuncId}{args:Array Value}{w:World}{Q:Ending->World->Prop}{n:Int}(hc:Calls P f args w (vO n w))(hp:Q (.panicked [flt n]) w)
 (hk:False->∀e w',e = .returned (.tuple #[])->w'=w->Q e w'):Calls P f args w Q:=hc.mono λe w' h=>by
 obtain⟨rfl,rfl⟩:=h
 exact hp
structure Rn.Ok(x:Rn):Prop where
 base:0<=x.base
 dh:x.base<=512
 next:V64 x.next
 pc:V64 x.pc
 left:0<=x.left
 cG:x.left<=1000000
section
variable {w w':World}{F:Nat->Prop}{c:Vc}{g:Nat}{x:Rn}{src:Value}{s:Mt}
theorem NR(hb: (VA c g x src s).holds w F)(hs:s.Ok)(hx:x.Ok)(i:aq):
 Calls prog 71 #[g,i.v] w (Got (bp (asks i x s)) (VA c g x src s) F w):=by
 obtain⟨op,arg,lit,cells⟩:=i
 show Calls _ _ #[_,.agg #[op,arg,lit,cells]] _ _
 have so:=((On.refl hb).box #[op,arg,lit,cells] 164)
 have hw:=nA op
 have Sh:=λw=>jn op w
 obtain⟨A,hA⟩: ∃A,asks ⟨op,arg,lit,cells⟩ x s=A:=⟨_,rfl⟩
 rw[hA]
 have IT:=hA
 unfold asks at IT
 simp only at IT
 obtain⟨⟨tk,ly⟩,Wy⟩: ∃p,Code.ai op=p:=⟨_,rfl⟩
 rw[Wy]at hw Sh IT
 simp only at hw Sh IT
 replace⟨IT,Sh,so⟩:=iC IT Sh so
 have hrl:=Ar op arg s.same
 have ZZ:=λw1 (h1:On F w (VA c g x src s) w1)=>xd h1 hs 0
 generalize s.top 0=t0 at *
 replace ZZ:=hid ZZ
 have Su:=λw1 (h1:On F w (VA c g x src s) w1)=>Dv h1 hs ⟨op,arg,lit,cells⟩
 obtain⟨⟨off,on⟩,hoo⟩: ∃p,returns op arg s.same=p:=⟨_,rfl⟩
 simp only[hoo]at Su IT hrl
 replace Su:=hid Su
 clear hb hA Wy hoo
 have hfX:=hs.dle
 have he1:=hs.rle
 have Rh:=hx.base
 have Rm:=hx.dh
 replace⟨hs,hx⟩:=iB hs hx
 go_enter func71,ntmps71
 go_wp2_with fail
 refine mo (Sh.out _) λw1 Rh=>?_
 have M0:=so.out.below Rh
 have b0:w1.cell? (w.heap.size,0)=some (op:Vl):=(M0.ab 0 rfl).cell 0
 have b1:w1.cell? (w.heap.size,1)=some (arg:Vl):=(M0.ab 0 rfl).cell 1
 have b2:w1.cell? (w.heap.size,2)=some (lit:Vl):=(M0.ab 0 rfl).cell 2
 have b3:w1.cell? (w.heap.size,3)=some (cells:Vl):=(M0.ab 0 rfl).cell 3
 have r0:=M0.tail.r0
 have r7:=M0.tail.r7
 have m5:=M0.tail.m5
 have m6:=M0.tail.m6
 have R2:=dG M0.tail.sd
 replace⟨M0,R2⟩:=iB M0 R2
 clear Rh
 go_wp2_with fail
 refine R2.out.mono ?_
 rintro e w2 ⟨rfl,rfl⟩
 by_cases k1:tk<=(s.d:Int)
 rotate_left
 ·have k1':decide (tk<=(s.d:Int))=false:=decide_eq_false k1
  have YS:A=1:=by rw[<-IT.out];rw[if_pos oM]
  subst YS
  clear k1
  go_wp2_with fail
  refine(bR _ _).mono ?_
  rintro e w3 ⟨rfl,rfl⟩
  go_wp2
  exact⟨rfl,rfl,M0.out.tail⟩
 have k1':decide (tk<=(s.d:Int))=true:=decide_eq_true k1
 go_wp2_with fail
 refine(bz _ _).mono ?_
 rintro e w3 ⟨rfl,rfl⟩
 go_wp2_with fail
 refine mo (Su.out _ M0.out.tail) λw4 XV=>?_
 have Ra:=M0.out.below XV
 have b0:w4.cell? (w.heap.size,0)=some (op:Vl):=(Ra.ab 0 rfl).cell 0
 have r0:=Ra.tail.r0
 have r1:=Ra.tail.r1
 have r7:=Ra.tail.r7
 have m3:=Ra.tail.m3
 have m5:=Ra.tail.m5
 have m6:=Ra.tail.m6
 have R2:=dG Ra.tail.sd.drew
 have Ux:=dG Ra.tail.sr.drew
 replace⟨Ra,R2,Ux⟩:=iC Ra R2 Ux
 clear XV
 have hwr:IntKind.i64.wrap ((s.r:Int) -x.base)= (s.r:Int) -x.base:=IntWalk.i64_in _ oM
 by_cases k2:off<=(s.r:Int) -x.base
 rotate_left
 ·have k2':decide (off<=IntKind.i64.wrap ((s.r:Int) -x.base))=false:=decide_eq_false (by rw[hwr];exact k2)
  have YS:A=3:=by rw[<-IT.out];rw[if_neg oM,if_pos oM]
  subst YS
  clear k2 hwr
  go_wp2_with fail
  go_region_held (λw'=>w'.cell? (g,0)=some (c.gM:Vl)∧w'.cell? (c.gM,6)=some (c.gR:Vl)∧w'.cell? (g,7)=some (x.base:Vl)) (go_keep)
   ((first
     | (go_at_call 16;refine Ux.out.mono ?_;rintro e w5 ⟨rfl,rfl⟩)
     | (go_at_call 95;refine dead (bR _ _) ⟨rfl,rfl,Ra.out.tail.drew⟩ ?_;intro hF e w5 he hw;subst he;subst hw;replace hF:=hid hF)))
  all_goals exact hF.out.elim
 have k2':decide (off<=IntKind.i64.wrap ((s.r:Int) -x.base))=true:=decide_eq_true (by rw[hwr];exact k2)
 clear hwr
 go_wp2_with fail
 go_region_held (λw'=>w'.cell? (g,0)=some (c.gM:Vl)∧w'.cell? (c.gM,6)=some (c.gR:Vl)∧w'.cell? (g,7)=some (x.base:Vl)) (go_keep)
  ((first
    | (go_at_call 16;refine Ux.out.mono ?_;rintro e w5 ⟨rfl,rfl⟩)
    | (go_at_call 95;refine(bz _ _).mono ?_;rintro e w5 ⟨rfl,rfl⟩)))
 clear k2'
 obtain⟨q,hq⟩: ∃q:Bool,decide (op=26∧t0=0)=q:=⟨_,rfl⟩
 have Rf:=Ra.out.drew
 replace Rf:=hid Rf
 go_upto_region 5 with fail
 go_cut [55] (λa wx=>a = .bool q∧On F w (aa (ae w.heap.size 164 #[op,arg,lit,cells]::vL c g x src s)) wx)
 case first=>
  by_cases Zw:op=26
  ·have e1: (op==26)=true:=by simpa using Zw
   have e2: (t0==0)=q:=by rw[<-hq];simp[Zw];rfl
   clear hq Zw
   replace e2:=hid e2
   go_wp2_with fail
   refine mo (ZZ.out _ Rf.out.tail) λw6 Sq=>?_
   replace Sq:=hid Sq
   go_wp2_with fail
   go_meet
   exact⟨by rw[e2.out],Rf.out.below Sq.out⟩
  ·have e1: (op==26)=false:=by simpa using Zw
   have e2:q=false:=by rw[<-hq];simp[Zw]
   subst e2
   clear hq Zw
   go_wp2_with fail
   go_meet
   exact⟨rfl,Rf.out⟩
 case rest=>
  obtain⟨rfl,Rz⟩:=hcut
  obtain⟨L,hL⟩: ∃L,(if op=26∧t0=0 then tk else ly)=L:=⟨_,rfl⟩
  have hbe:=IT.out
  rw[hL]at hbe
  have hLq: (if q then tk else ly)=L:=by
   rw[<-hL,<-hq]
   by_cases hh:op=26∧t0=0
   ·simp[hh]
   ·simp[hh]
  have hL0:0<=L∧L<=4:=by rw[<-hLq];split<;>omega
  clear hL hq IT
  replace IT:=hid hbe
  replace Rz:=hid Rz
  clear hbe Rf Ra M0 R2 Ux
  go_upto_if 55 with fail
  go_cut [5] (λa wx=>a = .int .i64 L∧On F w (aa (ae w.heap.size 164 #[op,arg,lit,cells]::vL c g x src s)) wx)
  case first=>
   cases q
   ·obtain rfl:ly=L:=by simpa using hLq
    go_wp2_with fail
    go_meet
    exact⟨rfl,Rz.out⟩
   ·obtain rfl:tk=L:=by simpa using hLq
    go_wp2_with fail
    go_meet
    exact⟨rfl,Rz.out⟩
  case rest=>
   obtain⟨rfl,Ri⟩:=hcut
   clear hLq Rz
   have q0:wc.cell? (w.heap.size,0)=some (op:Vl):=(Ri.ab 0 rfl).cell 0
   have q00:=Ri.tail.r0
   have q1:=Ri.tail.r1
   have q3:=Ri.tail.m3
   have q5:=Ri.tail.m5
   have q6:=Ri.tail.m6
   have hae:=dG Ri.tail.sd.drew
   have Ux:=dG Ri.tail.sr.drew.drew
   have had:=GN Ri.tail.sd.drew
   have Z2:=GN Ri.tail.sr.drew.drew
   obtain⟨TF,VP⟩:=Ri.drew.drew.tail.Qo
   have hbE:=λw1 cc (h1:dC w1 c.gT s.T TF)=>h1.has x.mode cc
   replace⟨Ri,hae,Ux,had,Z2,hbE,VP⟩:=iG Ri hae Ux had Z2 hbE VP
   have hrmD:=hs.out.pd.rm
   have hrmR:=hs.out.pr.rm
   have w1:IntKind.i64.wrap (IntKind.i64.wrap ((s.d:Int) -tk) +L)= (s.d:Int) -tk+L:=by rw[IntWalk.i64_in ((s.d:Int) -tk) oM,IntWalk.i64_in _ oM]
   have w2:IntKind.i64.wrap (IntKind.i64.wrap ((s.r:Int) -off) +on)= (s.r:Int) -off+on:=by rw[IntWalk.i64_in ((s.r:Int) -off) oM,IntWalk.i64_in _ oM]
   by_cases k3: (s.d:Int) -tk+L<=(s.pd.rm:Int)
   rotate_left
   ·have k3':decide (IntKind.i64.wrap (IntKind.i64.wrap ((s.d:Int) -tk) +L)<=(s.pd.rm:Int))=false:=decide_eq_false (by rw[w1];exact k3)
    have YS:A=2:=by rw[<-IT.out];rw[if_neg oM,if_neg oM,if_pos oM]
    subst YS
    clear k3 w1 w2
    go_wp2_with fail
    go_region_held (λw'=>w'.cell? (g,0)=some (c.gM:Vl)∧w'.cell? (c.gM,5)=some (c.gD:Vl)) (go_keep)
     ((first
       | (go_at_call 16;refine hae.out.mono ?_;rintro e w5 ⟨rfl,rfl⟩)
       | (go_at_call 98;refine had.out.mono ?_;rintro e w5 ⟨rfl,rfl⟩)
       | (go_at_call 95;refine dead (bR _ _) ⟨rfl,rfl,Ri.out.tail.drew⟩ ?_;intro hF e w5 he hw;subst he;subst hw;replace hF:=hid hF)))
    all_goals exact hF.out.elim
   have k3':decide (IntKind.i64.wrap (IntKind.i64.wrap ((s.d:Int) -tk) +L)<=(s.pd.rm:Int))=true:=decide_eq_true (by rw[w1];exact k3)
   replace w2:=hid w2
   clear w1
   go_wp2_with fail
   go_region_held (λw'=>w'.cell? (g,0)=some (c.gM:Vl)∧w'.cell? (c.gM,5)=some (c.gD:Vl)) (go_keep)
    ((first
      | (go_at_call 16;refine hae.out.mono ?_;rintro e w5 ⟨rfl,rfl⟩)
      | (go_at_call 98;refine had.out.mono ?_;rintro e w5 ⟨rfl,rfl⟩)
      | (go_at_call 95;refine(bz _ _).mono ?_;rintro e w5 ⟨rfl,rfl⟩)))
   clear k3'
   by_cases k4: (s.r:Int) -off+on<=(s.pr.rm:Int)
   rotate_left
   ·have k4':decide (IntKind.i64.wrap (IntKind.i64.wrap ((s.r:Int) -off) +on)<=(s.pr.rm:Int))=false:=decide_eq_false (by rw[w2.out];exact k4)
    have YS:A=4:=by rw[<-IT.out];rw[if_neg oM,if_neg oM,if_neg oM,if_pos oM]
    subst YS
    clear k4 w2
    go_wp2_with fail
    go_region_held (λw'=>w'.cell? (g,0)=some (c.gM:Vl)∧w'.cell? (c.gM,6)=some (c.gR:Vl)) (go_keep)
     ((first
       | (go_at_call 16;refine Ux.out.mono ?_;rintro e w5 ⟨rfl,rfl⟩)
       | (go_at_call 98;refine Z2.out.mono ?_;rintro e w5 ⟨rfl,rfl⟩)
       | (go_at_call 95;refine dead (bR _ _) ⟨rfl,rfl,Ri.out.tail.drew.drew⟩ ?_;intro hF e w5 he hw;subst he;subst hw;replace hF:=hid hF)))
    all_goals exact hF.out.elim
   have k4':decide (IntKind.i64.wrap (IntKind.i64.wrap ((s.r:Int) -off) +on)<=(s.pr.rm:Int))=true:=decide_eq_true (by rw[w2.out];exact k4)
   clear w2
   go_wp2_with fail
   go_region_held (λw'=>w'.cell? (g,0)=some (c.gM:Vl)∧w'.cell? (c.gM,6)=some (c.gR:Vl)) (go_keep)
    ((first
      | (go_at_call 16;refine Ux.out.mono ?_;rintro e w5 ⟨rfl,rfl⟩)
      | (go_at_call 98;refine Z2.out.mono ?_;rintro e w5 ⟨rfl,rfl⟩)
      | (go_at_call 95;refine(bz _ _).mono ?_;rintro e w5 ⟨rfl,rfl⟩)))
   clear k4'
   go_wp2_with fail
   refine(Mf op _).mono ?_
   rintro e w5 ⟨rfl,rfl⟩
   have YS: (if dM op≠0∧af.has s.T.aC x.mode (dM op)=false then 11 else 0)=A:=by
    have h:=IT.out
    rw[if_neg oM,if_neg oM,if_neg oM,if_neg oM]at h
    exact h
   clear IT k1 k2 k3 k4
   generalize dM op=nd at *
   by_cases k5:nd=0
   ·have e1: (nd==0)=true:=by simpa using k5
    have e2: (nd != 0)=false:=by simpa using k5
    have ZS:A=0:=by rw[<-YS,if_neg (by simp[k5])]
    subst ZS
    clear k5 YS
    go_wp2
    go_end0
    exact⟨rfl,Ri.out.tail.drew.drew⟩
   ·have e1: (nd==0)=false:=by simpa using k5
    have e2: (nd != 0)=true:=by simpa using k5
    have hh:=hbE.out wc.drew.drew.drew nd ((dF c.gT s.T).kept VP.out ((Kept.refl Nob _).drew) (λ_ _ h=>h))
    rcases Wn:af.has s.T.aC x.mode nd with _|_
    ·have ZS:A=11:=by rw[<-YS,if_pos ⟨k5,Wn⟩]
     rw[Wn]at hh
     subst ZS
     replace hh:=hid hh
     clear k5 YS Wn
     go_wp2_with fail
     go_region_held (λw'=>w'.cell? (g,0)=some (c.gM:Vl)∧w'.cell? (c.gM,3)=some (c.gT:Vl)∧w'.cell? (g,1)=some (x.mode:Vl)) (go_keep)
      ((first
        | (go_at_call 100;refine hh.out.mono ?_;rintro e w5 ⟨rfl,rfl⟩)
        | (go_at_call 95;refine dead (bR _ _) ⟨rfl,rfl,Ri.out.tail.drew.drew.drew⟩ ?_;intro hF e w5 he hw;subst he;subst hw;replace hF:=hid hF)))
     all_goals exact hF.out.elim
    ·have ZS:A=0:=by rw[<-YS,if_neg (by rintro⟨_,h⟩;rw[Wn]at h;cases h)]
     rw[Wn]at hh
     subst ZS
     replace hh:=hid hh
     clear k5 YS Wn
     go_wp2_with fail
     go_region_held (λw'=>w'.cell? (g,0)=some (c.gM:Vl)∧w'.cell? (c.gM,3)=some (c.gT:Vl)∧w'.cell? (g,1)=some (x.mode:Vl)) (go_keep)
      ((first
        | (go_at_call 100;refine hh.out.mono ?_;rintro e w5 ⟨rfl,rfl⟩)
        | (go_at_call 95;refine(bz _ _).mono ?_;rintro e w5 ⟨rfl,rfl⟩)))
     go_wp2
     go_end0
     exact⟨rfl,Ri.out.tail.drew.drew.drew⟩
end
structure cw(i:aq)(x:Rn)(s:Mt):Prop where
 tk: (Code.ai i.op).1<=(s.d:Int)
 off: (returns i.op i.arg s.same).1<=(s.r:Int) -x.base
 room: (s.d:Int) - (Code.ai i.op).1+ (if i.op=26∧s.top 0=0 then(Code.ai i.op).1 else(Code.ai i.op).2)<=s.pd.rm
 CA: (s.r:Int) - (returns i.op i.arg s.same).1+ (returns i.op i.arg s.same).2<=s.pr.rm
 cap:dM i.op≠0->af.has s.T.aC x.mode (dM i.op)=true
theorem cw.wn{op arg lit cells:Int}{x:Rn}{s:Mt}(h:cw ⟨op,arg,lit,cells⟩ x s)(m:Nat)(e: (Code.ai op).1=m:=by decide): (Code.ai op).1.toNat=m∧m<=s.d:=by
 have:=h.tk
 dsimp only at this
 omega
theorem cw.of{i:aq}{x:Rn}{s:Mt}(h:asks i x s=0):cw i x s:=by
 unfold asks at h
 by_cases h1: (s.d:Int) < (Code.ai i.op).1
 ·rw[if_pos h1]at h;cases h
 rw[if_neg h1]at h
 by_cases h2: (s.r:Int) -x.base< (returns i.op i.arg s.same).1
 ·rw[if_pos h2]at h;cases h
 rw[if_neg h2]at h
 by_cases h3: (s.pd.rm:Int) <s.d- (Code.ai i.op).1+ (if i.op=26∧s.top 0=0 then(Code.ai i.op).1 else(Code.ai i.op).2)
 ·rw[if_pos h3]at h;cases h
 rw[if_neg h3]at h
 by_cases h4: (s.pr.rm:Int) <s.r- (returns i.op i.arg s.same).1+ (returns i.op i.arg s.same).2
 ·rw[if_pos h4]at h;cases h
 rw[if_neg h4]at h
 by_cases h5:dM i.op≠0∧af.has s.T.aC x.mode (dM i.op)=false
 ·rw[if_pos h5]at h;cases h
 refine⟨by omega,by omega,by omega,by omega,λhn=> ?_⟩
 rcases hc:af.has s.T.aC x.mode (dM i.op)with _|_
 ·exact absurd ⟨hn,hc⟩ h5
 ·rfl
def ag(l:List Int):Array Value:=(l.map (Value.int .i64)).toArray
def dj(f:FuncId)(i:aq)(q:Rn->Mt->Rs):Prop:=
 ∀(c:Vc) (g:Nat) (x:Rn) (src:Value) (s:Mt) (ba:Nat) (w:World) (F:Nat->Prop),s.Ok->x.Ok->V64 i.arg->V64 i.lit->cw i x s->
  (aa (ae ba 3 (ag (s.args (Code.ai i.op).1.toNat))::vL c g x src s)).holds w F->
  Calls prog f #[g,i.v,.slice ba (Code.ai i.op).1.toNat (Code.ai i.op).1.toNat] w (Got (bp (q x s).f) (aa (ae ba 3 (ag (s.args (Code.ai i.op).1.toNat))::vL c g (q x s).x src (q x s).s)) F w)
theorem On.aM{P:Program}{f:FuncId}{args:Array Value}{w w':World}{F:Nat->Prop}{B:Asr}{L L':List Asr}{e0:Ending}(h:On F w (aa (B::L)) w')(hc: ∀F',(aa L).holds w' F'->(∃F3,B.holds w' F3∧∀k,F3 k->¬F' k)->(∀k,F' k->F k∨w.heap.size<=k)->Calls P f args w' (Got e0 (aa L') F' w')):
 Calls P f args w' (Got e0 (aa (B::L')) F w):=by
 obtain⟨F',⟨F1,F2,h1,h2,hd,hF⟩,hk,Sr⟩:=h
 refine(hc F2 h2 ⟨F1,h1,λk a b=>hd k a b⟩ (λk h=>Sr k ((hF k).2 (.inr h)))).mono ?_
 rintro e w2 ⟨rfl,F3,h3,V5,XY⟩
 refine⟨rfl,λk=>F1 k∨F3 k,⟨F1,F3,B.kept h1 V5 (λk a b=>hd k a b),h3,λk a b=> ?_,λ_=>Iff.rfl⟩,hk.trans' V5 (λk h=>Sr k ((hF k).2 (.inr h))),?_⟩
 ·rcases XY k b with c|c
  ·exact hd k a c
  ·have:=B.lt h1 a;omega
 ·rintro k (h|h)
  ·exact Sr k ((hF k).2 (.inl h))
  ·rcases XY k h with c|c
   ·exact Sr k ((hF k).2 (.inr c))
   ·exact .inr (Nat.le_trans hk.size c)
theorem On.PC{P:Program}{f:FuncId}{args:Array Value}{w w':World}{F:Nat->Prop}{A A':Asr}{e0:Ending}(h:On F w A w')(hc: ∀F',A.holds w' F'->(∀k,F' k->F k∨w.heap.size<=k)->Calls P f args w' (Got e0 A' F' w')):Calls P f args w' (Got e0 A' F w):=by
 obtain⟨F',ha,hk,hF⟩:=h
 refine(hc F' ha hF).mono ?_
 rintro e w2 ⟨rfl,F2,ha2,SS,Wx⟩
 refine⟨rfl,F2,ha2,hk.trans' SS hF,λk h=> ?_⟩
 rcases Wx k h with h|h
 ·exact hF k h
 ·exact .inr (Nat.le_trans hk.size h)
theorem On.bj{P:Program}{f:FuncId}{args:Array Value}{e0:Ending}{L':List Asr}: ∀(n:Nat) {L:List Asr} {w w':World} {F:Nat->Prop},n<=L.length->On F w (aa L) w'->
 (∀F',(aa (L.drop n)).holds w' F'->(∀i B,i<n->L[i]? = some B->∃F3,B.holds w' F3∧∀k,F3 k->¬F' k)->(∀k,F' k->F k∨w.heap.size<=k)->Calls P f args w' (Got e0 (aa L') F' w'))->Calls P f args w' (Got e0 (aa (L.take n++L')) F w)
 | 0,L,w,w',F,_,h,hc=>h.PC λF' hb hs=>hc F' hb (λi B hi=>absurd hi (Nat.not_lt_zero _)) hs
 | n+1,[],w,w',F,hn,h,hc=>by simp at hn
 | n+1,B::L,w,w',F,hn,h,hc=>h.aM λF' hb ⟨F3,h3,hd⟩ hs=>
    On.bj n (by simpa using hn) (On.refl hb) λF'' SG Wf hfG=>hc F'' SG (λi C hi hC=>by
     cases i with
     | zero=>
       obtain rfl:B=C:=by simpa using hC
       refine⟨F3,h3,λk hk hgQ=> ?_⟩
       rcases hfG k hgQ with h4|h4
       ·exact hd k hk h4
       ·have:=All.lt SG hgQ;omega
     | succ i=>exact Wf i C oM (by simpa using hC)) (λk hk=>by
       rcases hfG k hk with h4|h4
       ·exact hs k h4
       ·have:=All.lt SG hk;omega)
theorem Ij(arg lit cells:Int):dj 102 ⟨1,arg,lit,cells⟩ back:=by
 intro c g x src s ba w F hs hx RM Ry IT hb
 have so:=(On.refl hb).box #[(1:Int),arg,lit,cells] 164
 have h0:0<s.r:=by
  have h1:=IT.off
  have h2:=hx.base
  have e: (returns 1 arg s.same).1=1:=rfl
  simp only[e]at h1
  omega
 have hf: (back x s).f=0:=by unfold back;rw[if_neg oM]
 rw[hf]
 show Calls _ _ #[_,.agg #[(1:Int),arg,lit,cells],_] _ (Got (.returned (.tuple #[])) _ _ _)
 have Vu:=so.bj 2 (by simp) λF'' SG _ _=>BJ SG hs h0
 generalize (back x s).x=x' at *
 generalize (back x s).s=s' at *
 generalize ag (s.args (Code.ai 1).1.toNat)=ac at *
 generalize (Code.ai 1).1.toNat=n at *
 replace Vu:=hid Vu
 clear hb hs hx IT hf h0 so
 go_enter func102,ntmps102
 go_wp2_with fail
 refine mo Vu.out λw1 h=>?_
 replace h:=hid h
 go_wp2
 go_end0
 exact⟨rfl,h.out.tail⟩
theorem sM{s:Mt}{n:Nat}{l:List Int}(OF:l.length<=s.pd.rm- (s.d-n)): (s.ak n l).1=0:=by unfold Mt.ak;rw[if_neg oM]
theorem ir{w w':World}{F:Nat->Prop}{c:Vc}{g:Nat}{x:Rn}{src:Value}{s:Mt}(m:Nat){L:List Asr}(hm:m<=L.length)(hL:L.drop m=vL c g x src s)(h:On F w (aa L) w')(hs:s.Ok)(n:Nat)(hn:n<=s.d)(l:List Int)(hl: ∀v∈l,V64 v)
 (j:Nat) (hj:j<m) (rb:Nat) (An:L[j]? = some (ae rb 3 (ag l))) (OF:l.length<=s.pd.rm- (s.d-n)):
 Calls prog 103 #[g,(n:Int),.slice rb l.length l.length] w' (Got (.returned (.tuple #[])) (aa (L.take m++vL c g x src (s.ak n l).2)) F w):=by
 refine h.bj m hm λF' hb Wf _=> ?_
 rw[hL]at hb
 obtain⟨F3,hB,SF⟩:=Wf j _ hj An
 refine vA hb hs n hn l hl (some ⟨rb,0,none⟩) l.length ?_ ?_ OF
 ·intro k v hk
  refine⟨_,rfl,?_⟩
  have h1:=hB.1.cell k
  have h2: ((⟨rb,0,none⟩:Addr).add k)= ⟨rb,k,none⟩:=by simp[Addr.add];intro h;exact h.symm
  rw[h2,h1]
  simp[ag,hk]
 ·intro a ha
  obtain rfl:a= ⟨rb,0,none⟩:=by injection ha with ha;exact ha.symm
  exact⟨λhk=>SF rb ((hB.2 rb).2 rfl) hk,hB.1.lt⟩
theorem jS{w w':World}{F:Nat->Prop}{c:Vc}{g:Nat}{x:Rn}{src:Value}{s:Mt}(m:Nat){L:List Asr}(hm:m<=L.length)(hL:L.drop m=vL c g x src s)(h:On F w (aa L) w')(hs:s.Ok)(n:Nat)(hn:n<=s.d):
 Calls prog 103 #[g,(n:Int),.slice none 0 0] w' (Got (.returned (.tuple #[])) (aa (L.take m++vL c g x src (s.ak n []).2)) F w):=by
 refine h.bj m hm λF' hb Wf _=> ?_
 rw[hL]at hb
 refine vA hb hs n hn [] (λv hv=>by cases hv) none 0 (λk v hk=>by simp at hk) (λa ha=>by cases ha) (by simp)
theorem KO(arg lit cells:Int):dj 102 ⟨2,arg,lit,cells⟩ (aJ 0 [lit]):=by
 intro c g x src s ba w F hs hx RM Ry IT hb
 have so:=(On.refl hb).box #[(2:Int),arg,lit,cells] 164
 have OF : [lit].length<=s.pd.rm- (s.d-0):=by
  have h1:=IT.room
  have e1: (Code.ai 2).1=0:=by decide
  have e2: (Code.ai 2).2=1:=by decide
  simp[e1,e2]at h1
  simp
  omega
 have hf: (aJ 0 [lit] x s).f=0:=sM OF
 rw[hf]
 show Calls _ _ #[_,.agg #[(2:Int),arg,lit,cells],_] _ (Got (.returned (.tuple #[])) _ _ _)
 have Re:=so.box #[lit] 3
 have hz: (w.alloc (.cells #[(2:Int),arg,lit,cells] 164)).heap.size=w.heap.size+1:=by simp
 rw[hz]at Re
 have Ro:=ir (c:=c) (g:=g) (x:=x) (src:=src) (s:=s) 3 (by simp) rfl Re hs 0 (Nat.zero_le _) [lit] (λv hv=>by rw[List.mem_singleton.1 hv];exact Ry) 0 oM (w.heap.size+1) rfl OF
 have b2: (w.alloc (.cells #[(2:Int),arg,lit,cells] 164)).cell? (w.heap.size,2)=some (lit:Vl):=(so.ab 0 rfl).cell 2
 show Calls _ _ _ _ (Got _ (aa (_::vL c g x src (s.ak 0 [lit]).2)) _ _)
 generalize (s.ak 0 [lit]).2=s' at *
 generalize ag (s.args (Code.ai 2).1.toNat)=ac at *
 generalize (Code.ai 2).1.toNat=n at *
 replace Ro:=hid Ro
 clear hb hs hx IT hf so Re OF
 go_enter func102,ntmps102
 go_wp2_with fail
 refine mo Ro.out λw1 h=>?_
 replace h:=hid h
 go_wp2
 go_end0
 exact⟨rfl,h.out.tail.tail⟩
def fA(B:Asr)(A:Option Addr)(l:List Int):Prop:= ∀w F,B.holds w F->ln w A l∧∀a,A=some a->F a.block
theorem aA(rb:Nat)(l:List Int):fA (ae rb 3 (ag l)) (some ⟨rb,0,none⟩) l:=by
 intro w F hB
 refine⟨?_,?_⟩
 ·intro k v hk
  refine⟨_,rfl,?_⟩
  have h1:=hB.1.cell k
  have h2: ((⟨rb,0,none⟩:Addr).add k)= ⟨rb,k,none⟩:=by simp[Addr.add];intro h;exact h.symm
  rw[h2,h1]
  simp[ag,hk]
 ·intro a ha
  obtain rfl:a= ⟨rb,0,none⟩:=by injection ha with ha;exact ha.symm
  exact(hB.2 rb).2 rfl
theorem bA(B:Asr):fA B none []:=λw F _=>⟨λk v hk=>by simp at hk,λa ha=>by cases ha⟩
def ii(l:List Int)(L:List Asr)(F:Nat->Prop)(w:World)(e:Ending)(w':World):Prop:=
 ∃A cap B,e = .returned (.slice A l.length cap)∧fA B A l∧On F w (aa (B::L)) w'
theorem EV{w w':World}{F:Nat->Prop}{c:Vc}{g:Nat}{x:Rn}{src:Value}{s:Mt}{B:Asr}(h:On F w (aa (B::vL c g x src s)) w')(hs:s.Ok)(n:Nat)(hn:n<=s.d)(l:List Int)(hl: ∀v∈l,V64 v)
 (A:Option Addr) (cap:Nat) (hB:fA B A l) (OF:l.length<=s.pd.rm- (s.d-n)):
 Calls prog 103 #[.pointer (some ⟨g,0,none⟩),.int .i64 (n:Int),.slice A l.length cap] w' (Got (.returned (.tuple #[])) (aa (B::vL c g x src (s.ak n l).2)) F w):=by
 refine h.aM λF' hb ⟨F3,hh,SF⟩ hs'=> ?_
 obtain⟨h1,h2⟩:=hB _ _ hh
 exact vA hb hs n hn l hl A cap h1 (λa ha=>⟨λhk=>SF _ (h2 a ha) hk,B.lt hh (h2 a ha)⟩) OF
def jQa(i:aq)(q:Rn->Mt->Rs):Prop:=
 ∀(c:Vc) (g:Nat) (x:Rn) (src:Value) (s:Mt) (w:World) (F:Nat->Prop),s.Ok->x.Ok->V64 i.arg->V64 i.lit->cw i x s->(VA c g x src s).holds w F->
  Calls prog 72 #[.pointer (some ⟨g,0,none⟩),i.v] w (Got (bp (q x s).f) (VA c g (q x s).x src (q x s).s) F w)
theorem j6{w:World}{F:Nat->Prop}{c:Vc}{g:Nat}{x:Rn}{src:Value}{s:Mt}(hb: (VA c g x src s).holds w F)(hs:s.Ok)(n:Nat)(hn:n<=8):
 Calls prog 101 #[.pointer (some ⟨g,0,none⟩),.int .i64 (n:Int)] w (Got (.returned (.slice (some ⟨w.heap.size,0,none⟩) n n)) (aa (ae w.heap.size 3 (ag (s.args n))::vL c g x src s)) F w):=by
 refine mo (Np hb hs n hn) λw' h=>?_
 rw[xn]at h
 exact⟨rfl,h⟩
theorem aR(i:aq)(q:Rn->Mt->Rs)(RH:i.op<=20)(hq:dj 102 i q):jQa i q:=by
 intro c g x src s w F hs hx RM Ry IT hb
 obtain⟨op,arg,lit,cells⟩:=i
 simp only at RH
 show Calls _ _ #[_,.agg #[.int .i64 op,.int .i64 arg,.int .i64 lit,.int .i64 cells]] _ _
 have so:=(On.refl hb).box #[.int .i64 op,.int .i64 arg,.int .i64 lit,.int .i64 cells] 164
 have hw:=nA op
 have Sh:=λw=>jn op w
 obtain⟨n,hn⟩: ∃n:Nat,(Code.ai op).1= (n:Int):=⟨(Code.ai op).1.toNat,by omega⟩
 have Zx: (Code.ai op).1.toNat=n:=by omega
 have hn8:n<=8:=by omega
 rw[hn]at Sh
 generalize (Code.ai op).2=ly at *
 have hargs:=λw1 (h1:On F w (aa (ae w.heap.size 164 #[.int .i64 op,.int .i64 arg,.int .i64 lit,.int .i64 cells]::vL c g x src s)) w1)=>h1.aM λF' RJ _ _=>j6 RJ hs n hn8
 have V9: ∀w1 w2 ba,On F w (aa (ae w1 164 #[.int .i64 op,.int .i64 arg,.int .i64 lit,.int .i64 cells]::ae ba 3 (ag (s.args n))::vL c g x src s)) w2->
  Calls prog 102 #[.pointer (some ⟨g,0,none⟩),.agg #[.int .i64 op,.int .i64 arg,.int .i64 lit,.int .i64 cells],.slice (some ⟨ba,0,none⟩) n n] w2 (Got (bp (q x s).f) (aa (ae w1 164 #[.int .i64 op,.int .i64 arg,.int .i64 lit,.int .i64 cells]::ae ba 3 (ag (s.args n))::vL c g (q x s).x src (q x s).s)) F w):=by
  intro w1 w2 ba h
  refine h.aM λF' RJ _ _=> ?_
  have h1:=hq c g x src s ba w2 F' hs hx RM Ry IT
  simp only[Zx]at h1
  exact h1 RJ
 have hle:decide (op<=20)=true:=decide_eq_true RH
 generalize q x s=Q at *
 obtain⟨f,x',s'⟩:=Q
 simp only at V9⊢
 replace⟨Sh,hargs,V9,so⟩:=iD Sh hargs V9 so
 clear hb hq hs hx IT hw hn Zx RM Ry RH
 go_enter func72,ntmps72
 go_wp2_with fail
 refine mo (Sh.out _) λw1 Rh=>?_
 have M0:=so.out.below Rh
 replace hargs:=hid (hargs.out _ M0)
 clear Rh
 go_wp2_with fail
 refine mo hargs.out λw2 BY=>?_
 have b0:w2.cell? ⟨w.heap.size,0,none⟩=some (.int .i64 op):=(BY.ab 0 rfl).cell 0
 have b1:w2.cell? ⟨w.heap.size,1,none⟩=some (.int .i64 arg):=(BY.ab 0 rfl).cell 1
 have b2:w2.cell? ⟨w.heap.size,2,none⟩=some (.int .i64 lit):=(BY.ab 0 rfl).cell 2
 have b3:w2.cell? ⟨w.heap.size,3,none⟩=some (.int .i64 cells):=(BY.ab 0 rfl).cell 3
 replace V9:=hid (V9.out _ _ _ BY)
 clear BY M0
 go_wp2_with fail
 refine V9.out.mono ?_
 rintro e w3 ⟨he,Rb⟩
 have Ra:=hid Rb.tail.tail
 clear Rb
 by_cases hf:f=0
 ·have SH:bp f = .returned (.tuple #[]):=by unfold bp;rw[if_pos hf]
  rw[SH]at he
  subst he
  replace SH:=hid SH
  clear hf
  go_wp2
  go_end0
  exact⟨SH.out.symm,Ra.out⟩
 ·have SH:bp f = .panicked [flt f]:=by unfold bp;rw[if_neg hf]
  rw[SH]at he
  subst he
  replace SH:=hid SH
  clear hf
  go_wp2
  exact⟨rfl,SH.out.symm,Ra.out⟩
theorem On.FZ{P:Program}{f:FuncId}{args:Array Value}{w w':World}{F:Nat->Prop}{B:Asr}{L:List Asr}{R:Ending->List Asr->Prop}(h:On F w (aa (B::L)) w')(hc: ∀F',(aa L).holds w' F'->Calls P f args w' (λe w2=> ∃L',R e L'∧On F' w' (aa L') w2)):
 Calls P f args w' (λe w2=> ∃L',R e L'∧On F w (aa (B::L')) w2):=by
 obtain⟨F',⟨F1,F2,h1,h2,hd,hF⟩,hk,Sr⟩:=h
 refine(hc F2 h2).mono ?_
 rintro e w2 ⟨L',hR,F3,h3,V5,XY⟩
 refine⟨L',hR,λk=>F1 k∨F3 k,⟨F1,F3,B.kept h1 V5 (λk a b=>hd k a b),h3,λk a b=> ?_,λ_=>Iff.rfl⟩,hk.trans' V5 (λk h=>Sr k ((hF k).2 (.inr h))),?_⟩
 ·rcases XY k b with c|c
  ·exact hd k a c
  ·have:=B.lt h1 a;omega
 ·rintro k (h|h)
  ·exact Sr k ((hF k).2 (.inl h))
  ·rcases XY k h with c|c
   ·exact Sr k ((hF k).2 (.inr c))
   ·exact .inr (Nat.le_trans hk.size c)
def cH(f:FuncId)(pre:Nat->Array Value)(i:aq)(l:Mt->List Int):Prop:=
 ∀(c:Vc) (g:Nat) (x:Rn) (src:Value) (s:Mt) (ba:Nat) (w:World) (F:Nat->Prop),s.Ok->cw i x s->
  (aa (ae ba 3 (ag (s.args (Code.ai i.op).1.toNat))::vL c g x src s)).holds w F->
  Calls prog f (pre g++#[.int .i64 i.op,.slice (some ⟨ba,0,none⟩) (Code.ai i.op).1.toNat (Code.ai i.op).1.toNat]) w (ii (l s) (vL c g x src s) F w)
def ar(s:Mt)(n j:Nat):Int:=(s.args n).getD j 0
theorem og(s:Mt)(n:Nat): (s.args n).length=n:=by simp[Mt.args]
theorem Hb(s:Mt)(n j:Nat)(hj:j<n): (s.args n)[j]? = some (ar s n j):=by
 unfold ar
 rw[List.getD_eq_getElem?_getD,List.getElem?_eq_getElem (by rw[og];exact hj)]
 rfl
theorem aj{w:World}{ba n j:Nat}{s:Mt}(h:Blk w ba 3 (ag (s.args n)))(hj:j<n):w.cell? (ba,j)=some ((ar s n j):Vl):=by
 rw[h.cell]
 simp[ag,Hb s n j hj]
theorem fe(op arg lit cells:Int)(h4: (op==34)=false)(h5: (op==35)=false)(h6: (op==36)=false)(h7: (op==37)=false)(h8: (op==38)=false)(h53: (op==53)=false)(h54: (op==54)=false)(h55: (op==55)=false)(h56: (op==56)=false)(h57: (op==57)=false)
 (hw: (Code.ai op).1=2) (v:Int->Int->Int) (hp: ∀x y w,Calls prog 148 #[op,.int .i64 x,.int .i64 y] w (ax (v x y) w)):
 cH 105 (λ_=>#[]) ⟨op,arg,lit,cells⟩ (λs=>[v (ar s 2 0) (ar s 2 1)]):=by
 intro c g x src s ba w F hs IT hb
 have Q8: (Code.ai op).1.toNat=2:=by omega
 simp only[Q8]at hb⊢
 have so:=On.refl hb
 have An:=so.ab 0 rfl
 have a0:=aj An (j:=0) oM
 have a1:=aj An (j:=1) oM
 generalize ar s 2 0=X at *
 generalize ar s 2 1=Y at *
 have hp1:=λw=>hp X Y w
 generalize v X Y=V at *
 have Re:=λw1 (h:On F w (aa (ae ba 3 (ag (s.args 2))::vL c g x src s)) w1)=>h.tail.box #[V] 3
 replace⟨Re,hp1,so⟩:=iC Re hp1 so
 clear hb An hp hw Q8 IT hs
 show Calls _ _ #[op,.slice ba 2 2] _ _
 go_enter func105,ntmps105
 go_wp2_with fail
 go_region_held (λw'=>w'.cell? (ba,0)=some (X:Vl)∧w'.cell? (ba,1)=some (Y:Vl)) (go_keep)
  ((go_at_call 148;refine(hp1.out _).mono ?_;rintro e w5 ⟨rfl,rfl⟩))
 go_wp2
 all_goals go_ret
 all_goals exact⟨some ⟨w.heap.size,0,none⟩,1,ae w.heap.size 3 (ag [V]),rfl,aA _ _,(Re.out w so.out).drew⟩
theorem jQh(op arg lit cells:Int)(h4: (op==34)=false)(h5: (op==35)=false)(h6: (op==36)=false)(h7: (op==37)=false)(h8: (op==38)=false)(h53: (op==53)=false)(h54: (op==54)=false)(h55: (op==55)=false)(h56: (op==56)=false)(h57: (op==57)=false)
 (hw: (Code.ai op).1=1) (v:Int->Int) (hp: ∀x w,Calls prog 147 #[op,.int .i64 x] w (ax (v x) w)):
 cH 105 (λ_=>#[]) ⟨op,arg,lit,cells⟩ (λs=>[v (ar s 1 0)]):=by
 intro c g x src s ba w F hs IT hb
 have Q8: (Code.ai op).1.toNat=1:=by omega
 simp only[Q8]at hb⊢
 have so:=On.refl hb
 have An:=so.ab 0 rfl
 have a0:=aj An (j:=0) oM
 generalize ar s 1 0=X at *
 have hp1:=λw=>hp X w
 generalize v X=V at *
 have Re:=λw1 (h:On F w (aa (ae ba 3 (ag (s.args 1))::vL c g x src s)) w1)=>h.tail.box #[V] 3
 replace⟨Re,hp1,so⟩:=iC Re hp1 so
 clear hb An hp hw Q8 IT hs
 show Calls _ _ #[op,.slice ba 1 1] _ _
 go_enter func105,ntmps105
 go_wp2_with fail
 refine(hp1.out _).mono ?_
 rintro e w5 ⟨rfl,rfl⟩
 go_wp2
 all_goals go_ret
 all_goals exact⟨some ⟨w5.heap.size,0,none⟩,1,ae w5.heap.size 3 (ag [V]),rfl,aA _ _,Re.out w5 so.out⟩
theorem IF(x y:Int)(w:World):Calls prog 148 #[(31:Int),x,y] w (ax (wrap64 (x+y)) w):=by
 go_enter func148,ntmps148
 go_wp2
 go_ret
 exact⟨rfl,rfl⟩
theorem JJ(x y:Int)(w:World):Calls prog 148 #[(32:Int),x,y] w (ax (wrap64 (x-y)) w):=by
 go_enter func148,ntmps148
 go_wp2
 go_ret
 exact⟨rfl,rfl⟩
theorem IZ(x y:Int)(w:World):Calls prog 148 #[(33:Int),x,y] w (ax (wrap64 (x*y)) w):=by
 go_enter func148,ntmps148
 go_wp2
 go_ret
 exact⟨rfl,rfl⟩
theorem E3(x:Int)(w:World):Calls prog 147 #[(39:Int),x] w (ax (wrap64 (-x)) w):=by
 go_enter func147,ntmps147
 go_wp2
 go_ret
 exact⟨rfl,rfl⟩
theorem F6(x:Int)(w:World):Calls prog 147 #[(43:Int),x] w (ax (wrap64 (x+1)) w):=by
 go_enter func147,ntmps147
 go_wp2
 go_ret
 exact⟨rfl,rfl⟩
theorem FH(x:Int)(w:World):Calls prog 147 #[(44:Int),x] w (ax (wrap64 (x-1)) w):=by
 go_enter func147,ntmps147
 go_wp2
 go_ret
 exact⟨rfl,rfl⟩
theorem PQ(arg lit cells:Int):cH 104 (λg=>#[.pointer (some ⟨g,0,none⟩)]) ⟨21,arg,lit,cells⟩ (λs=>[ar s 1 0,ar s 1 0]):=by
 intro c g x src s ba w F hs IT hb
 have Q8: (Code.ai 21).1.toNat=1:=by decide
 simp only[Q8]at hb⊢
 have so:=On.refl hb
 have An:=so.ab 0 rfl
 have a0:=aj An (j:=0) oM
 generalize ar s 1 0=X at *
 have Re:=so.tail.box #[X,X] 3
 replace Re:=hid Re
 clear hb An Q8 IT hs so
 show Calls _ _ #[g,(21:Int),.slice ba 1 1] _ _
 go_enter func104,ntmps104
 go_wp2_with fail
 go_region
 all_goals go_wp2
 all_goals go_ret
 all_goals exact⟨some ⟨w.heap.size,0,none⟩,2,ae w.heap.size 3 (ag [X,X]),rfl,aA _ _,Re.out.drew⟩
theorem OP(arg lit cells:Int):cH 104 (λg=>#[.pointer (some ⟨g,0,none⟩)]) ⟨22,arg,lit,cells⟩ (λs=>[]):=by
 intro c g x src s ba w F hs IT hb
 have Q8: (Code.ai 22).1.toNat=1:=by decide
 simp only[Q8]at hb⊢
 have so:=On.refl hb
 replace so:=hid so
 clear hb Q8 IT hs
 show Calls _ _ #[g,(22:Int),.slice ba 1 1] _ _
 go_enter func104,ntmps104
 go_wp2
 go_ret
 exact⟨none,0,_,rfl,bA _,so.out⟩
theorem Oy(arg lit cells:Int):cH 104 (λg=>#[.pointer (some ⟨g,0,none⟩)]) ⟨23,arg,lit,cells⟩ (λs=>[ar s 2 1,ar s 2 0]):=by
 intro c g x src s ba w F hs IT hb
 have Q8: (Code.ai 23).1.toNat=2:=by decide
 simp only[Q8]at hb⊢
 have so:=On.refl hb
 have An:=so.ab 0 rfl
 have a0:=aj An (j:=0) oM
 have a1:=aj An (j:=1) oM
 generalize ar s 2 0=X at *
 generalize ar s 2 1=Y at *
 have Re:=so.tail.box #[Y,X] 3
 replace Re:=hid Re
 clear hb An Q8 IT hs so
 show Calls _ _ #[g,(23:Int),.slice ba 2 2] _ _
 go_enter func104,ntmps104
 go_wp2_with fail
 go_region
 all_goals go_wp2
 all_goals go_ret
 all_goals exact⟨some ⟨w.heap.size,0,none⟩,2,ae w.heap.size 3 (ag [Y,X]),rfl,aA _ _,Re.out.drew⟩
theorem Oh(arg lit cells:Int):cH 104 (λg=>#[.pointer (some ⟨g,0,none⟩)]) ⟨24,arg,lit,cells⟩ (λs=>[ar s 2 0,ar s 2 1,ar s 2 0]):=by
 intro c g x src s ba w F hs IT hb
 have Q8: (Code.ai 24).1.toNat=2:=by decide
 simp only[Q8]at hb⊢
 have so:=On.refl hb
 have An:=so.ab 0 rfl
 have a0:=aj An (j:=0) oM
 have a1:=aj An (j:=1) oM
 generalize ar s 2 0=X at *
 generalize ar s 2 1=Y at *
 have Re:=so.tail.box #[X,Y,X] 3
 replace Re:=hid Re
 clear hb An Q8 IT hs so
 show Calls _ _ #[g,(24:Int),.slice ba 2 2] _ _
 go_enter func104,ntmps104
 go_wp2_with fail
 go_region
 all_goals go_wp2
 all_goals go_ret
 all_goals exact⟨some ⟨w.heap.size,0,none⟩,3,ae w.heap.size 3 (ag [X,Y,X]),rfl,aA _ _,Re.out.drew⟩
def br(f:FuncId)(pre:Nat->Array Value)(i:aq)(q:Rn->Mt->Rs×List Int):Prop:=
 ∀(c:Vc) (g:Nat) (x:Rn) (src:Value) (s:Mt) (ba:Nat) (w:World) (F:Nat->Prop),s.Ok->x.Ok->cw i x s->
  (aa (ae ba 3 (ag (s.args (Code.ai i.op).1.toNat))::vL c g x src s)).holds w F->
  Calls prog f (pre g++#[.int .i64 i.op,.slice (some ⟨ba,0,none⟩) (Code.ai i.op).1.toNat (Code.ai i.op).1.toNat]) w
   (λe w'=>if(q x s).1.f=0 then ii (q x s).2 (vL c g (q x s).1.x src (q x s).1.s) F w e w' else e = .panicked [flt (q x s).1.f]∧On F w (VA c g (q x s).1.x src (q x s).1.s) w')
def Rs.laid(n:Nat)(p:Rs×List Int):Rs:=if p.1.f=0 then aJ n p.2 p.1.x p.1.s else p.1
def ou(i:aq)(q:Rn->Mt->Rs×List Int):Prop:= ∀x s,s.Ok->x.Ok->cw i x s->(q x s).1.f=0->
 (q x s).1.s.Ok∧(q x s).1.s.d=s.d∧(q x s).2.length<=(q x s).1.s.pd.rm- (s.d- (Code.ai i.op).1.toNat)∧∀v∈(q x s).2,V64 v
abbrev Kn:=Vc->Value->Mt->Prop
def cO(P:Kn)(f:FuncId)(pre:Nat->Array Value)(i:aq)(q:Rn->Mt->Rs×List Int):Prop:=
 ∀(c:Vc) (g:Nat) (x:Rn) (src:Value) (s:Mt) (ba:Nat) (w:World) (F:Nat->Prop),P c src s->s.Ok->x.Ok->cw i x s->
  (aa (ae ba 3 (ag (s.args (Code.ai i.op).1.toNat))::vL c g x src s)).holds w F->
  Calls prog f (pre g++#[.int .i64 i.op,.slice (some ⟨ba,0,none⟩) (Code.ai i.op).1.toNat (Code.ai i.op).1.toNat]) w
   (λe w'=>if(q x s).1.f=0 then ii (q x s).2 (vL c g (q x s).1.x src (q x s).1.s) F w e w' else e = .panicked [flt (q x s).1.f]∧On F w (VA c g (q x s).1.x src (q x s).1.s) w')
def gy(P:Kn)(i:aq)(q:Rn->Mt->Rs×List Int):Prop:= ∀c src x s,P c src s->s.Ok->x.Ok->cw i x s->(q x s).1.f=0->
 (q x s).1.s.Ok∧(q x s).1.s.d=s.d∧(q x s).2.length<=(q x s).1.s.pd.rm- (s.d- (Code.ai i.op).1.toNat)∧∀v∈(q x s).2,V64 v
def ej(P:Kn)(i:aq)(q:Rn->Mt->Rs):Prop:=
 ∀(c:Vc) (g:Nat) (x:Rn) (src:Value) (s:Mt) (w:World) (F:Nat->Prop),P c src s->s.Ok->x.Ok->V64 i.arg->V64 i.lit->cw i x s->(VA c g x src s).holds w F->
  Calls prog 72 #[.pointer (some ⟨g,0,none⟩),i.v] w (Got (bp (q x s).f) (VA c g (q x s).x src (q x s).s) F w)
theorem jQa.toG{i:aq}{q:Rn->Mt->Rs}(h:jQa i q)(P:Kn):ej P i q:=λc g x src s w F _=>h c g x src s w F
theorem br.toG{f:FuncId}{pre:Nat->Array Value}{i:aq}{q:Rn->Mt->Rs×List Int}(h:br f pre i q)(P:Kn):cO P f pre i q:=λc g x src s ba w F _=>h c g x src s ba w F
inductive Sel:Int->FuncId->(Nat->Array Value)->(Nat->Int->Nat->Nat->Array Value)->Prop
 | nu {op:Int} (h1:20<op) (h2:op<=30):Sel op 104 (λg=>#[.pointer (some ⟨g,0,none⟩)]) (λg op ba n=>#[.pointer (some ⟨g,0,none⟩),.int .i64 op,.slice (some ⟨ba,0,none⟩) n n])
 | zF {op:Int} (h1:30<op) (h2:op<=64):Sel op 105 (λ_=>#[]) (λ_ op ba n=>#[.int .i64 op,.slice (some ⟨ba,0,none⟩) n n])
 | memory {op:Int} (h1:64<op) (h2:op<=71):Sel op 106 (λg=>#[.pointer (some ⟨g,0,none⟩)]) (λg op ba n=>#[.pointer (some ⟨g,0,none⟩),.int .i64 op,.slice (some ⟨ba,0,none⟩) n n])
 | lists {op:Int} (h1:71<op) (h2:op<=77):Sel op 107 (λg=>#[.pointer (some ⟨g,0,none⟩)]) (λg op ba n=>#[.pointer (some ⟨g,0,none⟩),.int .i64 op,.slice (some ⟨ba,0,none⟩) n n])
 | goes {op:Int} (h1:77<op) (h2:op<=84):Sel op 108 (λg=>#[.pointer (some ⟨g,0,none⟩)]) (λg op ba n=>#[.pointer (some ⟨g,0,none⟩),.int .i64 op,.slice (some ⟨ba,0,none⟩) n n])
 | told {op:Int} (h1:85<op) (h2:op<=92):Sel op 111 (λg=>#[.pointer (some ⟨g,0,none⟩)]) (λg op ba n=>#[.pointer (some ⟨g,0,none⟩),.int .i64 op,.slice (some ⟨ba,0,none⟩) n n])
 | ux {op:Int} (h1:93<op) (h2:op<=99):Sel op 112 (λ_=>#[]) (λ_ op ba n=>#[.int .i64 op,.slice (some ⟨ba,0,none⟩) n n])
 | vE {op:Int} (h1:99<op) (h2:op<=104):Sel op 113 (λg=>#[.pointer (some ⟨g,0,none⟩)]) (λg op ba n=>#[.pointer (some ⟨g,0,none⟩),.int .i64 op,.slice (some ⟨ba,0,none⟩) n n])
theorem Sel.eq{op:Int}{fn:FuncId}{pre:Nat->Array Value}{a:Nat->Int->Nat->Nat->Array Value}(h:Sel op fn pre a)(g ba n:Nat):pre g++#[.int .i64 op,.slice (some ⟨ba,0,none⟩) n n]=a g op ba n:=by
 cases h<;>rfl
theorem fR(P:Kn)(i:aq)(q:Rn->Mt->Rs×List Int){fn:FuncId}{pre:Nat->Array Value}{ar2:Nat->Int->Nat->Nat->Array Value}(R0:Sel i.op fn pre ar2)(hq:cO P fn pre i q)(hlen:gy P i q):ej P i (λx s=>Rs.laid (Code.ai i.op).1.toNat (q x s)):=by
 intro c g x src s w F hp hs hx RM Ry IT hb
 obtain⟨op,arg,lit,cells⟩:=i
 simp only at R0
 have hse:=R0.eq g
 show Calls _ _ #[_,.agg #[.int .i64 op,.int .i64 arg,.int .i64 lit,.int .i64 cells]] _ _
 have so:=(On.refl hb).box #[.int .i64 op,.int .i64 arg,.int .i64 lit,.int .i64 cells] 164
 have hw:=nA op
 have Wy:=IT.tk
 have Sh:=λw=>jn op w
 obtain⟨n,hn⟩: ∃n:Nat,(Code.ai op).1= (n:Int):=⟨(Code.ai op).1.toNat,by omega⟩
 have Zx: (Code.ai op).1.toNat=n:=by omega
 have hn8:n<=8:=by omega
 rw[hn]at Sh Wy
 have hnd:n<=s.d:=by omega
 have hlen:=hlen c src x s hp hs hx IT
 simp only[Zx]at hlen⊢
 generalize (Code.ai op).2=ly at *
 have hargs:=λw1 (h1:On F w (aa (ae w.heap.size 164 #[.int .i64 op,.int .i64 arg,.int .i64 lit,.int .i64 cells]::vL c g x src s)) w1)=>h1.aM λF' RJ _ _=>j6 RJ hs n hn8
 have VT: ∀w1 w2 ba,On F w (aa (ae w1 164 #[.int .i64 op,.int .i64 arg,.int .i64 lit,.int .i64 cells]::ae ba 3 (ag (s.args n))::vL c g x src s)) w2->
  Calls prog fn (ar2 g op ba n) w2 (λe w3=> ∃L',(if(q x s).1.f=0 then(∃A cap B,e = .returned (.slice A (q x s).2.length cap)∧fA B A (q x s).2∧L'=B::vL c g (q x s).1.x src (q x s).1.s)else e = .panicked [flt (q x s).1.f]∧L'=vL c g (q x s).1.x src (q x s).1.s)∧On F w (aa (ae w1 164 #[.int .i64 op,.int .i64 arg,.int .i64 lit,.int .i64 cells]::L')) w3):=by
  intro w1 w2 ba h
  refine h.FZ λF' RJ=> ?_
  have h1:=hq c g x src s ba w2 F' hp hs hx IT
  simp only[Zx,hse]at h1
  refine(h1 RJ).mono ?_
  intro e w3 hh
  by_cases hf: (q x s).1.f=0
  ·rw[if_pos hf]at hh
   obtain⟨A,cap,B,he,hB,so⟩:=hh
   refine⟨_,?_,so⟩
   rw[if_pos hf]
   exact⟨A,cap,B,he,hB,rfl⟩
  ·rw[if_neg hf]at hh
   obtain⟨he,so⟩:=hh
   refine⟨_,?_,so⟩
   rw[if_neg hf]
   exact⟨he,rfl⟩
 generalize hQ:q x s=Q at *
 clear hQ
 obtain⟨⟨f,x',s'⟩,ls⟩:=Q
 simp only at VT hlen
 clear hse hq
 cases R0
 all_goals(rename_i RH Sc;(try dsimp only at VT))
 all_goals first|have t20:decide (op<=20)=false:=decide_eq_false oM |have t20:decide (op<=20)=true:=decide_eq_true oM
 all_goals first|have t30:decide (op<=30)=false:=decide_eq_false oM |have t30:decide (op<=30)=true:=decide_eq_true oM
 all_goals first|have t64:decide (op<=64)=false:=decide_eq_false oM |have t64:decide (op<=64)=true:=decide_eq_true oM
 all_goals first|have t71:decide (op<=71)=false:=decide_eq_false oM |have t71:decide (op<=71)=true:=decide_eq_true oM
 all_goals first|have t77:decide (op<=77)=false:=decide_eq_false oM |have t77:decide (op<=77)=true:=decide_eq_true oM
 all_goals first|have t84:decide (op<=84)=false:=decide_eq_false oM |have t84:decide (op<=84)=true:=decide_eq_true oM
 all_goals first|have t99:decide (op<=99)=false:=decide_eq_false oM |have t99:decide (op<=99)=true:=decide_eq_true oM
 all_goals first|have t104:decide (op<=104)=false:=decide_eq_false oM |have t104:decide (op<=104)=true:=decide_eq_true oM
 all_goals have t85: (op==85)=false:=by rw[beq_eq_false_iff_ne];omega
 all_goals have t93: (op==93)=false:=by rw[beq_eq_false_iff_ne];omega
 all_goals first|have hjp:decide (op<93)=false:=decide_eq_false oM |have hjp:decide (op<93)=true:=decide_eq_true oM
 all_goals
  by_cases hf:f=0
  ·simp only[if_pos hf]at VT
   obtain⟨hs',YX,OF,hl⟩:=hlen hf
   have ZD: (s'.ak n ls).1=0:=sM (by rw[YX];exact OF)
   have Ro: ∀w1 w2 A cap B,fA B A ls->On F w (aa (ae w1 164 #[.int .i64 op,.int .i64 arg,.int .i64 lit,.int .i64 cells]::B::vL c g x' src s')) w2->
    Calls prog 103 #[.pointer (some ⟨g,0,none⟩),.int .i64 (n:Int),.slice A ls.length cap] w2 (Got (.returned (.tuple #[])) (aa (ae w1 164 #[.int .i64 op,.int .i64 arg,.int .i64 lit,.int .i64 cells]::B::vL c g x' src (s'.ak n ls).2)) F w):=by
    intro w1 w2 A cap B hB h
    exact h.aM λF' RJ _ _=>EV (On.refl RJ) hs' n (by rw[YX];exact hnd) ls hl A cap hB (by rw[YX];exact OF)
   have hE:Rs.laid n (⟨f,x',s'⟩,ls)= ⟨0,x',(s'.ak n ls).2⟩:=by
    show(if f=0 then aJ n ls x' s' else _)=_
    rw[if_pos hf]
    show(⟨(s'.ak n ls).1,x',(s'.ak n ls).2⟩:Rs)=_
    rw[ZD]
   rw[hE]
   show Calls _ _ _ _ (Got (.returned (.tuple #[])) (VA c g x' src (s'.ak n ls).2) F w)
   generalize (s'.ak n ls).2=s2 at *
   replace⟨Sh,hargs,VT,Ro,so⟩:=iE Sh hargs VT Ro so
   clear hp hb hs hx IT hw hn Zx RM Ry RH Sc Wy hlen hf hE ZD hl hs' OF YX
   go_enter func72,ntmps72
   go_wp2_with fail
   refine mo (Sh.out _) λw1 Rh=>?_
   have M0:=so.out.below Rh
   replace hargs:=hid (hargs.out _ M0)
   clear Rh
   go_wp2_with fail
   refine mo hargs.out λw2 BY=>?_
   have b0:w2.cell? ⟨w.heap.size,0,none⟩=some (.int .i64 op):=(BY.ab 0 rfl).cell 0
   replace VT:=hid (VT.out _ _ _ BY)
   clear BY M0
   go_wp2_with fail
   refine VT.out.mono ?_
   rintro e w3 ⟨L',⟨A,cap,B,rfl,hB,rfl⟩,Rb⟩
   replace Ro:=hid (Ro.out _ _ A cap B hB Rb)
   clear Rb
   replace hB:=hid hB
   go_wp2_with fail
   refine mo Ro.out λw4 Ra=>?_
   replace Ra:=hid Ra.tail.tail
   go_wp2
   go_end0
   exact⟨rfl,Ra.out⟩
  ·simp only[if_neg hf]at VT
   have hE:Rs.laid n (⟨f,x',s'⟩,ls)= ⟨f,x',s'⟩:=by
    show(if f=0 then aJ n ls x' s' else _)=_
    rw[if_neg hf]
   rw[hE]
   have SH:bp f = .panicked [flt f]:=by unfold bp;rw[if_neg hf]
   show Calls _ _ _ _ (Got (bp f) (VA c g x' src s') F w)
   rw[SH]
   replace⟨Sh,hargs,VT,so⟩:=iD Sh hargs VT so
   clear hp hb hs hx IT hw hn Zx RM Ry RH Sc Wy hlen hf hE SH
   go_enter func72,ntmps72
   go_wp2_with fail
   refine mo (Sh.out _) λw1 Rh=>?_
   have M0:=so.out.below Rh
   replace hargs:=hid (hargs.out _ M0)
   clear Rh
   go_wp2_with fail
   refine mo hargs.out λw2 BY=>?_
   have b0:w2.cell? ⟨w.heap.size,0,none⟩=some (.int .i64 op):=(BY.ab 0 rfl).cell 0
   replace VT:=hid (VT.out _ _ _ BY)
   clear BY M0
   go_wp2_with fail
   refine VT.out.mono ?_
   rintro e w3 ⟨L',⟨rfl,rfl⟩,Rb⟩
   replace Rb:=hid Rb.tail
   go_wp2
   exact⟨rfl,rfl,Rb.out⟩
theorem nY{i:aq}{q:Rn->Mt->Rs×List Int}{fn:FuncId}{pre:Nat->Array Value}{ar2:Nat->Int->Nat->Nat->Array Value}(R0:Sel i.op fn pre ar2)(hq:br fn pre i q)(hlen:ou i q):jQa i (λx s=>Rs.laid (Code.ai i.op).1.toNat (q x s)):=
 λc g x src s w F=>fR (λ_ _ _=>True) i q R0 (hq.toG _) (λ_ _ x s _=>hlen x s) c g x src s w F trivial
theorem bF(i:aq)(q:Rn->Mt->Rs×List Int)(RH:30<i.op)(Sc:i.op<=64)(hq:br 105 (λg=>#[]) i q)(hlen:ou i q):jQa i (λx s=>Rs.laid (Code.ai i.op).1.toNat (q x s)):=
 nY (.zF RH Sc) hq hlen
theorem nT(i:aq)(q:Rn->Mt->Rs×List Int)(RH:64<i.op)(Sc:i.op<=71)(hq:br 106 (λg=>#[.pointer (some ⟨g,0,none⟩)]) i q)(hlen:ou i q):jQa i (λx s=>Rs.laid (Code.ai i.op).1.toNat (q x s)):=
 nY (.memory RH Sc) hq hlen
theorem xP(i:aq)(q:Rn->Mt->Rs×List Int)(RH:71<i.op)(Sc:i.op<=77)(hq:br 107 (λg=>#[.pointer (some ⟨g,0,none⟩)]) i q)(hlen:ou i q):jQa i (λx s=>Rs.laid (Code.ai i.op).1.toNat (q x s)):=
 nY (.lists RH Sc) hq hlen
theorem xc{i:aq}{l:Mt->List Int}{fn:FuncId}{pre:Nat->Array Value}{ar2:Nat->Int->Nat->Nat->Array Value}(R0:Sel i.op fn pre ar2)(hq:cH fn pre i l)
 (hlen: ∀x s,s.Ok->cw i x s->(l s).length<=s.pd.rm- (s.d- (Code.ai i.op).1.toNat)∧∀v∈l s,V64 v):jQa i (λx s=>aJ (Code.ai i.op).1.toNat (l s) x s):=
 nY (q:=λx s=>(⟨0,x,s⟩,l s)) R0 (λc g x src s ba w F hs _ ha hb=>(hq c g x src s ba w F hs ha hb).mono λe w' h=>by
  show(if(0:Int)=0 then _ else _)
  rw[if_pos rfl];exact h) (λx s hs _ ha _=>⟨hs,rfl,hlen x s hs ha⟩)
theorem eE(i:aq)(l:Mt->List Int)(RH:20<i.op)(Sc:i.op<=30)(hq:cH 104 (λg=>#[.pointer (some ⟨g,0,none⟩)]) i l)
 (hlen: ∀x s,s.Ok->cw i x s->(l s).length<=s.pd.rm- (s.d- (Code.ai i.op).1.toNat)∧∀v∈l s,V64 v):jQa i (λx s=>aJ (Code.ai i.op).1.toNat (l s) x s):=
 xc (.nu RH Sc) hq hlen
theorem aF(i:aq)(l:Mt->List Int)(RH:30<i.op)(Sc:i.op<=64)(hq:cH 105 (λg=>#[]) i l)
 (hlen: ∀x s,s.Ok->cw i x s->(l s).length<=s.pd.rm- (s.d- (Code.ai i.op).1.toNat)∧∀v∈l s,V64 v):jQa i (λx s=>aJ (Code.ai i.op).1.toNat (l s) x s):=
 xc (.zF RH Sc) hq hlen
theorem fH(P:Kn)(i:aq)(q:Rn->Mt->Rs×List Int)(RH:64<i.op)(Sc:i.op<=71)(hq:cO P 106 (λg=>#[.pointer (some ⟨g,0,none⟩)]) i q)(hlen:gy P i q):ej P i (λx s=>Rs.laid (Code.ai i.op).1.toNat (q x s)):=
 fR P i q (.memory RH Sc) hq hlen
theorem gJ(P:Kn)(i:aq)(q:Rn->Mt->Rs×List Int)(RH:71<i.op)(Sc:i.op<=77)(hq:cO P 107 (λg=>#[.pointer (some ⟨g,0,none⟩)]) i q)(hlen:gy P i q):ej P i (λx s=>Rs.laid (Code.ai i.op).1.toNat (q x s)):=
 fR P i q (.lists RH Sc) hq hlen
theorem fc(P:Kn)(i:aq)(q:Rn->Mt->Rs×List Int)(RH:77<i.op)(Sc:i.op<=84)(hq:cO P 108 (λg=>#[.pointer (some ⟨g,0,none⟩)]) i q)(hlen:gy P i q):ej P i (λx s=>Rs.laid (Code.ai i.op).1.toNat (q x s)):=
 fR P i q (.goes RH Sc) hq hlen
theorem rP(P:Kn)(i:aq)(q:Rn->Mt->Rs×List Int)(RH:85<i.op)(Sc:i.op<=92)(hq:cO P 111 (λg=>#[.pointer (some ⟨g,0,none⟩)]) i q)(hlen:gy P i q):ej P i (λx s=>Rs.laid (Code.ai i.op).1.toNat (q x s)):=
 fR P i q (.told RH Sc) hq hlen
section
variable {P:Program}(w:World)
theorem lB{o:Oper}{a:Act}{K:Act->World->Prop}{Q:Exit->Act->World->Prop}(s x:Operand)(t:TypeId)
 (ho:o.op = .call { callee:= .builtin .append,args:=#[s,x],argTypes:=#[t,t] })
 (e:TypeId) (i:TypeInfo) (z:Value) (ht:P.underlying t=some (.slice e)) (hi:P.info? e=some i) (hz:i.zero=some z)
 (b:Addr) (sLen VX:Nat) (olds:List Value) (hs:a.eval s = .slice (some b) sLen VX) (Sg:olds.length=sLen*i.size) (holds: ∀j v,olds[j]? = some v->w.cell? (b.add j)=some v)
 (ad:Addr) (n c:Nat) (news:List Value) (hx:a.eval x = .slice (some ad) n c) (hl:news.length=n*i.size) (Uv: ∀j v,news[j]? = some v->w.cell? (ad.add j)=some v)
 (hg:VX<sLen+n) (h63: ((sLen+n:Nat):Int)<=9223372036854775807) (V0:Builtin.nextslicecap (sLen+n) VX*i.bytes<=281474976710656)
 (h: ∀cap zs,K (a.put o.dst (.slice (some ⟨w.heap.size,0,none⟩) (sLen+n) cap)) (w.drew.alloc (.cells (olds.toArray++news.toArray++zs) e))):o.wp P a w K Q:=by
 have hr:=run_append_grow (P:=P) (w:=w) t o.type e i z ht hi hz b sLen VX olds Sg holds ad n c news hl Uv hg h63 V0
 unfold Oper.wp execOp
 simp only[ho,resolve,invoke,builtin,Sem.run_bind,Sem.run_pure,Result.andThen_ok,List.map_toArray,List.map_cons,List.map_nil,hs,hx,hr]
 exact h _ _
theorem mW{ops:Array Oper}{rest:List Oper}{o:Oper}{a:Act}{Q:Exit->Act->World->Prop}(hgd:o.guard=none)(s x:Operand)(t:TypeId)
 (ho:o.op = .call { callee:= .builtin .append,args:=#[s,x],argTypes:=#[t,t] })
 (e:TypeId) (i:TypeInfo) (z:Value) (ht:P.underlying t=some (.slice e)) (hi:P.info? e=some i) (hz:i.zero=some z)
 (b:Addr) (sLen VX:Nat) (olds:List Value) (hs:a.eval s = .slice (some b) sLen VX) (Sg:olds.length=sLen*i.size) (holds: ∀j v,olds[j]? = some v->w.cell? (b.add j)=some v)
 (ad:Addr) (n c:Nat) (news:List Value) (hx:a.eval x = .slice (some ad) n c) (hl:news.length=n*i.size) (Uv: ∀j v,news[j]? = some v->w.cell? (ad.add j)=some v)
 (hg:VX<sLen+n) (h63: ((sLen+n:Nat):Int)<=9223372036854775807) (V0:Builtin.nextslicecap (sLen+n) VX*i.bytes<=281474976710656)
 (h: ∀cap zs,wpList P ops Q rest (a.put o.dst (.slice (some ⟨w.heap.size,0,none⟩) (sLen+n) cap)) (w.drew.alloc (.cells (olds.toArray++news.toArray++zs) e))):wpList P ops Q (o::rest) a w:=
 wpList_plain hgd λ_ hK=>lB w s x t ho e i z ht hi hz b sLen VX olds hs Sg holds ad n c news hx hl Uv hg h63 V0 λcap zs=>hK _ _ (h cap zs)
theorem oQ{ops:Array Oper}{o:Oper}{a:Act}{K:Act->World->Prop}{Q:Exit->Act->World->Prop}{E:Prop}(hgd:o.guard=none)(s x:Operand)(t:TypeId)
 (ho:o.op = .call { callee:= .builtin .append,args:=#[s,x],argTypes:=#[t,t] })
 (e:TypeId) (i:TypeInfo) (z:Value) (ht:P.underlying t=some (.slice e)) (hi:P.info? e=some i) (hz:i.zero=some z)
 (b:Addr) (sLen VX:Nat) (olds:List Value) (hs:a.eval s = .slice (some b) sLen VX) (Sg:olds.length=sLen*i.size) (holds: ∀j v,olds[j]? = some v->w.cell? (b.add j)=some v)
 (ad:Addr) (n c:Nat) (news:List Value) (hx:a.eval x = .slice (some ad) n c) (hl:news.length=n*i.size) (Uv: ∀j v,news[j]? = some v->w.cell? (ad.add j)=some v)
 (hg:VX<sLen+n) (h63: ((sLen+n:Nat):Int)<=9223372036854775807) (V0:Builtin.nextslicecap (sLen+n) VX*i.bytes<=281474976710656)
 (h: ∀cap zs,K (a.put o.dst (.slice (some ⟨w.heap.size,0,none⟩) (sLen+n) cap)) (w.drew.alloc (.cells (olds.toArray++news.toArray++zs) e))):
 if Region.wanted o (yielded ops a.tmps)=true then Oper.wp P o a w K Q else E:=by
 have hw:Region.wanted o (yielded ops a.tmps)=true:=by simp[Region.wanted,hgd]
 rw[if_pos hw]
 exact lB w s x t ho e i z ht hi hz b sLen VX olds hs Sg holds ad n c news hx hl Uv hg h63 V0 h
end
theorem sZ(b j k:Nat): ((⟨b,j,none⟩:Addr).add k)= ⟨b,j+k,none⟩:=by cases k<;>simp[Addr.add]
theorem yv(rb:Nat)(t:TypeId)(cs:Array Value)(l:List Int)(hc: ∀(k:Nat) (v:Int),l[k]? = some v->cs[k]? = some (Value.int .i64 v)):fA (ae rb t cs) (some ⟨rb,0,none⟩) l:=by
 intro w F hB
 refine⟨?_,?_⟩
 ·intro k v hk
  refine⟨_,rfl,?_⟩
  have h1:=hB.1.cell k
  have h2: ((⟨rb,0,none⟩:Addr).add k)= ⟨rb,k,none⟩:=by simp[Addr.add];intro h;exact h.symm
  rw[h2,h1]
  exact hc k v hk
 ·intro a ha
  obtain rfl:a= ⟨rb,0,none⟩:=by injection ha with ha;exact ha.symm
  exact(hB.2 rb).2 rfl
theorem qk(rb:Nat)(t:TypeId)(l:List Int)(zs:Array Value):fA (ae rb t (ag l++zs)) (some ⟨rb,0,none⟩) l:=yv _ _ _ _ λk v hk=>by
 have Rd:k<l.length:=(List.getElem?_eq_some_iff.1 hk).1
 rw[Array.getElem?_append_left (by simp[ag];exact Rd)]
 simp[ag,hk]
theorem vF(rb:Nat)(t:TypeId)(cs:Array Value)(j:Nat)(l:List Int)(hc: ∀(k:Nat) (v:Int),l[k]? = some v->cs[j+k]? = some (Value.int .i64 v)):fA (ae rb t cs) (some ⟨rb,j,none⟩) l:=by
 intro w F hB
 refine⟨?_,?_⟩
 ·intro k v hk
  refine⟨_,rfl,?_⟩
  have h1:=hB.1.cell (j+k)
  have h2:=sZ rb j k
  rw[h2,h1]
  exact hc k v hk
 ·intro a ha
  obtain rfl:a= ⟨rb,j,none⟩:=by injection ha with ha;exact ha.symm
  exact(hB.2 rb).2 rfl
theorem MR(s:Mt):s.args 1 = [ar s 1 0]:=rfl
theorem OR(s:Mt):s.args 2 = [ar s 2 0,ar s 2 1]:=rfl
theorem NB(arg lit cells:Int):cH 104 (λg=>#[.pointer (some ⟨g,0,none⟩)]) ⟨28,arg,lit,cells⟩ (λs=>[ar s 2 1,ar s 2 0,ar s 2 1]):=by
 intro c g x src s ba w F hs IT hb
 have Q8: (Code.ai 28).1.toNat=2:=by decide
 simp only[Q8]at hb⊢
 have so:=On.refl hb
 have An:=so.ab 0 rfl
 have a0:=aj An (j:=0) oM
 have a1:=aj An (j:=1) oM
 generalize ar s 2 0=X at *
 generalize ar s 2 1=Y at *
 have Re:=so.tail.box #[.int .i64 Y,.int .i64 X,.int .i64 Y] 3
 replace Re:=hid Re
 clear hb An Q8 IT hs so
 show Calls _ _ #[.pointer (some ⟨g,0,none⟩),.int .i64 28,.slice (some ⟨ba,0,none⟩) 2 2] _ _
 go_enter func104,ntmps104
 go_wp2_with fail
 go_region
 all_goals go_wp2
 all_goals go_ret
 all_goals exact⟨some ⟨w.heap.size,0,none⟩,3,ae w.heap.size 3 (ag [Y,X,Y]),rfl,aA _ _,Re.out.drew⟩
theorem P2(arg lit cells:Int):cH 104 (λg=>#[.pointer (some ⟨g,0,none⟩)]) ⟨27,arg,lit,cells⟩ (λs=>[ar s 2 1]):=by
 intro c g x src s ba w F hs IT hb
 have Q8: (Code.ai 27).1.toNat=2:=by decide
 simp only[Q8]at hb⊢
 have so:=On.refl hb
 have ZG:fA (ae ba 3 (ag (s.args 2))) (some ⟨ba,1,none⟩) [ar s 2 1]:=vF _ _ _ 1 _ λk v hk=>by
  rw[OR]
  rcases k with _|k
  ·simp at hk
   subst hk
   rfl
  ·simp at hk
 generalize ag (s.args 2)=ac at *
 generalize ar s 2 1=Y at *
 replace⟨so,ZG⟩:=iB so ZG
 clear hb Q8 IT hs
 show Calls _ _ #[.pointer (some ⟨g,0,none⟩),.int .i64 27,.slice (some ⟨ba,0,none⟩) 2 2] _ _
 go_enter func104,ntmps104
 go_wp2
 go_ret
 exact⟨some ⟨ba,1,none⟩,1,ae ba 3 ac,rfl,ZG.out,so.out⟩
theorem K0(arg lit cells:Int):cH 104 (λg=>#[.pointer (some ⟨g,0,none⟩)]) ⟨30,arg,lit,cells⟩ (λs=>[(s.d:Int)]):=by
 intro c g x src s ba w F hs IT hb
 have Q8: (Code.ai 30).1.toNat=0:=by decide
 simp only[Q8]at hb⊢
 have so:=On.refl hb
 have r0:=so.tail.r0
 have m5:=so.tail.m5
 have hd:=λw1 (h:On F w (aa (ae ba 3 (ag (s.args 0))::vL c g x src s)) w1)=>dG h.tail.sd
 have Re:=λw1 (h:On F w (aa (ae ba 3 (ag (s.args 0))::vL c g x src s)) w1)=>h.tail.box #[.int .i64 (s.d:Int)] 3
 generalize ag (s.args 0)=ac at *
 replace⟨so,hd,Re⟩:=iC so hd Re
 clear hb Q8 IT hs
 show Calls _ _ #[.pointer (some ⟨g,0,none⟩),.int .i64 30,.slice (some ⟨ba,0,none⟩) 0 0] _ _
 go_enter func104,ntmps104
 go_wp2_with fail
 refine(hd.out _ so.out).mono ?_
 rintro e w1 ⟨rfl,rfl⟩
 simp only[]
 go_wp2
 go_ret
 exact⟨some ⟨w1.heap.size,0,none⟩,1,ae w1.heap.size 3 (ag [(s.d:Int)]),rfl,aA _ _,Re.out _ so.out⟩
theorem zz: (prog.info? 3).map (λi=>(i.zero,i.size,i.bytes))=some (some (.int .i64 0),1,8):=by kernel_rfl
theorem Qp(arg lit cells:Int):cH 104 (λg=>#[.pointer (some ⟨g,0,none⟩)]) ⟨25,arg,lit,cells⟩ (λs=>[ar s 3 1,ar s 3 2,ar s 3 0]):=by
 intro c g x src s ba w F hs IT hb
 have Q8: (Code.ai 25).1.toNat=3:=by decide
 simp only[Q8]at hb⊢
 have so:=On.refl hb
 have An:=so.ab 0 rfl
 have a0:=aj An (j:=0) oM
 have a1:=aj An (j:=1) oM
 have a2:=aj An (j:=2) oM
 have Rd:=An.lt
 obtain⟨i0,Ur,Us,Uj,SQ⟩:=info_parts zz
 generalize ar s 3 0=X at *
 generalize ar s 3 1=Y at *
 generalize ar s 3 2=Z at *
 generalize ag (s.args 3)=ac at *
 replace⟨so,Ur,Us,Uj,SQ⟩:=iE so Ur Us Uj SQ
 have b1:=hid a1
 have b2:=hid a2
 clear hb An Q8 IT hs
 show Calls _ _ #[.pointer (some ⟨g,0,none⟩),.int .i64 25,.slice (some ⟨ba,0,none⟩) 3 3] _ _
 go_enter func104,ntmps104
 go_wp2_with fail
 go_region_law ((refine oQ _ rfl (.tmp 41) (.tmp 45) 23 rfl 3 i0 (.int .i64 0) ?_ ?_ ?_ ⟨ba,1,none⟩ 2 2 [.int .i64 Y,.int .i64 Z] ?_ ?_ ?_ ⟨w.heap.size,0,none⟩ 1 1 [.int .i64 X] ?_ ?_ ?_ ?_ ?_ ?_ ?_;exact underlying23;exact Ur.out;exact Us.out;rfl;rw[Uj.out];rfl;intro j v hj;rw[sZ];(rcases j with _|_|j);(simp at hj;subst hj;simp[World.cell?_alloc_some,b1.out]);(simp at hj;subst hj;simp[World.cell?_alloc_some,b2.out]);(simp at hj);rfl;rw[Uj.out];rfl;intro j v hj;rw[sZ];(rcases j with _|j);(simp at hj;subst hj;simp);(simp at hj);decide;decide;rw[SQ.out];decide;intro cap zs))
 all_goals go_wp2
 all_goals go_ret
 have h9:=(so.out.box #[.int .i64 X] 3).box (#[.int .i64 Y,.int .i64 Z,.int .i64 X]++zs) 3
 simp only[World.size_alloc]at h9
 exact⟨some ⟨w.heap.size+1,0,none⟩,cap,ae (w.heap.size+1) 3 (ag [Y,Z,X]++zs),rfl,qk _ _ [Y,Z,X] zs,((h9.drop 1 rfl).drop 1 rfl).drew.drew⟩
def mq(x:Int):List Int:=if x=0 then [x]else [x,x]
theorem Pb(arg lit cells:Int):cH 104 (λg=>#[.pointer (some ⟨g,0,none⟩)]) ⟨26,arg,lit,cells⟩ (λs=>mq (ar s 1 0)):=by
 intro c g x src s ba w F hs IT hb
 have Q8: (Code.ai 26).1.toNat=1:=by decide
 simp only[Q8]at hb⊢
 have so:=On.refl hb
 have An:=so.ab 0 rfl
 have a0:=aj An (j:=0) oM
 have Rd:=An.lt
 obtain⟨i0,Ur,Us,Uj,SQ⟩:=info_parts zz
 have ZG:fA (ae ba 3 (ag (s.args 1))) (some ⟨ba,0,none⟩) [ar s 1 0]:=by
  have h:=aA ba (s.args 1)
  rw[MR]at h
  rw[MR]
  exact h
 generalize ar s 1 0=X at *
 generalize ag (s.args 1)=ac at *
 replace⟨so,Ur,Us,Uj,SQ,ZG⟩:=iF so Ur Us Uj SQ ZG
 have b0:=hid a0
 clear hb An Q8 IT hs
 show Calls _ _ #[.pointer (some ⟨g,0,none⟩),.int .i64 26,.slice (some ⟨ba,0,none⟩) 1 1] _ _
 by_cases hX:X=0
 ·have e:mq X = [X]:=if_pos hX
  have t1: (X != 0)=false:=by simpa using hX
  rw[e]
  clear e
  replace hX:=hid hX
  go_enter func104,ntmps104
  go_wp2
  go_ret
  exact⟨some ⟨ba,0,none⟩,1,ae ba 3 ac,rfl,ZG.out,so.out⟩
 ·have e:mq X = [X,X]:=if_neg hX
  have t1: (X != 0)=true:=by simpa using hX
  rw[e]
  clear e
  replace hX:=hid hX
  go_enter func104,ntmps104
  go_wp2_with (at_builtin;refine mW _ rfl (.tmp 53) (.tmp 57) 23 rfl 3 i0 (.int .i64 0) ?_ ?_ ?_ ⟨ba,0,none⟩ 1 1 [.int .i64 X] ?_ ?_ ?_ ⟨w.heap.size,0,none⟩ 1 1 [.int .i64 X] ?_ ?_ ?_ ?_ ?_ ?_ ?_;exact underlying23;exact Ur.out;exact Us.out;rfl;rw[Uj.out];rfl;intro j v hj;rw[sZ];(rcases j with _|j);(simp at hj;subst hj;simp[World.cell?_alloc_some,b0.out]);(simp at hj);rfl;rw[Uj.out];rfl;intro j v hj;rw[sZ];(rcases j with _|j);(simp at hj;subst hj;simp);(simp at hj);decide;decide;rw[SQ.out];decide;intro cap zs)
  all_goals go_ret
  have h9:=(so.out.box #[.int .i64 X] 3).box (#[.int .i64 X,.int .i64 X]++zs) 3
  simp only[World.size_alloc]at h9
  exact⟨some ⟨w.heap.size+1,0,none⟩,cap,ae (w.heap.size+1) 3 (ag [X,X]++zs),rfl,qk _ _ [X,X] zs,((h9.drop 1 rfl).drop 1 rfl).drew⟩
def oK(s:Mt)(n:Int):Bool:=decide (0<=n) &&decide (n< (s.d:Int) -1)
def sq(x:Rn)(s:Mt):Rs×List Int:=(⟨if oK s (ar s 1 0)then 0 else 1,x,s⟩,[s.top (ar s 1 0+1)])
theorem PA(arg lit cells:Int):br 104 (λg=>#[.pointer (some ⟨g,0,none⟩)]) ⟨29,arg,lit,cells⟩ sq:=by
 intro c g x src s ba w F hs hx IT hb
 have Q8: (Code.ai 29).1.toNat=1:=by decide
 simp only[Q8]at hb⊢
 have so:=(On.refl hb).drew
 have An:=(On.refl hb).ab 0 rfl
 have a0:=aj An (j:=0) oM
 have r0:=(On.refl hb).tail.r0
 have m5:=(On.refl hb).tail.m5
 have Rd:=An.lt
 have th: ∀W,On F w (aa (ae ba 3 (ag (s.args 1))::vL c g x src s)) W->W.cell? (ba,0)=some ((ar s 1 0):Vl)∧W.cell? (g,0)=some (c.gM:Vl)∧W.cell? (c.gM,5)=some (c.gD:Vl):=λW h=>⟨aj (h.ab 0 rfl) oM,h.tail.r0,h.tail.m5⟩
 have hdp: ∀W,On F w (aa (ae ba 3 (ag (s.args 1))::vL c g x src s)) W->Calls prog 16 #[c.gD] W (ax (s.d:Int) W):=λW h=>dG h.tail.sd
 have hd1:IntKind.i64.wrap ((s.d:Int) -1)= (s.d:Int) -1:=IntWalk.i64_in _ (by have:=hs.dle;omega)
 have htp:oK s (ar s 1 0)=true->∀W,On F w (aa (ae ba 3 (ag (s.args 1))::vL c g x src s)) W->Calls prog 97 #[g,(ar s 1 0+1:Int)] W (Quiet (s.top (ar s 1 0+1)) W):=λ_ W h=>xd h.tail hs _
 have YI:oK s (ar s 1 0)=true->IntKind.i64.wrap (ar s 1 0+1)=ar s 1 0+1:=λh=>IntWalk.i64_in _ (by
  unfold oK at h
  simp at h
  have:=hs.dle
  omega)
 have X6:oK s (ar s 1 0)= (decide (0<=ar s 1 0) &&decide (ar s 1 0< (s.d:Int) -1)):=rfl
 unfold sq
 simp only
 generalize oK s (ar s 1 0)=o at *
 generalize s.top (ar s 1 0+1)=V at *
 generalize ar s 1 0=X at *
 generalize (s.d:Int)=D at *
 generalize ag (s.args 1)=ac at *
 show Calls _ _ #[g,(29:Int),.slice ba 1 1] _ _
 replace⟨th,hdp,so⟩:=iC th hdp so
 clear hb An Q8 IT hs hx
 by_cases hX:0<=X
 ·have t1:decide (0<=X)=true:=decide_eq_true hX
  by_cases hY:X<D-1
  ·have t2:decide (X<D-1)=true:=decide_eq_true hY
   have ho:o=true:=by rw[X6,t1,t2];rfl
   subst ho
   replace htp:=hid (htp rfl)
   replace YI:=YI rfl
   replace⟨hX,hY⟩:=iB hX hY
   clear X6
   show Calls _ _ _ _ (λe w'=>ii [V] (vL c g x src s) F w e w')
   go_enter func104,ntmps104
   go_wp2_with fail
   go_region_held (λw'=>w'.cell? (ba,0)=some (X:Vl)∧w'.cell? (g,0)=some (c.gM:Vl)∧w'.cell? (c.gM,5)=some (c.gD:Vl)) (go_keep)
    ((first
      | (go_at_call 16;refine(hdp.out _ so.out).mono ?_;rintro e w5 ⟨rfl,rfl⟩)
      | (go_at_call 95;refine(bz _ _).mono ?_;rintro e w5 ⟨rfl,rfl⟩)))
   go_wp2_with fail
   refine mo (htp.out _ so.out) λw6 Sq=>?_
   simp only[]
   have h6:=(so.out.below Sq).tail.box #[V] 3
   replace h6:=hid h6
   clear Sq
   go_wp2
   go_ret
   exact⟨some ⟨w6.heap.size,0,none⟩,1,ae w6.heap.size 3 (ag [V]),rfl,aA _ _,h6.out⟩
  ·have t2:decide (X<D-1)=false:=decide_eq_false hY
   have ho:o=false:=by rw[X6,t1,t2];rfl
   replace⟨hX,hY⟩:=iB hX hY
   subst ho
   clear htp YI X6
   show Calls _ _ _ _ (λe w'=>e = .panicked [flt 1]∧On F w (VA c g x src s) w')
   go_enter func104,ntmps104
   go_wp2_with fail
   go_region_held (λw'=>w'.cell? (ba,0)=some (X:Vl)∧w'.cell? (g,0)=some (c.gM:Vl)∧w'.cell? (c.gM,5)=some (c.gD:Vl)) (go_keep)
    ((first
      | (go_at_call 16;refine(hdp.out _ so.out).mono ?_;rintro e w5 ⟨rfl,rfl⟩)
      | (go_at_call 95;refine dead (bR _ _) ⟨rfl,rfl,so.out.tail⟩ ?_;intro hF e w5 he hw;subst he;subst hw;replace hF:=hid hF)))
   exact hF.out.elim
 ·have t1:decide (0<=X)=false:=decide_eq_false hX
  have ho:o=false:=by rw[X6,t1];rfl
  replace hX:=hid hX
  subst ho
  clear htp YI X6
  show Calls _ _ _ _ (λe w'=>e = .panicked [flt 1]∧On F w (VA c g x src s) w')
  go_enter func104,ntmps104
  go_wp2_with fail
  refine wp_region_held_drew (S:=(λw'=>w'.cell? (ba,0)=some (X:Vl)∧w'.cell? (g,0)=some (c.gM:Vl)∧w'.cell? (c.gM,5)=some (c.gD:Vl))) kR ?hS0P (λhaN=> ?rsSP)
  case hS0P=>((try dsimp only);go_keep)
  refine tkL 0 ?_
  refine pt ?_
  refine tkL 1 ?_
  refine pt ?_
  refine tkL 2 ?_
  refine pt ?_
  refine tkL 3 (v:= .bool false) ?_ (hy:=Or.inl ⟨by kernel_rfl,by intro w Y8;(try dsimp only at Y8);go_simp;try exact t1⟩)
  refine pt ?_
  refine tkL 4 ?_
  refine pt ?_
  refine tkU 5 ?_
  refine tkU 6 ?_
  refine tkU 7 ?_
  refine tkU 8 ?_
  refine tkU 9 ?_
  refine tkU 10 ?_
  refine tkU 11 ?_
  refine tkU 12 ?_
  refine tkU 13 ?_
  refine tkU 14 ?_
  refine tkU 15 ?_
  refine tkU 16 ?_
  refine tkU 17 ?_
  refine pt ?_
  refine tkL 18 ?_
  refine pt ?_
  refine wpAnyH_ready (rs:=[19]) kR (by simp) ?_
  refine AllReadyH.cons rfl (λK hK=> ?stepP) ?moreP
  case moreP=>exact AllReadyH.nil
  go_simp
  refine(bR _ _).mono ?_
  rintro e w5 ⟨rfl,rfl⟩
  exact⟨rfl,rfl,so.out.tail⟩
theorem zW(P:Kn)(arg lit cells:Int):ej P ⟨105,arg,lit,cells⟩ (λx s=>⟨17,x,s⟩):=by
 intro c g x src s w F hp hs hx RM Ry IT hb
 show Calls _ _ #[_,.agg #[(105:Int),arg,lit,cells]] _ _
 have so:=(On.refl hb).box #[(105:Int),arg,lit,cells] 164
 have Sh:=λw=>jn 105 w
 have hwe:Code.ai 105= (0,0):=by decide
 rw[hwe]at Sh
 have hargs:=λw1 (h1:On F w (aa (ae w.heap.size 164 #[(105:Int),arg,lit,cells]::vL c g x src s)) w1)=>h1.aM λF' RJ _ _=>j6 RJ hs 0 oM
 replace⟨Sh,hargs,so⟩:=iC Sh hargs so
 clear hp hb hs hx IT RM Ry hwe
 go_enter func72,ntmps72
 go_wp2_with fail
 refine mo (Sh.out _) λw1 Rh=>?_
 have M0:=so.out.below Rh
 replace hargs:=hid (hargs.out _ M0)
 clear Rh
 simp only[]
 go_wp2_with fail
 refine mo hargs.out λw2 BY=>?_
 simp only[]
 have b0:w2.cell? (w.heap.size,0)=some (.int .i64 105):=(BY.ab 0 rfl).cell 0
 replace BY:=hid BY
 go_wp2
 exact⟨rfl,rfl,BY.out.tail.tail⟩
theorem Ht(P:Kn)(arg lit cells:Int):ej P ⟨106,arg,lit,cells⟩ (λx s=>⟨0,x,s⟩):=by
 intro c g x src s w F hp hs hx RM Ry IT hb
 show Calls _ _ #[_,.agg #[(106:Int),arg,lit,cells]] _ _
 have so:=(On.refl hb).box #[(106:Int),arg,lit,cells] 164
 have Sh:=λw=>jn 106 w
 have hwe:Code.ai 106= (0,0):=by decide
 rw[hwe]at Sh
 have hargs:=λw1 (h1:On F w (aa (ae w.heap.size 164 #[(106:Int),arg,lit,cells]::vL c g x src s)) w1)=>h1.aM λF' RJ _ _=>j6 RJ hs 0 oM
 replace⟨Sh,hargs,so⟩:=iC Sh hargs so
 clear hp hb hs hx IT RM Ry hwe
 go_enter func72,ntmps72
 go_wp2_with fail
 refine mo (Sh.out _) λw1 Rh=>?_
 have M0:=so.out.below Rh
 replace hargs:=hid (hargs.out _ M0)
 clear Rh
 simp only[]
 go_wp2_with fail
 refine mo hargs.out λw2 BY=>?_
 simp only[]
 have b0:w2.cell? (w.heap.size,0)=some (.int .i64 106):=(BY.ab 0 rfl).cell 0
 replace BY:=hid BY
 go_wp2
 go_end0
 exact⟨rfl,BY.out.tail.tail⟩
def yt(P:Kn)(q:Rn->Mt->Rs):Prop:= ∀(c:Vc) (g:Nat) (x:Rn) (src:Value) (s:Mt) (w:World) (F:Nat->Prop),P c src s->s.Ok->x.Ok->(VA c g x src s).holds w F->
    Calls prog 109 #[g] w (Got (bp (q x s).f) (VA c g (q x s).x src (q x s).s) F w)
theorem yq(P:Kn)(arg lit cells:Int)(q:Rn->Mt->Rs)(hq:yt P q):ej P ⟨85,arg,lit,cells⟩ q:=by
 intro c g x src s w F hp hs hx RM Ry IT hb
 show Calls _ _ #[_,.agg #[(85:Int),arg,lit,cells]] _ _
 have so:=(On.refl hb).box #[(85:Int),arg,lit,cells] 164
 have Sh:=λw=>jn 85 w
 have hwe:Code.ai 85= (0,0):=by decide
 rw[hwe]at Sh
 have hargs:=λw1 (h1:On F w (aa (ae w.heap.size 164 #[(85:Int),arg,lit,cells]::vL c g x src s)) w1)=>h1.aM λF' RJ _ _=>j6 RJ hs 0 oM
 have VP:=λ(B1 B2:Asr) w2 (h:On F w (aa (B1::B2::vL c g x src s)) w2)=>h.aM (L':=B2::vL c g (q x s).x src (q x s).s) (e0:=bp (q x s).f) λF' RJ _ _=>(On.refl RJ).aM λF'' SG _ _=>hq c g x src s w2 F'' hp hs hx SG
 generalize q x s=Q at *
 obtain⟨f,x',s'⟩:=Q
 simp only at VP⊢
 replace⟨VP,Sh,hargs,so⟩:=iD VP Sh hargs so
 clear hp hb hs hx IT RM Ry hwe
 go_enter func72,ntmps72
 go_wp2_with fail
 refine mo (Sh.out _) λw1 Rh=>?_
 have M0:=so.out.below Rh
 replace hargs:=hid (hargs.out _ M0)
 clear Rh
 simp only[]
 go_wp2_with fail
 refine mo hargs.out λw2 BY=>?_
 simp only[]
 have b0:w2.cell? (w.heap.size,0)=some (.int .i64 85):=(BY.ab 0 rfl).cell 0
 replace VP:=hid (VP.out _ _ _ BY)
 clear M0 BY
 go_wp2_with fail
 refine VP.out.mono ?_
 rintro e w3 ⟨he,Rb⟩
 have Ra:=hid Rb.tail.tail
 clear Rb
 by_cases hf:f=0
 ·have SH:bp f = .returned (.tuple #[]):=by unfold bp;rw[if_pos hf]
  rw[SH]at he
  subst he
  replace SH:=hid SH
  clear hf
  simp only[]
  go_wp2
  go_end0
  exact⟨SH.out.symm,Ra.out⟩
 ·have SH:bp f = .panicked [flt f]:=by unfold bp;rw[if_neg hf]
  rw[SH]at he
  subst he
  replace SH:=hid SH
  clear hf
  simp only[]
  go_wp2
  exact⟨rfl,SH.out.symm,Ra.out⟩
theorem nk(P:Kn)(i:aq)(q:Rn->Mt->Rs×List Int)(RH:20<i.op)(Sc:i.op<=30)(hq:cO P 104 (λg=>#[.pointer (some ⟨g,0,none⟩)]) i q)(hlen:gy P i q):ej P i (λx s=>Rs.laid (Code.ai i.op).1.toNat (q x s)):=
 fR P i q (.nu RH Sc) hq hlen
theorem cU(P:Kn)(i:aq)(q:Rn->Mt->Rs×List Int)(RH:93<i.op)(Sc:i.op<=99)(hq:cO P 112 (λg=>#[]) i q)(hlen:gy P i q):ej P i (λx s=>Rs.laid (Code.ai i.op).1.toNat (q x s)):=
 fR P i q (.ux RH Sc) hq hlen
def kB(gb bg en cap:Nat)(cl:Bool)(D:Dc):Array Value:=#[.slice (some ⟨gb,bg,none⟩) (en-bg) cap,(bg:Int),.bool cl,(D.h:Int),(D.l:Int)]
def bD(g gb bg en cap:Nat)(cl:Bool)(D:Dc):Asr:=ae g 154 (kB gb bg en cap cl D)
def RbA(gb:Nat)(S:Img):Asr:=ae gb 5 (ah S.b).toArray
theorem BM(gb bg en cap:Nat)(cl:Bool)(D:Dc)(n:Nat)(v:Int)(h:v=n): (kB gb bg en cap cl D).setIfInBounds 3 (.int .i64 v)=kB gb bg en cap cl { D with h:=n }:=by subst h;rfl
theorem vC(gb bg en cap:Nat)(cl:Bool)(D:Dc)(n:Nat)(v:Int)(h:v=n): (kB gb bg en cap cl D).setIfInBounds 4 (.int .i64 v)=kB gb bg en cap cl { D with l:=n }:=by subst h;rfl
section
variable {w w1:World}{F:Nat->Prop}{g gb bg en cap:Nat}{cl:Bool}{D:Dc}{S:Img}
structure oV(w:World)(g gb bg en cap:Nat)(cl:Bool)(D:Dc):Prop where
 c0:w.cell? (g,0)=some (.slice (some ⟨gb,bg,none⟩) (en-bg) cap)
 c1:w.cell? (g,1)=some ((bg:Int):Vl)
 c2:w.cell? (g,2)=some (.bool cl)
 c3:w.cell? (g,3)=some ((D.h:Int):Vl)
 c4:w.cell? (g,4)=some ((D.l:Int):Vl)
 fr: ∀i,w.frozen? ⟨g,i,none⟩=false
theorem uB{L:List Asr}(h:On F w (aa (bD g gb bg en cap cl D::L)) w1):oV w1 g gb bg en cap cl D:=
 have hb:Blk w1 g 154 (kB gb bg en cap cl D):=h.ab 0 rfl
 ⟨hb.cell 0,hb.cell 1,hb.cell 2,hb.cell 3,hb.cell 4,λi=>hb.frozen i⟩
theorem oV.drewN(h:oV w g gb bg en cap cl D)(n:Nat):oV (w.drewN n) g gb bg en cap cl D:=⟨h.c0,h.c1,h.c2,h.c3,h.c4,h.fr⟩
theorem zg(h:oV w g gb bg en cap cl D)(Zo:bg<=en)(hen:en<=143360):Calls prog 115 #[g] w (λe w'=>e = .returned (en:Int)∧∃n,w'=w.drewN n):=by
 obtain⟨c0,c1,_,_,_,_⟩:=h
 have e: (bg:Int) + ((en-bg:Nat):Int)= (en:Int):=by omega
 replace e:=hid e
 go_enter func115,ntmps115
 go_wp2
 go_quiet (fail)
 go_wp2
 go_ret
 exact⟨congrArg (λn=>Ending.returned (Value.int .i64 n)) e.out,_,rfl⟩
theorem CW(n:Nat)(hn:n<=1000000)(w:World):Calls prog 116 #[(n:Int)] w (ax (up n:Int) w):=by
 have hu:=ee n
 have hall: ∀j:Nat,n<=j->j<=up n->((((j:Int) % 8 != 0)=true∧j<up n)∨(((j:Int) % 8 != 0)=false∧j=up n)):=λj h1 h2=>by
  by_cases hj:j=up n
  ·right
   exact⟨by rw[bne_eq_false_iff_eq];omega,hj⟩
  ·left
   exact⟨by rw[bne_iff_ne];unfold up at *;omega,by omega⟩
 generalize up n=m at *
 replace hall:=hid hall
 go_enter func116,ntmps116
 go_wp2
 go_loopg [0] (m-n) (λk t wr=> ∃j:Nat,n<=j∧j+k=m∧t = .int .i64 (j:Int)∧wr=w)
 case atStart=>exact⟨n,by omega,by omega,rfl,rfl⟩
 case round=>
  obtain⟨j,h1,h2,rfl,rfl⟩:=hrel
  rcases hall.out j h1 oM with⟨ht,Rd⟩ | ⟨ht,rfl⟩
  ·go_wp2
   go_roundg (gk-1)
   case measure=>omega
   case rel=>exact⟨j+1,by omega,by omega,by go_num,rfl⟩
  ·go_wp2
   go_ret
   exact⟨rfl,rfl⟩
def bl(g gb bg en cap:Nat)(cl:Bool)(D:Dc)(S:Img)(l:List UInt8):Asr:=aa [bD g gb bg en cap cl (laidB D l.length),RbA gb (S.put D.h l)]
theorem zy(l:List UInt8)(h:On F w (bl g gb bg en cap cl D S l) w1):oV w1 g gb bg en cap cl (laidB D l.length):=uB h
theorem vP(l:List UInt8)(h8:At8 S D (bg+8) en)(hl:D.h+l.length<en)(h:On F w (bl g gb bg en cap cl D S l) w1): (∃x,w1.cell? ⟨gb,D.h+l.length,none⟩=some (.int .u8 x))∧(∀i,w1.frozen? ⟨gb,i,none⟩=false)∧g≠gb:=by
 have hb:Blk w1 gb 5 (ah (S.put D.h l).b).toArray:=h.ab 1 rfl
 have hg:Blk w1 g 154 (kB gb bg en cap cl (laidB D l.length)):=h.ab 0 rfl
 have hall:=h8.ok.all
 rw[h8.lim]at hall
 have hlen: (S.put D.h l).b.length=S.beg 6:=by rw[S.iz D.h l (by rw[h8.img.len];omega),h8.img.len]
 refine⟨⟨((S.put D.h l).b.getD (D.h+l.length) 0).toNat,?_⟩,λi=>hb.frozen i,hg.ne_ hb (by decide)⟩
 rw[hb.cell]
 have h2:D.h+l.length< (S.put D.h l).b.length:=by omega
 simp[ah,h2]
theorem vV(l:List UInt8)(b:UInt8)(h8:At8 S D (bg+8) en)(hl:D.h+l.length<en)(h:On F w (bl g gb bg en cap cl D S l) w1)(n:Int)(hn:n= ((D.h+l.length:Nat):Int) +1):
 On F w (bl g gb bg en cap cl D S (l ++ [b])) ((w1.setCell ⟨gb,D.h+l.length,none⟩ (.int .u8 (b.toNat:Int))).setCell (g,3) (.int .i64 n)):=by
 have hall:=h8.ok.all
 rw[h8.lim]at hall
 have hlen: (S.put D.h l).b.length=S.beg 6:=by rw[S.iz D.h l (by rw[h8.img.len];omega),h8.img.len]
 have h1:On F w (aa [bD g gb bg en cap cl (laidB D l.length),RbA gb (S.put D.h (l ++ [b]))]) (w1.setCell ⟨gb,D.h+l.length,none⟩ (.int .u8 (b.toNat:Int))):=by
  have h2:=On.setAt 1 (g:=gb) (t:=5) (cs:=(ah (S.put D.h l).b).toArray) h rfl (D.h+l.length) (.int .u8 (b.toNat:Int))
  rw[qC _ _ b oM]at h2
  have e:cK (S.put D.h l).b (D.h+l.length) [b]= (S.put D.h (l ++ [b])).b:=by
   rw[<-S.iU D.h l [b] (by rw[h8.img.len];omega)]
   rfl
  rw[e]at h2
  exact h2
 have h3:=h1.setAt 0 rfl 3 (.int .i64 n)
 rw[BM gb bg en cap cl (laidB D l.length) (D.h+l.length+1) n oM]at h3
 have e2: ({ laidB D l.length with h:=D.h+l.length+1 }:Dc)=laidB D (l ++ [b]).length:=by
  unfold laidB
  simp
  omega
 rw[e2]at h3
 exact h3
end
def uJ(v:Int)(j:Nat):Int:=v % 18446744073709551616/ (256:Int) ^ j
theorem L3(v:Int):uJ v 0=v % 18446744073709551616:=by unfold uJ;simp
theorem Li(v:Int)(j:Nat):uJ v j/256=uJ v (j+1):=by
 unfold uJ
 rw[Int.pow_succ,Int.ediv_ediv_of_nonneg (Int.le_of_lt (Int.pow_pos oM))]
theorem Md(v:Int)(j:Nat)(hj:j<8):uJ v j % 256= (((toB v).getD j 0).toNat:Int):=by
 have e: (toB v).getD j 0=lF v j:=by simp[toB,List.getD,hj]
 rw[e,ri]
 unfold uJ
 have h:j=0∨j=1∨j=2∨j=3∨j=4∨j=5∨j=6∨j=7:=by omega
 rcases h with rfl|rfl|rfl|rfl|rfl|rfl|rfl|rfl<;>simp<;>omega
theorem I6(v:Int)(j:Nat):0<=uJ v j∧uJ v j<=18446744073709551615:=by
 unfold uJ
 have h1:0<=v % 18446744073709551616:=Int.emod_nonneg _ oM
 have h2:v % 18446744073709551616<18446744073709551616:=Int.emod_lt_of_pos _ oM
 have hp: (0:Int) <256 ^ j:=Int.pow_pos oM
 refine⟨Int.ediv_nonneg h1 oM,?_⟩
 have:=Int.ediv_le_self (256 ^ j) h1
 omega
section
variable {w w1:World}{F:Nat->Prop}{g gb bg en cap:Nat}{cl:Bool}{D:Dc}{S:Img}
theorem tS(l:List UInt8)(j:Nat)(hj:j<l.length):l.take j ++ [l.getD j 0]=l.take (j+1):=by
 rw[List.take_succ_eq_append_getElem hj,List.getD_eq_getElem?_getD,List.getElem?_eq_getElem hj]
 rfl
theorem Gx(l0:List UInt8)(hb:On F w (bl g gb bg en cap cl D S l0) w1)(h8:At8 S D (bg+8) en)(hl:D.h+l0.length+8<=en)(v:Int)(hv:V64 v):
 Calls prog 127 #[g,v] w1 (Got (.returned (.tuple #[])) (bl g gb bg en cap cl D S (l0++toB v)) F w):=by
 have hle:=h8.le
 have Sg:=h8.lo
 have Se:=λwr l (h:On F w (bl g gb bg en cap cl D S l) wr)=>zy l h
 have hbt:=λwr l (hl:D.h+l.length<en) (h:On F w (bl g gb bg en cap cl D S l) wr)=>vP l h8 hl h
 have RU:=λwr l b (hl:D.h+l.length<en) (h:On F w (bl g gb bg en cap cl D S l) wr) n hn=>vV l b h8 hl h n hn
 have V8:=aI v
 have huz:=L3 v
 have Sv:=Md v
 have Rj:=Li v
 have hra:=I6 v
 have Wy:=λj (hj:j<8)=>tS (toB v) j (by rw[V8];exact hj)
 unfold V64 at hv
 have hwr:IntKind.u64.wrap v=uJ v 0:=by rw[huz];rfl
 replace⟨Se,hbt,RU,V8,Sv,Rj,hra,Wy,hb⟩:=iI Se hbt RU V8 Sv Rj hra Wy hb
 clear h8 huz
 go_enter func127,ntmps127
 go_wp2
 go_loopg [4,5] 8 (λk u i wr=> ∃j:Nat,j+k=8∧u = .int .u64 (uJ v j)∧i = .int .i64 (j:Int)∧On F w (bl g gb bg en cap cl D S (l0++ (toB v).take j)) wr)
 case atStart=>exact⟨0,by omega,rfl,rfl,by rw[List.take_zero,List.append_nil];exact hb.out⟩
 case round=>
  obtain⟨j,hj,rfl,rfl,so⟩:=hrel
  by_cases RQ:j<8
  ·have YZ: (l0++ (toB v).take j).length=l0.length+j:=by rw[List.length_append,List.length_take,V8.out];omega
   obtain⟨c0,c1,c2,c3,c4,cf⟩:=Se.out _ _ so
   obtain⟨⟨xo,cx⟩,cfr,RP⟩:=hbt.out _ _ (by rw[YZ];omega) so
   have IS:=λn hn=>RU.out wr _ ((toB v).getD j 0) (by rw[YZ];omega) so n hn
   rw[List.append_assoc,Wy.out j RQ]at IS
   have c3':wr.cell? (g,3)=some (((D.h+ (l0.length+j):Nat):Int):Vl):=by rw[c3];unfold laidB;rw[YZ]
   rw[YZ]at cx IS
   have hb8:=Sv.out j RQ
   have hs8:=Rj.out j
   have hr8:=hra.out j
   generalize (((toB v).getD j 0).toNat:Int)=cb at *
   generalize hu2:uJ v (j+1)=u2 at *
   replace hu2:=hid hu2
   generalize uJ v j=u1 at *
   obtain⟨k,hk⟩: ∃k,D.h+ (l0.length+j)=k:=⟨_,rfl⟩
   rw[hk]at c3' cx IS
   have Zr:bg<=k:=by omega
   have SS:k<en:=by omega
   have RL:=IS _ rfl
   have f3:=cf 3
   have fk:=cfr k
   replace RL:=hid RL
   clear c2 c3 c4 cf cfr IS YZ so hk
   go_wp2
   go_region
   go_wp2
   go_roundg (gk-1)
   case measure=>omega
   case rel=>exact⟨j+1,by omega,by rw[hu2.out],by go_num,RL.out.drew⟩
  ·have TJ:j=8:=by omega
   subst TJ
   rw[List.take_of_length_le (by rw[V8.out];exact Nat.le_refl _)]at so
   replace so:=hid so
   go_wp2
   go_end0
   exact⟨rfl,so.out⟩
theorem uo(l:List UInt8)(hb:On F w (bl g gb bg en cap false D S l) w1)(h8:At8 S D (bg+8) en)(hl:D.h+l.length<en)(b:UInt8):
 Calls prog 128 #[g,.int .u8 (b.toNat:Int)] w1 (Got (.returned (.int .i64 0)) (bl g gb bg en cap false D S (l ++ [b])) F w):=by
 have hle:=h8.le
 have Sg:=h8.lo
 have Se:=λwr (h:On F w (bl g gb bg en cap false D S l) wr)=>zy l h
 have hbt:=λwr (h:On F w (bl g gb bg en cap false D S l) wr)=>vP l h8 hl h
 have RU:=λwr (h:On F w (bl g gb bg en cap false D S l) wr) n hn=>vV l b h8 hl h n hn
 have Uc:=λn=>zg ((Se _ hb).drewN n) oM oM
 obtain⟨c0,c1,c2,c3,c4,cf⟩:=Se _ hb
 have c3':w1.cell? (g,3)=some (((D.h+l.length:Nat):Int):Vl):=c3
 obtain⟨k,hk⟩: ∃k,D.h+l.length=k:=⟨_,rfl⟩
 rw[hk]at c3'
 replace⟨hb,Se,hbt,RU,Uc⟩:=iE hb Se hbt RU Uc
 clear h8 c0 c1 c2 c3 c4 cf
 have ht:decide ((en:Int)<=(k:Int))=false:=decide_eq_false oM
 generalize (b.toNat:Int)=cb at *
 go_enter func128,ntmps128
 go_wp2_with fail
 go_quiet ((go_at_call 115;exact Calls.quiet_of (Uc.out _)))
 have Rm:=hb.out.drewN nq
 obtain⟨w2,Q8⟩: ∃w2,w1.drewN nq=w2:=⟨_,rfl⟩
 rw[Q8]at Rm⊢
 clear Q8 hb Uc c3'
 obtain⟨c0,c1,c2,c3,c4,cf⟩:=Se.out _ Rm
 have c3':w2.cell? (g,3)=some (((D.h+l.length:Nat):Int):Vl):=c3
 obtain⟨⟨xo,cx⟩,cfr,RP⟩:=hbt.out _ Rm
 have IS:=RU.out _ Rm _ rfl
 rw[hk]at c3' cx IS
 have Zr:bg<=k:=by omega
 have SS:k<en:=by omega
 have f3:=cf 3
 have fk:=cfr k
 replace⟨IS,Rm,hk⟩:=iC IS Rm hk
 clear c3 c4 cf cfr Se hbt RU
 go_wp2_with fail
 go_region
 go_wp2
 go_ret
 trace_state
 exact⟨rfl,IS.out.drew⟩
