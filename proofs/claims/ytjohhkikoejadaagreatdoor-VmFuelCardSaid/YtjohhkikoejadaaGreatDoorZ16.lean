/- Chapter 11: back, args, of a run. Conditions: as written. -/
import Derived.Test.YtjohhkikoejadaaGreatDoorOm
import Derived.Test.YtjohhkikoejadaaGreatDoorZ02
import Derived.Test.YtjohhkikoejadaaGreatDoorZ15
import Derived.Deep.DeepCutAuto
import Derived.BigRegion
import Derived.Deep.AppendLies
import Derived.Deep.RegionLaw
import Derived.Test.YtjohhkikoejadaaGreatDoorZ13
import Derived.Deep.RegionHeld
import Derived.BigQuiet
import Derived.Test.YtjohhkikoejadaaGreatDoorZ12
namespace Go.Proofs.YtjohhkikoejadaaGreatDoor
set_option linter.unusedVariables false
set_option linter.unusedSimpArgs false
set_option maxHeartbeats 8000000
set_option maxRecDepth 100000
open Go.RowKit Go.Lib Go.Deep
namespace Vm
section
variable {w w':World}{F:Nat->Prop}{c:Vc}{g:Nat}{x:Rn}{src:Value}{s:Mt}
theorem On.Cv(h:On F w (VA c g x src s) w')(n:Int) :On F w (VA c g { x with next:=n } src s) (w'.setCell (g,4) (.int .i64 n)):=h.setAt 0 rfl 4 (.int .i64 n)
theorem On.Jj(h:On F w (VA c g x src s) w')(b:Bool) :On F w (VA c g { x with over:=b } src s) (w'.setCell (g,5) (.bool b)):=h.setAt 0 rfl 5 (.bool b)
theorem MY(h:On F w (VA c g x src s) w')(hs:s.Ok)(h0:0<s.r) :Calls Tryz.prog 173 #[c.gR] w' (Got (.returned (.tuple #[(s.bH 0),(0:Int)])) (VA c g x src { s with r:=s.r-1 }) F w):=by
 have e:s.bH 0=ja s.S s.pr.fr (s.r-1):=by unfold Mt.bH jY;rw[if_pos oM];rfl
 rw[e]
 exact h.cD 4 2 (by decide) rfl rfl λF' ha=>Nx ha hs.pr h0 hs.r
theorem AE(hb: (VA c g x src s).holds w F)(hs:s.Ok)(h0:0<s.r) :Calls Tryz.prog 127 #[g] w (Got (.returned (.tuple #[])) (VA c g (back x s).x src (back x s).s) F w):=by
 have hon:=On.refl hb
 have r0:=hon.r0
 have m6:=hon.m6
 have hpop:=MY hon hs h0
 have hres:back x s= ⟨0,{ x with next:=s.bH 0,over:=s.bH 0==0 },{ s with r:=s.r-1 }⟩:=by unfold back;rw[if_neg oM]
 rw[hres]
 generalize s.bH 0=a at *
 generalize ({ s with r:=s.r-1 }:Mt) =s2 at *
 replace hpop:=hid hpop
 clear hb hs hres hon h0
 go_enter Tryz.func127,Tryz.ntmps127
 go_wp2_with fail
 refine hpop.out.mono ?_
 rintro e w1 ⟨rfl,h⟩
 have f4:=h.rf 4
 have f5:=h.rf 5
 have hfin:=(h.Cv a).Jj (a==0)
 replace hfin:=hid hfin
 have k0:=h.r0
 have hg:=h.r4
 have hg5:=h.r5
 clear h
 go_wp2_with fail
 refine(bD _).mono ?_
 rintro e w3 ⟨rfl,rfl⟩
 go_wp2
 go_end0
 exact⟨rfl,hfin.out⟩
def jJ(s:Mt)(n k:Nat) :Array Value:=((List.range n).map λj=>Value.int .i64 (if n-1-j<k then s.top ((n-1-j:Nat) :Int)else 0)).toArray
theorem MS(s:Mt)(n:Nat) :madeCells #[Value.int .i64 0] n=jJ s n 0:=by
 unfold jJ
 apply Array.ext'
 simp[madeCells,Nat.mod_one]
theorem Il(s:Mt)(n k:Nat)(hk:k<n) : ∃v,(jJ s n k)[n-1-k]? = some (v:Vl):=by
 unfold jJ
 simp[show n-1-k<n by omega]
theorem D5(s:Mt)(n k:Nat)(hk:k<n) : (jJ s n k).setIfInBounds (n-1-k) (.int .i64 (s.top (k:Int))) =jJ s n (k+1):=by
 unfold jJ
 apply Array.ext'
 simp only[Array.toList_setIfInBounds]
 apply List.ext_getElem?
 intro i
 rw[List.getElem?_set]
 by_cases hi:i<n
 ·by_cases e:n-1-k=i
  ·subst e
   have e2:n-1- (n-1-k) =k:=by omega
   simp[show n-1-k<n by omega,e2]
  ·have e2: (n-1-i<k+1)↔(n-1-i<k):=by omega
   simp[hi,e,e2]
 ·simp[hi,show¬(n-1-k=i)by omega]
theorem K9(hb: (VA c g x src s).holds w F)(hs:s.Ok)(n:Nat)(hn:n<=8) :
 Calls Tryz.prog 95 #[g,(n:Int)] w (λe w'=>e = .returned (.slice w.heap.size n n)∧On F w (aa (ae w.heap.size 3 (jJ s n n) ::vL c g x src s)) w'):=by
 have hon:=On.refl hb
 have hmk:=run_make_row' (P:=Tryz.prog) 23 3 (.int .i64 0) 8 Tryz.underlying23 kR rfl .i64 .i64 n oM oM w
 rw[MS s n]at hmk
 have hon0:=hon.box (jJ s n 0) 3
 have hlt:=hon.rlt
 replace hon:=hid hon
 replace hon0:=hid hon0
 clear hb
 go_enter Tryz.func95,Tryz.ntmps95
 go_wp2
 go_loopg [11] n (λk t wr=> ∃j:Nat,j+k=n∧t = .int .i64 (j:Int)∧On F w (aa (ae w.heap.size 3 (jJ s n j) ::vL c g x src s)) wr)
 case atStart=>exact⟨0,by omega,rfl,hon0.out⟩
 case round=>
  obtain⟨j,hj,rfl,honj⟩:=hrel
  by_cases hjl:j<n
  ·have ht:=yB honj.tail hs (j:Int)
   have hset:=D5 s n j hjl
   have hw1:IntKind.i64.wrap ((n:Int) -1- (j:Int)) = ((n-1-j:Nat) :Int):=by rw[IntWalk.i64_in _ oM];omega
   generalize s.top (j:Int) =v at *
   replace ht:=hid ht
   replace hset:=hid hset
   replace honj:=hid honj
   go_wp2_with fail
   refine ht.out.mono ?_
   rintro e w1 ⟨rfl,hbl⟩
   have hon1:=honj.out.below hbl
   have hblk:=hon1.ab 0 rfl
   have ff:=hblk.frozen (n-1-j)
   obtain⟨v0,cc⟩:=Il s n j hjl
   replace cc:=(hblk.cell (n-1-j)).trans cc
   have hfin:=hon1.setAt 0 rfl (n-1-j) (.int .i64 v)
   rw[hset.out]at hfin
   replace hfin:=hid hfin
   clear hblk
   replace hon1:=hid hon1
   clear hbl
   go_wp2
   go_roundg (gk-1)
   case measure=>omega
   case rel=>exact⟨j+1,by omega,by go_num,hfin.out⟩
  ·have hjn:j=n:=by omega
   subst hjn
   have hdec:decide ((j:Int) < (j:Int)) =false:=by simp
   replace honj:=hid honj
   go_wp2
   go_ret
   exact⟨rfl,honj.out⟩
theorem xI(s:Mt)(n:Nat) :jJ s n n= ((s.args n).map (Value.int .i64)).toArray:=by
 unfold jJ Mt.args
 congr 1
 rw[List.map_map]
 apply List.map_congr_left
 intro j hj
 have:j<n:=by simpa using hj
 simp[show n-1-j<n by omega]
end
def Small(p:Int×Int) :Prop:=0<=p.1∧p.1<=4∧0<=p.2∧p.2<=4
theorem KH{α:Type}{P:α->Prop}{c:Prop}[Decidable c]{a b:α}(h1:P a)(h2:P b) :P (if c then a else b):=by split<;>assumption
theorem sS(a b:Int)(h:0<=a∧a<=4∧0<=b∧b<=4) :Small (a,b):=h
theorem nh(op:Int) :0<=(Code.ah op).1∧(Code.ah op).1<=4∧0<=(Code.ah op).2∧(Code.ah op).2<=4:=by
 show Small (Code.ah op)
 unfold Code.ah
 repeat' apply KH
 all_goals exact sS _ _ (by decide)
theorem Ae(op arg:Int)(b:Bool) :0<=(returns op arg b).1∧(returns op arg b).1<=4∧0<=(returns op arg b).2∧(returns op arg b).2<=4:=by
 show Small (returns op arg b)
 unfold returns
 repeat' apply KH
 all_goals exact sS _ _ (by decide)
theorem jl(op:Int)(w:World) :Calls Tryz.prog 88 #[op] w (Quiet (.tuple #[.int .i64 (Code.ah op).1,.int .i64 (Code.ah op).2]) w):=by
 rcases h:Code.ph op with _|_
 ·refine(DE op h w).mono ?_
  rintro e w' ⟨rfl,rfl⟩
  refine⟨?_,Below.refl _ _⟩
  have:Code.ah op= (0,0):=by
   have h1:op<1∨106<op:=by unfold Code.ph at h;simp at h;omega
   unfold Code.ah
   simp only[List.mem_cons,List.mem_nil_iff,or_false]
   repeat' rw[if_neg oM]
  rw[this]
 ·unfold Code.ph at h
  simp at h
  obtain⟨i,hi,rfl⟩ : ∃i:Nat,i<106∧op= (i:Int) +1:=⟨(op-1).toNat,by omega,by omega⟩
  refine(Fc i hi w).mono ?_
  rintro e w' ⟨rfl,n,rfl⟩
  exact⟨rfl,((Kept.refl Nob _).drewN _).rD⟩
theorem dead{P:Program}{f:FuncId}{args:Array Value}{w:World}{Q:Ending->World->Prop}{n:Int}(hc:Calls P f args w (vt n w))(hp:Q (.panicked [flt n]) w)
 (hk:False->∀e w',e = .returned (.tuple #[])->w'=w->Q e w') :Calls P f args w Q:=hc.mono λe w' h=>by
 obtain⟨rfl,rfl⟩:=h
 exact hp
structure Rn.Ok(x:Rn) :Prop where
 base:0<=x.base
 dT:x.base<=512
 next:V64 x.next
 pc:V64 x.pc
 left:0<=x.left
 dQ:x.left<=1000000
section
variable {w w':World}{F:Nat->Prop}{c:Vc}{g:Nat}{x:Rn}{src:Value}{s:Mt}
theorem Mh(hb: (VA c g x src s).holds w F)(hs:s.Ok)(hx:x.Ok)(i:ao) :
 Calls Tryz.prog 66 #[g,i.v] w (Got (bO (asks i x s)) (VA c g x src s) F w):=by
 obtain⟨op,arg,lit,cells⟩:=i
 show Calls _ _ #[_,.agg #[op,arg,lit,cells]] _ _
 have hon:=((On.refl hb).box #[op,arg,lit,cells] 155)
 have hw:=nh op
 have hwa:=λw=>jl op w
 obtain⟨A,hA⟩ : ∃A,asks ⟨op,arg,lit,cells⟩ x s=A:=⟨_,rfl⟩
 rw[hA]
 have hask:=hA
 unfold asks at hask
 simp only at hask
 obtain⟨⟨tk,ly⟩,htk⟩ : ∃p,Code.ah op=p:=⟨_,rfl⟩
 rw[htk]at hw hwa hask
 simp only at hw hwa hask
 replace hask:=hid hask
 replace hwa:=hid hwa
 replace hon:=hid hon
 have hrl:=Ae op arg s.same
 have htop:=λw1 (h1:On F w (VA c g x src s) w1)=>yB h1 hs 0
 generalize s.top 0=t0 at *
 replace htop:=hid htop
 have hret:=λw1 (h1:On F w (VA c g x src s) w1)=>CQ h1 hs ⟨op,arg,lit,cells⟩
 obtain⟨⟨off,on⟩,hoo⟩ : ∃p,returns op arg s.same=p:=⟨_,rfl⟩
 simp only[hoo]at hret hask hrl
 replace hret:=hid hret
 clear hb hA htk hoo
 have hdle:=hs.dle
 have hrle:=hs.rle
 have hb1:=hx.base
 have hb2:=hx.dT
 replace hs:=hid hs
 replace hx:=hid hx
 go_enter Tryz.func66,Tryz.ntmps66
 go_wp2_with fail
 refine(hwa.out _).mono ?_
 rintro e w1 ⟨rfl,hb1⟩
 have hon1:=hon.out.below hb1
 have b0:w1.cell? (w.heap.size,0) =some (op:Vl):=(hon1.ab 0 rfl).cell 0
 have b1:w1.cell? (w.heap.size,1) =some (arg:Vl):=(hon1.ab 0 rfl).cell 1
 have b2:w1.cell? (w.heap.size,2) =some (lit:Vl):=(hon1.ab 0 rfl).cell 2
 have b3:w1.cell? (w.heap.size,3) =some (cells:Vl):=(hon1.ab 0 rfl).cell 3
 have r0:=hon1.tail.r0
 have r7:=hon1.tail.r7
 have m5:=hon1.tail.m5
 have m6:=hon1.tail.m6
 have hdep:=eE hon1.tail.sd
 replace hon1:=hid hon1
 replace hdep:=hid hdep
 clear hb1
 go_wp2_with fail
 refine hdep.out.mono ?_
 rintro e w2 ⟨rfl,rfl⟩
 by_cases k1:tk<=(s.d:Int)
 rotate_left
 ·have k1':decide (tk<=(s.d:Int)) =false:=decide_eq_false k1
  have hA1:A=1:=by rw[<-hask.out];rw[if_pos oM]
  subst hA1
  clear k1
  go_wp2_with fail
  refine(bV _ _).mono ?_
  rintro e w3 ⟨rfl,rfl⟩
  go_wp2
  exact⟨rfl,rfl,hon1.out.tail⟩
 have k1':decide (tk<=(s.d:Int)) =true:=decide_eq_true k1
 go_wp2_with fail
 refine(bF _ _).mono ?_
 rintro e w3 ⟨rfl,rfl⟩
 go_wp2_with fail
 refine(hret.out _ hon1.out.tail).mono ?_
 rintro e w4 ⟨rfl,hb4⟩
 have hon4:=hon1.out.below hb4
 have b0:w4.cell? (w.heap.size,0) =some (op:Vl):=(hon4.ab 0 rfl).cell 0
 have r0:=hon4.tail.r0
 have r1:=hon4.tail.r1
 have r7:=hon4.tail.r7
 have m3:=hon4.tail.m3
 have m5:=hon4.tail.m5
 have m6:=hon4.tail.m6
 have hdep:=eE hon4.tail.sd.drew
 have hdepR:=eE hon4.tail.sr.drew
 replace hon4:=hid hon4
 replace hdep:=hid hdep
 replace hdepR:=hid hdepR
 clear hb4
 have hwr:IntKind.i64.wrap ((s.r:Int) -x.base) = (s.r:Int) -x.base:=IntWalk.i64_in _ oM
 by_cases k2:off<=(s.r:Int) -x.base
 rotate_left
 ·have k2':decide (off<=IntKind.i64.wrap ((s.r:Int) -x.base)) =false:=decide_eq_false (by rw[hwr];exact k2)
  have hA1:A=3:=by rw[<-hask.out];rw[if_neg oM,if_pos oM]
  subst hA1
  clear k2 hwr
  go_wp2_with fail
  go_region_held (λw'=>w'.cell? (g,0) =some (c.gM:Vl)∧w'.cell? (c.gM,6) =some (c.gR:Vl)∧w'.cell? (g,7) =some (x.base:Vl)) (go_keep)
   ((first
     | (go_at_call 14;refine hdepR.out.mono ?_;rintro e w5 ⟨rfl,rfl⟩)
     | (go_at_call 89;refine dead (bV _ _) ⟨rfl,rfl,hon4.out.tail.drew⟩ ?_;intro hF e w5 he hw;subst he;subst hw;replace hF:=hid hF)))
  all_goals exact hF.out.elim
 have k2':decide (off<=IntKind.i64.wrap ((s.r:Int) -x.base)) =true:=decide_eq_true (by rw[hwr];exact k2)
 clear hwr
 go_wp2_with fail
 go_region_held (λw'=>w'.cell? (g,0) =some (c.gM:Vl)∧w'.cell? (c.gM,6) =some (c.gR:Vl)∧w'.cell? (g,7) =some (x.base:Vl)) (go_keep)
  ((first
    | (go_at_call 14;refine hdepR.out.mono ?_;rintro e w5 ⟨rfl,rfl⟩)
    | (go_at_call 89;refine(bF _ _).mono ?_;rintro e w5 ⟨rfl,rfl⟩)))
 clear k2'
 obtain⟨q,hq⟩ : ∃q:Bool,decide (op=26∧t0=0) =q:=⟨_,rfl⟩
 have hon5:=hon4.out.drew
 replace hon5:=hid hon5
 go_upto_region 5 with fail
 go_cut [55] (λa wx=>a = .bool q∧On F w (aa (ae w.heap.size 155 #[op,arg,lit,cells] ::vL c g x src s)) wx)
 case first=>
  by_cases h26:op=26
  ·have e1: (op==26) =true:=by simpa using h26
   have e2: (t0==0) =q:=by rw[<-hq];simp[h26];rfl
   clear hq h26
   replace e2:=hid e2
   go_wp2_with fail
   refine(htop.out _ hon5.out.tail).mono ?_
   rintro e w6 ⟨rfl,hb6⟩
   replace hb6:=hid hb6
   go_wp2_with fail
   go_meet
   exact⟨by rw[e2.out],hon5.out.below hb6.out⟩
  ·have e1: (op==26) =false:=by simpa using h26
   have e2:q=false:=by rw[<-hq];simp[h26]
   subst e2
   clear hq h26
   go_wp2_with fail
   go_meet
   exact⟨rfl,hon5.out⟩
 case rest=>
  obtain⟨rfl,hon6⟩:=hcut
  obtain⟨L,hL⟩ : ∃L,(if op=26∧t0=0 then tk else ly) =L:=⟨_,rfl⟩
  have hask2:=hask.out
  rw[hL]at hask2
  have hLq: (if q then tk else ly) =L:=by
   rw[<-hL,<-hq]
   by_cases hh:op=26∧t0=0
   ·simp[hh]
   ·simp[hh]
  have hL0:0<=L∧L<=4:=by rw[<-hLq];split<;>omega
  clear hL hq hask
  replace hask:=hid hask2
  replace hon6:=hid hon6
  clear hask2 hon5 hon4 hon1 hdep hdepR
  go_upto_if 55 with fail
  go_cut [5] (λa wx=>a = .int .i64 L∧On F w (aa (ae w.heap.size 155 #[op,arg,lit,cells] ::vL c g x src s)) wx)
  case first=>
   cases q
   ·obtain rfl:ly=L:=by simpa using hLq
    go_wp2_with fail
    go_meet
    exact⟨rfl,hon6.out⟩
   ·obtain rfl:tk=L:=by simpa using hLq
    go_wp2_with fail
    go_meet
    exact⟨rfl,hon6.out⟩
  case rest=>
   obtain⟨rfl,hon7⟩:=hcut
   clear hLq hon6
   have q0:wc.cell? (w.heap.size,0) =some (op:Vl):=(hon7.ab 0 rfl).cell 0
   have q00:=hon7.tail.r0
   have q1:=hon7.tail.r1
   have q3:=hon7.tail.m3
   have q5:=hon7.tail.m5
   have q6:=hon7.tail.m6
   have hdepD:=eE hon7.tail.sd.drew
   have hdepR:=eE hon7.tail.sr.drew.drew
   have hrooD:=Hl hon7.tail.sd.drew
   have hrooR:=Hl hon7.tail.sr.drew.drew
   obtain⟨TF,hcr⟩:=hon7.drew.drew.tail.NN
   have hhas:=λw1 cc (h1:dj w1 c.gT s.T TF)=>h1.has x.mode cc
   replace hon7:=hid hon7
   replace hdepD:=hid hdepD
   replace hdepR:=hid hdepR
   replace hrooD:=hid hrooD
   replace hrooR:=hid hrooR
   replace hhas:=hid hhas
   replace hcr:=hid hcr
   have hrmD:=hs.out.pd.rm
   have hrmR:=hs.out.pr.rm
   have w1:IntKind.i64.wrap (IntKind.i64.wrap ((s.d:Int) -tk) +L) = (s.d:Int) -tk+L:=by rw[IntWalk.i64_in ((s.d:Int) -tk) oM,IntWalk.i64_in _ oM]
   have w2:IntKind.i64.wrap (IntKind.i64.wrap ((s.r:Int) -off) +on) = (s.r:Int) -off+on:=by rw[IntWalk.i64_in ((s.r:Int) -off) oM,IntWalk.i64_in _ oM]
   by_cases k3: (s.d:Int) -tk+L<=(s.pd.rm:Int)
   rotate_left
   ·have k3':decide (IntKind.i64.wrap (IntKind.i64.wrap ((s.d:Int) -tk) +L)<=(s.pd.rm:Int)) =false:=decide_eq_false (by rw[w1];exact k3)
    have hA1:A=2:=by rw[<-hask.out];rw[if_neg oM,if_neg oM,if_pos oM]
    subst hA1
    clear k3 w1 w2
    go_wp2_with fail
    go_region_held (λw'=>w'.cell? (g,0) =some (c.gM:Vl)∧w'.cell? (c.gM,5) =some (c.gD:Vl)) (go_keep)
     ((first
       | (go_at_call 14;refine hdepD.out.mono ?_;rintro e w5 ⟨rfl,rfl⟩)
       | (go_at_call 92;refine hrooD.out.mono ?_;rintro e w5 ⟨rfl,rfl⟩)
       | (go_at_call 89;refine dead (bV _ _) ⟨rfl,rfl,hon7.out.tail.drew⟩ ?_;intro hF e w5 he hw;subst he;subst hw;replace hF:=hid hF)))
    all_goals exact hF.out.elim
   have k3':decide (IntKind.i64.wrap (IntKind.i64.wrap ((s.d:Int) -tk) +L)<=(s.pd.rm:Int)) =true:=decide_eq_true (by rw[w1];exact k3)
   replace w2:=hid w2
   clear w1
   go_wp2_with fail
   go_region_held (λw'=>w'.cell? (g,0) =some (c.gM:Vl)∧w'.cell? (c.gM,5) =some (c.gD:Vl)) (go_keep)
    ((first
      | (go_at_call 14;refine hdepD.out.mono ?_;rintro e w5 ⟨rfl,rfl⟩)
      | (go_at_call 92;refine hrooD.out.mono ?_;rintro e w5 ⟨rfl,rfl⟩)
      | (go_at_call 89;refine(bF _ _).mono ?_;rintro e w5 ⟨rfl,rfl⟩)))
   clear k3'
   by_cases k4: (s.r:Int) -off+on<=(s.pr.rm:Int)
   rotate_left
   ·have k4':decide (IntKind.i64.wrap (IntKind.i64.wrap ((s.r:Int) -off) +on)<=(s.pr.rm:Int)) =false:=decide_eq_false (by rw[w2.out];exact k4)
    have hA1:A=4:=by rw[<-hask.out];rw[if_neg oM,if_neg oM,if_neg oM,if_pos oM]
    subst hA1
    clear k4 w2
    go_wp2_with fail
    go_region_held (λw'=>w'.cell? (g,0) =some (c.gM:Vl)∧w'.cell? (c.gM,6) =some (c.gR:Vl)) (go_keep)
     ((first
       | (go_at_call 14;refine hdepR.out.mono ?_;rintro e w5 ⟨rfl,rfl⟩)
       | (go_at_call 92;refine hrooR.out.mono ?_;rintro e w5 ⟨rfl,rfl⟩)
       | (go_at_call 89;refine dead (bV _ _) ⟨rfl,rfl,hon7.out.tail.drew.drew⟩ ?_;intro hF e w5 he hw;subst he;subst hw;replace hF:=hid hF)))
    all_goals exact hF.out.elim
   have k4':decide (IntKind.i64.wrap (IntKind.i64.wrap ((s.r:Int) -off) +on)<=(s.pr.rm:Int)) =true:=decide_eq_true (by rw[w2.out];exact k4)
   clear w2
   go_wp2_with fail
   go_region_held (λw'=>w'.cell? (g,0) =some (c.gM:Vl)∧w'.cell? (c.gM,6) =some (c.gR:Vl)) (go_keep)
    ((first
      | (go_at_call 14;refine hdepR.out.mono ?_;rintro e w5 ⟨rfl,rfl⟩)
      | (go_at_call 92;refine hrooR.out.mono ?_;rintro e w5 ⟨rfl,rfl⟩)
      | (go_at_call 89;refine(bF _ _).mono ?_;rintro e w5 ⟨rfl,rfl⟩)))
   clear k4'
   go_wp2_with fail
   refine(Kr op _).mono ?_
   rintro e w5 ⟨rfl,rfl⟩
   have hA1: (if ev op≠0∧Caps.has s.T.aU x.mode (ev op) =false then 11 else 0) =A:=by
    have h:=hask.out
    rw[if_neg oM,if_neg oM,if_neg oM,if_neg oM]at h
    exact h
   clear hask k1 k2 k3 k4
   generalize ev op=nd at *
   by_cases k5:nd=0
   ·have e1: (nd==0) =true:=by simpa using k5
    have e2: (nd != 0) =false:=by simpa using k5
    have hA2:A=0:=by rw[<-hA1,if_neg (by simp[k5])]
    subst hA2
    clear k5 hA1
    go_wp2
    go_end0
    exact⟨rfl,hon7.out.tail.drew.drew⟩
   ·have e1: (nd==0) =false:=by simpa using k5
    have e2: (nd != 0) =true:=by simpa using k5
    have hh:=hhas.out wc.drew.drew.drew nd ((de c.gT s.T).kept hcr.out ((Kept.refl Nob _).drew) (λ_ _ h=>h))
    rcases hcp:Caps.has s.T.aU x.mode nd with _|_
    ·have hA2:A=11:=by rw[<-hA1,if_pos ⟨k5,hcp⟩]
     rw[hcp]at hh
     subst hA2
     replace hh:=hid hh
     clear k5 hA1 hcp
     go_wp2_with fail
     go_region_held (λw'=>w'.cell? (g,0) =some (c.gM:Vl)∧w'.cell? (c.gM,3) =some (c.gT:Vl)∧w'.cell? (g,1) =some (x.mode:Vl)) (go_keep)
      ((first
        | (go_at_call 94;refine hh.out.mono ?_;rintro e w5 ⟨rfl,rfl⟩)
        | (go_at_call 89;refine dead (bV _ _) ⟨rfl,rfl,hon7.out.tail.drew.drew.drew⟩ ?_;intro hF e w5 he hw;subst he;subst hw;replace hF:=hid hF)))
     all_goals exact hF.out.elim
    ·have hA2:A=0:=by rw[<-hA1,if_neg (by rintro⟨_,h⟩;rw[hcp]at h;cases h)]
     rw[hcp]at hh
     subst hA2
     replace hh:=hid hh
     clear k5 hA1 hcp
     go_wp2_with fail
     go_region_held (λw'=>w'.cell? (g,0) =some (c.gM:Vl)∧w'.cell? (c.gM,3) =some (c.gT:Vl)∧w'.cell? (g,1) =some (x.mode:Vl)) (go_keep)
      ((first
        | (go_at_call 94;refine hh.out.mono ?_;rintro e w5 ⟨rfl,rfl⟩)
        | (go_at_call 89;refine(bF _ _).mono ?_;rintro e w5 ⟨rfl,rfl⟩)))
     go_wp2
     go_end0
     exact⟨rfl,hon7.out.tail.drew.drew.drew⟩
end
structure db(i:ao)(x:Rn)(s:Mt) :Prop where
 tk: (Code.ah i.op).1<=(s.d:Int)
 off: (returns i.op i.arg s.same).1<=(s.r:Int) -x.base
 room: (s.d:Int) - (Code.ah i.op).1+ (if i.op=26∧s.top 0=0 then(Code.ah i.op).1 else(Code.ah i.op).2)<=s.pd.rm
 Cd: (s.r:Int) - (returns i.op i.arg s.same).1+ (returns i.op i.arg s.same).2<=s.pr.rm
 cap:ev i.op≠0->Caps.has s.T.aU x.mode (ev i.op) =true
theorem db.wn{op arg lit cells:Int}{x:Rn}{s:Mt}(h:db ⟨op,arg,lit,cells⟩ x s)(m:Nat)(e: (Code.ah op).1=m:=by decide) : (Code.ah op).1.toNat=m∧m<=s.d:=by
 have:=h.tk
 dsimp only at this
 omega
theorem db.of{i:ao}{x:Rn}{s:Mt}(h:asks i x s=0) :db i x s:=by
 unfold asks at h
 by_cases h1: (s.d:Int) < (Code.ah i.op).1
 ·rw[if_pos h1]at h;cases h
 rw[if_neg h1]at h
 by_cases h2: (s.r:Int) -x.base< (returns i.op i.arg s.same).1
 ·rw[if_pos h2]at h;cases h
 rw[if_neg h2]at h
 by_cases h3: (s.pd.rm:Int) <s.d- (Code.ah i.op).1+ (if i.op=26∧s.top 0=0 then(Code.ah i.op).1 else(Code.ah i.op).2)
 ·rw[if_pos h3]at h;cases h
 rw[if_neg h3]at h
 by_cases h4: (s.pr.rm:Int) <s.r- (returns i.op i.arg s.same).1+ (returns i.op i.arg s.same).2
 ·rw[if_pos h4]at h;cases h
 rw[if_neg h4]at h
 by_cases h5:ev i.op≠0∧Caps.has s.T.aU x.mode (ev i.op) =false
 ·rw[if_pos h5]at h;cases h
 refine⟨by omega,by omega,by omega,by omega,λhn=> ?_⟩
 rcases hc:Caps.has s.T.aU x.mode (ev i.op)with _|_
 ·exact absurd ⟨hn,hc⟩ h5
 ·rfl
def af(l:List Int) :Array Value:=(l.map (Value.int .i64)).toArray
def cS(f:FuncId)(i:ao)(q:Rn->Mt->Rs) :Prop:=
 ∀(c:Vc) (g:Nat) (x:Rn) (src:Value) (s:Mt) (ba:Nat) (w:World) (F:Nat->Prop),s.Ok->x.Ok->V64 i.arg->V64 i.lit->db i x s->
  (aa (ae ba 3 (af (s.args (Code.ah i.op).1.toNat)) ::vL c g x src s)).holds w F->
  Calls Tryz.prog f #[g,i.v,.slice ba (Code.ah i.op).1.toNat (Code.ah i.op).1.toNat] w (Got (bO (q x s).f) (aa (ae ba 3 (af (s.args (Code.ah i.op).1.toNat)) ::vL c g (q x s).x src (q x s).s)) F w)
theorem On.aW{P:Program}{f:FuncId}{args:Array Value}{w w':World}{F:Nat->Prop}{B:Asr}{L L':List Asr}{e0:Ending}(h:On F w (aa (B::L)) w')(hc : ∀F',(aa L).holds w' F'->(∃F3,B.holds w' F3∧∀k,F3 k->¬F' k)->(∀k,F' k->F k∨w.heap.size<=k)->Calls P f args w' (Got e0 (aa L') F' w')) :
 Calls P f args w' (Got e0 (aa (B::L')) F w):=by
 obtain⟨F',⟨F1,F2,h1,h2,hd,hF⟩,hk,hF'⟩:=h
 refine(hc F2 h2 ⟨F1,h1,λk a b=>hd k a b⟩ (λk h=>hF' k ((hF k).2 (.inr h)))).mono ?_
 rintro e w2 ⟨rfl,F3,h3,hk3,hF3⟩
 refine⟨rfl,λk=>F1 k∨F3 k,⟨F1,F3,B.kept h1 hk3 (λk a b=>hd k a b),h3,λk a b=> ?_,λ_=>Iff.rfl⟩,hk.trans' hk3 (λk h=>hF' k ((hF k).2 (.inr h))),?_⟩
 ·rcases hF3 k b with c|c
  ·exact hd k a c
  ·have:=B.lt h1 a;omega
 ·rintro k (h|h)
  ·exact hF' k ((hF k).2 (.inl h))
  ·rcases hF3 k h with c|c
   ·exact hF' k ((hF k).2 (.inr c))
   ·exact .inr (Nat.le_trans hk.size c)
theorem On.MR{P:Program}{f:FuncId}{args:Array Value}{w w':World}{F:Nat->Prop}{A A':Asr}{e0:Ending}(h:On F w A w')(hc : ∀F',A.holds w' F'->(∀k,F' k->F k∨w.heap.size<=k)->Calls P f args w' (Got e0 A' F' w')) :Calls P f args w' (Got e0 A' F w):=by
 obtain⟨F',ha,hk,hF⟩:=h
 refine(hc F' ha hF).mono ?_
 rintro e w2 ⟨rfl,F2,ha2,hk2,hF2⟩
 refine⟨rfl,F2,ha2,hk.trans' hk2 hF,λk h=> ?_⟩
 rcases hF2 k h with h|h
 ·exact hF k h
 ·exact .inr (Nat.le_trans hk.size h)
theorem On.bE{P:Program}{f:FuncId}{args:Array Value}{e0:Ending}{L':List Asr} : ∀(n:Nat) {L:List Asr} {w w':World} {F:Nat->Prop},n<=L.length->On F w (aa L) w'->
 (∀F',(aa (L.drop n)).holds w' F'->(∀i B,i<n->L[i]? = some B->∃F3,B.holds w' F3∧∀k,F3 k->¬F' k)->(∀k,F' k->F k∨w.heap.size<=k)->Calls P f args w' (Got e0 (aa L') F' w'))->Calls P f args w' (Got e0 (aa (L.take n++L')) F w)
 | 0,L,w,w',F,_,h,hc=>h.MR λF' hb hs=>hc F' hb (λi B hi=>absurd hi (Nat.not_lt_zero _)) hs
 | n+1,[],w,w',F,hn,h,hc=>by simp at hn
 | n+1,B::L,w,w',F,hn,h,hc=>h.aW λF' hb ⟨F3,h3,hd⟩ hs=>
    On.bE n (by simpa using hn) (On.refl hb) λF'' hb'' hdis hs''=>hc F'' hb'' (λi C hi hC=>by
     cases i with
     | zero=>
       obtain rfl:B=C:=by simpa using hC
       refine⟨F3,h3,λk hk hk''=> ?_⟩
       rcases hs'' k hk'' with h4|h4
       ·exact hd k hk h4
       ·have:=All.lt hb'' hk'';omega
     | succ i=>exact hdis i C oM (by simpa using hC)) (λk hk=>by
       rcases hs'' k hk with h4|h4
       ·exact hs k h4
       ·have:=All.lt hb'' hk;omega)
theorem HE(arg lit cells:Int) :cS 96 ⟨1,arg,lit,cells⟩ back:=by
 intro c g x src s ba w F hs hx hv1 hv2 hask hb
 have hon:=(On.refl hb).box #[(1:Int),arg,lit,cells] 155
 have h0:0<s.r:=by
  have h1:=hask.off
  have h2:=hx.base
  have e: (returns 1 arg s.same).1=1:=rfl
  simp only[e]at h1
  omega
 have hf: (back x s).f=0:=by unfold back;rw[if_neg oM]
 rw[hf]
 show Calls _ _ #[_,.agg #[(1:Int),arg,lit,cells],_] _ (Got (.returned (.tuple #[])) _ _ _)
 have hbk:=hon.bE 2 (by simp) λF'' hb'' _ _=>AE hb'' hs h0
 generalize (back x s).x=x' at *
 generalize (back x s).s=s' at *
 generalize af (s.args (Code.ah 1).1.toNat) =ac at *
 generalize (Code.ah 1).1.toNat=n at *
 replace hbk:=hid hbk
 clear hb hs hx hask hf h0 hon
 go_enter Tryz.func96,Tryz.ntmps96
 go_wp2_with fail
 refine hbk.out.mono ?_
 rintro e w1 ⟨rfl,h⟩
 replace h:=hid h
 go_wp2
 go_end0
 exact⟨rfl,h.out.tail⟩
theorem rG{s:Mt}{n:Nat}{l:List Int}(hroom:l.length<=s.pd.rm- (s.d-n)) : (s.aq n l).1=0:=by unfold Mt.aq;rw[if_neg oM]
theorem gx{w w':World}{F:Nat->Prop}{c:Vc}{g:Nat}{x:Rn}{src:Value}{s:Mt}(m:Nat){L:List Asr}(hm:m<=L.length)(hL:L.drop m=vL c g x src s)(h:On F w (aa L) w')(hs:s.Ok)(n:Nat)(hn:n<=s.d)(l:List Int)(hl : ∀v∈l,V64 v)
 (j:Nat) (hj:j<m) (rb:Nat) (hrow:L[j]? = some (ae rb 3 (af l))) (hroom:l.length<=s.pd.rm- (s.d-n)) :
 Calls Tryz.prog 97 #[g,(n:Int),.slice rb l.length l.length] w' (Got (.returned (.tuple #[])) (aa (L.take m++vL c g x src (s.aq n l).2)) F w):=by
 refine h.bE m hm λF' hb hdis _=> ?_
 rw[hL]at hb
 obtain⟨F3,hB,hfar⟩:=hdis j _ hj hrow
 refine zr hb hs n hn l hl (some ⟨rb,0,none⟩) l.length ?_ ?_ hroom
 ·intro k v hk
  refine⟨_,rfl,?_⟩
  have h1:=hB.1.cell k
  have h2: ((⟨rb,0,none⟩ :Addr).add k) = ⟨rb,k,none⟩:=by simp[Addr.add];intro h;exact h.symm
  rw[h2,h1]
  simp[af,hk]
 ·intro a ha
  obtain rfl:a= ⟨rb,0,none⟩:=by injection ha with ha;exact ha.symm
  exact⟨λhk=>hfar rb ((hB.2 rb).2 rfl) hk,hB.1.lt⟩
theorem lW{w w':World}{F:Nat->Prop}{c:Vc}{g:Nat}{x:Rn}{src:Value}{s:Mt}(m:Nat){L:List Asr}(hm:m<=L.length)(hL:L.drop m=vL c g x src s)(h:On F w (aa L) w')(hs:s.Ok)(n:Nat)(hn:n<=s.d) :
 Calls Tryz.prog 97 #[g,(n:Int),.slice none 0 0] w' (Got (.returned (.tuple #[])) (aa (L.take m++vL c g x src (s.aq n []).2)) F w):=by
 refine h.bE m hm λF' hb hdis _=> ?_
 rw[hL]at hb
 refine zr hb hs n hn [] (λv hv=>by cases hv) none 0 (λk v hk=>by simp at hk) (λa ha=>by cases ha) (by simp)
theorem JV(arg lit cells:Int) :cS 96 ⟨2,arg,lit,cells⟩ (aK 0 [lit]):=by
 intro c g x src s ba w F hs hx hv1 hv2 hask hb
 have hon:=(On.refl hb).box #[(2:Int),arg,lit,cells] 155
 have hroom : [lit].length<=s.pd.rm- (s.d-0):=by
  have h1:=hask.room
  have e1: (Code.ah 2).1=0:=by decide
  have e2: (Code.ah 2).2=1:=by decide
  simp[e1,e2]at h1
  simp
  omega
 have hf: (aK 0 [lit] x s).f=0:=rG hroom
 rw[hf]
 show Calls _ _ #[_,.agg #[(2:Int),arg,lit,cells],_] _ (Got (.returned (.tuple #[])) _ _ _)
 have hbx:=hon.box #[lit] 3
 have hz: (w.alloc (.cells #[(2:Int),arg,lit,cells] 155)).heap.size=w.heap.size+1:=by simp
 rw[hz]at hbx
 have hlay:=gx (c:=c) (g:=g) (x:=x) (src:=src) (s:=s) 3 (by simp) rfl hbx hs 0 (Nat.zero_le _) [lit] (λv hv=>by rw[List.mem_singleton.1 hv];exact hv2) 0 oM (w.heap.size+1) rfl hroom
 have b2: (w.alloc (.cells #[(2:Int),arg,lit,cells] 155)).cell? (w.heap.size,2) =some (lit:Vl):=(hon.ab 0 rfl).cell 2
 show Calls _ _ _ _ (Got _ (aa (_::vL c g x src (s.aq 0 [lit]).2)) _ _)
 generalize (s.aq 0 [lit]).2=s' at *
 generalize af (s.args (Code.ah 2).1.toNat) =ac at *
 generalize (Code.ah 2).1.toNat=n at *
 replace hlay:=hid hlay
 clear hb hs hx hask hf hon hbx hroom
 go_enter Tryz.func96,Tryz.ntmps96
 go_wp2_with fail
 refine hlay.out.mono ?_
 rintro e w1 ⟨rfl,h⟩
 replace h:=hid h
 go_wp2
 go_end0
 exact⟨rfl,h.out.tail.tail⟩
def eQ(B:Asr)(A:Option Addr)(l:List Int) :Prop:= ∀w F,B.holds w F->mO w A l∧∀a,A=some a->F a.block
theorem ay(rb:Nat)(l:List Int) :eQ (ae rb 3 (af l)) (some ⟨rb,0,none⟩) l:=by
 intro w F hB
 refine⟨?_,?_⟩
 ·intro k v hk
  refine⟨_,rfl,?_⟩
  have h1:=hB.1.cell k
  have h2: ((⟨rb,0,none⟩ :Addr).add k) = ⟨rb,k,none⟩:=by simp[Addr.add];intro h;exact h.symm
  rw[h2,h1]
  simp[af,hk]
 ·intro a ha
  obtain rfl:a= ⟨rb,0,none⟩:=by injection ha with ha;exact ha.symm
  exact(hB.2 rb).2 rfl
theorem br(B:Asr) :eQ B none []:=λw F _=>⟨λk v hk=>by simp at hk,λa ha=>by cases ha⟩
def gg(l:List Int)(L:List Asr)(F:Nat->Prop)(w:World)(e:Ending)(w':World) :Prop:=
 ∃A cap B,e = .returned (.slice A l.length cap)∧eQ B A l∧On F w (aa (B::L)) w'
theorem CN{w w':World}{F:Nat->Prop}{c:Vc}{g:Nat}{x:Rn}{src:Value}{s:Mt}{B:Asr}(h:On F w (aa (B::vL c g x src s)) w')(hs:s.Ok)(n:Nat)(hn:n<=s.d)(l:List Int)(hl : ∀v∈l,V64 v)
 (A:Option Addr) (cap:Nat) (hB:eQ B A l) (hroom:l.length<=s.pd.rm- (s.d-n)) :
 Calls Tryz.prog 97 #[.pointer (some ⟨g,0,none⟩),.int .i64 (n:Int),.slice A l.length cap] w' (Got (.returned (.tuple #[])) (aa (B::vL c g x src (s.aq n l).2)) F w):=by
 refine h.aW λF' hb ⟨F3,hh,hfar⟩ hs'=> ?_
 obtain⟨h1,h2⟩:=hB _ _ hh
 exact zr hb hs n hn l hl A cap h1 (λa ha=>⟨λhk=>hfar _ (h2 a ha) hk,B.lt hh (h2 a ha)⟩) hroom
def fv(i:ao)(q:Rn->Mt->Rs) :Prop:=
 ∀(c:Vc) (g:Nat) (x:Rn) (src:Value) (s:Mt) (w:World) (F:Nat->Prop),s.Ok->x.Ok->V64 i.arg->V64 i.lit->db i x s->(VA c g x src s).holds w F->
  Calls Tryz.prog 67 #[.pointer (some ⟨g,0,none⟩),i.v] w (Got (bO (q x s).f) (VA c g (q x s).x src (q x s).s) F w)
theorem kX{w:World}{F:Nat->Prop}{c:Vc}{g:Nat}{x:Rn}{src:Value}{s:Mt}(hb: (VA c g x src s).holds w F)(hs:s.Ok)(n:Nat)(hn:n<=8) :
 Calls Tryz.prog 95 #[.pointer (some ⟨g,0,none⟩),.int .i64 (n:Int)] w (Got (.returned (.slice (some ⟨w.heap.size,0,none⟩) n n)) (aa (ae w.heap.size 3 (af (s.args n)) ::vL c g x src s)) F w):=by
 refine(K9 hb hs n hn).mono ?_
 rintro e w' ⟨rfl,h⟩
 rw[xI]at h
 exact⟨rfl,h⟩
theorem aP(i:ao)(q:Rn->Mt->Rs)(hop:i.op<=20)(hq:cS 96 i q) :fv i q:=by
 intro c g x src s w F hs hx hv1 hv2 hask hb
 obtain⟨op,arg,lit,cells⟩:=i
 simp only at hop
 show Calls _ _ #[_,.agg #[.int .i64 op,.int .i64 arg,.int .i64 lit,.int .i64 cells]] _ _
 have hon:=(On.refl hb).box #[.int .i64 op,.int .i64 arg,.int .i64 lit,.int .i64 cells] 155
 have hw:=nh op
 have hwa:=λw=>jl op w
 obtain⟨n,hn⟩ : ∃n:Nat,(Code.ah op).1= (n:Int):=⟨(Code.ah op).1.toNat,by omega⟩
 have hn2: (Code.ah op).1.toNat=n:=by omega
 have hn8:n<=8:=by omega
 rw[hn]at hwa
 generalize (Code.ah op).2=ly at *
 have hargs:=λw1 (h1:On F w (aa (ae w.heap.size 155 #[.int .i64 op,.int .i64 arg,.int .i64 lit,.int .i64 cells] ::vL c g x src s)) w1)=>h1.aW λF' hb' _ _=>kX hb' hs n hn8
 have hctl : ∀w1 w2 ba,On F w (aa (ae w1 155 #[.int .i64 op,.int .i64 arg,.int .i64 lit,.int .i64 cells] ::ae ba 3 (af (s.args n)) ::vL c g x src s)) w2->
  Calls Tryz.prog 96 #[.pointer (some ⟨g,0,none⟩),.agg #[.int .i64 op,.int .i64 arg,.int .i64 lit,.int .i64 cells],.slice (some ⟨ba,0,none⟩) n n] w2 (Got (bO (q x s).f) (aa (ae w1 155 #[.int .i64 op,.int .i64 arg,.int .i64 lit,.int .i64 cells] ::ae ba 3 (af (s.args n)) ::vL c g (q x s).x src (q x s).s)) F w):=by
  intro w1 w2 ba h
  refine h.aW λF' hb' _ _=> ?_
  have h1:=hq c g x src s ba w2 F' hs hx hv1 hv2 hask
  simp only[hn2]at h1
  exact h1 hb'
 have hle:decide (op<=20) =true:=decide_eq_true hop
 generalize q x s=Q at *
 obtain⟨f,x',s'⟩:=Q
 simp only at hctl⊢
 replace hwa:=hid hwa
 replace hargs:=hid hargs
 replace hctl:=hid hctl
 replace hon:=hid hon
 clear hb hq hs hx hask hw hn hn2 hv1 hv2 hop
 go_enter Tryz.func67,Tryz.ntmps67
 go_wp2_with fail
 refine(hwa.out _).mono ?_
 rintro e w1 ⟨rfl,hb1⟩
 have hon1:=hon.out.below hb1
 replace hargs:=hid (hargs.out _ hon1)
 clear hb1
 go_wp2_with fail
 refine hargs.out.mono ?_
 rintro e w2 ⟨rfl,hon2⟩
 have b0:w2.cell? ⟨w.heap.size,0,none⟩ =some (.int .i64 op):=(hon2.ab 0 rfl).cell 0
 have b1:w2.cell? ⟨w.heap.size,1,none⟩ =some (.int .i64 arg):=(hon2.ab 0 rfl).cell 1
 have b2:w2.cell? ⟨w.heap.size,2,none⟩ =some (.int .i64 lit):=(hon2.ab 0 rfl).cell 2
 have b3:w2.cell? ⟨w.heap.size,3,none⟩ =some (.int .i64 cells):=(hon2.ab 0 rfl).cell 3
 replace hctl:=hid (hctl.out _ _ _ hon2)
 clear hon2 hon1
 go_wp2_with fail
 refine hctl.out.mono ?_
 rintro e w3 ⟨he,hon3⟩
 have hon4:=hid hon3.tail.tail
 clear hon3
 by_cases hf:f=0
 ·have he2:bO f = .returned (.tuple #[]):=by unfold bO;rw[if_pos hf]
  rw[he2]at he
  subst he
  replace he2:=hid he2
  clear hf
  go_wp2
  go_end0
  exact⟨he2.out.symm,hon4.out⟩
 ·have he2:bO f = .panicked [flt f]:=by unfold bO;rw[if_neg hf]
  rw[he2]at he
  subst he
  replace he2:=hid he2
  clear hf
  go_wp2
  exact⟨rfl,he2.out.symm,hon4.out⟩
theorem On.DL{P:Program}{f:FuncId}{args:Array Value}{w w':World}{F:Nat->Prop}{B:Asr}{L:List Asr}{R:Ending->List Asr->Prop}(h:On F w (aa (B::L)) w')(hc : ∀F',(aa L).holds w' F'->Calls P f args w' (λe w2=> ∃L',R e L'∧On F' w' (aa L') w2)) :
 Calls P f args w' (λe w2=> ∃L',R e L'∧On F w (aa (B::L')) w2):=by
 obtain⟨F',⟨F1,F2,h1,h2,hd,hF⟩,hk,hF'⟩:=h
 refine(hc F2 h2).mono ?_
 rintro e w2 ⟨L',hR,F3,h3,hk3,hF3⟩
 refine⟨L',hR,λk=>F1 k∨F3 k,⟨F1,F3,B.kept h1 hk3 (λk a b=>hd k a b),h3,λk a b=> ?_,λ_=>Iff.rfl⟩,hk.trans' hk3 (λk h=>hF' k ((hF k).2 (.inr h))),?_⟩
 ·rcases hF3 k b with c|c
  ·exact hd k a c
  ·have:=B.lt h1 a;omega
 ·rintro k (h|h)
  ·exact hF' k ((hF k).2 (.inl h))
  ·rcases hF3 k h with c|c
   ·exact hF' k ((hF k).2 (.inr c))
   ·exact .inr (Nat.le_trans hk.size c)
def cA(f:FuncId)(pre:Nat->Array Value)(i:ao)(l:Mt->List Int) :Prop:=
 ∀(c:Vc) (g:Nat) (x:Rn) (src:Value) (s:Mt) (ba:Nat) (w:World) (F:Nat->Prop),s.Ok->db i x s->
  (aa (ae ba 3 (af (s.args (Code.ah i.op).1.toNat)) ::vL c g x src s)).holds w F->
  Calls Tryz.prog f (pre g ++ #[.int .i64 i.op,.slice (some ⟨ba,0,none⟩) (Code.ah i.op).1.toNat (Code.ah i.op).1.toNat]) w (gg (l s) (vL c g x src s) F w)
def ar(s:Mt)(n j:Nat) :Int:=(s.args n).getD j 0
theorem mM(s:Mt)(n:Nat) : (s.args n).length=n:=by simp[Mt.args]
theorem Hf(s:Mt)(n j:Nat)(hj:j<n) : (s.args n)[j]? = some (ar s n j):=by
 unfold ar
 rw[List.getD_eq_getElem?_getD,List.getElem?_eq_getElem (by rw[mM];exact hj)]
 rfl
theorem ai{w:World}{ba n j:Nat}{s:Mt}(h:Blk w ba 3 (af (s.args n)))(hj:j<n) :w.cell? (ba,j) =some ((ar s n j) :Vl):=by
 rw[h.cell]
 simp[af,Hf s n j hj]
theorem eH(op arg lit cells:Int)(h4: (op==34) =false)(h5: (op==35) =false)(h6: (op==36) =false)(h7: (op==37) =false)(h8: (op==38) =false)(h53: (op==53) =false)(h54: (op==54) =false)(h55: (op==55) =false)(h56: (op==56) =false)(h57: (op==57) =false)
 (hw: (Code.ah op).1=2) (v:Int->Int->Int) (hp : ∀x y w,Calls Tryz.prog 139 #[op,.int .i64 x,.int .i64 y] w (aA (v x y) w)) :
 cA 99 (λ_=> #[]) ⟨op,arg,lit,cells⟩ (λs=>[v (ar s 2 0) (ar s 2 1)]):=by
 intro c g x src s ba w F hs hask hb
 have hw2: (Code.ah op).1.toNat=2:=by omega
 simp only[hw2]at hb⊢
 have hon:=On.refl hb
 have hrow:=hon.ab 0 rfl
 have a0:=ai hrow (j:=0) oM
 have a1:=ai hrow (j:=1) oM
 generalize ar s 2 0=X at *
 generalize ar s 2 1=Y at *
 have hp1:=λw=>hp X Y w
 generalize v X Y=V at *
 have hbx:=λw1 (h:On F w (aa (ae ba 3 (af (s.args 2)) ::vL c g x src s)) w1)=>h.tail.box #[V] 3
 replace hbx:=hid hbx
 replace hp1:=hid hp1
 replace hon:=hid hon
 clear hb hrow hp hw hw2 hask hs
 show Calls _ _ #[op,.slice ba 2 2] _ _
 go_enter Tryz.func99,Tryz.ntmps99
 go_wp2_with fail
 go_region_held (λw'=>w'.cell? (ba,0) =some (X:Vl)∧w'.cell? (ba,1) =some (Y:Vl)) (go_keep)
  ((go_at_call 139;refine(hp1.out _).mono ?_;rintro e w5 ⟨rfl,rfl⟩))
 go_wp2
 all_goals go_ret
 all_goals exact⟨some ⟨w.heap.size,0,none⟩,1,ae w.heap.size 3 (af [V]),rfl,ay _ _,(hbx.out w hon.out).drew⟩
theorem gj(op arg lit cells:Int)(h4: (op==34) =false)(h5: (op==35) =false)(h6: (op==36) =false)(h7: (op==37) =false)(h8: (op==38) =false)(h53: (op==53) =false)(h54: (op==54) =false)(h55: (op==55) =false)(h56: (op==56) =false)(h57: (op==57) =false)
 (hw: (Code.ah op).1=1) (v:Int->Int) (hp : ∀x w,Calls Tryz.prog 138 #[op,.int .i64 x] w (aA (v x) w)) :
 cA 99 (λ_=> #[]) ⟨op,arg,lit,cells⟩ (λs=>[v (ar s 1 0)]):=by
 intro c g x src s ba w F hs hask hb
 have hw2: (Code.ah op).1.toNat=1:=by omega
 simp only[hw2]at hb⊢
 have hon:=On.refl hb
 have hrow:=hon.ab 0 rfl
 have a0:=ai hrow (j:=0) oM
 generalize ar s 1 0=X at *
 have hp1:=λw=>hp X w
 generalize v X=V at *
 have hbx:=λw1 (h:On F w (aa (ae ba 3 (af (s.args 1)) ::vL c g x src s)) w1)=>h.tail.box #[V] 3
 replace hbx:=hid hbx
 replace hp1:=hid hp1
 replace hon:=hid hon
 clear hb hrow hp hw hw2 hask hs
 show Calls _ _ #[op,.slice ba 1 1] _ _
 go_enter Tryz.func99,Tryz.ntmps99
 go_wp2_with fail
 refine(hp1.out _).mono ?_
 rintro e w5 ⟨rfl,rfl⟩
 go_wp2
 all_goals go_ret
 all_goals exact⟨some ⟨w5.heap.size,0,none⟩,1,ae w5.heap.size 3 (af [V]),rfl,ay _ _,hbx.out w5 hon.out⟩
theorem Fi(x y:Int)(w:World) :Calls Tryz.prog 139 #[(31:Int),x,y] w (aA (wrap64 (x+y)) w):=by
 go_enter Tryz.func139,Tryz.ntmps139
 go_wp2
 go_ret
 exact⟨rfl,rfl⟩
theorem FB(x y:Int)(w:World) :Calls Tryz.prog 139 #[(32:Int),x,y] w (aA (wrap64 (x-y)) w):=by
 go_enter Tryz.func139,Tryz.ntmps139
 go_wp2
 go_ret
 exact⟨rfl,rfl⟩
theorem Hg(x y:Int)(w:World) :Calls Tryz.prog 139 #[(33:Int),x,y] w (aA (wrap64 (x*y)) w):=by
 go_enter Tryz.func139,Tryz.ntmps139
 go_wp2
 go_ret
 exact⟨rfl,rfl⟩
theorem CU(x:Int)(w:World) :Calls Tryz.prog 138 #[(39:Int),x] w (aA (wrap64 (-x)) w):=by
 go_enter Tryz.func138,Tryz.ntmps138
 go_wp2
 go_ret
 exact⟨rfl,rfl⟩
theorem DD(x:Int)(w:World) :Calls Tryz.prog 138 #[(43:Int),x] w (aA (wrap64 (x+1)) w):=by
 go_enter Tryz.func138,Tryz.ntmps138
 go_wp2
 go_ret
 exact⟨rfl,rfl⟩
theorem EG(x:Int)(w:World) :Calls Tryz.prog 138 #[(44:Int),x] w (aA (wrap64 (x-1)) w):=by
 go_enter Tryz.func138,Tryz.ntmps138
 go_wp2
 go_ret
 exact⟨rfl,rfl⟩
theorem NT(arg lit cells:Int) :cA 98 (λg=> #[.pointer (some ⟨g,0,none⟩)]) ⟨21,arg,lit,cells⟩ (λs=>[ar s 1 0,ar s 1 0]):=by
 intro c g x src s ba w F hs hask hb
 have hw2: (Code.ah 21).1.toNat=1:=by decide
 simp only[hw2]at hb⊢
 have hon:=On.refl hb
 have hrow:=hon.ab 0 rfl
 have a0:=ai hrow (j:=0) oM
 generalize ar s 1 0=X at *
 have hbx:=hon.tail.box #[X,X] 3
 replace hbx:=hid hbx
 clear hb hrow hw2 hask hs hon
 show Calls _ _ #[g,(21:Int),.slice ba 1 1] _ _
 go_enter Tryz.func98,Tryz.ntmps98
 go_wp2_with fail
 go_region
 all_goals go_wp2
 all_goals go_ret
 all_goals exact⟨some ⟨w.heap.size,0,none⟩,2,ae w.heap.size 3 (af [X,X]),rfl,ay _ _,hbx.out.drew⟩
theorem K4(arg lit cells:Int) :cA 98 (λg=> #[.pointer (some ⟨g,0,none⟩)]) ⟨22,arg,lit,cells⟩ (λs=>[]):=by
 intro c g x src s ba w F hs hask hb
 have hw2: (Code.ah 22).1.toNat=1:=by decide
 simp only[hw2]at hb⊢
 have hon:=On.refl hb
 replace hon:=hid hon
 clear hb hw2 hask hs
 show Calls _ _ #[g,(22:Int),.slice ba 1 1] _ _
 go_enter Tryz.func98,Tryz.ntmps98
 go_wp2
 go_ret
 exact⟨none,0,_,rfl,br _,hon.out⟩
theorem Mi(arg lit cells:Int) :cA 98 (λg=> #[.pointer (some ⟨g,0,none⟩)]) ⟨23,arg,lit,cells⟩ (λs=>[ar s 2 1,ar s 2 0]):=by
 intro c g x src s ba w F hs hask hb
 have hw2: (Code.ah 23).1.toNat=2:=by decide
 simp only[hw2]at hb⊢
 have hon:=On.refl hb
 have hrow:=hon.ab 0 rfl
 have a0:=ai hrow (j:=0) oM
 have a1:=ai hrow (j:=1) oM
 generalize ar s 2 0=X at *
 generalize ar s 2 1=Y at *
 have hbx:=hon.tail.box #[Y,X] 3
 replace hbx:=hid hbx
 clear hb hrow hw2 hask hs hon
 show Calls _ _ #[g,(23:Int),.slice ba 2 2] _ _
 go_enter Tryz.func98,Tryz.ntmps98
 go_wp2_with fail
 go_region
 all_goals go_wp2
 all_goals go_ret
 all_goals exact⟨some ⟨w.heap.size,0,none⟩,2,ae w.heap.size 3 (af [Y,X]),rfl,ay _ _,hbx.out.drew⟩
theorem Lr(arg lit cells:Int) :cA 98 (λg=> #[.pointer (some ⟨g,0,none⟩)]) ⟨24,arg,lit,cells⟩ (λs=>[ar s 2 0,ar s 2 1,ar s 2 0]):=by
 intro c g x src s ba w F hs hask hb
 have hw2: (Code.ah 24).1.toNat=2:=by decide
 simp only[hw2]at hb⊢
 have hon:=On.refl hb
 have hrow:=hon.ab 0 rfl
 have a0:=ai hrow (j:=0) oM
 have a1:=ai hrow (j:=1) oM
 generalize ar s 2 0=X at *
 generalize ar s 2 1=Y at *
 have hbx:=hon.tail.box #[X,Y,X] 3
 replace hbx:=hid hbx
 clear hb hrow hw2 hask hs hon
 show Calls _ _ #[g,(24:Int),.slice ba 2 2] _ _
 go_enter Tryz.func98,Tryz.ntmps98
 go_wp2_with fail
 go_region
 all_goals go_wp2
 all_goals go_ret
 all_goals exact⟨some ⟨w.heap.size,0,none⟩,3,ae w.heap.size 3 (af [X,Y,X]),rfl,ay _ _,hbx.out.drew⟩
def bn(f:FuncId)(pre:Nat->Array Value)(i:ao)(q:Rn->Mt->Rs×List Int) :Prop:=
 ∀(c:Vc) (g:Nat) (x:Rn) (src:Value) (s:Mt) (ba:Nat) (w:World) (F:Nat->Prop),s.Ok->x.Ok->db i x s->
  (aa (ae ba 3 (af (s.args (Code.ah i.op).1.toNat)) ::vL c g x src s)).holds w F->
  Calls Tryz.prog f (pre g ++ #[.int .i64 i.op,.slice (some ⟨ba,0,none⟩) (Code.ah i.op).1.toNat (Code.ah i.op).1.toNat]) w
   (λe w'=>if(q x s).1.f=0 then gg (q x s).2 (vL c g (q x s).1.x src (q x s).1.s) F w e w' else e = .panicked [flt (q x s).1.f]∧On F w (VA c g (q x s).1.x src (q x s).1.s) w')
def Rs.laid(n:Nat)(p:Rs×List Int) :Rs:=if p.1.f=0 then aK n p.2 p.1.x p.1.s else p.1
def nG(i:ao)(q:Rn->Mt->Rs×List Int) :Prop:= ∀x s,s.Ok->x.Ok->db i x s->(q x s).1.f=0->
 (q x s).1.s.Ok∧(q x s).1.s.d=s.d∧(q x s).2.length<=(q x s).1.s.pd.rm- (s.d- (Code.ah i.op).1.toNat)∧∀v∈(q x s).2,V64 v
abbrev Kn:=Vc->Value->Mt->Prop
def cE(P:Kn)(f:FuncId)(pre:Nat->Array Value)(i:ao)(q:Rn->Mt->Rs×List Int) :Prop:=
 ∀(c:Vc) (g:Nat) (x:Rn) (src:Value) (s:Mt) (ba:Nat) (w:World) (F:Nat->Prop),P c src s->s.Ok->x.Ok->db i x s->
  (aa (ae ba 3 (af (s.args (Code.ah i.op).1.toNat)) ::vL c g x src s)).holds w F->
  Calls Tryz.prog f (pre g ++ #[.int .i64 i.op,.slice (some ⟨ba,0,none⟩) (Code.ah i.op).1.toNat (Code.ah i.op).1.toNat]) w
   (λe w'=>if(q x s).1.f=0 then gg (q x s).2 (vL c g (q x s).1.x src (q x s).1.s) F w e w' else e = .panicked [flt (q x s).1.f]∧On F w (VA c g (q x s).1.x src (q x s).1.s) w')
def fQ(P:Kn)(i:ao)(q:Rn->Mt->Rs×List Int) :Prop:= ∀c src x s,P c src s->s.Ok->x.Ok->db i x s->(q x s).1.f=0->
 (q x s).1.s.Ok∧(q x s).1.s.d=s.d∧(q x s).2.length<=(q x s).1.s.pd.rm- (s.d- (Code.ah i.op).1.toNat)∧∀v∈(q x s).2,V64 v
def dE(P:Kn)(i:ao)(q:Rn->Mt->Rs) :Prop:=
 ∀(c:Vc) (g:Nat) (x:Rn) (src:Value) (s:Mt) (w:World) (F:Nat->Prop),P c src s->s.Ok->x.Ok->V64 i.arg->V64 i.lit->db i x s->(VA c g x src s).holds w F->
  Calls Tryz.prog 67 #[.pointer (some ⟨g,0,none⟩),i.v] w (Got (bO (q x s).f) (VA c g (q x s).x src (q x s).s) F w)
theorem fv.toG{i:ao}{q:Rn->Mt->Rs}(h:fv i q)(P:Kn) :dE P i q:=λc g x src s w F _=>h c g x src s w F
theorem bn.toG{f:FuncId}{pre:Nat->Array Value}{i:ao}{q:Rn->Mt->Rs×List Int}(h:bn f pre i q)(P:Kn) :cE P f pre i q:=λc g x src s ba w F _=>h c g x src s ba w F
inductive Sel:Int->FuncId->(Nat->Array Value)->(Nat->Int->Nat->Nat->Array Value)->Prop
 | moved {op:Int} (h1:20<op) (h2:op<=30) :Sel op 98 (λg=> #[.pointer (some ⟨g,0,none⟩)]) (λg op ba n=> #[.pointer (some ⟨g,0,none⟩),.int .i64 op,.slice (some ⟨ba,0,none⟩) n n])
 | reckoned {op:Int} (h1:30<op) (h2:op<=64) :Sel op 99 (λ_=> #[]) (λ_ op ba n=> #[.int .i64 op,.slice (some ⟨ba,0,none⟩) n n])
 | memory {op:Int} (h1:64<op) (h2:op<=71) :Sel op 100 (λg=> #[.pointer (some ⟨g,0,none⟩)]) (λg op ba n=> #[.pointer (some ⟨g,0,none⟩),.int .i64 op,.slice (some ⟨ba,0,none⟩) n n])
 | lists {op:Int} (h1:71<op) (h2:op<=77) :Sel op 101 (λg=> #[.pointer (some ⟨g,0,none⟩)]) (λg op ba n=> #[.pointer (some ⟨g,0,none⟩),.int .i64 op,.slice (some ⟨ba,0,none⟩) n n])
 | goes {op:Int} (h1:77<op) (h2:op<=84) :Sel op 102 (λg=> #[.pointer (some ⟨g,0,none⟩)]) (λg op ba n=> #[.pointer (some ⟨g,0,none⟩),.int .i64 op,.slice (some ⟨ba,0,none⟩) n n])
 | told {op:Int} (h1:85<op) (h2:op<=92) :Sel op 105 (λg=> #[.pointer (some ⟨g,0,none⟩)]) (λg op ba n=> #[.pointer (some ⟨g,0,none⟩),.int .i64 op,.slice (some ⟨ba,0,none⟩) n n])
 | complexes {op:Int} (h1:93<op) (h2:op<=99) :Sel op 106 (λ_=> #[]) (λ_ op ba n=> #[.int .i64 op,.slice (some ⟨ba,0,none⟩) n n])
 | turtle {op:Int} (h1:99<op) (h2:op<=104) :Sel op 107 (λg=> #[.pointer (some ⟨g,0,none⟩)]) (λg op ba n=> #[.pointer (some ⟨g,0,none⟩),.int .i64 op,.slice (some ⟨ba,0,none⟩) n n])
theorem Sel.eq{op:Int}{fn:FuncId}{pre:Nat->Array Value}{a:Nat->Int->Nat->Nat->Array Value}(h:Sel op fn pre a)(g ba n:Nat) :pre g ++ #[.int .i64 op,.slice (some ⟨ba,0,none⟩) n n] =a g op ba n:=by
 cases h<;>rfl
theorem fw(P:Kn)(i:ao)(q:Rn->Mt->Rs×List Int){fn:FuncId}{pre:Nat->Array Value}{ar2:Nat->Int->Nat->Nat->Array Value}(hsel:Sel i.op fn pre ar2)(hq:cE P fn pre i q)(hlen:fQ P i q) :dE P i (λx s=>Rs.laid (Code.ah i.op).1.toNat (q x s)):=by
 intro c g x src s w F hp hs hx hv1 hv2 hask hb
 obtain⟨op,arg,lit,cells⟩:=i
 simp only at hsel
 have hse:=hsel.eq g
 show Calls _ _ #[_,.agg #[.int .i64 op,.int .i64 arg,.int .i64 lit,.int .i64 cells]] _ _
 have hon:=(On.refl hb).box #[.int .i64 op,.int .i64 arg,.int .i64 lit,.int .i64 cells] 155
 have hw:=nh op
 have htk:=hask.tk
 have hwa:=λw=>jl op w
 obtain⟨n,hn⟩ : ∃n:Nat,(Code.ah op).1= (n:Int):=⟨(Code.ah op).1.toNat,by omega⟩
 have hn2: (Code.ah op).1.toNat=n:=by omega
 have hn8:n<=8:=by omega
 rw[hn]at hwa htk
 have hnd:n<=s.d:=by omega
 have hlen:=hlen c src x s hp hs hx hask
 simp only[hn2]at hlen⊢
 generalize (Code.ah op).2=ly at *
 have hargs:=λw1 (h1:On F w (aa (ae w.heap.size 155 #[.int .i64 op,.int .i64 arg,.int .i64 lit,.int .i64 cells] ::vL c g x src s)) w1)=>h1.aW λF' hb' _ _=>kX hb' hs n hn8
 have hmov : ∀w1 w2 ba,On F w (aa (ae w1 155 #[.int .i64 op,.int .i64 arg,.int .i64 lit,.int .i64 cells] ::ae ba 3 (af (s.args n)) ::vL c g x src s)) w2->
  Calls Tryz.prog fn (ar2 g op ba n) w2 (λe w3=> ∃L',(if(q x s).1.f=0 then(∃A cap B,e = .returned (.slice A (q x s).2.length cap)∧eQ B A (q x s).2∧L'=B::vL c g (q x s).1.x src (q x s).1.s)else e = .panicked [flt (q x s).1.f]∧L'=vL c g (q x s).1.x src (q x s).1.s)∧On F w (aa (ae w1 155 #[.int .i64 op,.int .i64 arg,.int .i64 lit,.int .i64 cells] ::L')) w3):=by
  intro w1 w2 ba h
  refine h.DL λF' hb'=> ?_
  have h1:=hq c g x src s ba w2 F' hp hs hx hask
  simp only[hn2,hse]at h1
  refine(h1 hb').mono ?_
  intro e w3 hh
  by_cases hf: (q x s).1.f=0
  ·rw[if_pos hf]at hh
   obtain⟨A,cap,B,he,hB,hon⟩:=hh
   refine⟨_,?_,hon⟩
   rw[if_pos hf]
   exact⟨A,cap,B,he,hB,rfl⟩
  ·rw[if_neg hf]at hh
   obtain⟨he,hon⟩:=hh
   refine⟨_,?_,hon⟩
   rw[if_neg hf]
   exact⟨he,rfl⟩
 generalize hQ:q x s=Q at *
 clear hQ
 obtain⟨⟨f,x',s'⟩,ls⟩:=Q
 simp only at hmov hlen
 clear hse hq
 cases hsel
 all_goals(rename_i hop hop2;(try dsimp only at hmov))
 all_goals first|have t20:decide (op<=20) =false:=decide_eq_false oM |have t20:decide (op<=20) =true:=decide_eq_true oM
 all_goals first|have t30:decide (op<=30) =false:=decide_eq_false oM |have t30:decide (op<=30) =true:=decide_eq_true oM
 all_goals first|have t64:decide (op<=64) =false:=decide_eq_false oM |have t64:decide (op<=64) =true:=decide_eq_true oM
 all_goals first|have t71:decide (op<=71) =false:=decide_eq_false oM |have t71:decide (op<=71) =true:=decide_eq_true oM
 all_goals first|have t77:decide (op<=77) =false:=decide_eq_false oM |have t77:decide (op<=77) =true:=decide_eq_true oM
 all_goals first|have t84:decide (op<=84) =false:=decide_eq_false oM |have t84:decide (op<=84) =true:=decide_eq_true oM
 all_goals first|have t99:decide (op<=99) =false:=decide_eq_false oM |have t99:decide (op<=99) =true:=decide_eq_true oM
 all_goals first|have t104:decide (op<=104) =false:=decide_eq_false oM |have t104:decide (op<=104) =true:=decide_eq_true oM
 all_goals have t85: (op==85) =false:=by rw[beq_eq_false_iff_ne];omega
 all_goals have t93: (op==93) =false:=by rw[beq_eq_false_iff_ne];omega
 all_goals first|have t93b:decide (op<93) =false:=decide_eq_false oM |have t93b:decide (op<93) =true:=decide_eq_true oM
 all_goals
  by_cases hf:f=0
  ·simp only[if_pos hf]at hmov
   obtain⟨hs',hd',hroom,hl⟩:=hlen hf
   have hfl: (s'.aq n ls).1=0:=rG (by rw[hd'];exact hroom)
   have hlay : ∀w1 w2 A cap B,eQ B A ls->On F w (aa (ae w1 155 #[.int .i64 op,.int .i64 arg,.int .i64 lit,.int .i64 cells] ::B::vL c g x' src s')) w2->
    Calls Tryz.prog 97 #[.pointer (some ⟨g,0,none⟩),.int .i64 (n:Int),.slice A ls.length cap] w2 (Got (.returned (.tuple #[])) (aa (ae w1 155 #[.int .i64 op,.int .i64 arg,.int .i64 lit,.int .i64 cells] ::B::vL c g x' src (s'.aq n ls).2)) F w):=by
    intro w1 w2 A cap B hB h
    exact h.aW λF' hb' _ _=>CN (On.refl hb') hs' n (by rw[hd'];exact hnd) ls hl A cap hB (by rw[hd'];exact hroom)
   have hE:Rs.laid n (⟨f,x',s'⟩,ls) = ⟨0,x',(s'.aq n ls).2⟩:=by
    show(if f=0 then aK n ls x' s' else _) =_
    rw[if_pos hf]
    show(⟨(s'.aq n ls).1,x',(s'.aq n ls).2⟩ :Rs) =_
    rw[hfl]
   rw[hE]
   show Calls _ _ _ _ (Got (.returned (.tuple #[])) (VA c g x' src (s'.aq n ls).2) F w)
   generalize (s'.aq n ls).2=s2 at *
   replace hwa:=hid hwa
   replace hargs:=hid hargs
   replace hmov:=hid hmov
   replace hlay:=hid hlay
   replace hon:=hid hon
   clear hp hb hs hx hask hw hn hn2 hv1 hv2 hop hop2 htk hlen hf hE hfl hl hs' hroom hd'
   go_enter Tryz.func67,Tryz.ntmps67
   go_wp2_with fail
   refine(hwa.out _).mono ?_
   rintro e w1 ⟨rfl,hb1⟩
   have hon1:=hon.out.below hb1
   replace hargs:=hid (hargs.out _ hon1)
   clear hb1
   go_wp2_with fail
   refine hargs.out.mono ?_
   rintro e w2 ⟨rfl,hon2⟩
   have b0:w2.cell? ⟨w.heap.size,0,none⟩ =some (.int .i64 op):=(hon2.ab 0 rfl).cell 0
   replace hmov:=hid (hmov.out _ _ _ hon2)
   clear hon2 hon1
   go_wp2_with fail
   refine hmov.out.mono ?_
   rintro e w3 ⟨L',⟨A,cap,B,rfl,hB,rfl⟩,hon3⟩
   replace hlay:=hid (hlay.out _ _ A cap B hB hon3)
   clear hon3
   replace hB:=hid hB
   go_wp2_with fail
   refine hlay.out.mono ?_
   rintro e w4 ⟨rfl,hon4⟩
   replace hon4:=hid hon4.tail.tail
   go_wp2
   go_end0
   exact⟨rfl,hon4.out⟩
  ·simp only[if_neg hf]at hmov
   have hE:Rs.laid n (⟨f,x',s'⟩,ls) = ⟨f,x',s'⟩:=by
    show(if f=0 then aK n ls x' s' else _) =_
    rw[if_neg hf]
   rw[hE]
   have he2:bO f = .panicked [flt f]:=by unfold bO;rw[if_neg hf]
   show Calls _ _ _ _ (Got (bO f) (VA c g x' src s') F w)
   rw[he2]
   replace hwa:=hid hwa
   replace hargs:=hid hargs
   replace hmov:=hid hmov
   replace hon:=hid hon
   clear hp hb hs hx hask hw hn hn2 hv1 hv2 hop hop2 htk hlen hf hE he2
   go_enter Tryz.func67,Tryz.ntmps67
   go_wp2_with fail
   refine(hwa.out _).mono ?_
   rintro e w1 ⟨rfl,hb1⟩
   have hon1:=hon.out.below hb1
   replace hargs:=hid (hargs.out _ hon1)
   clear hb1
   go_wp2_with fail
   refine hargs.out.mono ?_
   rintro e w2 ⟨rfl,hon2⟩
   have b0:w2.cell? ⟨w.heap.size,0,none⟩ =some (.int .i64 op):=(hon2.ab 0 rfl).cell 0
   replace hmov:=hid (hmov.out _ _ _ hon2)
   clear hon2 hon1
   go_wp2_with fail
   refine hmov.out.mono ?_
   rintro e w3 ⟨L',⟨rfl,rfl⟩,hon3⟩
   replace hon3:=hid hon3.tail
   go_wp2
   exact⟨rfl,rfl,hon3.out⟩
theorem mJ{i:ao}{q:Rn->Mt->Rs×List Int}{fn:FuncId}{pre:Nat->Array Value}{ar2:Nat->Int->Nat->Nat->Array Value}(hsel:Sel i.op fn pre ar2)(hq:bn fn pre i q)(hlen:nG i q) :fv i (λx s=>Rs.laid (Code.ah i.op).1.toNat (q x s)):=
 λc g x src s w F=>fw (λ_ _ _=>True) i q hsel (hq.toG _) (λ_ _ x s _=>hlen x s) c g x src s w F trivial
theorem bw(i:ao)(q:Rn->Mt->Rs×List Int)(hop:30<i.op)(hop2:i.op<=64)(hq:bn 99 (λg=> #[]) i q)(hlen:nG i q) :fv i (λx s=>Rs.laid (Code.ah i.op).1.toNat (q x s)):=
 mJ (.reckoned hop hop2) hq hlen
theorem nk(i:ao)(q:Rn->Mt->Rs×List Int)(hop:64<i.op)(hop2:i.op<=71)(hq:bn 100 (λg=> #[.pointer (some ⟨g,0,none⟩)]) i q)(hlen:nG i q) :fv i (λx s=>Rs.laid (Code.ah i.op).1.toNat (q x s)):=
 mJ (.memory hop hop2) hq hlen
theorem xb(i:ao)(q:Rn->Mt->Rs×List Int)(hop:71<i.op)(hop2:i.op<=77)(hq:bn 101 (λg=> #[.pointer (some ⟨g,0,none⟩)]) i q)(hlen:nG i q) :fv i (λx s=>Rs.laid (Code.ah i.op).1.toNat (q x s)):=
 mJ (.lists hop hop2) hq hlen
theorem yK{i:ao}{l:Mt->List Int}{fn:FuncId}{pre:Nat->Array Value}{ar2:Nat->Int->Nat->Nat->Array Value}(hsel:Sel i.op fn pre ar2)(hq:cA fn pre i l)
 (hlen : ∀x s,s.Ok->db i x s->(l s).length<=s.pd.rm- (s.d- (Code.ah i.op).1.toNat)∧∀v∈l s,V64 v) :fv i (λx s=>aK (Code.ah i.op).1.toNat (l s) x s):=
 mJ (q:=λx s=>(⟨0,x,s⟩,l s)) hsel (λc g x src s ba w F hs _ ha hb=>(hq c g x src s ba w F hs ha hb).mono λe w' h=>by
  show(if(0:Int) =0 then _ else _)
  rw[if_pos rfl];exact h) (λx s hs _ ha _=>⟨hs,rfl,hlen x s hs ha⟩)
theorem dZ(i:ao)(l:Mt->List Int)(hop:20<i.op)(hop2:i.op<=30)(hq:cA 98 (λg=> #[.pointer (some ⟨g,0,none⟩)]) i l)
 (hlen : ∀x s,s.Ok->db i x s->(l s).length<=s.pd.rm- (s.d- (Code.ah i.op).1.toNat)∧∀v∈l s,V64 v) :fv i (λx s=>aK (Code.ah i.op).1.toNat (l s) x s):=
 yK (.moved hop hop2) hq hlen
theorem aC(i:ao)(l:Mt->List Int)(hop:30<i.op)(hop2:i.op<=64)(hq:cA 99 (λg=> #[]) i l)
 (hlen : ∀x s,s.Ok->db i x s->(l s).length<=s.pd.rm- (s.d- (Code.ah i.op).1.toNat)∧∀v∈l s,V64 v) :fv i (λx s=>aK (Code.ah i.op).1.toNat (l s) x s):=
 yK (.reckoned hop hop2) hq hlen
section
variable {P:Program}(w:World)
theorem jZ{o:Oper}{a:Act}{K:Act->World->Prop}{Q:Exit->Act->World->Prop}(s x:Operand)(t:TypeId)
 (ho:o.op = .call { callee:= .builtin .append,args:= #[s,x],argTypes:= #[t,t] })
 (e:TypeId) (i:TypeInfo) (z:Value) (ht:P.underlying t=some (.slice e)) (hi:P.info? e=some i) (hz:i.zero=some z)
 (b:Addr) (sLen sCap:Nat) (olds:List Value) (hs:a.eval s = .slice (some b) sLen sCap) (hlo:olds.length=sLen*i.size) (holds : ∀j v,olds[j]? = some v->w.cell? (b.add j) =some v)
 (ad:Addr) (n c:Nat) (news:List Value) (hx:a.eval x = .slice (some ad) n c) (hl:news.length=n*i.size) (hnews : ∀j v,news[j]? = some v->w.cell? (ad.add j) =some v)
 (hg:sCap<sLen+n) (h63: ((sLen+n:Nat) :Int)<=9223372036854775807) (hfit:Builtin.nextslicecap (sLen+n) sCap*i.bytes<=281474976710656)
 (h : ∀cap zs,K (a.put o.dst (.slice (some ⟨w.heap.size,0,none⟩) (sLen+n) cap)) (w.drew.alloc (.cells (olds.toArray++news.toArray++zs) e))) :o.wp P a w K Q:=by
 have hr:=run_append_grow (P:=P) (w:=w) t o.type e i z ht hi hz b sLen sCap olds hlo holds ad n c news hl hnews hg h63 hfit
 unfold Oper.wp execOp
 simp only[ho,resolve,invoke,builtin,Sem.run_bind,Sem.run_pure,Result.andThen_ok,List.map_toArray,List.map_cons,List.map_nil,hs,hx,hr]
 exact h _ _
theorem mf{ops:Array Oper}{rest:List Oper}{o:Oper}{a:Act}{Q:Exit->Act->World->Prop}(hgd:o.guard=none)(s x:Operand)(t:TypeId)
 (ho:o.op = .call { callee:= .builtin .append,args:= #[s,x],argTypes:= #[t,t] })
 (e:TypeId) (i:TypeInfo) (z:Value) (ht:P.underlying t=some (.slice e)) (hi:P.info? e=some i) (hz:i.zero=some z)
 (b:Addr) (sLen sCap:Nat) (olds:List Value) (hs:a.eval s = .slice (some b) sLen sCap) (hlo:olds.length=sLen*i.size) (holds : ∀j v,olds[j]? = some v->w.cell? (b.add j) =some v)
 (ad:Addr) (n c:Nat) (news:List Value) (hx:a.eval x = .slice (some ad) n c) (hl:news.length=n*i.size) (hnews : ∀j v,news[j]? = some v->w.cell? (ad.add j) =some v)
 (hg:sCap<sLen+n) (h63: ((sLen+n:Nat) :Int)<=9223372036854775807) (hfit:Builtin.nextslicecap (sLen+n) sCap*i.bytes<=281474976710656)
 (h : ∀cap zs,wpList P ops Q rest (a.put o.dst (.slice (some ⟨w.heap.size,0,none⟩) (sLen+n) cap)) (w.drew.alloc (.cells (olds.toArray++news.toArray++zs) e))) :wpList P ops Q (o::rest) a w:=
 wpList_plain hgd λ_ hK=>jZ w s x t ho e i z ht hi hz b sLen sCap olds hs hlo holds ad n c news hx hl hnews hg h63 hfit λcap zs=>hK _ _ (h cap zs)
theorem nV{ops:Array Oper}{o:Oper}{a:Act}{K:Act->World->Prop}{Q:Exit->Act->World->Prop}{E:Prop}(hgd:o.guard=none)(s x:Operand)(t:TypeId)
 (ho:o.op = .call { callee:= .builtin .append,args:= #[s,x],argTypes:= #[t,t] })
 (e:TypeId) (i:TypeInfo) (z:Value) (ht:P.underlying t=some (.slice e)) (hi:P.info? e=some i) (hz:i.zero=some z)
 (b:Addr) (sLen sCap:Nat) (olds:List Value) (hs:a.eval s = .slice (some b) sLen sCap) (hlo:olds.length=sLen*i.size) (holds : ∀j v,olds[j]? = some v->w.cell? (b.add j) =some v)
 (ad:Addr) (n c:Nat) (news:List Value) (hx:a.eval x = .slice (some ad) n c) (hl:news.length=n*i.size) (hnews : ∀j v,news[j]? = some v->w.cell? (ad.add j) =some v)
 (hg:sCap<sLen+n) (h63: ((sLen+n:Nat) :Int)<=9223372036854775807) (hfit:Builtin.nextslicecap (sLen+n) sCap*i.bytes<=281474976710656)
 (h : ∀cap zs,K (a.put o.dst (.slice (some ⟨w.heap.size,0,none⟩) (sLen+n) cap)) (w.drew.alloc (.cells (olds.toArray++news.toArray++zs) e))) :
 if Region.wanted o (yielded ops a.tmps) =true then Oper.wp P o a w K Q else E:=by
 have hw:Region.wanted o (yielded ops a.tmps) =true:=by simp[Region.wanted,hgd]
 rw[if_pos hw]
 exact jZ w s x t ho e i z ht hi hz b sLen sCap olds hs hlo holds ad n c news hx hl hnews hg h63 hfit h
end
theorem qt(b j k:Nat) : ((⟨b,j,none⟩ :Addr).add k) = ⟨b,j+k,none⟩:=by cases k<;>simp[Addr.add]
theorem yk(rb:Nat)(t:TypeId)(cs:Array Value)(l:List Int)(hc : ∀(k:Nat) (v:Int),l[k]? = some v->cs[k]? = some (Value.int .i64 v)) :eQ (ae rb t cs) (some ⟨rb,0,none⟩) l:=by
 intro w F hB
 refine⟨?_,?_⟩
 ·intro k v hk
  refine⟨_,rfl,?_⟩
  have h1:=hB.1.cell k
  have h2: ((⟨rb,0,none⟩ :Addr).add k) = ⟨rb,k,none⟩:=by simp[Addr.add];intro h;exact h.symm
  rw[h2,h1]
  exact hc k v hk
 ·intro a ha
  obtain rfl:a= ⟨rb,0,none⟩:=by injection ha with ha;exact ha.symm
  exact(hB.2 rb).2 rfl
theorem oW(rb:Nat)(t:TypeId)(l:List Int)(zs:Array Value) :eQ (ae rb t (af l++zs)) (some ⟨rb,0,none⟩) l:=yk _ _ _ _ λk v hk=>by
 have hlt:k<l.length:=(List.getElem?_eq_some_iff.1 hk).1
 rw[Array.getElem?_append_left (by simp[af];exact hlt)]
 simp[af,hk]
theorem uX(rb:Nat)(t:TypeId)(cs:Array Value)(j:Nat)(l:List Int)(hc : ∀(k:Nat) (v:Int),l[k]? = some v->cs[j+k]? = some (Value.int .i64 v)) :eQ (ae rb t cs) (some ⟨rb,j,none⟩) l:=by
 intro w F hB
 refine⟨?_,?_⟩
 ·intro k v hk
  refine⟨_,rfl,?_⟩
  have h1:=hB.1.cell (j+k)
  have h2:=qt rb j k
  rw[h2,h1]
  exact hc k v hk
 ·intro a ha
  obtain rfl:a= ⟨rb,j,none⟩:=by injection ha with ha;exact ha.symm
  exact(hB.2 rb).2 rfl
theorem KN(s:Mt) :s.args 1 = [ar s 1 0]:=rfl
theorem Mx(s:Mt) :s.args 2 = [ar s 2 0,ar s 2 1]:=rfl
theorem K2(arg lit cells:Int) :cA 98 (λg=> #[.pointer (some ⟨g,0,none⟩)]) ⟨28,arg,lit,cells⟩ (λs=>[ar s 2 1,ar s 2 0,ar s 2 1]):=by
 intro c g x src s ba w F hs hask hb
 have hw2: (Code.ah 28).1.toNat=2:=by decide
 simp only[hw2]at hb⊢
 have hon:=On.refl hb
 have hrow:=hon.ab 0 rfl
 have a0:=ai hrow (j:=0) oM
 have a1:=ai hrow (j:=1) oM
 generalize ar s 2 0=X at *
 generalize ar s 2 1=Y at *
 have hbx:=hon.tail.box #[.int .i64 Y,.int .i64 X,.int .i64 Y] 3
 replace hbx:=hid hbx
 clear hb hrow hw2 hask hs hon
 show Calls _ _ #[.pointer (some ⟨g,0,none⟩),.int .i64 28,.slice (some ⟨ba,0,none⟩) 2 2] _ _
 go_enter Tryz.func98,Tryz.ntmps98
 go_wp2_with fail
 go_region
 all_goals go_wp2
 all_goals go_ret
 all_goals exact⟨some ⟨w.heap.size,0,none⟩,3,ae w.heap.size 3 (af [Y,X,Y]),rfl,ay _ _,hbx.out.drew⟩
theorem Ns(arg lit cells:Int) :cA 98 (λg=> #[.pointer (some ⟨g,0,none⟩)]) ⟨27,arg,lit,cells⟩ (λs=>[ar s 2 1]):=by
 intro c g x src s ba w F hs hask hb
 have hw2: (Code.ah 27).1.toNat=2:=by decide
 simp only[hw2]at hb⊢
 have hon:=On.refl hb
 have hcar:eQ (ae ba 3 (af (s.args 2))) (some ⟨ba,1,none⟩) [ar s 2 1]:=uX _ _ _ 1 _ λk v hk=>by
  rw[Mx]
  rcases k with _|k
  ·simp at hk
   subst hk
   rfl
  ·simp at hk
 generalize af (s.args 2) =ac at *
 generalize ar s 2 1=Y at *
 replace hon:=hid hon
 replace hcar:=hid hcar
 clear hb hw2 hask hs
 show Calls _ _ #[.pointer (some ⟨g,0,none⟩),.int .i64 27,.slice (some ⟨ba,0,none⟩) 2 2] _ _
 go_enter Tryz.func98,Tryz.ntmps98
 go_wp2
 go_ret
 exact⟨some ⟨ba,1,none⟩,1,ae ba 3 ac,rfl,hcar.out,hon.out⟩
theorem Iv(arg lit cells:Int) :cA 98 (λg=> #[.pointer (some ⟨g,0,none⟩)]) ⟨30,arg,lit,cells⟩ (λs=>[(s.d:Int)]):=by
 intro c g x src s ba w F hs hask hb
 have hw2: (Code.ah 30).1.toNat=0:=by decide
 simp only[hw2]at hb⊢
 have hon:=On.refl hb
 have r0:=hon.tail.r0
 have m5:=hon.tail.m5
 have hd:=λw1 (h:On F w (aa (ae ba 3 (af (s.args 0)) ::vL c g x src s)) w1)=>eE h.tail.sd
 have hbx:=λw1 (h:On F w (aa (ae ba 3 (af (s.args 0)) ::vL c g x src s)) w1)=>h.tail.box #[.int .i64 (s.d:Int)] 3
 generalize af (s.args 0) =ac at *
 replace hon:=hid hon
 replace hd:=hid hd
 replace hbx:=hid hbx
 clear hb hw2 hask hs
 show Calls _ _ #[.pointer (some ⟨g,0,none⟩),.int .i64 30,.slice (some ⟨ba,0,none⟩) 0 0] _ _
 go_enter Tryz.func98,Tryz.ntmps98
 go_wp2_with fail
 refine(hd.out _ hon.out).mono ?_
 rintro e w1 ⟨rfl,rfl⟩
 simp only[]
 go_wp2
 go_ret
 exact⟨some ⟨w1.heap.size,0,none⟩,1,ae w1.heap.size 3 (af [(s.d:Int)]),rfl,ay _ _,hbx.out _ hon.out⟩
theorem wQ: (Tryz.prog.info? 3).map (λi=>(i.zero,i.size,i.bytes)) =some (some (.int .i64 0),1,8):=by kernel_rfl
theorem Oa(arg lit cells:Int) :cA 98 (λg=> #[.pointer (some ⟨g,0,none⟩)]) ⟨25,arg,lit,cells⟩ (λs=>[ar s 3 1,ar s 3 2,ar s 3 0]):=by
 intro c g x src s ba w F hs hask hb
 have hw2: (Code.ah 25).1.toNat=3:=by decide
 simp only[hw2]at hb⊢
 have hon:=On.refl hb
 have hrow:=hon.ab 0 rfl
 have a0:=ai hrow (j:=0) oM
 have a1:=ai hrow (j:=1) oM
 have a2:=ai hrow (j:=2) oM
 have hlt:=hrow.lt
 obtain⟨i0,hi0,hz0,hz1,hz2⟩:=info_parts wQ
 generalize ar s 3 0=X at *
 generalize ar s 3 1=Y at *
 generalize ar s 3 2=Z at *
 generalize af (s.args 3) =ac at *
 replace hon:=hid hon
 replace hi0:=hid hi0
 replace hz0:=hid hz0
 replace hz1:=hid hz1
 replace hz2:=hid hz2
 have b1:=hid a1
 have b2:=hid a2
 clear hb hrow hw2 hask hs
 show Calls _ _ #[.pointer (some ⟨g,0,none⟩),.int .i64 25,.slice (some ⟨ba,0,none⟩) 3 3] _ _
 go_enter Tryz.func98,Tryz.ntmps98
 go_wp2_with fail
 go_region_law ((refine nV _ rfl (.tmp 41) (.tmp 45) 23 rfl 3 i0 (.int .i64 0) ?_ ?_ ?_ ⟨ba,1,none⟩ 2 2 [.int .i64 Y,.int .i64 Z] ?_ ?_ ?_ ⟨w.heap.size,0,none⟩ 1 1 [.int .i64 X] ?_ ?_ ?_ ?_ ?_ ?_ ?_;exact Tryz.underlying23;exact hi0.out;exact hz0.out;rfl;rw[hz1.out];rfl;intro j v hj;rw[qt];(rcases j with _|_|j);(simp at hj;subst hj;simp[World.cell?_alloc_some,b1.out]);(simp at hj;subst hj;simp[World.cell?_alloc_some,b2.out]);(simp at hj);rfl;rw[hz1.out];rfl;intro j v hj;rw[qt];(rcases j with _|j);(simp at hj;subst hj;simp);(simp at hj);decide;decide;rw[hz2.out];decide;intro cap zs))
 all_goals go_wp2
 all_goals go_ret
 have h9:=(hon.out.box #[.int .i64 X] 3).box (#[.int .i64 Y,.int .i64 Z,.int .i64 X] ++zs) 3
 simp only[World.size_alloc]at h9
 exact⟨some ⟨w.heap.size+1,0,none⟩,cap,ae (w.heap.size+1) 3 (af [Y,Z,X] ++zs),rfl,oW _ _ [Y,Z,X] zs,((h9.drop 1 rfl).drop 1 rfl).drew.drew⟩
def lM(x:Int) :List Int:=if x=0 then [x]else [x,x]
theorem Md(arg lit cells:Int) :cA 98 (λg=> #[.pointer (some ⟨g,0,none⟩)]) ⟨26,arg,lit,cells⟩ (λs=>lM (ar s 1 0)):=by
 intro c g x src s ba w F hs hask hb
 have hw2: (Code.ah 26).1.toNat=1:=by decide
 simp only[hw2]at hb⊢
 have hon:=On.refl hb
 have hrow:=hon.ab 0 rfl
 have a0:=ai hrow (j:=0) oM
 have hlt:=hrow.lt
 obtain⟨i0,hi0,hz0,hz1,hz2⟩:=info_parts wQ
 have hcar:eQ (ae ba 3 (af (s.args 1))) (some ⟨ba,0,none⟩) [ar s 1 0]:=by
  have h:=ay ba (s.args 1)
  rw[KN]at h
  rw[KN]
  exact h
 generalize ar s 1 0=X at *
 generalize af (s.args 1) =ac at *
 replace hon:=hid hon
 replace hi0:=hid hi0
 replace hz0:=hid hz0
 replace hz1:=hid hz1
 replace hz2:=hid hz2
 replace hcar:=hid hcar
 have b0:=hid a0
 clear hb hrow hw2 hask hs
 show Calls _ _ #[.pointer (some ⟨g,0,none⟩),.int .i64 26,.slice (some ⟨ba,0,none⟩) 1 1] _ _
 by_cases hX:X=0
 ·have e:lM X = [X]:=if_pos hX
  have t1: (X != 0) =false:=by simpa using hX
  rw[e]
  clear e
  replace hX:=hid hX
  go_enter Tryz.func98,Tryz.ntmps98
  go_wp2
  go_ret
  exact⟨some ⟨ba,0,none⟩,1,ae ba 3 ac,rfl,hcar.out,hon.out⟩
 ·have e:lM X = [X,X]:=if_neg hX
  have t1: (X != 0) =true:=by simpa using hX
  rw[e]
  clear e
  replace hX:=hid hX
  go_enter Tryz.func98,Tryz.ntmps98
  go_wp2_with (at_builtin;refine mf _ rfl (.tmp 53) (.tmp 57) 23 rfl 3 i0 (.int .i64 0) ?_ ?_ ?_ ⟨ba,0,none⟩ 1 1 [.int .i64 X] ?_ ?_ ?_ ⟨w.heap.size,0,none⟩ 1 1 [.int .i64 X] ?_ ?_ ?_ ?_ ?_ ?_ ?_;exact Tryz.underlying23;exact hi0.out;exact hz0.out;rfl;rw[hz1.out];rfl;intro j v hj;rw[qt];(rcases j with _|j);(simp at hj;subst hj;simp[World.cell?_alloc_some,b0.out]);(simp at hj);rfl;rw[hz1.out];rfl;intro j v hj;rw[qt];(rcases j with _|j);(simp at hj;subst hj;simp);(simp at hj);decide;decide;rw[hz2.out];decide;intro cap zs)
  all_goals go_ret
  have h9:=(hon.out.box #[.int .i64 X] 3).box (#[.int .i64 X,.int .i64 X] ++zs) 3
  simp only[World.size_alloc]at h9
  exact⟨some ⟨w.heap.size+1,0,none⟩,cap,ae (w.heap.size+1) 3 (af [X,X] ++zs),rfl,oW _ _ [X,X] zs,((h9.drop 1 rfl).drop 1 rfl).drew⟩
theorem eX(P:Kn)(i:ao)(q:Rn->Mt->Rs×List Int)(hop:64<i.op)(hop2:i.op<=71)(hq:cE P 100 (λg=> #[.pointer (some ⟨g,0,none⟩)]) i q)(hlen:fQ P i q) :dE P i (λx s=>Rs.laid (Code.ah i.op).1.toNat (q x s)):=
 fw P i q (.memory hop hop2) hq hlen
theorem fT(P:Kn)(i:ao)(q:Rn->Mt->Rs×List Int)(hop:71<i.op)(hop2:i.op<=77)(hq:cE P 101 (λg=> #[.pointer (some ⟨g,0,none⟩)]) i q)(hlen:fQ P i q) :dE P i (λx s=>Rs.laid (Code.ah i.op).1.toNat (q x s)):=
 fw P i q (.lists hop hop2) hq hlen
theorem eI(P:Kn)(i:ao)(q:Rn->Mt->Rs×List Int)(hop:77<i.op)(hop2:i.op<=84)(hq:cE P 102 (λg=> #[.pointer (some ⟨g,0,none⟩)]) i q)(hlen:fQ P i q) :dE P i (λx s=>Rs.laid (Code.ah i.op).1.toNat (q x s)):=
 fw P i q (.goes hop hop2) hq hlen
theorem qO(P:Kn)(i:ao)(q:Rn->Mt->Rs×List Int)(hop:85<i.op)(hop2:i.op<=92)(hq:cE P 105 (λg=> #[.pointer (some ⟨g,0,none⟩)]) i q)(hlen:fQ P i q) :dE P i (λx s=>Rs.laid (Code.ah i.op).1.toNat (q x s)):=
 fw P i q (.told hop hop2) hq hlen
def DcA(gI g fr en:Nat)(D:Dc) :Asr:=jO gI g fr en (D.h:Int) (D.l:Int)
structure At8(S:Img)(D:Dc)(fr en:Nat) :Prop where
 ok:D.Ok S
 img:S.Ok
 fr:D.fr S=fr
 lim:D.lim S=en
theorem At8.le{S:Img}{D:Dc}{fr en:Nat}(h:At8 S D fr en) :en<=143360:=by rw[<-h.lim];exact h.ok.le h.img
theorem At8.lo{S:Img}{D:Dc}{fr en:Nat}(h:At8 S D fr en) :fr<=D.h∧D.h<=en:=by rw[<-h.lim,<-h.fr];exact⟨h.ok.lo,h.ok.hi⟩
theorem At8.next{S S':Img}{D D':Dc}{fr en:Nat}(h:At8 S D fr en)(hS:S'.Ok)(hD:D'.Ok S')(ha:Alike S S')(hr:D'.rg=D.rg) :At8 S' D' fr en:=by
 refine⟨hD,hS,?_,?_⟩
 ·rw[<-h.fr]
  unfold Dc.fr
  rw[hr,ha.beg]
 ·rw[<-h.lim]
  unfold Dc.lim
  rw[hr,ha.beg]
section
variable {w:World}{F:Nat->Prop}{g gI fr en:Nat}{D:Dc}{S:Img}
theorem lS(gI fr en:Nat)(h l n:Int) : (cu gI fr en h l).setIfInBounds 3 (.int .i64 n) =cu gI fr en n l:=rfl
theorem Mp(hb:Blk w g 136 (cu gI fr en (D.h:Int) (D.l:Int))) :Calls Tryz.prog 144 #[g] w (aA (D.h:Int) w):=by
 have c3:w.cell? (g,3) =some ((D.h:Int) :Vl):=hb.cell 3
 clear hb
 go_enter Tryz.func144,Tryz.ntmps144
 go_wp2
 go_ret
 exact⟨rfl,rfl⟩
theorem zg(hb: (aa [DcA gI g fr en D,au gI S]).holds w F)(h8:At8 S D fr en)(hf:en<D.h+8)(v:Int) :
 Calls Tryz.prog 75 #[g,v] w (Got (.returned (.int .i64 9)) (aa [DcA gI g fr en D,au gI S]) F w):=by
 have hon:=On.refl hb
 have hs:Blk w g 136 (cu gI fr en (D.h:Int) (D.l:Int)):=hon.ab 0 rfl
 have c2:w.cell? (g,2) =some ((en:Int) :Vl):=hs.cell 2
 have c3:w.cell? (g,3) =some ((D.h:Int) :Vl):=hs.cell 3
 have h1:=h8.le
 have h2:=h8.lo.2
 have ht:decide ((en:Int) -8< (D.h:Int)) =true:=decide_eq_true oM
 replace hon:=hid hon
 clear hs hb h8
 go_enter Tryz.func75,Tryz.ntmps75
 go_wp2
 go_quiet (fail)
 go_wp2
 go_ret
 exact⟨rfl,hon.out.drewN _⟩
theorem Cw(hb: (aa [DcA gI g fr en D,au gI S]).holds w F)(h8:At8 S D fr en)(hf : ¬en<D.h+8)(v:Int)(hv:V64 v)(f:Int)(hF:S.az 0 (D.h:Int) true=f)(hne:f≠0) :
 Calls Tryz.prog 75 #[g,v] w (Got (.returned f) (aa [DcA gI g fr en D,au gI S]) F w):=by
 have hon:=On.refl hb
 have hs:Blk w g 136 (cu gI fr en (D.h:Int) (D.l:Int)):=hon.ab 0 rfl
 have c0:w.cell? (g,0) =some (gI:Vl):=hs.cell 0
 have c2:w.cell? (g,2) =some ((en:Int) :Vl):=hs.cell 2
 have c3:w.cell? (g,3) =some ((D.h:Int) :Vl):=hs.cell 3
 have h1:=h8.le
 have h2:=h8.lo.2
 have ht:decide ((en:Int) -8< (D.h:Int)) =false:=decide_eq_false oM
 have hz: (f==0) =false:=by simpa using hne
 have hset:=λn=>(hon.drewN n).drew.bA 1 rfl (λF' ha=>fL ha 0 (D.h:Int) v hv)
 have e2:S.setCell 0 (D.h:Int) v=S:=by unfold Img.setCell;rw[if_neg (by rw[hF];exact hne)]
 rw[hF,e2]at hset
 replace hon:=hid hon
 replace hset:=hid hset
 clear hs hb h8 hF hv hne e2 hf
 go_enter Tryz.func75,Tryz.ntmps75
 go_wp2
 go_quiet (fail)
 go_wp2_with fail
 go_region_held (λw'=>w'.cell? (g,0) =some (gI:Vl)∧w'.cell? (g,3) =some ((D.h:Int) :Vl)) (go_keep)
  ((go_at_call 55;refine(hset.out _).mono ?_;rintro e w1 ⟨rfl,h⟩;have m0:w1.cell? (g,0) =some (gI:Vl):=(h.ab 0 rfl).cell 0;have m3:w1.cell? (g,3) =some ((D.h:Int) :Vl):=(h.ab 0 rfl).cell 3;replace h:=hid h))
 go_wp2
 go_ret
 exact⟨rfl,h.out⟩
theorem DC(hb: (aa [DcA gI g fr en D,au gI S]).holds w F)(h8:At8 S D fr en)(hf : ¬en<D.h+8)(v:Int)(hv:V64 v)(hF:S.az 0 (D.h:Int) true=0) :
 Calls Tryz.prog 75 #[g,v] w (Got (.returned (.int .i64 0)) (aa [DcA gI g fr en { D with h:=D.h+8 },au gI (S.put D.h (toB v))]) F w):=by
 have hon:=On.refl hb
 have hs:Blk w g 136 (cu gI fr en (D.h:Int) (D.l:Int)):=hon.ab 0 rfl
 have c0:w.cell? (g,0) =some (gI:Vl):=hs.cell 0
 have c2:w.cell? (g,2) =some ((en:Int) :Vl):=hs.cell 2
 have c3:w.cell? (g,3) =some ((D.h:Int) :Vl):=hs.cell 3
 have h1:=h8.le
 have h2:=h8.lo.2
 have ht:decide ((en:Int) -8< (D.h:Int)) =false:=decide_eq_false oM
 have hset:=λn=>(hon.drewN n).drew.bA 1 rfl (λF' ha=>fL ha 0 (D.h:Int) v hv)
 have e2:S.setCell 0 (D.h:Int) v=S.put D.h (toB v):=by unfold Img.setCell;rw[if_pos hF];rfl
 rw[hF,e2]at hset
 generalize S.put D.h (toB v) =S' at *
 replace hon:=hid hon
 replace hset:=hid hset
 clear hs hb h8 hF hv e2 hf
 go_enter Tryz.func75,Tryz.ntmps75
 go_wp2
 go_quiet (fail)
 go_wp2_with fail
 go_region_held (λw'=>w'.cell? (g,0) =some (gI:Vl)∧w'.cell? (g,3) =some ((D.h:Int) :Vl)) (go_keep)
  ((go_at_call 55;refine(hset.out _).mono ?_;rintro e w1 ⟨rfl,h⟩;have m0:w1.cell? (g,0) =some (gI:Vl):=(h.ab 0 rfl).cell 0;have m3:w1.cell? (g,3) =some ((D.h:Int) :Vl):=(h.ab 0 rfl).cell 3;have f3:w1.frozen? (g,3) =false:=(h.ab 0 rfl).frozen 3;have hfin:=h.setAt 0 rfl 3 (.int .i64 ((D.h:Int) +8));rw[lS]at hfin;replace h:=hid h;replace hfin:=hid hfin))
 go_wp2
 go_ret
 exact⟨rfl,hfin.out⟩
theorem vJ(hb: (aa [DcA gI g fr en D,au gI S]).holds w F)(h8:At8 S D fr en)(v:Int)(hv:V64 v) :
 Calls Tryz.prog 75 #[g,v] w (Got (.returned (D.bo S)) (aa [DcA gI g fr en (D.bq S),au gI (D.bp S v)]) F w):=by
 have h2:=h8.lo
 by_cases hf:en<D.h+8
 ·have e:D.bo S=9:=by unfold Dc.bo;rw[h8.lim,if_pos hf]
  unfold Dc.bq Dc.bp
  rw[e,if_neg (by decide),if_neg (by decide)]
  exact zg hb h8 hf v
 ·have hc:=h8.ok.Nc D.h (by rw[h8.fr];exact h2.1) (by rw[h8.lim];omega)
  have e:D.bo S=S.az 0 (D.h:Int) true:=by rw[hc];unfold Dc.bo;rw[h8.lim,if_neg hf]
  unfold Dc.bq Dc.bp
  rw[e]
  by_cases h0:S.az 0 (D.h:Int) true=0
  ·rw[h0,if_pos rfl,if_pos rfl]
   exact DC hb h8 hf v hv h0
  ·rw[if_neg h0,if_neg h0]
   exact Cw hb h8 hf v hv _ rfl h0
end
section
variable {w:World}{F:Nat->Prop}{g gI fr en:Nat}{D:Dc}{S:Img}
theorem yv(hb: (aa [DcA gI g fr en D,au gI S]).holds w F)(h8:At8 S D fr en)(hf:en<=D.h)(b:Int) :
 Calls Tryz.prog 115 #[g,.int .u8 b] w (Got (.returned (.int .i64 9)) (aa [DcA gI g fr en D,au gI S]) F w):=by
 have hon:=On.refl hb
 have hs:Blk w g 136 (cu gI fr en (D.h:Int) (D.l:Int)):=hon.ab 0 rfl
 have c2:w.cell? (g,2) =some ((en:Int) :Vl):=hs.cell 2
 have c3:w.cell? (g,3) =some ((D.h:Int) :Vl):=hs.cell 3
 have ht:decide ((en:Int)<=(D.h:Int)) =true:=decide_eq_true oM
 have ht':decide (en<=D.h) =true:=decide_eq_true hf
 replace hon:=hid hon
 clear hs hb h8
 go_enter Tryz.func115,Tryz.ntmps115
 go_wp2
 go_quiet (fail)
 go_wp2
 go_ret
 exact⟨rfl,hon.out.drewN _⟩
theorem xH(hb: (aa [DcA gI g fr en D,au gI S]).holds w F)(h8:At8 S D fr en)(hf : ¬en<=D.h)(b:UInt8)(hF:S.bR 0 (D.h:Int) true=5) :
 Calls Tryz.prog 115 #[g,.int .u8 (b.toNat:Int)] w (Got (.returned (.int .i64 5)) (aa [DcA gI g fr en D,au gI S]) F w):=by
 have hon:=On.refl hb
 have hs:Blk w g 136 (cu gI fr en (D.h:Int) (D.l:Int)):=hon.ab 0 rfl
 have c0:w.cell? (g,0) =some (gI:Vl):=hs.cell 0
 have c2:w.cell? (g,2) =some ((en:Int) :Vl):=hs.cell 2
 have c3:w.cell? (g,3) =some ((D.h:Int) :Vl):=hs.cell 3
 have ht:decide ((en:Int)<=(D.h:Int)) =false:=decide_eq_false oM
 have ht':decide (en<=D.h) =false:=decide_eq_false hf
 have hset:=λn=>(hon.drewN n).drew.bA 1 rfl (λF' ha=>iX ha 0 (D.h:Int) b)
 have e2:S.aV 0 (D.h:Int) b=S:=by
  unfold Img.bR at hF
  unfold Img.aV
  split
  ·rename_i h
   rw[if_pos h]at hF
   cases hF
  ·rfl
 rw[hF,e2]at hset
 replace hon:=hid hon
 replace hset:=hid hset
 clear hs hb h8 hF e2 hf
 go_enter Tryz.func115,Tryz.ntmps115
 go_wp2
 go_quiet (fail)
 go_wp2_with fail
 go_region_held (λw'=>w'.cell? (g,0) =some (gI:Vl)∧w'.cell? (g,3) =some ((D.h:Int) :Vl)) (go_keep)
  ((go_at_call 140;refine(hset.out _).mono ?_;rintro e w1 ⟨rfl,h⟩;have m0:w1.cell? (g,0) =some (gI:Vl):=(h.ab 0 rfl).cell 0;have m3:w1.cell? (g,3) =some ((D.h:Int) :Vl):=(h.ab 0 rfl).cell 3;replace h:=hid h))
 go_wp2
 go_ret
 exact⟨rfl,h.out⟩
theorem Ai(hb: (aa [DcA gI g fr en D,au gI S]).holds w F)(h8:At8 S D fr en)(hf : ¬en<=D.h)(b:UInt8)(hF:S.bR 0 (D.h:Int) true=0) :
 Calls Tryz.prog 115 #[g,.int .u8 (b.toNat:Int)] w (Got (.returned (.int .i64 0)) (aa [DcA gI g fr en { D with h:=D.h+1 },au gI (S.put D.h [b])]) F w):=by
 have hon:=On.refl hb
 have hs:Blk w g 136 (cu gI fr en (D.h:Int) (D.l:Int)):=hon.ab 0 rfl
 have c0:w.cell? (g,0) =some (gI:Vl):=hs.cell 0
 have c2:w.cell? (g,2) =some ((en:Int) :Vl):=hs.cell 2
 have c3:w.cell? (g,3) =some ((D.h:Int) :Vl):=hs.cell 3
 have h1:=h8.le
 have h2:=h8.lo.2
 have ht:decide ((en:Int)<=(D.h:Int)) =false:=decide_eq_false oM
 have ht':decide (en<=D.h) =false:=decide_eq_false hf
 have hset:=λn=>(hon.drewN n).drew.bA 1 rfl (λF' ha=>iX ha 0 (D.h:Int) b)
 have e2:S.aV 0 (D.h:Int) b=S.put D.h [b]:=by
  unfold Img.bR at hF
  unfold Img.aV
  split
  ·rfl
  ·rename_i h
   rw[if_neg h]at hF
   cases hF
 rw[hF,e2]at hset
 generalize S.put D.h [b] =S' at *
 replace hon:=hid hon
 replace hset:=hid hset
 clear hs hb h8 hF e2 hf
 go_enter Tryz.func115,Tryz.ntmps115
 go_wp2
 go_quiet (fail)
 go_wp2_with fail
 go_region_held (λw'=>w'.cell? (g,0) =some (gI:Vl)∧w'.cell? (g,3) =some ((D.h:Int) :Vl)) (go_keep)
  ((go_at_call 140;refine(hset.out _).mono ?_;rintro e w1 ⟨rfl,h⟩;have m0:w1.cell? (g,0) =some (gI:Vl):=(h.ab 0 rfl).cell 0;have m3:w1.cell? (g,3) =some ((D.h:Int) :Vl):=(h.ab 0 rfl).cell 3;have f3:w1.frozen? (g,3) =false:=(h.ab 0 rfl).frozen 3;have hfin:=h.setAt 0 rfl 3 (.int .i64 ((D.h:Int) +1));rw[lS]at hfin;replace h:=hid h;replace hfin:=hid hfin))
 go_wp2
 go_ret
 exact⟨rfl,hfin.out⟩
theorem qW(hb: (aa [DcA gI g fr en D,au gI S]).holds w F)(h8:At8 S D fr en)(b:UInt8) :
 Calls Tryz.prog 115 #[g,.int .u8 (b.toNat:Int)] w (Got (.returned (D.cF S)) (aa [DcA gI g fr en (D.dR S),au gI (D.di S b)]) F w):=by
 have h2:=h8.lo
 by_cases hf:en<=D.h
 ·have e:D.cF S=9:=by unfold Dc.cF;rw[h8.lim,if_pos hf]
  unfold Dc.dR Dc.di
  rw[e,if_neg (by decide),if_neg (by decide)]
  exact yv hb h8 hf _
 ·have hc:=h8.ok.KL D.h (by rw[h8.fr];exact h2.1) (by rw[h8.lim];omega)
  have e:D.cF S=S.bR 0 (D.h:Int) true:=by rw[hc];unfold Dc.cF;rw[h8.lim,if_neg hf]
  unfold Dc.dR Dc.di
  rw[e]
  by_cases h0:D.shut S=true
  ·rw[if_pos h0]at hc
   rw[hc,if_neg (by decide),if_neg (by decide)]
   exact xH hb h8 hf b hc
  ·rw[if_neg h0]at hc
   rw[hc,if_pos rfl,if_pos rfl]
   exact Ai hb h8 hf b hc
def laidB(D:Dc)(n:Nat) :Dc:={ D with h:=D.h+n }
theorem nv(h8:At8 S D fr en)(hs:D.shut S=false)(l:List UInt8)(hl:D.h+l.length<=en) :At8 (S.put D.h l) (laidB D l.length) fr en:=by
 have h2:=h8.lo
 have ha:=Alike.put S D.h l
 refine h8.next (cV h8.img _ _ (by have:=h8.ok.all;rw[h8.lim]at this;omega)) (Dc.Ok.alike (h8.ok.with _ _ (by rw[h8.fr];omega) (by rw[h8.lim];exact hl) h8.ok.l) ha) ha rfl
theorem oS(h8:At8 S D fr en)(hs:D.shut S=false)(l:List UInt8)(b:UInt8)(hl:D.h+l.length<en)(hb: (aa [DcA gI g fr en (laidB D l.length),au gI (S.put D.h l)]).holds w F) :
 Calls Tryz.prog 115 #[g,.int .u8 (b.toNat:Int)] w (Got (.returned (.int .i64 0)) (aa [DcA gI g fr en (laidB D (l.length+1)),au gI (S.put D.h (l ++ [b]))]) F w):=by
 have h:=qW hb (nv h8 hs l oM) b
 have hsh: (laidB D l.length).shut (S.put D.h l) =false:=by rw[<-hs];rfl
 have h9:=nv h8 hs l oM
 have e: (laidB D l.length).cF (S.put D.h l) =0:=by
  unfold Dc.cF
  rw[h9.lim,hsh,if_neg (by show¬en<=D.h+l.length;omega)]
  rfl
 unfold Dc.dR Dc.di at h
 rw[e,if_pos rfl,if_pos rfl]at h
 have h2:=h8.lo
 have e2: (S.put D.h l).put (laidB D l.length).h [b] =S.put D.h (l ++ [b]):=S.gG D.h l [b] (by rw[h8.img.len];have:=h8.ok.all;rw[h8.lim]at this;omega)
 rw[e2]at h
 exact h
theorem NA: (((0:UInt8).toNat:Nat) :Int) =0:=rfl
theorem DcA.c3{w':World}{L:List Asr}(h:On F w (aa (DcA gI g fr en D::L)) w') :w'.cell? (g,3) =some ((D.h:Int) :Vl):=(show Blk w' g 136 (cu gI fr en (D.h:Int) (D.l:Int))from h.ab 0 rfl).cell 3
theorem vd(hb: (aa [DcA gI g fr en D,au gI S]).holds w F)(h8:At8 S D fr en)(h0:D.h % 8≠0)(hs:D.shut S=true) :
 Calls Tryz.prog 114 #[g] w (Got (.returned (.int .i64 5)) (aa [DcA gI g fr en D,au gI S]) F w):=by
 have hon:=On.refl hb
 have h1:=h8.lo
 have h2:=h8.ok.al.1
 rw[h8.lim]at h2
 have hcc:=hon.qE (λF' ha=>qW ha h8 0)
 have e:D.cF S=5:=by unfold Dc.cF;rw[h8.lim,if_neg oM,if_pos hs]
 unfold Dc.dR Dc.di at hcc
 rw[e,if_neg (by decide),if_neg (by decide),NA]at hcc
 have hc3:=λw1 (h:On F w (aa [DcA gI g fr en D,au gI S]) w1)=>DcA.c3 h
 have ht: (((D.h:Int) % 8) != 0) =true:=by rw[bne_iff_ne];omega
 generalize D.h=k at *
 replace hcc:=hid hcc
 replace hon:=hid hon
 replace hc3:=hid hc3
 clear hb h8 hs e h2 h0
 go_enter Tryz.func114,Tryz.ntmps114
 go_wp2
 go_loopg [3] 1 (λm t wr=>(m=1∧t = .int .i64 0∧wr=w)∨(m=0∧t = .int .i64 5∧On F w (aa [DcA gI g fr en D,au gI S]) wr))
 case atStart=>exact .inl ⟨rfl,rfl,rfl⟩
 case round=>
  rcases hrel with⟨hm,rfl,rfl⟩ | ⟨hm,rfl,h⟩
  ·have c3:=hc3.out _ hon.out
   replace hm:=hid hm
   go_wp2_with fail
   refine hcc.out.mono ?_
   rintro e w1 ⟨rfl,h⟩
   replace h:=hid h
   go_wp2
   go_roundg 0
   case measure=>rw[hm.out];omega
   case rel=>exact .inr ⟨rfl,rfl,h.out⟩
  ·have c3:=hc3.out _ h
   replace h:=hid h
   replace hm:=hid hm
   go_wp2
   go_ret
   exact⟨rfl,h.out⟩
theorem oL(hb: (aa [DcA gI g fr en D,au gI S]).holds w F)(h8:At8 S D fr en)(hs:D.h % 8=0∨D.shut S=false) :
 Calls Tryz.prog 114 #[g] w (Got (.returned (.int .i64 0)) (aa [DcA gI g fr en (laidB D (up D.h-D.h)),au gI (S.put D.h (List.replicate (up D.h-D.h) 0))]) F w):=by
 have hon:=On.refl hb
 have h1:=h8.lo
 have hle:=h8.le
 have h2:=h8.ok.al.1
 rw[h8.lim]at h2
 have hup:=ed D.h
 have hmore:=λ(j:Nat) (hj:j<up D.h-D.h) w1 (h:On F w (aa [DcA gI g fr en (laidB D j),au gI (S.put D.h (List.replicate j 0))]) w1)=>
  h.qE (λF' ha=>by
   have hj1:D.h+j<en:=by omega
   have hsh:D.shut S=false:=by
    rcases hs with hs|hs
    ·rw[NX _ hs]at hj;omega
    ·exact hs
   have hl: (List.replicate j (0:UInt8)).length=j:=by simp
   have hq:=oS (w:=w1) (F:=F') h8 hsh (List.replicate j 0) 0 (by rw[hl];exact hj1) (by rw[hl];exact ha)
   rw[hl,kh,NA]at hq
   exact hq)
 have hc3:=λj w1 (h:On F w (aa [DcA gI g fr en (laidB D j),au gI (S.put D.h (List.replicate j 0))]) w1)=>DcA.c3 h
 have h00:On F w (aa [DcA gI g fr en (laidB D 0),au gI (S.put D.h (List.replicate 0 0))]) w:=by
  rw[show List.replicate 0 (0:UInt8) = []from rfl,Img.fP]
  exact hon
 have hk : ∀j,(((laidB D j).h:Nat) :Int) = (D.h:Int) + (j:Int):=λj=>by unfold laidB;simp
 have htt : ∀j,j<up D.h-D.h->((((D.h:Int) + (j:Int)) % 8) != 0) =true:=λj hj=>by rw[bne_iff_ne];unfold up at hj;omega
 have htf: ((((D.h:Int) + ((up D.h-D.h:Nat) :Int)) % 8) != 0) =false:=by rw[bne_eq_false_iff_eq];omega
 generalize hn:up D.h-D.h=n at *
 have hn8:n<=8:=by omega
 have hk0:D.h<=143360:=by omega
 generalize D.h=k at *
 replace hmore:=hid hmore
 replace hc3:=hid hc3
 replace h00:=hid h00
 replace hk:=hid hk
 replace htt:=hid htt
 clear hb h8 hs h2 hup hon hn h1 hle
 go_enter Tryz.func114,Tryz.ntmps114
 go_wp2
 go_loopg [3] n (λm t wr=> ∃j:Nat,j+m=n∧t = .int .i64 0∧On F w (aa [DcA gI g fr en (laidB D j),au gI (S.put k (List.replicate j 0))]) wr)
 case atStart=>exact⟨0,by omega,rfl,h00.out⟩
 case round=>
  obtain⟨j,hj,rfl,h⟩:=hrel
  have c3:=hc3.out j _ h
  rw[hk.out]at c3
  by_cases hjn:j<n
  ·have ht:=htt.out j hjn
   have hq:=hid (hmore.out j hjn _ h)
   replace h:=hid h
   go_wp2_with fail
   refine hq.out.mono ?_
   rintro e w1 ⟨rfl,h2⟩
   replace h2:=hid h2
   go_wp2
   go_roundg (gk-1)
   case measure=>omega
   case rel=>exact⟨j+1,by omega,rfl,h2.out⟩
  ·have hjj:j=n:=by omega
   subst hjj
   replace h:=hid h
   go_wp2
   go_ret
   exact⟨rfl,h.out⟩
theorem Kx(hb: (aa [DcA gI g fr en D,au gI S]).holds w F)(h8:At8 S D fr en) :
 Calls Tryz.prog 114 #[g] w (Got (.returned (D.fm S)) (aa [DcA gI g fr en (D.gZ S),au gI (D.fp S)]) F w):=by
 unfold Dc.gZ Dc.fp
 by_cases h:D.h % 8≠0∧D.shut S=true
 ·have e:D.fm S=5:=by unfold Dc.fm;rw[if_pos h]
  rw[e,if_neg (by decide),if_neg (by decide)]
  exact vd hb h8 h.1 h.2
 ·have e:D.fm S=0:=by unfold Dc.fm;rw[if_neg h]
  rw[e,if_pos rfl,if_pos rfl]
  have hup:=ed D.h
  have h2:=oL hb h8 (by
   by_cases h0:D.h % 8=0
   ·exact .inl h0
   ·right
    rcases hs:D.shut S with _|_
    ·rfl
    ·exact absurd ⟨h0,hs⟩ h)
  have e2:laidB D (up D.h-D.h) = { D with h:=up D.h }:=by
   unfold laidB
   congr 1
   omega
  rw[e2]at h2
  exact h2
end
def nY(s:Mt)(n:Int) :Bool:=decide (0<=n) &&decide (n< (s.d:Int) -1)
def sf(x:Rn)(s:Mt) :Rs×List Int:=(⟨if nY s (ar s 1 0)then 0 else 1,x,s⟩,[s.top (ar s 1 0+1)])
theorem MB(arg lit cells:Int) :bn 98 (λg=> #[.pointer (some ⟨g,0,none⟩)]) ⟨29,arg,lit,cells⟩ sf:=by
 intro c g x src s ba w F hs hx hask hb
 have hw2: (Code.ah 29).1.toNat=1:=by decide
 simp only[hw2]at hb⊢
 have hon:=(On.refl hb).drew
 have hrow:=(On.refl hb).ab 0 rfl
 have a0:=ai hrow (j:=0) oM
 have r0:=(On.refl hb).tail.r0
 have m5:=(On.refl hb).tail.m5
 have hlt:=hrow.lt
 have hcell : ∀W,On F w (aa (ae ba 3 (af (s.args 1)) ::vL c g x src s)) W->W.cell? (ba,0) =some ((ar s 1 0) :Vl)∧W.cell? (g,0) =some (c.gM:Vl)∧W.cell? (c.gM,5) =some (c.gD:Vl):=λW h=>⟨ai (h.ab 0 rfl) oM,h.tail.r0,h.tail.m5⟩
 have hdp : ∀W,On F w (aa (ae ba 3 (af (s.args 1)) ::vL c g x src s)) W->Calls Tryz.prog 14 #[c.gD] W (aA (s.d:Int) W):=λW h=>eE h.tail.sd
 have hd1:IntKind.i64.wrap ((s.d:Int) -1) = (s.d:Int) -1:=IntWalk.i64_in _ (by have:=hs.dle;omega)
 have htp:nY s (ar s 1 0) =true->∀W,On F w (aa (ae ba 3 (af (s.args 1)) ::vL c g x src s)) W->Calls Tryz.prog 91 #[g,(ar s 1 0+1:Int)] W (Quiet (s.top (ar s 1 0+1)) W):=λ_ W h=>yB h.tail hs _
 have hx1:nY s (ar s 1 0) =true->IntKind.i64.wrap (ar s 1 0+1) =ar s 1 0+1:=λh=>IntWalk.i64_in _ (by
  unfold nY at h
  simp at h
  have:=hs.dle
  omega)
 have hdec:nY s (ar s 1 0) = (decide (0<=ar s 1 0) &&decide (ar s 1 0< (s.d:Int) -1)):=rfl
 unfold sf
 simp only
 generalize nY s (ar s 1 0) =o at *
 generalize s.top (ar s 1 0+1) =V at *
 generalize ar s 1 0=X at *
 generalize (s.d:Int) =D at *
 generalize af (s.args 1) =ac at *
 show Calls _ _ #[g,(29:Int),.slice ba 1 1] _ _
 replace hcell:=hid hcell
 replace hdp:=hid hdp
 replace hon:=hid hon
 clear hb hrow hw2 hask hs hx
 by_cases hX:0<=X
 ·have t1:decide (0<=X) =true:=decide_eq_true hX
  by_cases hY:X<D-1
  ·have t2:decide (X<D-1) =true:=decide_eq_true hY
   have ho:o=true:=by rw[hdec,t1,t2];rfl
   subst ho
   replace htp:=hid (htp rfl)
   replace hx1:=hx1 rfl
   replace hX:=hid hX
   replace hY:=hid hY
   clear hdec
   show Calls _ _ _ _ (λe w'=>gg [V] (vL c g x src s) F w e w')
   go_enter Tryz.func98,Tryz.ntmps98
   go_wp2_with fail
   go_region_held (λw'=>w'.cell? (ba,0) =some (X:Vl)∧w'.cell? (g,0) =some (c.gM:Vl)∧w'.cell? (c.gM,5) =some (c.gD:Vl)) (go_keep)
    ((first
      | (go_at_call 14;refine(hdp.out _ hon.out).mono ?_;rintro e w5 ⟨rfl,rfl⟩)
      | (go_at_call 89;refine(bF _ _).mono ?_;rintro e w5 ⟨rfl,rfl⟩)))
   go_wp2_with fail
   refine(htp.out _ hon.out).mono ?_
   rintro e w6 ⟨rfl,hb6⟩
   simp only[]
   have h6:=(hon.out.below hb6).tail.box #[V] 3
   replace h6:=hid h6
   clear hb6
   go_wp2
   go_ret
   exact⟨some ⟨w6.heap.size,0,none⟩,1,ae w6.heap.size 3 (af [V]),rfl,ay _ _,h6.out⟩
  ·have t2:decide (X<D-1) =false:=decide_eq_false hY
   have ho:o=false:=by rw[hdec,t1,t2];rfl
   replace hX:=hid hX
   replace hY:=hid hY
   subst ho
   clear htp hx1 hdec
   show Calls _ _ _ _ (λe w'=>e = .panicked [flt 1]∧On F w (VA c g x src s) w')
   go_enter Tryz.func98,Tryz.ntmps98
   go_wp2_with fail
   go_region_held (λw'=>w'.cell? (ba,0) =some (X:Vl)∧w'.cell? (g,0) =some (c.gM:Vl)∧w'.cell? (c.gM,5) =some (c.gD:Vl)) (go_keep)
    ((first
      | (go_at_call 14;refine(hdp.out _ hon.out).mono ?_;rintro e w5 ⟨rfl,rfl⟩)
      | (go_at_call 89;refine dead (bV _ _) ⟨rfl,rfl,hon.out.tail⟩ ?_;intro hF e w5 he hw;subst he;subst hw;replace hF:=hid hF)))
   exact hF.out.elim
 ·have t1:decide (0<=X) =false:=decide_eq_false hX
  have ho:o=false:=by rw[hdec,t1];rfl
  replace hX:=hid hX
  subst ho
  clear htp hx1 hdec
  show Calls _ _ _ _ (λe w'=>e = .panicked [flt 1]∧On F w (VA c g x src s) w')
  go_enter Tryz.func98,Tryz.ntmps98
  go_wp2_with fail
  refine wp_region_held_drew (S:=(λw'=>w'.cell? (ba,0) =some (X:Vl)∧w'.cell? (g,0) =some (c.gM:Vl)∧w'.cell? (c.gM,5) =some (c.gD:Vl))) kR ?hS0P (λhHeld=> ?rsSP)
  case hS0P=>((try dsimp only);go_keep)
  refine tkL 0 ?_
  refine pt ?_
  refine tkL 1 ?_
  refine pt ?_
  refine tkL 2 ?_
  refine pt ?_
  refine tkL 3 (v:= .bool false) ?_ (hy:=Or.inl ⟨by kernel_rfl,by intro w hSw;(try dsimp only at hSw);go_simp;try exact t1⟩)
  refine pt ?_
  refine tkL 4 ?_
  refine pt ?_
  refine tkU 5 ?_
  refine tkU 6 ?_
  refine tkU 7 ?_
  refine tkU 8 ?_
  refine tkU 9 ?_
  refine tkU 10 ?_
  refine tkU 11 ?_
  refine tkU 12 ?_
  refine tkU 13 ?_
  refine tkU 14 ?_
  refine tkU 15 ?_
  refine tkU 16 ?_
  refine tkU 17 ?_
  refine pt ?_
  refine tkL 18 ?_
  refine pt ?_
  refine wpAnyH_ready (rs:=[19]) kR (by simp) ?_
  refine AllReadyH.cons rfl (λK hK=> ?stepP) ?moreP
  case moreP=>exact AllReadyH.nil
  go_simp
  refine(bV _ _).mono ?_
  rintro e w5 ⟨rfl,rfl⟩
  exact⟨rfl,rfl,hon.out.tail⟩
theorem zK(P:Kn)(arg lit cells:Int) :dE P ⟨105,arg,lit,cells⟩ (λx s=>⟨17,x,s⟩):=by
 intro c g x src s w F hp hs hx hv1 hv2 hask hb
 show Calls _ _ #[_,.agg #[(105:Int),arg,lit,cells]] _ _
 have hon:=(On.refl hb).box #[(105:Int),arg,lit,cells] 155
 have hwa:=λw=>jl 105 w
 have hwe:Code.ah 105= (0,0):=by decide
 rw[hwe]at hwa
 have hargs:=λw1 (h1:On F w (aa (ae w.heap.size 155 #[(105:Int),arg,lit,cells] ::vL c g x src s)) w1)=>h1.aW λF' hb' _ _=>kX hb' hs 0 oM
 replace hwa:=hid hwa
 replace hargs:=hid hargs
 replace hon:=hid hon
 clear hp hb hs hx hask hv1 hv2 hwe
 go_enter Tryz.func67,Tryz.ntmps67
 go_wp2_with fail
 refine(hwa.out _).mono ?_
 rintro e w1 ⟨rfl,hb1⟩
 have hon1:=hon.out.below hb1
 replace hargs:=hid (hargs.out _ hon1)
 clear hb1
 simp only[]
 go_wp2_with fail
 refine hargs.out.mono ?_
 rintro e w2 ⟨rfl,hon2⟩
 simp only[]
 have b0:w2.cell? (w.heap.size,0) =some (.int .i64 105):=(hon2.ab 0 rfl).cell 0
 replace hon2:=hid hon2
 go_wp2
 exact⟨rfl,rfl,hon2.out.tail.tail⟩
theorem Fe(P:Kn)(arg lit cells:Int) :dE P ⟨106,arg,lit,cells⟩ (λx s=>⟨0,x,s⟩):=by
 intro c g x src s w F hp hs hx hv1 hv2 hask hb
 show Calls _ _ #[_,.agg #[(106:Int),arg,lit,cells]] _ _
 have hon:=(On.refl hb).box #[(106:Int),arg,lit,cells] 155
 have hwa:=λw=>jl 106 w
 have hwe:Code.ah 106= (0,0):=by decide
 rw[hwe]at hwa
 have hargs:=λw1 (h1:On F w (aa (ae w.heap.size 155 #[(106:Int),arg,lit,cells] ::vL c g x src s)) w1)=>h1.aW λF' hb' _ _=>kX hb' hs 0 oM
 replace hwa:=hid hwa
 replace hargs:=hid hargs
 replace hon:=hid hon
 clear hp hb hs hx hask hv1 hv2 hwe
 go_enter Tryz.func67,Tryz.ntmps67
 go_wp2_with fail
 refine(hwa.out _).mono ?_
 rintro e w1 ⟨rfl,hb1⟩
 have hon1:=hon.out.below hb1
 replace hargs:=hid (hargs.out _ hon1)
 clear hb1
 simp only[]
 go_wp2_with fail
 refine hargs.out.mono ?_
 rintro e w2 ⟨rfl,hon2⟩
 simp only[]
 have b0:w2.cell? (w.heap.size,0) =some (.int .i64 106):=(hon2.ab 0 rfl).cell 0
 replace hon2:=hid hon2
 go_wp2
 go_end0
 exact⟨rfl,hon2.out.tail.tail⟩
def xc(P:Kn)(q:Rn->Mt->Rs) :Prop:= ∀(c:Vc) (g:Nat) (x:Rn) (src:Value) (s:Mt) (w:World) (F:Nat->Prop),P c src s->s.Ok->x.Ok->(VA c g x src s).holds w F->
    Calls Tryz.prog 103 #[g] w (Got (bO (q x s).f) (VA c g (q x s).x src (q x s).s) F w)
theorem xQ(P:Kn)(arg lit cells:Int)(q:Rn->Mt->Rs)(hq:xc P q) :dE P ⟨85,arg,lit,cells⟩ q:=by
 intro c g x src s w F hp hs hx hv1 hv2 hask hb
 show Calls _ _ #[_,.agg #[(85:Int),arg,lit,cells]] _ _
 have hon:=(On.refl hb).box #[(85:Int),arg,lit,cells] 155
 have hwa:=λw=>jl 85 w
 have hwe:Code.ah 85= (0,0):=by decide
 rw[hwe]at hwa
 have hargs:=λw1 (h1:On F w (aa (ae w.heap.size 155 #[(85:Int),arg,lit,cells] ::vL c g x src s)) w1)=>h1.aW λF' hb' _ _=>kX hb' hs 0 oM
 have hcr:=λ(B1 B2:Asr) w2 (h:On F w (aa (B1::B2::vL c g x src s)) w2)=>h.aW (L':=B2::vL c g (q x s).x src (q x s).s) (e0:=bO (q x s).f) λF' hb' _ _=>(On.refl hb').aW λF'' hb'' _ _=>hq c g x src s w2 F'' hp hs hx hb''
 generalize q x s=Q at *
 obtain⟨f,x',s'⟩:=Q
 simp only at hcr⊢
 replace hcr:=hid hcr
 replace hwa:=hid hwa
 replace hargs:=hid hargs
 replace hon:=hid hon
 clear hp hb hs hx hask hv1 hv2 hwe
 go_enter Tryz.func67,Tryz.ntmps67
 go_wp2_with fail
 refine(hwa.out _).mono ?_
 rintro e w1 ⟨rfl,hb1⟩
 have hon1:=hon.out.below hb1
 replace hargs:=hid (hargs.out _ hon1)
 clear hb1
 simp only[]
 go_wp2_with fail
 refine hargs.out.mono ?_
 rintro e w2 ⟨rfl,hon2⟩
 simp only[]
 have b0:w2.cell? (w.heap.size,0) =some (.int .i64 85):=(hon2.ab 0 rfl).cell 0
 replace hcr:=hid (hcr.out _ _ _ hon2)
 clear hon1 hon2
 go_wp2_with fail
 refine hcr.out.mono ?_
 rintro e w3 ⟨he,hon3⟩
 have hon4:=hid hon3.tail.tail
 clear hon3
 by_cases hf:f=0
 ·have he2:bO f = .returned (.tuple #[]):=by unfold bO;rw[if_pos hf]
  rw[he2]at he
  subst he
  replace he2:=hid he2
  clear hf
  simp only[]
  go_wp2
  go_end0
  exact⟨he2.out.symm,hon4.out⟩
 ·have he2:bO f = .panicked [flt f]:=by unfold bO;rw[if_neg hf]
  rw[he2]at he
  subst he
  replace he2:=hid he2
  clear hf
  simp only[]
  go_wp2
  exact⟨rfl,he2.out.symm,hon4.out⟩
theorem mU(P:Kn)(i:ao)(q:Rn->Mt->Rs×List Int)(hop:20<i.op)(hop2:i.op<=30)(hq:cE P 98 (λg=> #[.pointer (some ⟨g,0,none⟩)]) i q)(hlen:fQ P i q) :dE P i (λx s=>Rs.laid (Code.ah i.op).1.toNat (q x s)):=
 fw P i q (.moved hop hop2) hq hlen
theorem cI(P:Kn)(i:ao)(q:Rn->Mt->Rs×List Int)(hop:93<i.op)(hop2:i.op<=99)(hq:cE P 106 (λg=> #[]) i q)(hlen:fQ P i q) :dE P i (λx s=>Rs.laid (Code.ah i.op).1.toNat (q x s)):=
 fw P i q (.complexes hop hop2) hq hlen
def jh(gb bg en cap:Nat)(cl:Bool)(D:Dc) :Array Value:= #[.slice (some ⟨gb,bg,none⟩) (en-bg) cap,(bg:Int),.bool cl,(D.h:Int),(D.l:Int)]
def bz(g gb bg en cap:Nat)(cl:Bool)(D:Dc) :Asr:=ae g 145 (jh gb bg en cap cl D)
def RbA(gb:Nat)(S:Img) :Asr:=ae gb 5 (ag S.b).toArray
theorem AN(gb bg en cap:Nat)(cl:Bool)(D:Dc)(n:Nat)(v:Int)(h:v=n) : (jh gb bg en cap cl D).setIfInBounds 3 (.int .i64 v) =jh gb bg en cap cl { D with h:=n }:=by subst h;rfl
theorem vN(gb bg en cap:Nat)(cl:Bool)(D:Dc)(n:Nat)(v:Int)(h:v=n) : (jh gb bg en cap cl D).setIfInBounds 4 (.int .i64 v) =jh gb bg en cap cl { D with l:=n }:=by subst h;rfl
section
variable {w w1:World}{F:Nat->Prop}{g gb bg en cap:Nat}{cl:Bool}{D:Dc}{S:Img}
structure mx(w:World)(g gb bg en cap:Nat)(cl:Bool)(D:Dc) :Prop where
 c0:w.cell? (g,0) =some (.slice (some ⟨gb,bg,none⟩) (en-bg) cap)
 c1:w.cell? (g,1) =some ((bg:Int) :Vl)
 c2:w.cell? (g,2) =some (.bool cl)
 c3:w.cell? (g,3) =some ((D.h:Int) :Vl)
 c4:w.cell? (g,4) =some ((D.l:Int) :Vl)
 fr : ∀i,w.frozen? ⟨g,i,none⟩ =false
theorem sP{L:List Asr}(h:On F w (aa (bz g gb bg en cap cl D::L)) w1) :mx w1 g gb bg en cap cl D:=
 have hb:Blk w1 g 145 (jh gb bg en cap cl D):=h.ab 0 rfl
 ⟨hb.cell 0,hb.cell 1,hb.cell 2,hb.cell 3,hb.cell 4,λi=>hb.frozen i⟩
theorem mx.drewN(h:mx w g gb bg en cap cl D)(n:Nat) :mx (w.drewN n) g gb bg en cap cl D:=⟨h.c0,h.c1,h.c2,h.c3,h.c4,h.fr⟩
theorem kK(h:mx w g gb bg en cap cl D)(hbg:bg<=en)(hen:en<=143360) :Calls Tryz.prog 83 #[g] w (λe w'=>e = .returned (en:Int)∧∃n,w'=w.drewN n):=by
 obtain⟨c0,c1,_,_,_,_⟩:=h
 have e: (bg:Int) + ((en-bg:Nat) :Int) = (en:Int):=by omega
 replace e:=hid e
 go_enter Tryz.func83,Tryz.ntmps83
 go_wp2
 go_quiet (fail)
 go_wp2
 go_ret
 exact⟨congrArg (λn=>Ending.returned (Value.int .i64 n)) e.out,_,rfl⟩
theorem uu(n:Nat)(hn:n<=1000000)(w:World) :Calls Tryz.prog 84 #[(n:Int)] w (aA (up n:Int) w):=by
 have hu:=ed n
 have hall : ∀j:Nat,n<=j->j<=up n->((((j:Int) % 8 != 0) =true∧j<up n)∨(((j:Int) % 8 != 0) =false∧j=up n)):=λj h1 h2=>by
  by_cases hj:j=up n
  ·right
   exact⟨by rw[bne_eq_false_iff_eq];omega,hj⟩
  ·left
   exact⟨by rw[bne_iff_ne];unfold up at *;omega,by omega⟩
 generalize up n=m at *
 replace hall:=hid hall
 go_enter Tryz.func84,Tryz.ntmps84
 go_wp2
 go_loopg [0] (m-n) (λk t wr=> ∃j:Nat,n<=j∧j+k=m∧t = .int .i64 (j:Int)∧wr=w)
 case atStart=>exact⟨n,by omega,by omega,rfl,rfl⟩
 case round=>
  obtain⟨j,h1,h2,rfl,rfl⟩:=hrel
  rcases hall.out j h1 oM with⟨ht,hlt⟩ | ⟨ht,rfl⟩
  ·go_wp2
   go_roundg (gk-1)
   case measure=>omega
   case rel=>exact⟨j+1,by omega,by omega,by go_num,rfl⟩
  ·go_wp2
   go_ret
   exact⟨rfl,rfl⟩
def bh(g gb bg en cap:Nat)(cl:Bool)(D:Dc)(S:Img)(l:List UInt8) :Asr:=aa [bz g gb bg en cap cl (laidB D l.length),RbA gb (S.put D.h l)]
theorem xM(l:List UInt8)(h:On F w (bh g gb bg en cap cl D S l) w1) :mx w1 g gb bg en cap cl (laidB D l.length):=sP h
theorem vQ(l:List UInt8)(h8:At8 S D (bg+8) en)(hl:D.h+l.length<en)(h:On F w (bh g gb bg en cap cl D S l) w1) : (∃x,w1.cell? ⟨gb,D.h+l.length,none⟩ =some (.int .u8 x))∧(∀i,w1.frozen? ⟨gb,i,none⟩ =false)∧g≠gb:=by
 have hb:Blk w1 gb 5 (ag (S.put D.h l).b).toArray:=h.ab 1 rfl
 have hg:Blk w1 g 145 (jh gb bg en cap cl (laidB D l.length)):=h.ab 0 rfl
 have hall:=h8.ok.all
 rw[h8.lim]at hall
 have hlen: (S.put D.h l).b.length=S.beg 6:=by rw[S.jw D.h l (by rw[h8.img.len];omega),h8.img.len]
 refine⟨⟨((S.put D.h l).b.getD (D.h+l.length) 0).toNat,?_⟩,λi=>hb.frozen i,hg.ne_ hb (by decide)⟩
 rw[hb.cell]
 have h2:D.h+l.length< (S.put D.h l).b.length:=by omega
 simp[ag,h2]
theorem uI(l:List UInt8)(b:UInt8)(h8:At8 S D (bg+8) en)(hl:D.h+l.length<en)(h:On F w (bh g gb bg en cap cl D S l) w1)(n:Int)(hn:n= ((D.h+l.length:Nat) :Int) +1) :
 On F w (bh g gb bg en cap cl D S (l ++ [b])) ((w1.setCell ⟨gb,D.h+l.length,none⟩ (.int .u8 (b.toNat:Int))).setCell (g,3) (.int .i64 n)):=by
 have hall:=h8.ok.all
 rw[h8.lim]at hall
 have hlen: (S.put D.h l).b.length=S.beg 6:=by rw[S.jw D.h l (by rw[h8.img.len];omega),h8.img.len]
 have h1:On F w (aa [bz g gb bg en cap cl (laidB D l.length),RbA gb (S.put D.h (l ++ [b]))]) (w1.setCell ⟨gb,D.h+l.length,none⟩ (.int .u8 (b.toNat:Int))):=by
  have h2:=On.setAt 1 (g:=gb) (t:=5) (cs:=(ag (S.put D.h l).b).toArray) h rfl (D.h+l.length) (.int .u8 (b.toNat:Int))
  rw[pM _ _ b oM]at h2
  have e:cK (S.put D.h l).b (D.h+l.length) [b] = (S.put D.h (l ++ [b])).b:=by
   rw[<-S.gG D.h l [b] (by rw[h8.img.len];omega)]
   rfl
  rw[e]at h2
  exact h2
 have h3:=h1.setAt 0 rfl 3 (.int .i64 n)
 rw[AN gb bg en cap cl (laidB D l.length) (D.h+l.length+1) n oM]at h3
 have e2: ({ laidB D l.length with h:=D.h+l.length+1 }:Dc) =laidB D (l ++ [b]).length:=by
  unfold laidB
  simp
  omega
 rw[e2]at h3
 exact h3
end
def uJ(v:Int)(j:Nat) :Int:=v % 18446744073709551616/ (256:Int) ^ j
theorem Jd(v:Int) :uJ v 0=v % 18446744073709551616:=by unfold uJ;simp
theorem Kj(v:Int)(j:Nat) :uJ v j/256=uJ v (j+1):=by
 unfold uJ
 rw[Int.pow_succ,Int.ediv_ediv_of_nonneg (Int.le_of_lt (Int.pow_pos oM))]
theorem Km(v:Int)(j:Nat)(hj:j<8) :uJ v j % 256= (((toB v).getD j 0).toNat:Int):=by
 have e: (toB v).getD j 0=kv v j:=by simp[toB,List.getD,hj]
 rw[e,qX]
 unfold uJ
 have h:j=0∨j=1∨j=2∨j=3∨j=4∨j=5∨j=6∨j=7:=by omega
 rcases h with rfl|rfl|rfl|rfl|rfl|rfl|rfl|rfl<;>simp<;>omega
theorem Hi(v:Int)(j:Nat) :0<=uJ v j∧uJ v j<=18446744073709551615:=by
 unfold uJ
 have h1:0<=v % 18446744073709551616:=Int.emod_nonneg _ oM
 have h2:v % 18446744073709551616<18446744073709551616:=Int.emod_lt_of_pos _ oM
 have hp: (0:Int) <256 ^ j:=Int.pow_pos oM
 refine⟨Int.ediv_nonneg h1 oM,?_⟩
 have:=Int.ediv_le_self (256 ^ j) h1
 omega
section
variable {w w1:World}{F:Nat->Prop}{g gb bg en cap:Nat}{cl:Bool}{D:Dc}{S:Img}
theorem uz(l:List UInt8)(j:Nat)(hj:j<l.length) :l.take j ++ [l.getD j 0] =l.take (j+1):=by
 rw[List.take_succ_eq_append_getElem hj,List.getD_eq_getElem?_getD,List.getElem?_eq_getElem hj]
 rfl
theorem HX(l0:List UInt8)(hb:On F w (bh g gb bg en cap cl D S l0) w1)(h8:At8 S D (bg+8) en)(hl:D.h+l0.length+8<=en)(v:Int)(hv:V64 v) :
 Calls Tryz.prog 118 #[g,v] w1 (Got (.returned (.tuple #[])) (bh g gb bg en cap cl D S (l0++toB v)) F w):=by
 have hle:=h8.le
 have hlo:=h8.lo
 have hin:=λwr l (h:On F w (bh g gb bg en cap cl D S l) wr)=>xM l h
 have hbt:=λwr l (hl:D.h+l.length<en) (h:On F w (bh g gb bg en cap cl D S l) wr)=>vQ l h8 hl h
 have hmo:=λwr l b (hl:D.h+l.length<en) (h:On F w (bh g gb bg en cap cl D S l) wr) n hn=>uI l b h8 hl h n hn
 have htl:=aJ v
 have huz:=Jd v
 have hby:=Km v
 have hst:=Kj v
 have hra:=Hi v
 have htk:=λj (hj:j<8)=>uz (toB v) j (by rw[htl];exact hj)
 unfold V64 at hv
 have hwr:IntKind.u64.wrap v=uJ v 0:=by rw[huz];rfl
 replace hin:=hid hin
 replace hbt:=hid hbt
 replace hmo:=hid hmo
 replace htl:=hid htl
 replace hby:=hid hby
 replace hst:=hid hst
 replace hra:=hid hra
 replace htk:=hid htk
 replace hb:=hid hb
 clear h8 huz
 go_enter Tryz.func118,Tryz.ntmps118
 go_wp2
 go_loopg [4,5] 8 (λk u i wr=> ∃j:Nat,j+k=8∧u = .int .u64 (uJ v j)∧i = .int .i64 (j:Int)∧On F w (bh g gb bg en cap cl D S (l0++ (toB v).take j)) wr)
 case atStart=>exact⟨0,by omega,rfl,rfl,by rw[List.take_zero,List.append_nil];exact hb.out⟩
 case round=>
  obtain⟨j,hj,rfl,rfl,hon⟩:=hrel
  by_cases hjl:j<8
  ·have hlj: (l0++ (toB v).take j).length=l0.length+j:=by rw[List.length_append,List.length_take,htl.out];omega
   obtain⟨c0,c1,c2,c3,c4,cf⟩:=hin.out _ _ hon
   obtain⟨⟨xo,cx⟩,cfr,hne⟩:=hbt.out _ _ (by rw[hlj];omega) hon
   have hfin:=λn hn=>hmo.out wr _ ((toB v).getD j 0) (by rw[hlj];omega) hon n hn
   rw[List.append_assoc,htk.out j hjl]at hfin
   have c3':wr.cell? (g,3) =some (((D.h+ (l0.length+j) :Nat) :Int) :Vl):=by rw[c3];unfold laidB;rw[hlj]
   rw[hlj]at cx hfin
   have hb8:=hby.out j hjl
   have hs8:=hst.out j
   have hr8:=hra.out j
   generalize (((toB v).getD j 0).toNat:Int) =cb at *
   generalize hu2:uJ v (j+1) =u2 at *
   replace hu2:=hid hu2
   generalize uJ v j=u1 at *
   obtain⟨k,hk⟩ : ∃k,D.h+ (l0.length+j) =k:=⟨_,rfl⟩
   rw[hk]at c3' cx hfin
   have hk1:bg<=k:=by omega
   have hk2:k<en:=by omega
   have hfin2:=hfin _ rfl
   have f3:=cf 3
   have fk:=cfr k
   replace hfin2:=hid hfin2
   clear c2 c3 c4 cf cfr hfin hlj hon hk
   go_wp2
   go_region
   go_wp2
   go_roundg (gk-1)
   case measure=>omega
   case rel=>exact⟨j+1,by omega,by rw[hu2.out],by go_num,hfin2.out.drew⟩
  ·have hjj:j=8:=by omega
   subst hjj
   rw[List.take_of_length_le (by rw[htl.out];exact Nat.le_refl _)]at hon
   replace hon:=hid hon
   go_wp2
   go_end0
   exact⟨rfl,hon.out⟩
theorem tG(l:List UInt8)(hb:On F w (bh g gb bg en cap false D S l) w1)(h8:At8 S D (bg+8) en)(hl:D.h+l.length<en)(b:UInt8) :
 Calls Tryz.prog 119 #[g,.int .u8 (b.toNat:Int)] w1 (Got (.returned (.int .i64 0)) (bh g gb bg en cap false D S (l ++ [b])) F w):=by
 have hle:=h8.le
 have hlo:=h8.lo
 have hin:=λwr (h:On F w (bh g gb bg en cap false D S l) wr)=>xM l h
 have hbt:=λwr (h:On F w (bh g gb bg en cap false D S l) wr)=>vQ l h8 hl h
 have hmo:=λwr (h:On F w (bh g gb bg en cap false D S l) wr) n hn=>uI l b h8 hl h n hn
 have hto:=λn=>kK ((hin _ hb).drewN n) oM oM
 obtain⟨c0,c1,c2,c3,c4,cf⟩:=hin _ hb
 have c3':w1.cell? (g,3) =some (((D.h+l.length:Nat) :Int) :Vl):=c3
 obtain⟨k,hk⟩ : ∃k,D.h+l.length=k:=⟨_,rfl⟩
 rw[hk]at c3'
 replace hb:=hid hb
 replace hin:=hid hin
 replace hbt:=hid hbt
 replace hmo:=hid hmo
 replace hto:=hid hto
 clear h8 c0 c1 c2 c3 c4 cf
 have ht:decide ((en:Int)<=(k:Int)) =false:=decide_eq_false oM
 generalize (b.toNat:Int) =cb at *
 go_enter Tryz.func119,Tryz.ntmps119
 go_wp2_with fail
 go_quiet ((go_at_call 83;exact Calls.quiet_of (hto.out _)))
 have hb2:=hb.out.drewN nq
 obtain⟨w2,hw2⟩ : ∃w2,w1.drewN nq=w2:=⟨_,rfl⟩
 rw[hw2]at hb2⊢
 clear hw2 hb hto c3'
 obtain⟨c0,c1,c2,c3,c4,cf⟩:=hin.out _ hb2
 have c3':w2.cell? (g,3) =some (((D.h+l.length:Nat) :Int) :Vl):=c3
 obtain⟨⟨xo,cx⟩,cfr,hne⟩:=hbt.out _ hb2
 have hfin:=hmo.out _ hb2 _ rfl
 rw[hk]at c3' cx hfin
 have hk1:bg<=k:=by omega
 have hk2:k<en:=by omega
 have f3:=cf 3
 have fk:=cfr k
 replace hfin:=hid hfin
 replace hb2:=hid hb2
 replace hk:=hid hk
 clear c3 c4 cf cfr hin hbt hmo
 go_wp2_with fail
 go_region
 go_wp2
 go_ret
 trace_state
 exact⟨rfl,hfin.out.drew⟩
end
end Vm
end Go.Proofs.YtjohhkikoejadaaGreatDoor
