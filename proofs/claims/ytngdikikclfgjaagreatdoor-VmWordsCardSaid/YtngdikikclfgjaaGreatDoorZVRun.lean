/- Chapter 11: the machine and a run in memory; the small functions. Conditions: as written. -/
import Derived.Test.YtngdikikclfgjaaGreatDoorZ14
import Derived.Test.YtngdikikclfgjaaGreatDoorZ06
open Go.Proofs.Tryz
namespace Go.Proofs.YtngdikikclfgjaaGreatDoor
set_option linter.unusedVariables false
set_option linter.unusedSimpArgs false
set_option maxHeartbeats 8000000
set_option maxRecDepth 100000
open Go.RowKit Go.Lib Go.Deep
namespace Vm
structure Vc where
 gM:Nat
 gI:Nat
 gD:Nat
 gR:Nat
 gT:Nat
 gS:Nat
 gK:Nat
 gP:Nat
 ws:Value
 tell:Value
 sfr:Nat
 sto:Nat
 kfr:Nat
 kto:Nat
 tl:List Stp->Asr
 rest:Ext->List Asr
def machC(c:Vc)(s:Mt):Array Value:=#[c.gI,c.gS,c.ws,c.gT,c.gP,c.gD,c.gR,c.tell,s.fault,s.used,s.hidden]
def runC(c:Vc)(x:Rn)(src:Value):Array Value:=#[c.gM,x.mode,x.left,x.pc,x.next,.bool x.over,.bool x.asked,x.base,src]
def dictC(gI fr en:Nat)(here latest:Int):Array Value:=#[gI,(fr:Int),(en:Int),here,latest]
def RunA(c:Vc)(g:Nat)(x:Rn)(src:Value):Asr:=BlkA g 109 (runC c x src)
def MachA(c:Vc)(s:Mt):Asr:=BlkA c.gM 104 (machC c s)
def DictA(gI g fr en:Nat)(here latest:Int):Asr:=BlkA g 102 (dictC gI fr en here latest)
def vL(c:Vc)(g:Nat)(x:Rn)(src:Value)(s:Mt):List Asr:=
 RunA c g x src::MachA c s::ImgA c.gI s.S::StkA c.gI c.gD s.pd s.d::StkA c.gI c.gR s.pr s.r::TabA c.gT s.T::DictA c.gI c.gS c.sfr c.sto s.hs s.ls::DictA c.gI c.gK c.kfr c.kto s.hk s.lk::c.tl s.seen::c.rest s.ext
def VA(c:Vc)(g:Nat)(x:Rn)(src:Value)(s:Mt):Asr:=AllA (vL c g x src s)
structure Mt.Ok(s:Mt):Prop where
 pd:s.pd.Ok
 pr:s.pr.Ok
 d:s.d<=s.pd.rm
 r:s.r<=s.pr.rm
 du:s.pd.un=1
 dv:s.pd.ov=2
 ru:s.pr.un=3
 rv:s.pr.ov=4
section
variable {w w':World}{F:Nat->Prop}{c:Vc}{g:Nat}{x:Rn}{src:Value}{s:Mt}
theorem On.r0(h:On F w (VA c g x src s) w'):w'.cell? (g,0)=some (c.gM:Vl):=(h.blkAt 0 rfl).cell 0
theorem On.r1(h:On F w (VA c g x src s) w'):w'.cell? (g,1)=some (x.mode:Vl):=(h.blkAt 0 rfl).cell 1
theorem On.r2(h:On F w (VA c g x src s) w'):w'.cell? (g,2)=some (x.left:Vl):=(h.blkAt 0 rfl).cell 2
theorem On.r3(h:On F w (VA c g x src s) w'):w'.cell? (g,3)=some (x.pc:Vl):=(h.blkAt 0 rfl).cell 3
theorem On.r4(h:On F w (VA c g x src s) w'):w'.cell? (g,4)=some (x.next:Vl):=(h.blkAt 0 rfl).cell 4
theorem On.r5(h:On F w (VA c g x src s) w'):w'.cell? (g,5)=some (.bool x.over):=(h.blkAt 0 rfl).cell 5
theorem On.r7(h:On F w (VA c g x src s) w'):w'.cell? (g,7)=some (x.base:Vl):=(h.blkAt 0 rfl).cell 7
theorem On.r8(h:On F w (VA c g x src s) w'):w'.cell? (g,8)=some src:=(h.blkAt 0 rfl).cell 8
theorem On.rf(h:On F w (VA c g x src s) w')(i:Nat):w'.frozen? (g,i)=false:=(h.blkAt 0 rfl).frozen i
theorem On.rlt(h:On F w (VA c g x src s) w'):g<w'.heap.size:=(h.blkAt 0 rfl).lt
theorem On.m0(h:On F w (VA c g x src s) w'):w'.cell? (c.gM,0)=some (c.gI:Vl):=(h.blkAt 1 rfl).cell 0
theorem On.m1(h:On F w (VA c g x src s) w'):w'.cell? (c.gM,1)=some (c.gS:Vl):=(h.blkAt 1 rfl).cell 1
theorem On.m3(h:On F w (VA c g x src s) w'):w'.cell? (c.gM,3)=some (c.gT:Vl):=(h.blkAt 1 rfl).cell 3
theorem On.m5(h:On F w (VA c g x src s) w'):w'.cell? (c.gM,5)=some (c.gD:Vl):=(h.blkAt 1 rfl).cell 5
theorem On.m6(h:On F w (VA c g x src s) w'):w'.cell? (c.gM,6)=some (c.gR:Vl):=(h.blkAt 1 rfl).cell 6
theorem On.m7(h:On F w (VA c g x src s) w'):w'.cell? (c.gM,7)=some c.tell:=(h.blkAt 1 rfl).cell 7
theorem On.mlt(h:On F w (VA c g x src s) w'):c.gM<w'.heap.size:=(h.blkAt 1 rfl).lt
theorem On.sd(h:On F w (VA c g x src s) w'):Blk w' c.gD 106 (stkC c.gI s.pd s.d):=h.blkAt 3 rfl
theorem On.sr(h:On F w (VA c g x src s) w'):Blk w' c.gR 106 (stkC c.gI s.pr s.r):=h.blkAt 4 rfl
theorem On.im(h:On F w (VA c g x src s) w'): ∃gb,IRep w' c.gI gb s.S:=h.img 2 rfl
theorem On.crep(h:On F w (VA c g x src s) w'): ∃G,CRep w' c.gT s.T G:=h.at_ 5 rfl
theorem Mt.Ok.dle(h:s.Ok):s.d<=17920:=by have:=h.pd.rm;have:=h.d;omega
theorem Mt.Ok.rle(h:s.Ok):s.r<=17920:=by have:=h.pr.rm;have:=h.r;omega
def flt(f:Int):PanicEntry:={ v:= .iface 51 (.int .i64 f),recovered:=false }
theorem try_ok(w:World):Calls prog 68 #[(0:Int)] w (Same (.tuple #[]) w):=by
 go_enter func68,ntmps68
 go_wp2
 go_end0
 exact⟨rfl,rfl⟩
def Thrown(f:Int)(w:World)(e:Ending)(w':World):Prop:=e = .panicked [flt f]∧w'=w
theorem try_no(f:Int)(hf:f≠0)(w:World):Calls prog 68 #[f] w (Thrown f w):=by
 have h1: (f==0)=false:=by simpa using hf
 have h2: (f != 0)=true:=by simpa using hf
 go_enter func68,ntmps68
 go_wp2
 exact⟨rfl,rfl,rfl⟩
theorem must_ok(f:Int)(w:World):Calls prog 94 #[.bool true,f] w (Same (.tuple #[]) w):=by
 go_enter func94,ntmps94
 go_wp2
 go_end0
 exact⟨rfl,rfl⟩
theorem must_no(f:Int)(w:World):Calls prog 94 #[.bool false,f] w (Thrown f w):=by
 go_enter func94,ntmps94
 go_wp2
 exact⟨rfl,rfl,rfl⟩
def tryE(f:Int):Ending:=if f=0 then .returned (.tuple #[])else .panicked [flt f]
theorem v_needs(op:Int)(w:World):Calls prog 98 #[op] w (Same (needs op) w):=by
 obtain⟨n,hn⟩: ∃n,needs op=n:=⟨_,rfl⟩
 rw[hn]
 replace hn:=hid hn
 go_enter func98,ntmps98
 go_wp2
 all_goals go_ret
 all_goals refine⟨congrArg (λn=>Ending.returned (.int .i64 n)) ?_,rfl⟩
 all_goals rw[<-hn.out]
 all_goals clear hn
 all_goals unfold needs
 all_goals try simp only[beq_iff_eq,beq_eq_false_iff_ne]at *
 all_goals repeat' split
 all_goals first
  | rfl
  | omega
theorem v_top(h:On F w (VA c g x src s) w')(hs:s.Ok)(n:Int):Calls prog 96 #[g,(n:Int)] w' (Quiet (s.top n) w'):=by
 have r0:=h.r0
 have m5:=h.m5
 obtain⟨gb,hi⟩:=h.im
 have hp:=k_peek h.sd hi hs.pd hs.dle n
 have e:s.top n=stopv s.S s.pd.fr s.d n:=rfl
 unfold peekV at hp
 rw[<-e]at hp
 generalize s.top n=v at *
 generalize (if hasB s.d n=true then 0 else s.pd.un)=f at *
 replace hp:=hid hp
 clear h hi e hs
 go_enter func96,ntmps96
 go_wp2_with fail
 refine mo hp.out λw1 h=>?_
 replace h:=hid h
 go_wp2
 go_ret
 exact⟨rfl,h.out⟩
theorem ret2i{a b c d:Int}(h:c=a∧d=b):Ending.returned (.tuple #[a,b])=Ending.returned (.tuple #[c,d]):=by rw[h.1,h.2]
theorem v_returns(h:On F w (VA c g x src s) w')(hs:s.Ok)(i:Inst):Calls prog 95 #[g,i.v] w' (Quiet (.tuple #[.int .i64 (returns i.op i.arg s.same).1,.int .i64 (returns i.op i.arg s.same).2]) w'):=by
 obtain⟨op,arg,lit,cells⟩:=i
 show Calls _ _ #[_,.agg #[op,arg,lit,cells]] _ (Quiet (.tuple #[.int .i64 (returns op arg s.same).1,.int .i64 (returns op arg s.same).2]) w')
 by_cases h7:op=7
 ·subst h7
  have hb:=h.alloc (.cells #[(7:Int),arg,lit,cells] 168)
  have t0:=v_top hb hs 0
  have hsame:s.same= (s.top 0==s.top 1):=rfl
  have t1: ∀w1,Below (w'.alloc (.cells #[(7:Int),arg,lit,cells] 168)).heap.size (w'.alloc (.cells #[(7:Int),arg,lit,cells] 168)) w1->Calls prog 96 #[g,(1:Int)] w1 (Quiet (s.top 1) w1):=λw1 hb1=>v_top (hb.below hb1) hs 1
  have hal:Below w'.heap.size w' (w'.alloc (.cells #[(7:Int),arg,lit,cells] 168)):=(Below.refl _ _).alloc (Nat.le_refl _) _
  have hsz:w'.heap.size<=(w'.alloc (.cells #[(7:Int),arg,lit,cells] 168)).heap.size:=by simp
  generalize s.top 0=a at *
  generalize s.top 1=b at *
  by_cases hab:a=b
  ·have hab': (a==b)=true:=by simpa using hab
   have e:s.same=true:=by rw[hsame];exact hab'
   rw[e]
   clear e hsame hab
   replace t0:=hid t0
   replace t1:=hid t1
   replace hal:=hid hal
   clear h hb hs
   go_enter func95,ntmps95
   go_wp2_with fail
   refine mo t0.out λw1 h1=>?_
   replace t1:=hid (t1.out w1 h1)
   replace h1:=hid h1
   go_wp2_with fail
   refine mo t1.out λw2 h2=>?_
   replace h2:=hid h2
   go_wp2
   go_ret2
   exact⟨rfl,hal.out.trans ((h1.out.trans (h2.out.mono h1.out.size)).mono hsz)⟩
  ·have hab': (a==b)=false:=by simpa using hab
   have e:s.same=false:=by rw[hsame];exact hab'
   rw[e]
   clear e hsame hab
   replace t0:=hid t0
   replace t1:=hid t1
   replace hal:=hid hal
   clear h hb hs
   go_enter func95,ntmps95
   go_wp2_with fail
   refine mo t0.out λw1 h1=>?_
   replace t1:=hid (t1.out w1 h1)
   replace h1:=hid h1
   go_wp2_with fail
   refine mo t1.out λw2 h2=>?_
   replace h2:=hid h2
   go_wp2
   go_ret2
   exact⟨rfl,hal.out.trans ((h1.out.trans (h2.out.mono h1.out.size)).mono hsz)⟩
 ·have h7': (op==7)=false:=by simpa using h7
  generalize s.same=sm at *
  obtain⟨p,hp⟩: ∃p,returns op arg sm=p:=⟨_,rfl⟩
  rw[hp]
  obtain⟨p1,p2⟩:=p
  replace hp:=hid hp
  clear h hs
  go_enter func95,ntmps95
  go_wp2
  all_goals go_ret2
  all_goals refine⟨ret2i (a:=_) (b:=_) ?_,(Below.refl _ _).alloc (Nat.le_refl _) _⟩
  all_goals have hq:=hp.out
  all_goals clear hp
  all_goals unfold returns at hq
  all_goals simp only[beq_iff_eq,beq_eq_false_iff_ne]at *
  all_goals simp[*]at hq
  all_goals omega
theorem On.push(h:On F w (VA c g x src s) w'):On F w (VA c g x src s) w':=h
theorem v_cutD(h:On F w (VA c g x src s) w')(hs:s.Ok)(n:Nat)(hn:n<=s.d):Calls prog 140 #[c.gD,(n:Int)] w' (Got (.returned (.bool true)) (VA c g x src (s.cutD n)) F w):=
 h.callAt2G 3 2 (by decide) rfl rfl λF' ha=>k_cut ha hs.pd n hn hs.d
theorem v_cutR(h:On F w (VA c g x src s) w')(hs:s.Ok)(n:Nat)(hn:n<=s.r):Calls prog 140 #[c.gR,(n:Int)] w' (Got (.returned (.bool true)) (VA c g x src (s.cutR n)) F w):=
 h.callAt2G 4 2 (by decide) rfl rfl λF' ha=>k_cut ha hs.pr n hn hs.r
structure Apart(F:Nat->Prop)(w w':World)(A:Option Addr)(l:List Int):Prop where
 ints:Ints w' A l
 far: ∀a,A=some a->¬F a.block∧a.block<w.heap.size
theorem v_pushD(h:On F w (VA c g x src s) w')(hs:s.Ok)(l:List Int)(hl: ∀v∈l,V64 v)(A:Option Addr)(cap:Nat)(hi:Ints w' A l)(hf: ∀a,A=some a->¬F a.block∧a.block<w.heap.size)(hroom:l.length<=s.pd.rm-s.d):
 Calls prog 56 #[c.gD,.slice A l.length cap] w' (Got (.returned (.int .i64 0)) (VA c g x src (s.pushD l)) F w):=
 h.callAt2WG 3 2 (by decide) rfl rfl λF' ha ho=>k_push_yes ha hs.pd l hl A cap hi (λa e hk=>by
  have h1:=hf a e
  rcases ho.1 _ hk with h2|h2
  ·exact h1.1 h2
  ·omega) hs.d hroom
theorem v_pushR(h:On F w (VA c g x src s) w')(hs:s.Ok)(l:List Int)(hl: ∀v∈l,V64 v)(A:Option Addr)(cap:Nat)(hi:Ints w' A l)(hf: ∀a,A=some a->¬F a.block∧a.block<w.heap.size)(hroom:l.length<=s.pr.rm-s.r):
 Calls prog 56 #[c.gR,.slice A l.length cap] w' (Got (.returned (.int .i64 0)) (VA c g x src (s.pushR l)) F w):=
 h.callAt2WG 4 2 (by decide) rfl rfl λF' ha ho=>k_push_yes ha hs.pr l hl A cap hi (λa e hk=>by
  have h1:=hf a e
  rcases ho.1 _ hk with h2|h2
  ·exact h1.1 h2
  ·omega) hs.r hroom
theorem cutD_ok(hs:s.Ok)(n:Nat)(hn:n<=s.d): (s.cutD n).Ok:=⟨hs.pd,hs.pr,Nat.le_trans hn hs.d,hs.r,hs.du,hs.dv,hs.ru,hs.rv⟩
theorem cutR_ok(hs:s.Ok)(n:Nat)(hn:n<=s.r): (s.cutR n).Ok:=⟨hs.pd,hs.pr,hs.d,Nat.le_trans hn hs.r,hs.du,hs.dv,hs.ru,hs.rv⟩
theorem pushD_ok(hs:s.Ok)(l:List Int)(hroom:l.length<=s.pd.rm-s.d): (s.pushD l).Ok:=⟨hs.pd,hs.pr,by show s.d+l.length<=s.pd.rm;have:=hs.d;omega,hs.r,hs.du,hs.dv,hs.ru,hs.rv⟩
theorem pushR_ok(hs:s.Ok)(l:List Int)(hroom:l.length<=s.pr.rm-s.r): (s.pushR l).Ok:=⟨hs.pd,hs.pr,hs.d,by show s.r+l.length<=s.pr.rm;have:=hs.r;omega,hs.du,hs.dv,hs.ru,hs.rv⟩
theorem v_lays(hb: (VA c g x src s).holds w F)(hs:s.Ok)(n:Nat)(hn:n<=s.d)(l:List Int)(hl: ∀v∈l,V64 v)(A:Option Addr)(cap:Nat)(hi:Ints w A l)(hf: ∀a,A=some a->¬F a.block∧a.block<w.heap.size)(hroom:l.length<=s.pd.rm- (s.d-n)):
 Calls prog 102 #[g,(n:Int),.slice A l.length cap] w (Got (.returned (.tuple #[])) (VA c g x src (s.lays n l).2) F w):=by
 have hon:=On.refl hb
 have r0:=hon.r0
 have m5:=hon.m5
 have hdep:=k_depth (hon.drew).sd
 have hcut:=v_cutD hon.drew hs (s.d-n) oM
 have hdw:=IntWalk.i64_in ((s.d:Int) - (n:Int)) (by have:=hs.dle;omega)
 rw[show((s.d-n:Nat):Int)=IntKind.i64.wrap ((s.d:Int) - (n:Int))by rw[hdw];omega]at hcut
 have hres: (s.lays n l).2= (s.cutD (s.d-n)).pushD l:=by unfold Mt.lays;rw[if_neg oM]
 rw[hres]
 have hpush:=λw1 (h1:On F w (VA c g x src (s.cutD (s.d-n))) w1)=>v_pushD h1 (cutD_ok hs (s.d-n) oM) l hl A cap (h1.ints hi (λa e=>(hf a e).1)) hf hroom
 generalize (s.cutD (s.d-n)).pushD l=s2 at *
 generalize s.cutD (s.d-n)=s1 at *
 generalize s.d=d at *
 replace hdep:=hid hdep
 replace hcut:=hid hcut
 replace hpush:=hid hpush
 replace hi:=hid hi
 clear hb hs hres hl hf hdw hon hroom
 go_enter func102,ntmps102
 go_wp2_with fail
 go_region_held (λw'=>w'.cell? (g,0)=some (c.gM:Vl)∧w'.cell? (c.gM,5)=some (c.gD:Vl)) (go_keep)
  ((first
    | (go_at_call 11;refine hdep.out.mono ?_;rintro e w1 ⟨rfl,rfl⟩)
    | (go_at_call 140;refine mo hcut.out λw1 h=>?_;have k0:=h.r0;have k5:=h.m5;replace h:=hid h)))
 go_wp2_with fail
 refine mo (hpush.out _ h.out) λw2 h2=>?_
 replace h2:=hid h2
 go_wp2_with fail
 refine(try_ok _).mono ?_
 rintro e w3 ⟨rfl,rfl⟩
 go_wp2
 go_end0
 exact⟨rfl,h2.out⟩
end
end Vm
end Go.Proofs.YtngdikikclfgjaaGreatDoor
