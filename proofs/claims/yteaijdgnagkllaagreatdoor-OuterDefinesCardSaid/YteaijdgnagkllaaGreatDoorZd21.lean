/- Chapter 11: the machine and a run in memory; the small functions. Conditions: as written. -/
import Derived.Test.YteaijdgnagkllaaGreatDoorZd16
import Derived.Test.YteaijdgnagkllaaGreatDoorZd20
import Derived.Test.YteaijdgnagkllaaGreatDoorZd07
open Go.Proofs.Tryz
namespace Go.Proofs.YteaijdgnagkllaaGreatDoor
set_option linter.unusedVariables false
set_option linter.unusedSimpArgs false
set_option maxHeartbeats 8000000
set_option maxRecDepth 100000
open Go.RowKit Go.Lib Go.Deep
namespace Vm
structure Vc where
 gM:Nat
 gI:Nat
 gD:Nat
 gR:Nat
 gT:Nat
 gS:Nat
 gK:Nat
 gP:Nat
 ws:Value
 tell:Value
 sfr:Nat
 sto:Nat
 kfr:Nat
 kto:Nat
 tl:List Stp->Asr
 rest:Ext->List Asr
def machC(c:Vc)(s:Mt):Array Value:=#[c.gI,c.gS,c.ws,c.gT,c.gP,c.gD,c.gR,c.tell,s.fault,s.used,s.hidden]
def runC(c:Vc)(x:Rn)(src:Value):Array Value:=#[c.gM,x.mode,x.left,x.pc,x.next,.bool x.over,.bool x.asked,x.base,src]
def dictC(gI fr en:Nat)(here latest:Int):Array Value:=#[gI,(fr:Int),(en:Int),here,latest]
def RunA(c:Vc)(g:Nat)(x:Rn)(src:Value):Asr:=BlkA g 258 (runC c x src)
def MachA(c:Vc)(s:Mt):Asr:=BlkA c.gM 108 (machC c s)
def DictA(gI g fr en:Nat)(here latest:Int):Asr:=BlkA g 146 (dictC gI fr en here latest)
def vL(c:Vc)(g:Nat)(x:Rn)(src:Value)(s:Mt):List Asr:=
 RunA c g x src::MachA c s::ImgA c.gI s.S::StkA c.gI c.gD s.pd s.d::StkA c.gI c.gR s.pr s.r::TabA c.gT s.T::DictA c.gI c.gS c.sfr c.sto s.hs s.ls::DictA c.gI c.gK c.kfr c.kto s.hk s.lk::c.tl s.seen::c.rest s.ext
def VA(c:Vc)(g:Nat)(x:Rn)(src:Value)(s:Mt):Asr:=AllA (vL c g x src s)
structure Mt.Ok(s:Mt):Prop where
 pd:s.pd.Ok
 pr:s.pr.Ok
 d:s.d<=s.pd.rm
 r:s.r<=s.pr.rm
 du:s.pd.un=1
 dv:s.pd.ov=2
 ru:s.pr.un=3
 rv:s.pr.ov=4
section
variable {w w':World}{F:Nat->Prop}{c:Vc}{g:Nat}{x:Rn}{src:Value}{s:Mt}
theorem On.r0(h:On F w (VA c g x src s) w'):w'.cell? (g,0)=some (c.gM:Vl):=(h.blkAt 0 rfl).cell 0
theorem On.r1(h:On F w (VA c g x src s) w'):w'.cell? (g,1)=some (x.mode:Vl):=(h.blkAt 0 rfl).cell 1
theorem On.r2(h:On F w (VA c g x src s) w'):w'.cell? (g,2)=some (x.left:Vl):=(h.blkAt 0 rfl).cell 2
theorem On.r3(h:On F w (VA c g x src s) w'):w'.cell? (g,3)=some (x.pc:Vl):=(h.blkAt 0 rfl).cell 3
theorem On.r4(h:On F w (VA c g x src s) w'):w'.cell? (g,4)=some (x.next:Vl):=(h.blkAt 0 rfl).cell 4
theorem On.r5(h:On F w (VA c g x src s) w'):w'.cell? (g,5)=some (.bool x.over):=(h.blkAt 0 rfl).cell 5
theorem On.r6(h:On F w (VA c g x src s) w'):w'.cell? (g,6)=some (.bool x.asked):=(h.blkAt 0 rfl).cell 6
theorem On.r7(h:On F w (VA c g x src s) w'):w'.cell? (g,7)=some (x.base:Vl):=(h.blkAt 0 rfl).cell 7
theorem On.r8(h:On F w (VA c g x src s) w'):w'.cell? (g,8)=some src:=(h.blkAt 0 rfl).cell 8
theorem On.rf(h:On F w (VA c g x src s) w')(i:Nat):w'.frozen? (g,i)=false:=(h.blkAt 0 rfl).frozen i
theorem On.rlt(h:On F w (VA c g x src s) w'):g<w'.heap.size:=(h.blkAt 0 rfl).lt
theorem On.m0(h:On F w (VA c g x src s) w'):w'.cell? (c.gM,0)=some (c.gI:Vl):=(h.blkAt 1 rfl).cell 0
theorem On.m1(h:On F w (VA c g x src s) w'):w'.cell? (c.gM,1)=some (c.gS:Vl):=(h.blkAt 1 rfl).cell 1
theorem On.m3(h:On F w (VA c g x src s) w'):w'.cell? (c.gM,3)=some (c.gT:Vl):=(h.blkAt 1 rfl).cell 3
theorem On.m5(h:On F w (VA c g x src s) w'):w'.cell? (c.gM,5)=some (c.gD:Vl):=(h.blkAt 1 rfl).cell 5
theorem On.m6(h:On F w (VA c g x src s) w'):w'.cell? (c.gM,6)=some (c.gR:Vl):=(h.blkAt 1 rfl).cell 6
theorem On.m7(h:On F w (VA c g x src s) w'):w'.cell? (c.gM,7)=some c.tell:=(h.blkAt 1 rfl).cell 7
theorem On.mlt(h:On F w (VA c g x src s) w'):c.gM<w'.heap.size:=(h.blkAt 1 rfl).lt
theorem On.sd(h:On F w (VA c g x src s) w'):Blk w' c.gD 110 (stkC c.gI s.pd s.d):=h.blkAt 3 rfl
theorem On.sr(h:On F w (VA c g x src s) w'):Blk w' c.gR 110 (stkC c.gI s.pr s.r):=h.blkAt 4 rfl
theorem On.im(h:On F w (VA c g x src s) w'): ∃gb,IRep w' c.gI gb s.S:=h.img 2 rfl
theorem On.crep(h:On F w (VA c g x src s) w'): ∃G,CRep w' c.gT s.T G:=h.at_ 5 rfl
theorem Mt.Ok.dle(h:s.Ok):s.d<=17920:=by have:=h.pd.rm;have:=h.d;omega
theorem Mt.Ok.rle(h:s.Ok):s.r<=17920:=by have:=h.pr.rm;have:=h.r;omega
def flt(f:Int):PanicEntry:={ v:= .iface 44 (.int .i64 f),recovered:=false }
theorem try_ok(w:World):Calls prog 192 #[(0:Int)] w (Same (.tuple #[]) w):=by
 go_enter func192,ntmps192
 go_wp2
 go_end0
 exact⟨rfl,rfl⟩
def Thrown(f:Int)(w:World)(e:Ending)(w':World):Prop:=e = .panicked [flt f]∧w'=w
theorem try_no(f:Int)(hf:f≠0)(w:World):Calls prog 192 #[f] w (Thrown f w):=by
 have h1: (f==0)=false:=by simpa using hf
 have h2: (f != 0)=true:=by simpa using hf
 go_enter func192,ntmps192
 go_wp2
 exact⟨rfl,rfl,rfl⟩
theorem must_ok(f:Int)(w:World):Calls prog 207 #[.bool true,f] w (Same (.tuple #[]) w):=by
 go_enter func207,ntmps207
 go_wp2
 go_end0
 exact⟨rfl,rfl⟩
theorem must_no(f:Int)(w:World):Calls prog 207 #[.bool false,f] w (Thrown f w):=by
 go_enter func207,ntmps207
 go_wp2
 exact⟨rfl,rfl,rfl⟩
def tryE(f:Int):Ending:=if f=0 then .returned (.tuple #[])else .panicked [flt f]
theorem v_needs(op:Int)(w:World):Calls prog 210 #[op] w (Same (needs op) w):=by
 obtain⟨n,hn⟩: ∃n,needs op=n:=⟨_,rfl⟩
 rw[hn]
 replace hn:=hid hn
 go_enter func210,ntmps210
 go_wp2
 all_goals go_ret
 all_goals refine⟨congrArg (λn=>Ending.returned (.int .i64 n)) ?_,rfl⟩
 all_goals rw[<-hn.out]
 all_goals clear hn
 all_goals unfold needs
 all_goals try simp only[beq_iff_eq,beq_eq_false_iff_ne]at *
 all_goals repeat' split
 all_goals first
  | rfl
  | omega
theorem v_top(h:On F w (VA c g x src s) w')(hs:s.Ok)(n:Int):Calls prog 209 #[g,(n:Int)] w' (Quiet (s.top n) w'):=by
 have r0:=h.r0
 have m5:=h.m5
 obtain⟨gb,hi⟩:=h.im
 have hp:=k_peek h.sd hi hs.pd hs.dle n
 have e:s.top n=stopv s.S s.pd.fr s.d n:=rfl
 unfold peekV at hp
 rw[<-e]at hp
 generalize s.top n=v at *
 generalize (if hasB s.d n=true then 0 else s.pd.un)=f at *
 replace hp:=hid hp
 clear h hi e hs
 go_enter func209,ntmps209
 go_wp2_with fail
 refine mo hp.out λw1 h=>?_
 replace h:=hid h
 go_wp2
 go_ret
 exact⟨rfl,h.out⟩
theorem ret2i{a b c d:Int}(h:c=a∧d=b):Ending.returned (.tuple #[a,b])=Ending.returned (.tuple #[c,d]):=by rw[h.1,h.2]
theorem v_returns(h:On F w (VA c g x src s) w')(hs:s.Ok)(i:Inst):Calls prog 208 #[g,i.v] w' (Quiet (.tuple #[.int .i64 (returns i.op i.arg s.same).1,.int .i64 (returns i.op i.arg s.same).2]) w'):=by
 obtain⟨op,arg,lit,cells⟩:=i
 show Calls _ _ #[_,.agg #[op,arg,lit,cells]] _ (Quiet (.tuple #[.int .i64 (returns op arg s.same).1,.int .i64 (returns op arg s.same).2]) w')
 by_cases h7:op=7
 ·subst h7
  have hb:=h.alloc (.cells #[(7:Int),arg,lit,cells] 293)
  have t0:=v_top hb hs 0
  have hsame:s.same= (s.top 0==s.top 1):=rfl
  have t1: ∀w1,Below (w'.alloc (.cells #[(7:Int),arg,lit,cells] 293)).heap.size (w'.alloc (.cells #[(7:Int),arg,lit,cells] 293)) w1->Calls prog 209 #[g,(1:Int)] w1 (Quiet (s.top 1) w1):=λw1 hb1=>v_top (hb.below hb1) hs 1
  have hal:Below w'.heap.size w' (w'.alloc (.cells #[(7:Int),arg,lit,cells] 293)):=(Below.refl _ _).alloc (Nat.le_refl _) _
  have hsz:w'.heap.size<=(w'.alloc (.cells #[(7:Int),arg,lit,cells] 293)).heap.size:=by simp
  generalize s.top 0=a at *
  generalize s.top 1=b at *
  by_cases hab:a=b
  ·have hab': (a==b)=true:=by simpa using hab
   have e:s.same=true:=by rw[hsame];exact hab'
   rw[e]
   clear e hsame hab
   replace t0:=hid t0
   replace t1:=hid t1
   replace hal:=hid hal
   clear h hb hs
   go_enter func208,ntmps208
   go_wp2_with fail
   refine mo t0.out λw1 h1=>?_
   replace t1:=hid (t1.out w1 h1)
   replace h1:=hid h1
   go_wp2_with fail
   refine mo t1.out λw2 h2=>?_
   replace h2:=hid h2
   go_wp2
   go_ret2
   exact⟨rfl,hal.out.trans ((h1.out.trans (h2.out.mono h1.out.size)).mono hsz)⟩
  ·have hab': (a==b)=false:=by simpa using hab
   have e:s.same=false:=by rw[hsame];exact hab'
   rw[e]
   clear e hsame hab
   replace t0:=hid t0
   replace t1:=hid t1
   replace hal:=hid hal
   clear h hb hs
   go_enter func208,ntmps208
   go_wp2_with fail
   refine mo t0.out λw1 h1=>?_
   replace t1:=hid (t1.out w1 h1)
   replace h1:=hid h1
   go_wp2_with fail
   refine mo t1.out λw2 h2=>?_
   replace h2:=hid h2
   go_wp2
   go_ret2
   exact⟨rfl,hal.out.trans ((h1.out.trans (h2.out.mono h1.out.size)).mono hsz)⟩
 ·have h7': (op==7)=false:=by simpa using h7
  generalize s.same=sm at *
  obtain⟨p,hp⟩: ∃p,returns op arg sm=p:=⟨_,rfl⟩
  rw[hp]
  obtain⟨p1,p2⟩:=p
  replace hp:=hid hp
  clear h hs
  go_enter func208,ntmps208
  go_wp2
  all_goals go_ret2
  all_goals refine⟨ret2i (a:=_) (b:=_) ?_,(Below.refl _ _).alloc (Nat.le_refl _) _⟩
  all_goals have hq:=hp.out
  all_goals clear hp
  all_goals unfold returns at hq
  all_goals simp only[beq_iff_eq,beq_eq_false_iff_ne]at *
  all_goals simp[*]at hq
  all_goals omega
theorem On.push(h:On F w (VA c g x src s) w'):On F w (VA c g x src s) w':=h
theorem v_cutD(h:On F w (VA c g x src s) w')(hs:s.Ok)(n:Nat)(hn:n<=s.d):Calls prog 228 #[c.gD,(n:Int)] w' (Got (.returned (.bool true)) (VA c g x src (s.cutD n)) F w):=
 h.callAt2G 3 2 (by decide) rfl rfl λF' ha=>k_cut ha hs.pd n hn hs.d
theorem v_cutR(h:On F w (VA c g x src s) w')(hs:s.Ok)(n:Nat)(hn:n<=s.r):Calls prog 228 #[c.gR,(n:Int)] w' (Got (.returned (.bool true)) (VA c g x src (s.cutR n)) F w):=
 h.callAt2G 4 2 (by decide) rfl rfl λF' ha=>k_cut ha hs.pr n hn hs.r
structure Apart(F:Nat->Prop)(w w':World)(A:Option Addr)(l:List Int):Prop where
 ints:Ints w' A l
 far: ∀a,A=some a->¬F a.block∧a.block<w.heap.size
theorem v_pushD(h:On F w (VA c g x src s) w')(hs:s.Ok)(l:List Int)(hl: ∀v∈l,V64 v)(A:Option Addr)(cap:Nat)(hi:Ints w' A l)(hf: ∀a,A=some a->¬F a.block∧a.block<w.heap.size)(hroom:l.length<=s.pd.rm-s.d):
 Calls prog 113 #[c.gD,.slice A l.length cap] w' (Got (.returned (.int .i64 0)) (VA c g x src (s.pushD l)) F w):=
 h.callAt2WG 3 2 (by decide) rfl rfl λF' ha ho=>k_push_yes ha hs.pd l hl A cap hi (λa e hk=>by
  have h1:=hf a e
  rcases ho.1 _ hk with h2|h2
  ·exact h1.1 h2
  ·omega) hs.d hroom
theorem v_pushR(h:On F w (VA c g x src s) w')(hs:s.Ok)(l:List Int)(hl: ∀v∈l,V64 v)(A:Option Addr)(cap:Nat)(hi:Ints w' A l)(hf: ∀a,A=some a->¬F a.block∧a.block<w.heap.size)(hroom:l.length<=s.pr.rm-s.r):
 Calls prog 113 #[c.gR,.slice A l.length cap] w' (Got (.returned (.int .i64 0)) (VA c g x src (s.pushR l)) F w):=
 h.callAt2WG 4 2 (by decide) rfl rfl λF' ha ho=>k_push_yes ha hs.pr l hl A cap hi (λa e hk=>by
  have h1:=hf a e
  rcases ho.1 _ hk with h2|h2
  ·exact h1.1 h2
  ·omega) hs.r hroom
theorem cutD_ok(hs:s.Ok)(n:Nat)(hn:n<=s.d): (s.cutD n).Ok:=⟨hs.pd,hs.pr,Nat.le_trans hn hs.d,hs.r,hs.du,hs.dv,hs.ru,hs.rv⟩
theorem cutR_ok(hs:s.Ok)(n:Nat)(hn:n<=s.r): (s.cutR n).Ok:=⟨hs.pd,hs.pr,hs.d,Nat.le_trans hn hs.r,hs.du,hs.dv,hs.ru,hs.rv⟩
theorem pushD_ok(hs:s.Ok)(l:List Int)(hroom:l.length<=s.pd.rm-s.d): (s.pushD l).Ok:=⟨hs.pd,hs.pr,by show s.d+l.length<=s.pd.rm;have:=hs.d;omega,hs.r,hs.du,hs.dv,hs.ru,hs.rv⟩
theorem pushR_ok(hs:s.Ok)(l:List Int)(hroom:l.length<=s.pr.rm-s.r): (s.pushR l).Ok:=⟨hs.pd,hs.pr,hs.d,by show s.r+l.length<=s.pr.rm;have:=hs.r;omega,hs.du,hs.dv,hs.ru,hs.rv⟩
theorem v_lays(hb: (VA c g x src s).holds w F)(hs:s.Ok)(n:Nat)(hn:n<=s.d)(l:List Int)(hl: ∀v∈l,V64 v)(A:Option Addr)(cap:Nat)(hi:Ints w A l)(hf: ∀a,A=some a->¬F a.block∧a.block<w.heap.size)(hroom:l.length<=s.pd.rm- (s.d-n)):
 Calls prog 213 #[g,(n:Int),.slice A l.length cap] w (Got (.returned (.tuple #[])) (VA c g x src (s.lays n l).2) F w):=by
 have hon:=On.refl hb
 have r0:=hon.r0
 have m5:=hon.m5
 have hdep:=k_depth (hon.drew).sd
 have hcut:=v_cutD hon.drew hs (s.d-n) oM
 have hdw:=IntWalk.i64_in ((s.d:Int) - (n:Int)) (by have:=hs.dle;omega)
 rw[show((s.d-n:Nat):Int)=IntKind.i64.wrap ((s.d:Int) - (n:Int))by rw[hdw];omega]at hcut
 have hres: (s.lays n l).2= (s.cutD (s.d-n)).pushD l:=by unfold Mt.lays;rw[if_neg oM]
 rw[hres]
 have hpush:=λw1 (h1:On F w (VA c g x src (s.cutD (s.d-n))) w1)=>v_pushD h1 (cutD_ok hs (s.d-n) oM) l hl A cap (h1.ints hi (λa e=>(hf a e).1)) hf hroom
 generalize (s.cutD (s.d-n)).pushD l=s2 at *
 generalize s.cutD (s.d-n)=s1 at *
 generalize s.d=d at *
 replace hdep:=hid hdep
 replace hcut:=hid hcut
 replace hpush:=hid hpush
 replace hi:=hid hi
 clear hb hs hres hl hf hdw hon hroom
 go_enter func213,ntmps213
 go_wp2_with fail
 go_region_held (λw'=>w'.cell? (g,0)=some (c.gM:Vl)∧w'.cell? (c.gM,5)=some (c.gD:Vl)) (go_keep)
  ((first
    | (go_at_call 158;refine hdep.out.mono ?_;rintro e w1 ⟨rfl,rfl⟩)
    | (go_at_call 228;refine mo hcut.out λw1 h=>?_;have k0:=h.r0;have k5:=h.m5;replace h:=hid h)))
 go_wp2_with fail
 refine mo (hpush.out _ h.out) λw2 h2=>?_
 replace h2:=hid h2
 go_wp2_with fail
 refine(try_ok _).mono ?_
 rintro e w3 ⟨rfl,rfl⟩
 go_wp2
 go_end0
 exact⟨rfl,h2.out⟩
end
section
variable {w w':World}{F:Nat->Prop}{c:Vc}{g:Nat}{x:Rn}{src:Value}{s:Mt}
theorem On.setNext(h:On F w (VA c g x src s) w')(n:Int):On F w (VA c g { x with next:=n } src s) (w'.setCell (g,4) (.int .i64 n)):=h.setAt 0 rfl 4 (.int .i64 n)
theorem On.setOver(h:On F w (VA c g x src s) w')(b:Bool):On F w (VA c g { x with over:=b } src s) (w'.setCell (g,5) (.bool b)):=h.setAt 0 rfl 5 (.bool b)
theorem v_popR(h:On F w (VA c g x src s) w')(hs:s.Ok)(h0:0<s.r):Calls prog 151 #[c.gR] w' (Got (.returned (.tuple #[(s.rtop 0),(0:Int)])) (VA c g x src { s with r:=s.r-1 }) F w):=by
 have e:s.rtop 0=sget s.S s.pr.fr (s.r-1):=by unfold Mt.rtop stopv;rw[if_pos oM];rfl
 rw[e]
 exact h.callAt2G 4 2 (by decide) rfl rfl λF' ha=>k_pop ha hs.pr h0 hs.r
theorem v_back(hb: (VA c g x src s).holds w F)(hs:s.Ok)(h0:0<s.r):Calls prog 225 #[g] w (Got (.returned (.tuple #[])) (VA c g (back x s).x src (back x s).s) F w):=by
 have hon:=On.refl hb
 have r0:=hon.r0
 have m6:=hon.m6
 have hpop:=v_popR hon hs h0
 have hres:back x s= ⟨0,{ x with next:=s.rtop 0,over:=s.rtop 0==0 },{ s with r:=s.r-1 }⟩:=by unfold back;rw[if_neg oM]
 rw[hres]
 generalize s.rtop 0=a at *
 generalize ({ s with r:=s.r-1 }:Mt)=s2 at *
 replace hpop:=hid hpop
 clear hb hs hres hon h0
 go_enter func225,ntmps225
 go_wp2_with fail
 refine mo hpop.out λw1 h=>?_
 have f4:=h.rf 4
 have f5:=h.rf 5
 have hfin:=(h.setNext a).setOver (a==0)
 replace hfin:=hid hfin
 have k0:=h.r0
 have hg:=h.r4
 have hg5:=h.r5
 clear h
 go_wp2_with fail
 refine(try_ok _).mono ?_
 rintro e w3 ⟨rfl,rfl⟩
 go_wp2
 go_end0
 exact⟨rfl,hfin.out⟩
def argsK(s:Mt)(n k:Nat):Array Value:=((List.range n).map λj=>Value.int .i64 (if n-1-j<k then s.top ((n-1-j:Nat):Int)else 0)).toArray
theorem argsK0(s:Mt)(n:Nat):madeCells #[Value.int .i64 0] n=argsK s n 0:=by
 unfold argsK
 apply Array.ext'
 simp[madeCells,Nat.mod_one]
theorem argsK_at(s:Mt)(n k:Nat)(hk:k<n): ∃v,(argsK s n k)[n-1-k]? = some (v:Vl):=by
 unfold argsK
 simp[show n-1-k<n by omega]
theorem argsK_set(s:Mt)(n k:Nat)(hk:k<n): (argsK s n k).setIfInBounds (n-1-k) (.int .i64 (s.top (k:Int)))=argsK s n (k+1):=by
 unfold argsK
 apply Array.ext'
 simp only[Array.toList_setIfInBounds]
 apply List.ext_getElem?
 intro i
 rw[List.getElem?_set]
 by_cases hi:i<n
 ·by_cases e:n-1-k=i
  ·subst e
   have e2:n-1- (n-1-k)=k:=by omega
   simp[show n-1-k<n by omega,e2]
  ·have e2: (n-1-i<k+1)↔(n-1-i<k):=by omega
   simp[hi,e,e2]
 ·simp[hi,show¬(n-1-k=i)by omega]
theorem v_args(hb: (VA c g x src s).holds w F)(hs:s.Ok)(n:Nat)(hn:n<=8):
 Calls prog 211 #[g,(n:Int)] w (λe w'=>e = .returned (.slice w.heap.size n n)∧On F w (AllA (BlkA w.heap.size 3 (argsK s n n)::vL c g x src s)) w'):=by
 have hon:=On.refl hb
 have hmk:=run_make_row' (P:=prog) 50 3 (.int .i64 0) 8 underlying50 kR rfl .i64 .i64 n oM oM w
 rw[argsK0 s n]at hmk
 have hon0:=hon.box (argsK s n 0) 3
 have hlt:=hon.rlt
 replace hon:=hid hon
 replace hon0:=hid hon0
 clear hb
 go_enter func211,ntmps211
 go_wp2
 go_loopg [11] n (λk t wr=> ∃j:Nat,j+k=n∧t = .int .i64 (j:Int)∧On F w (AllA (BlkA w.heap.size 3 (argsK s n j)::vL c g x src s)) wr)
 case atStart=>exact⟨0,by omega,rfl,hon0.out⟩
 case round=>
  obtain⟨j,hj,rfl,honj⟩:=hrel
  by_cases hjl:j<n
  ·have ht:=v_top honj.tail hs (j:Int)
   have hset:=argsK_set s n j hjl
   have hw1:IntKind.i64.wrap ((n:Int) -1- (j:Int))= ((n-1-j:Nat):Int):=by rw[IntWalk.i64_in _ oM];omega
   generalize s.top (j:Int)=v at *
   replace ht:=hid ht
   replace hset:=hid hset
   replace honj:=hid honj
   go_wp2_with fail
   refine mo ht.out λw1 hbl=>?_
   have hon1:=honj.out.below hbl
   have hblk:=hon1.blkAt 0 rfl
   have ff:=hblk.frozen (n-1-j)
   obtain⟨v0,cc⟩:=argsK_at s n j hjl
   replace cc:=(hblk.cell (n-1-j)).trans cc
   have hfin:=hon1.setAt 0 rfl (n-1-j) (.int .i64 v)
   rw[hset.out]at hfin
   replace hfin:=hid hfin
   clear hblk
   replace hon1:=hid hon1
   clear hbl
   go_wp2
   go_roundg (gk-1)
   case measure=>omega
   case rel=>exact⟨j+1,by omega,by go_num,hfin.out⟩
  ·have hjn:j=n:=by omega
   subst hjn
   have hdec:decide ((j:Int) < (j:Int))=false:=by simp
   replace honj:=hid honj
   go_wp2
   go_ret
   exact⟨rfl,honj.out⟩
theorem argsK_cells(s:Mt)(n:Nat):argsK s n n= ((s.args n).map (Value.int .i64)).toArray:=by
 unfold argsK Mt.args
 congr 1
 rw[List.map_map]
 apply List.map_congr_left
 intro j hj
 have:j<n:=by simpa using hj
 simp[show n-1-j<n by omega]
end
def Small(p:Int×Int):Prop:=0<=p.1∧p.1<=4∧0<=p.2∧p.2<=4
theorem ite_p{α:Type}{P:α->Prop}{c:Prop}[Decidable c]{a b:α}(h1:P a)(h2:P b):P (if c then a else b):=by split<;>assumption
theorem small_lit(a b:Int)(h:0<=a∧a<=4∧0<=b∧b<=4):Small (a,b):=h
theorem wants_le(op:Int):0<=(Code.wants op).1∧(Code.wants op).1<=4∧0<=(Code.wants op).2∧(Code.wants op).2<=4:=by
 show Small (Code.wants op)
 unfold Code.wants
 repeat' apply ite_p
 all_goals exact small_lit _ _ (by decide)
theorem returns_le(op arg:Int)(b:Bool):0<=(returns op arg b).1∧(returns op arg b).1<=4∧0<=(returns op arg b).2∧(returns op arg b).2<=4:=by
 show Small (returns op arg b)
 unfold returns
 repeat' apply ite_p
 all_goals exact small_lit _ _ (by decide)
theorem v_wants(op:Int)(w:World):Calls prog 206 #[op] w (Quiet (.tuple #[.int .i64 (Code.wants op).1,.int .i64 (Code.wants op).2]) w):=by
 rcases h:Code.inOps op with _|_
 ·refine(wants_out op h w).mono ?_
  rintro e w' ⟨rfl,rfl⟩
  refine⟨?_,Below.refl _ _⟩
  have:Code.wants op= (0,0):=by
   have h1:op<1∨106<op:=by unfold Code.inOps at h;simp at h;omega
   unfold Code.wants
   simp only[List.mem_cons,List.mem_nil_iff,or_false]
   repeat' rw[if_neg oM]
  rw[this]
 ·unfold Code.inOps at h
  simp at h
  obtain⟨i,hi,rfl⟩: ∃i:Nat,i<106∧op= (i:Int) +1:=⟨(op-1).toNat,by omega,by omega⟩
  refine(wants_in i hi w).mono ?_
  rintro e w' ⟨rfl,n,rfl⟩
  exact⟨rfl,((Kept.refl Nob _).drewN _).below0⟩
theorem dead{P:Program}{f:FuncId}{args:Array Value}{w:World}{Q:Ending->World->Prop}{n:Int}(hc:Calls P f args w (Thrown n w))(hp:Q (.panicked [flt n]) w)
 (hk:False->∀e w',e = .returned (.tuple #[])->w'=w->Q e w'):Calls P f args w Q:=hc.mono λe w' h=>by
 obtain⟨rfl,rfl⟩:=h
 exact hp
structure Rn.Ok(x:Rn):Prop where
 base:0<=x.base
 base2:x.base<=512
 next:V64 x.next
 pc:V64 x.pc
 left:0<=x.left
 left2:x.left<=1000000
section
variable {w w':World}{F:Nat->Prop}{c:Vc}{g:Nat}{x:Rn}{src:Value}{s:Mt}
theorem v_asks(hb: (VA c g x src s).holds w F)(hs:s.Ok)(hx:x.Ok)(i:Inst):
 Calls prog 194 #[g,i.v] w (Got (tryE (asks i x s)) (VA c g x src s) F w):=by
 obtain⟨op,arg,lit,cells⟩:=i
 show Calls _ _ #[_,.agg #[op,arg,lit,cells]] _ _
 have hon:=((On.refl hb).box #[op,arg,lit,cells] 293)
 have hw:=wants_le op
 have hwa:=λw=>v_wants op w
 obtain⟨A,hA⟩: ∃A,asks ⟨op,arg,lit,cells⟩ x s=A:=⟨_,rfl⟩
 rw[hA]
 have hask:=hA
 unfold asks at hask
 simp only at hask
 obtain⟨⟨tk,ly⟩,htk⟩: ∃p,Code.wants op=p:=⟨_,rfl⟩
 rw[htk]at hw hwa hask
 simp only at hw hwa hask
 replace hask:=hid hask
 replace hwa:=hid hwa
 replace hon:=hid hon
 have hrl:=returns_le op arg s.same
 have htop:=λw1 (h1:On F w (VA c g x src s) w1)=>v_top h1 hs 0
 generalize s.top 0=t0 at *
 replace htop:=hid htop
 have hret:=λw1 (h1:On F w (VA c g x src s) w1)=>v_returns h1 hs ⟨op,arg,lit,cells⟩
 obtain⟨⟨off,on⟩,hoo⟩: ∃p,returns op arg s.same=p:=⟨_,rfl⟩
 simp only[hoo]at hret hask hrl
 replace hret:=hid hret
 clear hb hA htk hoo
 have hdle:=hs.dle
 have hrle:=hs.rle
 have hb1:=hx.base
 have hb2:=hx.base2
 replace hs:=hid hs
 replace hx:=hid hx
 go_enter func194,ntmps194
 go_wp2_with fail
 refine mo (hwa.out _) λw1 hb1=>?_
 have hon1:=hon.out.below hb1
 have b0:w1.cell? (w.heap.size,0)=some (op:Vl):=(hon1.blkAt 0 rfl).cell 0
 have b1:w1.cell? (w.heap.size,1)=some (arg:Vl):=(hon1.blkAt 0 rfl).cell 1
 have b2:w1.cell? (w.heap.size,2)=some (lit:Vl):=(hon1.blkAt 0 rfl).cell 2
 have b3:w1.cell? (w.heap.size,3)=some (cells:Vl):=(hon1.blkAt 0 rfl).cell 3
 have r0:=hon1.tail.r0
 have r7:=hon1.tail.r7
 have m5:=hon1.tail.m5
 have m6:=hon1.tail.m6
 have hdep:=k_depth hon1.tail.sd
 replace hon1:=hid hon1
 replace hdep:=hid hdep
 clear hb1
 go_wp2_with fail
 refine hdep.out.mono ?_
 rintro e w2 ⟨rfl,rfl⟩
 by_cases k1:tk<=(s.d:Int)
 rotate_left
 ·have k1':decide (tk<=(s.d:Int))=false:=decide_eq_false k1
  have hA1:A=1:=by rw[<-hask.out];rw[if_pos oM]
  subst hA1
  clear k1
  go_wp2_with fail
  refine(must_no _ _).mono ?_
  rintro e w3 ⟨rfl,rfl⟩
  go_wp2
  exact⟨rfl,rfl,hon1.out.tail⟩
 have k1':decide (tk<=(s.d:Int))=true:=decide_eq_true k1
 go_wp2_with fail
 refine(must_ok _ _).mono ?_
 rintro e w3 ⟨rfl,rfl⟩
 go_wp2_with fail
 refine mo (hret.out _ hon1.out.tail) λw4 hb4=>?_
 have hon4:=hon1.out.below hb4
 have b0:w4.cell? (w.heap.size,0)=some (op:Vl):=(hon4.blkAt 0 rfl).cell 0
 have r0:=hon4.tail.r0
 have r1:=hon4.tail.r1
 have r7:=hon4.tail.r7
 have m3:=hon4.tail.m3
 have m5:=hon4.tail.m5
 have m6:=hon4.tail.m6
 have hdep:=k_depth hon4.tail.sd.drew
 have hdepR:=k_depth hon4.tail.sr.drew
 replace hon4:=hid hon4
 replace hdep:=hid hdep
 replace hdepR:=hid hdepR
 clear hb4
 have hwr:IntKind.i64.wrap ((s.r:Int) -x.base)= (s.r:Int) -x.base:=IntWalk.i64_in _ oM
 by_cases k2:off<=(s.r:Int) -x.base
 rotate_left
 ·have k2':decide (off<=IntKind.i64.wrap ((s.r:Int) -x.base))=false:=decide_eq_false (by rw[hwr];exact k2)
  have hA1:A=3:=by rw[<-hask.out];rw[if_neg oM,if_pos oM]
  subst hA1
  clear k2 hwr
  go_wp2_with fail
  go_region_held (λw'=>w'.cell? (g,0)=some (c.gM:Vl)∧w'.cell? (c.gM,6)=some (c.gR:Vl)∧w'.cell? (g,7)=some (x.base:Vl)) (go_keep)
   ((first
     | (go_at_call 158;refine hdepR.out.mono ?_;rintro e w5 ⟨rfl,rfl⟩)
     | (go_at_call 207;refine dead (must_no _ _) ⟨rfl,rfl,hon4.out.tail.drew⟩ ?_;intro hF e w5 he hw;subst he;subst hw;replace hF:=hid hF)))
  all_goals exact hF.out.elim
 have k2':decide (off<=IntKind.i64.wrap ((s.r:Int) -x.base))=true:=decide_eq_true (by rw[hwr];exact k2)
 clear hwr
 go_wp2_with fail
 go_region_held (λw'=>w'.cell? (g,0)=some (c.gM:Vl)∧w'.cell? (c.gM,6)=some (c.gR:Vl)∧w'.cell? (g,7)=some (x.base:Vl)) (go_keep)
  ((first
    | (go_at_call 158;refine hdepR.out.mono ?_;rintro e w5 ⟨rfl,rfl⟩)
    | (go_at_call 207;refine(must_ok _ _).mono ?_;rintro e w5 ⟨rfl,rfl⟩)))
 clear k2'
 obtain⟨q,hq⟩: ∃q:Bool,decide (op=26∧t0=0)=q:=⟨_,rfl⟩
 have hon5:=hon4.out.drew
 replace hon5:=hid hon5
 go_upto_region 5 with fail
 go_cut [55] (λa wx=>a = .bool q∧On F w (AllA (BlkA w.heap.size 293 #[op,arg,lit,cells]::vL c g x src s)) wx)
 case first=>
  by_cases h26:op=26
  ·have e1: (op==26)=true:=by simpa using h26
   have e2: (t0==0)=q:=by rw[<-hq];simp[h26];rfl
   clear hq h26
   replace e2:=hid e2
   go_wp2_with fail
   refine mo (htop.out _ hon5.out.tail) λw6 hb6=>?_
   replace hb6:=hid hb6
   go_wp2_with fail
   go_meet
   exact⟨by rw[e2.out],hon5.out.below hb6.out⟩
  ·have e1: (op==26)=false:=by simpa using h26
   have e2:q=false:=by rw[<-hq];simp[h26]
   subst e2
   clear hq h26
   go_wp2_with fail
   go_meet
   exact⟨rfl,hon5.out⟩
 case rest=>
  obtain⟨rfl,hon6⟩:=hcut
  obtain⟨L,hL⟩: ∃L,(if op=26∧t0=0 then tk else ly)=L:=⟨_,rfl⟩
  have hask2:=hask.out
  rw[hL]at hask2
  have hLq: (if q then tk else ly)=L:=by
   rw[<-hL,<-hq]
   by_cases hh:op=26∧t0=0
   ·simp[hh]
   ·simp[hh]
  have hL0:0<=L∧L<=4:=by rw[<-hLq];split<;>omega
  clear hL hq hask
  replace hask:=hid hask2
  replace hon6:=hid hon6
  clear hask2 hon5 hon4 hon1 hdep hdepR
  go_upto_if 55 with fail
  go_cut [5] (λa wx=>a = .int .i64 L∧On F w (AllA (BlkA w.heap.size 293 #[op,arg,lit,cells]::vL c g x src s)) wx)
  case first=>
   cases q
   ·obtain rfl:ly=L:=by simpa using hLq
    go_wp2_with fail
    go_meet
    exact⟨rfl,hon6.out⟩
   ·obtain rfl:tk=L:=by simpa using hLq
    go_wp2_with fail
    go_meet
    exact⟨rfl,hon6.out⟩
  case rest=>
   obtain⟨rfl,hon7⟩:=hcut
   clear hLq hon6
   have q0:wc.cell? (w.heap.size,0)=some (op:Vl):=(hon7.blkAt 0 rfl).cell 0
   have q00:=hon7.tail.r0
   have q1:=hon7.tail.r1
   have q3:=hon7.tail.m3
   have q5:=hon7.tail.m5
   have q6:=hon7.tail.m6
   have hdepD:=k_depth hon7.tail.sd.drew
   have hdepR:=k_depth hon7.tail.sr.drew.drew
   have hrooD:=k_room hon7.tail.sd.drew
   have hrooR:=k_room hon7.tail.sr.drew.drew
   obtain⟨TF,hcr⟩:=hon7.drew.drew.tail.crep
   have hhas:=λw1 cc (h1:CRep w1 c.gT s.T TF)=>h1.has x.mode cc
   replace hon7:=hid hon7
   replace hdepD:=hid hdepD
   replace hdepR:=hid hdepR
   replace hrooD:=hid hrooD
   replace hrooR:=hid hrooR
   replace hhas:=hid hhas
   replace hcr:=hid hcr
   have hrmD:=hs.out.pd.rm
   have hrmR:=hs.out.pr.rm
   have w1:IntKind.i64.wrap (IntKind.i64.wrap ((s.d:Int) -tk) +L)= (s.d:Int) -tk+L:=by rw[IntWalk.i64_in ((s.d:Int) -tk) oM,IntWalk.i64_in _ oM]
   have w2:IntKind.i64.wrap (IntKind.i64.wrap ((s.r:Int) -off) +on)= (s.r:Int) -off+on:=by rw[IntWalk.i64_in ((s.r:Int) -off) oM,IntWalk.i64_in _ oM]
   by_cases k3: (s.d:Int) -tk+L<=(s.pd.rm:Int)
   rotate_left
   ·have k3':decide (IntKind.i64.wrap (IntKind.i64.wrap ((s.d:Int) -tk) +L)<=(s.pd.rm:Int))=false:=decide_eq_false (by rw[w1];exact k3)
    have hA1:A=2:=by rw[<-hask.out];rw[if_neg oM,if_neg oM,if_pos oM]
    subst hA1
    clear k3 w1 w2
    go_wp2_with fail
    go_region_held (λw'=>w'.cell? (g,0)=some (c.gM:Vl)∧w'.cell? (c.gM,5)=some (c.gD:Vl)) (go_keep)
     ((first
       | (go_at_call 158;refine hdepD.out.mono ?_;rintro e w5 ⟨rfl,rfl⟩)
       | (go_at_call 157;refine hrooD.out.mono ?_;rintro e w5 ⟨rfl,rfl⟩)
       | (go_at_call 207;refine dead (must_no _ _) ⟨rfl,rfl,hon7.out.tail.drew⟩ ?_;intro hF e w5 he hw;subst he;subst hw;replace hF:=hid hF)))
    all_goals exact hF.out.elim
   have k3':decide (IntKind.i64.wrap (IntKind.i64.wrap ((s.d:Int) -tk) +L)<=(s.pd.rm:Int))=true:=decide_eq_true (by rw[w1];exact k3)
   replace w2:=hid w2
   clear w1
   go_wp2_with fail
   go_region_held (λw'=>w'.cell? (g,0)=some (c.gM:Vl)∧w'.cell? (c.gM,5)=some (c.gD:Vl)) (go_keep)
    ((first
      | (go_at_call 158;refine hdepD.out.mono ?_;rintro e w5 ⟨rfl,rfl⟩)
      | (go_at_call 157;refine hrooD.out.mono ?_;rintro e w5 ⟨rfl,rfl⟩)
      | (go_at_call 207;refine(must_ok _ _).mono ?_;rintro e w5 ⟨rfl,rfl⟩)))
   clear k3'
   by_cases k4: (s.r:Int) -off+on<=(s.pr.rm:Int)
   rotate_left
   ·have k4':decide (IntKind.i64.wrap (IntKind.i64.wrap ((s.r:Int) -off) +on)<=(s.pr.rm:Int))=false:=decide_eq_false (by rw[w2.out];exact k4)
    have hA1:A=4:=by rw[<-hask.out];rw[if_neg oM,if_neg oM,if_neg oM,if_pos oM]
    subst hA1
    clear k4 w2
    go_wp2_with fail
    go_region_held (λw'=>w'.cell? (g,0)=some (c.gM:Vl)∧w'.cell? (c.gM,6)=some (c.gR:Vl)) (go_keep)
     ((first
       | (go_at_call 158;refine hdepR.out.mono ?_;rintro e w5 ⟨rfl,rfl⟩)
       | (go_at_call 157;refine hrooR.out.mono ?_;rintro e w5 ⟨rfl,rfl⟩)
       | (go_at_call 207;refine dead (must_no _ _) ⟨rfl,rfl,hon7.out.tail.drew.drew⟩ ?_;intro hF e w5 he hw;subst he;subst hw;replace hF:=hid hF)))
    all_goals exact hF.out.elim
   have k4':decide (IntKind.i64.wrap (IntKind.i64.wrap ((s.r:Int) -off) +on)<=(s.pr.rm:Int))=true:=decide_eq_true (by rw[w2.out];exact k4)
   clear w2
   go_wp2_with fail
   go_region_held (λw'=>w'.cell? (g,0)=some (c.gM:Vl)∧w'.cell? (c.gM,6)=some (c.gR:Vl)) (go_keep)
    ((first
      | (go_at_call 158;refine hdepR.out.mono ?_;rintro e w5 ⟨rfl,rfl⟩)
      | (go_at_call 157;refine hrooR.out.mono ?_;rintro e w5 ⟨rfl,rfl⟩)
      | (go_at_call 207;refine(must_ok _ _).mono ?_;rintro e w5 ⟨rfl,rfl⟩)))
   clear k4'
   go_wp2_with fail
   refine(v_needs op _).mono ?_
   rintro e w5 ⟨rfl,rfl⟩
   have hA1: (if needs op≠0∧Caps.has s.T.pupil x.mode (needs op)=false then 11 else 0)=A:=by
    have h:=hask.out
    rw[if_neg oM,if_neg oM,if_neg oM,if_neg oM]at h
    exact h
   clear hask k1 k2 k3 k4
   generalize needs op=nd at *
   by_cases k5:nd=0
   ·have e1: (nd==0)=true:=by simpa using k5
    have e2: (nd != 0)=false:=by simpa using k5
    have hA2:A=0:=by rw[<-hA1,if_neg (by simp[k5])]
    subst hA2
    clear k5 hA1
    go_wp2
    go_end0
    exact⟨rfl,hon7.out.tail.drew.drew⟩
   ·have e1: (nd==0)=false:=by simpa using k5
    have e2: (nd != 0)=true:=by simpa using k5
    have hh:=hhas.out wc.drew.drew.drew nd ((TabA c.gT s.T).kept hcr.out ((Kept.refl Nob _).drew) (λ_ _ h=>h))
    rcases hcp:Caps.has s.T.pupil x.mode nd with _|_
    ·have hA2:A=11:=by rw[<-hA1,if_pos ⟨k5,hcp⟩]
     rw[hcp]at hh
     subst hA2
     replace hh:=hid hh
     clear k5 hA1 hcp
     go_wp2_with fail
     go_region_held (λw'=>w'.cell? (g,0)=some (c.gM:Vl)∧w'.cell? (c.gM,3)=some (c.gT:Vl)∧w'.cell? (g,1)=some (x.mode:Vl)) (go_keep)
      ((first
        | (go_at_call 185;refine hh.out.mono ?_;rintro e w5 ⟨rfl,rfl⟩)
        | (go_at_call 207;refine dead (must_no _ _) ⟨rfl,rfl,hon7.out.tail.drew.drew.drew⟩ ?_;intro hF e w5 he hw;subst he;subst hw;replace hF:=hid hF)))
     all_goals exact hF.out.elim
    ·have hA2:A=0:=by rw[<-hA1,if_neg (by rintro⟨_,h⟩;rw[hcp]at h;cases h)]
     rw[hcp]at hh
     subst hA2
     replace hh:=hid hh
     clear k5 hA1 hcp
     go_wp2_with fail
     go_region_held (λw'=>w'.cell? (g,0)=some (c.gM:Vl)∧w'.cell? (c.gM,3)=some (c.gT:Vl)∧w'.cell? (g,1)=some (x.mode:Vl)) (go_keep)
      ((first
        | (go_at_call 185;refine hh.out.mono ?_;rintro e w5 ⟨rfl,rfl⟩)
        | (go_at_call 207;refine(must_ok _ _).mono ?_;rintro e w5 ⟨rfl,rfl⟩)))
     go_wp2
     go_end0
     exact⟨rfl,hon7.out.tail.drew.drew.drew⟩
end
structure Asked(i:Inst)(x:Rn)(s:Mt):Prop where
 tk: (Code.wants i.op).1<=(s.d:Int)
 off: (returns i.op i.arg s.same).1<=(s.r:Int) -x.base
 room: (s.d:Int) - (Code.wants i.op).1+ (if i.op=26∧s.top 0=0 then(Code.wants i.op).1 else(Code.wants i.op).2)<=s.pd.rm
 rroom: (s.r:Int) - (returns i.op i.arg s.same).1+ (returns i.op i.arg s.same).2<=s.pr.rm
 cap:needs i.op≠0->Caps.has s.T.pupil x.mode (needs i.op)=true
theorem Asked.wn{op arg lit cells:Int}{x:Rn}{s:Mt}(h:Asked ⟨op,arg,lit,cells⟩ x s)(m:Nat)(e: (Code.wants op).1=m:=by decide): (Code.wants op).1.toNat=m∧m<=s.d:=by
 have:=h.tk
 dsimp only at this
 omega
theorem Asked.of{i:Inst}{x:Rn}{s:Mt}(h:asks i x s=0):Asked i x s:=by
 unfold asks at h
 by_cases h1: (s.d:Int) < (Code.wants i.op).1
 ·rw[if_pos h1]at h;cases h
 rw[if_neg h1]at h
 by_cases h2: (s.r:Int) -x.base< (returns i.op i.arg s.same).1
 ·rw[if_pos h2]at h;cases h
 rw[if_neg h2]at h
 by_cases h3: (s.pd.rm:Int) <s.d- (Code.wants i.op).1+ (if i.op=26∧s.top 0=0 then(Code.wants i.op).1 else(Code.wants i.op).2)
 ·rw[if_pos h3]at h;cases h
 rw[if_neg h3]at h
 by_cases h4: (s.pr.rm:Int) <s.r- (returns i.op i.arg s.same).1+ (returns i.op i.arg s.same).2
 ·rw[if_pos h4]at h;cases h
 rw[if_neg h4]at h
 by_cases h5:needs i.op≠0∧Caps.has s.T.pupil x.mode (needs i.op)=false
 ·rw[if_pos h5]at h;cases h
 refine⟨by omega,by omega,by omega,by omega,λhn=> ?_⟩
 rcases hc:Caps.has s.T.pupil x.mode (needs i.op)with _|_
 ·exact absurd ⟨hn,hc⟩ h5
 ·rfl
def intsC(l:List Int):Array Value:=(l.map (Value.int .i64)).toArray
def PartOk(f:FuncId)(i:Inst)(q:Rn->Mt->Rs):Prop:=
 ∀(c:Vc) (g:Nat) (x:Rn) (src:Value) (s:Mt) (ba:Nat) (w:World) (F:Nat->Prop),s.Ok->x.Ok->V64 i.arg->V64 i.lit->Asked i x s->
  (AllA (BlkA ba 3 (intsC (s.args (Code.wants i.op).1.toNat))::vL c g x src s)).holds w F->
  Calls prog f #[g,i.v,.slice ba (Code.wants i.op).1.toNat (Code.wants i.op).1.toNat] w (Got (tryE (q x s).f) (AllA (BlkA ba 3 (intsC (s.args (Code.wants i.op).1.toNat))::vL c g (q x s).x src (q x s).s)) F w)
theorem On.callTail{P:Program}{f:FuncId}{args:Array Value}{w w':World}{F:Nat->Prop}{B:Asr}{L L':List Asr}{e0:Ending}(h:On F w (AllA (B::L)) w')(hc: ∀F',(AllA L).holds w' F'->(∃F3,B.holds w' F3∧∀k,F3 k->¬F' k)->(∀k,F' k->F k∨w.heap.size<=k)->Calls P f args w' (Got e0 (AllA L') F' w')):
 Calls P f args w' (Got e0 (AllA (B::L')) F w):=by
 obtain⟨F',⟨F1,F2,h1,h2,hd,hF⟩,hk,hF'⟩:=h
 refine(hc F2 h2 ⟨F1,h1,λk a b=>hd k a b⟩ (λk h=>hF' k ((hF k).2 (.inr h)))).mono ?_
 rintro e w2 ⟨rfl,F3,h3,hk3,hF3⟩
 refine⟨rfl,λk=>F1 k∨F3 k,⟨F1,F3,B.kept h1 hk3 (λk a b=>hd k a b),h3,λk a b=> ?_,λ_=>Iff.rfl⟩,hk.trans' hk3 (λk h=>hF' k ((hF k).2 (.inr h))),?_⟩
 ·rcases hF3 k b with c|c
  ·exact hd k a c
  ·have:=B.lt h1 a;omega
 ·rintro k (h|h)
  ·exact hF' k ((hF k).2 (.inl h))
  ·rcases hF3 k h with c|c
   ·exact hF' k ((hF k).2 (.inr c))
   ·exact .inr (Nat.le_trans hk.size c)
theorem On.callGW{P:Program}{f:FuncId}{args:Array Value}{w w':World}{F:Nat->Prop}{A A':Asr}{e0:Ending}(h:On F w A w')(hc: ∀F',A.holds w' F'->(∀k,F' k->F k∨w.heap.size<=k)->Calls P f args w' (Got e0 A' F' w')):Calls P f args w' (Got e0 A' F w):=by
 obtain⟨F',ha,hk,hF⟩:=h
 refine(hc F' ha hF).mono ?_
 rintro e w2 ⟨rfl,F2,ha2,hk2,hF2⟩
 refine⟨rfl,F2,ha2,hk.trans' hk2 hF,λk h=> ?_⟩
 rcases hF2 k h with h|h
 ·exact hF k h
 ·exact .inr (Nat.le_trans hk.size h)
theorem On.callDrop{P:Program}{f:FuncId}{args:Array Value}{e0:Ending}{L':List Asr}: ∀(n:Nat) {L:List Asr} {w w':World} {F:Nat->Prop},n<=L.length->On F w (AllA L) w'->
 (∀F',(AllA (L.drop n)).holds w' F'->(∀i B,i<n->L[i]? = some B->∃F3,B.holds w' F3∧∀k,F3 k->¬F' k)->(∀k,F' k->F k∨w.heap.size<=k)->Calls P f args w' (Got e0 (AllA L') F' w'))->Calls P f args w' (Got e0 (AllA (L.take n++L')) F w)
 | 0,L,w,w',F,_,h,hc=>h.callGW λF' hb hs=>hc F' hb (λi B hi=>absurd hi (Nat.not_lt_zero _)) hs
 | n+1,[],w,w',F,hn,h,hc=>by simp at hn
 | n+1,B::L,w,w',F,hn,h,hc=>h.callTail λF' hb ⟨F3,h3,hd⟩ hs=>
    On.callDrop n (by simpa using hn) (On.refl hb) λF'' hb'' hdis hs''=>hc F'' hb'' (λi C hi hC=>by
     cases i with
     | zero=>
       obtain rfl:B=C:=by simpa using hC
       refine⟨F3,h3,λk hk hk''=> ?_⟩
       rcases hs'' k hk'' with h4|h4
       ·exact hd k hk h4
       ·have:=All.lt hb'' hk'';omega
     | succ i=>exact hdis i C oM (by simpa using hC)) (λk hk=>by
       rcases hs'' k hk with h4|h4
       ·exact hs k h4
       ·have:=All.lt hb'' hk;omega)
theorem ctl_exit(arg lit cells:Int):PartOk 212 ⟨1,arg,lit,cells⟩ back:=by
 intro c g x src s ba w F hs hx hv1 hv2 hask hb
 have hon:=(On.refl hb).box #[(1:Int),arg,lit,cells] 293
 have h0:0<s.r:=by
  have h1:=hask.off
  have h2:=hx.base
  have e: (returns 1 arg s.same).1=1:=rfl
  simp only[e]at h1
  omega
 have hf: (back x s).f=0:=by unfold back;rw[if_neg oM]
 rw[hf]
 show Calls _ _ #[_,.agg #[(1:Int),arg,lit,cells],_] _ (Got (.returned (.tuple #[])) _ _ _)
 have hbk:=hon.callDrop 2 (by simp) λF'' hb'' _ _=>v_back hb'' hs h0
 generalize (back x s).x=x' at *
 generalize (back x s).s=s' at *
 generalize intsC (s.args (Code.wants 1).1.toNat)=ac at *
 generalize (Code.wants 1).1.toNat=n at *
 replace hbk:=hid hbk
 clear hb hs hx hask hf h0 hon
 go_enter func212,ntmps212
 go_wp2_with fail
 refine mo hbk.out λw1 h=>?_
 replace h:=hid h
 go_wp2
 go_end0
 exact⟨rfl,h.out.tail⟩
theorem lays_f{s:Mt}{n:Nat}{l:List Int}(hroom:l.length<=s.pd.rm- (s.d-n)): (s.lays n l).1=0:=by unfold Mt.lays;rw[if_neg oM]
theorem v_lays_under{w w':World}{F:Nat->Prop}{c:Vc}{g:Nat}{x:Rn}{src:Value}{s:Mt}(m:Nat){L:List Asr}(hm:m<=L.length)(hL:L.drop m=vL c g x src s)(h:On F w (AllA L) w')(hs:s.Ok)(n:Nat)(hn:n<=s.d)(l:List Int)(hl: ∀v∈l,V64 v)
 (j:Nat) (hj:j<m) (rb:Nat) (hrow:L[j]? = some (BlkA rb 3 (intsC l))) (hroom:l.length<=s.pd.rm- (s.d-n)):
 Calls prog 213 #[g,(n:Int),.slice rb l.length l.length] w' (Got (.returned (.tuple #[])) (AllA (L.take m++vL c g x src (s.lays n l).2)) F w):=by
 refine h.callDrop m hm λF' hb hdis _=> ?_
 rw[hL]at hb
 obtain⟨F3,hB,hfar⟩:=hdis j _ hj hrow
 refine v_lays hb hs n hn l hl (some ⟨rb,0,none⟩) l.length ?_ ?_ hroom
 ·intro k v hk
  refine⟨_,rfl,?_⟩
  have h1:=hB.1.cell k
  have h2: ((⟨rb,0,none⟩:Addr).add k)= ⟨rb,k,none⟩:=by simp[Addr.add];intro h;exact h.symm
  rw[h2,h1]
  simp[intsC,hk]
 ·intro a ha
  obtain rfl:a= ⟨rb,0,none⟩:=by injection ha with ha;exact ha.symm
  exact⟨λhk=>hfar rb ((hB.2 rb).2 rfl) hk,hB.1.lt⟩
theorem v_lays_nil{w w':World}{F:Nat->Prop}{c:Vc}{g:Nat}{x:Rn}{src:Value}{s:Mt}(m:Nat){L:List Asr}(hm:m<=L.length)(hL:L.drop m=vL c g x src s)(h:On F w (AllA L) w')(hs:s.Ok)(n:Nat)(hn:n<=s.d):
 Calls prog 213 #[g,(n:Int),.slice none 0 0] w' (Got (.returned (.tuple #[])) (AllA (L.take m++vL c g x src (s.lays n []).2)) F w):=by
 refine h.callDrop m hm λF' hb hdis _=> ?_
 rw[hL]at hb
 refine v_lays hb hs n hn [] (λv hv=>by cases hv) none 0 (λk v hk=>by simp at hk) (λa ha=>by cases ha) (by simp)
theorem ctl_lit(arg lit cells:Int):PartOk 212 ⟨2,arg,lit,cells⟩ (laysR 0 [lit]):=by
 intro c g x src s ba w F hs hx hv1 hv2 hask hb
 have hon:=(On.refl hb).box #[(2:Int),arg,lit,cells] 293
 have hroom : [lit].length<=s.pd.rm- (s.d-0):=by
  have h1:=hask.room
  have e1: (Code.wants 2).1=0:=by decide
  have e2: (Code.wants 2).2=1:=by decide
  simp[e1,e2]at h1
  simp
  omega
 have hf: (laysR 0 [lit] x s).f=0:=lays_f hroom
 rw[hf]
 show Calls _ _ #[_,.agg #[(2:Int),arg,lit,cells],_] _ (Got (.returned (.tuple #[])) _ _ _)
 have hbx:=hon.box #[lit] 3
 have hz: (w.alloc (.cells #[(2:Int),arg,lit,cells] 293)).heap.size=w.heap.size+1:=by simp
 rw[hz]at hbx
 have hlay:=v_lays_under (c:=c) (g:=g) (x:=x) (src:=src) (s:=s) 3 (by simp) rfl hbx hs 0 (Nat.zero_le _) [lit] (λv hv=>by rw[List.mem_singleton.1 hv];exact hv2) 0 oM (w.heap.size+1) rfl hroom
 have b2: (w.alloc (.cells #[(2:Int),arg,lit,cells] 293)).cell? (w.heap.size,2)=some (lit:Vl):=(hon.blkAt 0 rfl).cell 2
 show Calls _ _ _ _ (Got _ (AllA (_::vL c g x src (s.lays 0 [lit]).2)) _ _)
 generalize (s.lays 0 [lit]).2=s' at *
 generalize intsC (s.args (Code.wants 2).1.toNat)=ac at *
 generalize (Code.wants 2).1.toNat=n at *
 replace hlay:=hid hlay
 clear hb hs hx hask hf hon hbx hroom
 go_enter func212,ntmps212
 go_wp2_with fail
 refine mo hlay.out λw1 h=>?_
 replace h:=hid h
 go_wp2
 go_end0
 exact⟨rfl,h.out.tail.tail⟩
def Carries(B:Asr)(A:Option Addr)(l:List Int):Prop:= ∀w F,B.holds w F->Ints w A l∧∀a,A=some a->F a.block
theorem carries_row(rb:Nat)(l:List Int):Carries (BlkA rb 3 (intsC l)) (some ⟨rb,0,none⟩) l:=by
 intro w F hB
 refine⟨?_,?_⟩
 ·intro k v hk
  refine⟨_,rfl,?_⟩
  have h1:=hB.1.cell k
  have h2: ((⟨rb,0,none⟩:Addr).add k)= ⟨rb,k,none⟩:=by simp[Addr.add];intro h;exact h.symm
  rw[h2,h1]
  simp[intsC,hk]
 ·intro a ha
  obtain rfl:a= ⟨rb,0,none⟩:=by injection ha with ha;exact ha.symm
  exact(hB.2 rb).2 rfl
theorem carries_nil(B:Asr):Carries B none []:=λw F _=>⟨λk v hk=>by simp at hk,λa ha=>by cases ha⟩
def Gives(l:List Int)(L:List Asr)(F:Nat->Prop)(w:World)(e:Ending)(w':World):Prop:=
 ∃A cap B,e = .returned (.slice A l.length cap)∧Carries B A l∧On F w (AllA (B::L)) w'
theorem v_lays_of{w w':World}{F:Nat->Prop}{c:Vc}{g:Nat}{x:Rn}{src:Value}{s:Mt}{B:Asr}(h:On F w (AllA (B::vL c g x src s)) w')(hs:s.Ok)(n:Nat)(hn:n<=s.d)(l:List Int)(hl: ∀v∈l,V64 v)
 (A:Option Addr) (cap:Nat) (hB:Carries B A l) (hroom:l.length<=s.pd.rm- (s.d-n)):
 Calls prog 213 #[.pointer (some ⟨g,0,none⟩),.int .i64 (n:Int),.slice A l.length cap] w' (Got (.returned (.tuple #[])) (AllA (B::vL c g x src (s.lays n l).2)) F w):=by
 refine h.callTail λF' hb ⟨F3,hh,hfar⟩ hs'=> ?_
 obtain⟨h1,h2⟩:=hB _ _ hh
 exact v_lays hb hs n hn l hl A cap h1 (λa ha=>⟨λhk=>hfar _ (h2 a ha) hk,B.lt hh (h2 a ha)⟩) hroom
def DoesOk(i:Inst)(q:Rn->Mt->Rs):Prop:=
 ∀(c:Vc) (g:Nat) (x:Rn) (src:Value) (s:Mt) (w:World) (F:Nat->Prop),s.Ok->x.Ok->V64 i.arg->V64 i.lit->Asked i x s->(VA c g x src s).holds w F->
  Calls prog 195 #[.pointer (some ⟨g,0,none⟩),i.v] w (Got (tryE (q x s).f) (VA c g (q x s).x src (q x s).s) F w)
theorem v_args'{w:World}{F:Nat->Prop}{c:Vc}{g:Nat}{x:Rn}{src:Value}{s:Mt}(hb: (VA c g x src s).holds w F)(hs:s.Ok)(n:Nat)(hn:n<=8):
 Calls prog 211 #[.pointer (some ⟨g,0,none⟩),.int .i64 (n:Int)] w (Got (.returned (.slice (some ⟨w.heap.size,0,none⟩) n n)) (AllA (BlkA w.heap.size 3 (intsC (s.args n))::vL c g x src s)) F w):=by
 refine mo (v_args hb hs n hn) λw' h=>?_
 rw[argsK_cells]at h
 exact⟨rfl,h⟩
theorem does_control(i:Inst)(q:Rn->Mt->Rs)(hop:i.op<=20)(hq:PartOk 212 i q):DoesOk i q:=by
 intro c g x src s w F hs hx hv1 hv2 hask hb
 obtain⟨op,arg,lit,cells⟩:=i
 simp only at hop
 show Calls _ _ #[_,.agg #[.int .i64 op,.int .i64 arg,.int .i64 lit,.int .i64 cells]] _ _
 have hon:=(On.refl hb).box #[.int .i64 op,.int .i64 arg,.int .i64 lit,.int .i64 cells] 293
 have hw:=wants_le op
 have hwa:=λw=>v_wants op w
 obtain⟨n,hn⟩: ∃n:Nat,(Code.wants op).1= (n:Int):=⟨(Code.wants op).1.toNat,by omega⟩
 have hn2: (Code.wants op).1.toNat=n:=by omega
 have hn8:n<=8:=by omega
 rw[hn]at hwa
 generalize (Code.wants op).2=ly at *
 have hargs:=λw1 (h1:On F w (AllA (BlkA w.heap.size 293 #[.int .i64 op,.int .i64 arg,.int .i64 lit,.int .i64 cells]::vL c g x src s)) w1)=>h1.callTail λF' hb' _ _=>v_args' hb' hs n hn8
 have hctl: ∀w1 w2 ba,On F w (AllA (BlkA w1 293 #[.int .i64 op,.int .i64 arg,.int .i64 lit,.int .i64 cells]::BlkA ba 3 (intsC (s.args n))::vL c g x src s)) w2->
  Calls prog 212 #[.pointer (some ⟨g,0,none⟩),.agg #[.int .i64 op,.int .i64 arg,.int .i64 lit,.int .i64 cells],.slice (some ⟨ba,0,none⟩) n n] w2 (Got (tryE (q x s).f) (AllA (BlkA w1 293 #[.int .i64 op,.int .i64 arg,.int .i64 lit,.int .i64 cells]::BlkA ba 3 (intsC (s.args n))::vL c g (q x s).x src (q x s).s)) F w):=by
  intro w1 w2 ba h
  refine h.callTail λF' hb' _ _=> ?_
  have h1:=hq c g x src s ba w2 F' hs hx hv1 hv2 hask
  simp only[hn2]at h1
  exact h1 hb'
 have hle:decide (op<=20)=true:=decide_eq_true hop
 generalize q x s=Q at *
 obtain⟨f,x',s'⟩:=Q
 simp only at hctl⊢
 replace hwa:=hid hwa
 replace hargs:=hid hargs
 replace hctl:=hid hctl
 replace hon:=hid hon
 clear hb hq hs hx hask hw hn hn2 hv1 hv2 hop
 go_enter func195,ntmps195
 go_wp2_with fail
 refine mo (hwa.out _) λw1 hb1=>?_
 have hon1:=hon.out.below hb1
 replace hargs:=hid (hargs.out _ hon1)
 clear hb1
 go_wp2_with fail
 refine mo hargs.out λw2 hon2=>?_
 have b0:w2.cell? ⟨w.heap.size,0,none⟩=some (.int .i64 op):=(hon2.blkAt 0 rfl).cell 0
 have b1:w2.cell? ⟨w.heap.size,1,none⟩=some (.int .i64 arg):=(hon2.blkAt 0 rfl).cell 1
 have b2:w2.cell? ⟨w.heap.size,2,none⟩=some (.int .i64 lit):=(hon2.blkAt 0 rfl).cell 2
 have b3:w2.cell? ⟨w.heap.size,3,none⟩=some (.int .i64 cells):=(hon2.blkAt 0 rfl).cell 3
 replace hctl:=hid (hctl.out _ _ _ hon2)
 clear hon2 hon1
 go_wp2_with fail
 refine hctl.out.mono ?_
 rintro e w3 ⟨he,hon3⟩
 have hon4:=hid hon3.tail.tail
 clear hon3
 by_cases hf:f=0
 ·have he2:tryE f = .returned (.tuple #[]):=by unfold tryE;rw[if_pos hf]
  rw[he2]at he
  subst he
  replace he2:=hid he2
  clear hf
  go_wp2
  go_end0
  exact⟨he2.out.symm,hon4.out⟩
 ·have he2:tryE f = .panicked [flt f]:=by unfold tryE;rw[if_neg hf]
  rw[he2]at he
  subst he
  replace he2:=hid he2
  clear hf
  go_wp2
  exact⟨rfl,he2.out.symm,hon4.out⟩
theorem On.callTailR{P:Program}{f:FuncId}{args:Array Value}{w w':World}{F:Nat->Prop}{B:Asr}{L:List Asr}{R:Ending->List Asr->Prop}(h:On F w (AllA (B::L)) w')(hc: ∀F',(AllA L).holds w' F'->Calls P f args w' (λe w2=> ∃L',R e L'∧On F' w' (AllA L') w2)):
 Calls P f args w' (λe w2=> ∃L',R e L'∧On F w (AllA (B::L')) w2):=by
 obtain⟨F',⟨F1,F2,h1,h2,hd,hF⟩,hk,hF'⟩:=h
 refine(hc F2 h2).mono ?_
 rintro e w2 ⟨L',hR,F3,h3,hk3,hF3⟩
 refine⟨L',hR,λk=>F1 k∨F3 k,⟨F1,F3,B.kept h1 hk3 (λk a b=>hd k a b),h3,λk a b=> ?_,λ_=>Iff.rfl⟩,hk.trans' hk3 (λk h=>hF' k ((hF k).2 (.inr h))),?_⟩
 ·rcases hF3 k b with c|c
  ·exact hd k a c
  ·have:=B.lt h1 a;omega
 ·rintro k (h|h)
  ·exact hF' k ((hF k).2 (.inl h))
  ·rcases hF3 k h with c|c
   ·exact hF' k ((hF k).2 (.inr c))
   ·exact .inr (Nat.le_trans hk.size c)
def GivesOk(f:FuncId)(pre:Nat->Array Value)(i:Inst)(l:Mt->List Int):Prop:=
 ∀(c:Vc) (g:Nat) (x:Rn) (src:Value) (s:Mt) (ba:Nat) (w:World) (F:Nat->Prop),s.Ok->Asked i x s->
  (AllA (BlkA ba 3 (intsC (s.args (Code.wants i.op).1.toNat))::vL c g x src s)).holds w F->
  Calls prog f (pre g++#[.int .i64 i.op,.slice (some ⟨ba,0,none⟩) (Code.wants i.op).1.toNat (Code.wants i.op).1.toNat]) w (Gives (l s) (vL c g x src s) F w)
def ar(s:Mt)(n j:Nat):Int:=(s.args n).getD j 0
theorem args_len(s:Mt)(n:Nat): (s.args n).length=n:=by simp[Mt.args]
theorem args_get(s:Mt)(n j:Nat)(hj:j<n): (s.args n)[j]? = some (ar s n j):=by
 unfold ar
 rw[List.getD_eq_getElem?_getD,List.getElem?_eq_getElem (by rw[args_len];exact hj)]
 rfl
theorem row_get{w:World}{ba n j:Nat}{s:Mt}(h:Blk w ba 3 (intsC (s.args n)))(hj:j<n):w.cell? (ba,j)=some ((ar s n j):Vl):=by
 rw[h.cell]
 simp[intsC,args_get s n j hj]
theorem g_pair(op arg lit cells:Int)(h4: (op==34)=false)(h5: (op==35)=false)(h6: (op==36)=false)(h7: (op==37)=false)(h8: (op==38)=false)(h53: (op==53)=false)(h54: (op==54)=false)(h55: (op==55)=false)(h56: (op==56)=false)(h57: (op==57)=false)
 (hw: (Code.wants op).1=2) (v:Int->Int->Int) (hp: ∀x y w,Calls prog 237 #[op,.int .i64 x,.int .i64 y] w (Same (v x y) w)):
 GivesOk 215 (λ_=>#[]) ⟨op,arg,lit,cells⟩ (λs=>[v (ar s 2 0) (ar s 2 1)]):=by
 intro c g x src s ba w F hs hask hb
 have hw2: (Code.wants op).1.toNat=2:=by omega
 simp only[hw2]at hb⊢
 have hon:=On.refl hb
 have hrow:=hon.blkAt 0 rfl
 have a0:=row_get hrow (j:=0) oM
 have a1:=row_get hrow (j:=1) oM
 generalize ar s 2 0=X at *
 generalize ar s 2 1=Y at *
 have hp1:=λw=>hp X Y w
 generalize v X Y=V at *
 have hbx:=λw1 (h:On F w (AllA (BlkA ba 3 (intsC (s.args 2))::vL c g x src s)) w1)=>h.tail.box #[V] 3
 replace hbx:=hid hbx
 replace hp1:=hid hp1
 replace hon:=hid hon
 clear hb hrow hp hw hw2 hask hs
 show Calls _ _ #[op,.slice ba 2 2] _ _
 go_enter func215,ntmps215
 go_wp2_with fail
 go_region_held (λw'=>w'.cell? (ba,0)=some (X:Vl)∧w'.cell? (ba,1)=some (Y:Vl)) (go_keep)
  ((go_at_call 237;refine(hp1.out _).mono ?_;rintro e w5 ⟨rfl,rfl⟩))
 go_wp2
 all_goals go_ret
 all_goals exact⟨some ⟨w.heap.size,0,none⟩,1,BlkA w.heap.size 3 (intsC [V]),rfl,carries_row _ _,(hbx.out w hon.out).drew⟩
theorem g_alone(op arg lit cells:Int)(h4: (op==34)=false)(h5: (op==35)=false)(h6: (op==36)=false)(h7: (op==37)=false)(h8: (op==38)=false)(h53: (op==53)=false)(h54: (op==54)=false)(h55: (op==55)=false)(h56: (op==56)=false)(h57: (op==57)=false)
 (hw: (Code.wants op).1=1) (v:Int->Int) (hp: ∀x w,Calls prog 236 #[op,.int .i64 x] w (Same (v x) w)):
 GivesOk 215 (λ_=>#[]) ⟨op,arg,lit,cells⟩ (λs=>[v (ar s 1 0)]):=by
 intro c g x src s ba w F hs hask hb
 have hw2: (Code.wants op).1.toNat=1:=by omega
 simp only[hw2]at hb⊢
 have hon:=On.refl hb
 have hrow:=hon.blkAt 0 rfl
 have a0:=row_get hrow (j:=0) oM
 generalize ar s 1 0=X at *
 have hp1:=λw=>hp X w
 generalize v X=V at *
 have hbx:=λw1 (h:On F w (AllA (BlkA ba 3 (intsC (s.args 1))::vL c g x src s)) w1)=>h.tail.box #[V] 3
 replace hbx:=hid hbx
 replace hp1:=hid hp1
 replace hon:=hid hon
 clear hb hrow hp hw hw2 hask hs
 show Calls _ _ #[op,.slice ba 1 1] _ _
 go_enter func215,ntmps215
 go_wp2_with fail
 refine(hp1.out _).mono ?_
 rintro e w5 ⟨rfl,rfl⟩
 go_wp2
 all_goals go_ret
 all_goals exact⟨some ⟨w5.heap.size,0,none⟩,1,BlkA w5.heap.size 3 (intsC [V]),rfl,carries_row _ _,hbx.out w5 hon.out⟩
theorem pair_add(x y:Int)(w:World):Calls prog 237 #[(31:Int),x,y] w (Same (wrap64 (x+y)) w):=by
 go_enter func237,ntmps237
 go_wp2
 go_ret
 exact⟨rfl,rfl⟩
theorem pair_sub(x y:Int)(w:World):Calls prog 237 #[(32:Int),x,y] w (Same (wrap64 (x-y)) w):=by
 go_enter func237,ntmps237
 go_wp2
 go_ret
 exact⟨rfl,rfl⟩
theorem pair_mul(x y:Int)(w:World):Calls prog 237 #[(33:Int),x,y] w (Same (wrap64 (x*y)) w):=by
 go_enter func237,ntmps237
 go_wp2
 go_ret
 exact⟨rfl,rfl⟩
theorem alone_neg(x:Int)(w:World):Calls prog 236 #[(39:Int),x] w (Same (wrap64 (-x)) w):=by
 go_enter func236,ntmps236
 go_wp2
 go_ret
 exact⟨rfl,rfl⟩
theorem alone_inc(x:Int)(w:World):Calls prog 236 #[(43:Int),x] w (Same (wrap64 (x+1)) w):=by
 go_enter func236,ntmps236
 go_wp2
 go_ret
 exact⟨rfl,rfl⟩
theorem alone_dec(x:Int)(w:World):Calls prog 236 #[(44:Int),x] w (Same (wrap64 (x-1)) w):=by
 go_enter func236,ntmps236
 go_wp2
 go_ret
 exact⟨rfl,rfl⟩
theorem m_dup(arg lit cells:Int):GivesOk 214 (λg=>#[.pointer (some ⟨g,0,none⟩)]) ⟨21,arg,lit,cells⟩ (λs=>[ar s 1 0,ar s 1 0]):=by
 intro c g x src s ba w F hs hask hb
 have hw2: (Code.wants 21).1.toNat=1:=by decide
 simp only[hw2]at hb⊢
 have hon:=On.refl hb
 have hrow:=hon.blkAt 0 rfl
 have a0:=row_get hrow (j:=0) oM
 generalize ar s 1 0=X at *
 have hbx:=hon.tail.box #[X,X] 3
 replace hbx:=hid hbx
 clear hb hrow hw2 hask hs hon
 show Calls _ _ #[g,(21:Int),.slice ba 1 1] _ _
 go_enter func214,ntmps214
 go_wp2_with fail
 go_region
 all_goals go_wp2
 all_goals go_ret
 all_goals exact⟨some ⟨w.heap.size,0,none⟩,2,BlkA w.heap.size 3 (intsC [X,X]),rfl,carries_row _ _,hbx.out.drew⟩
theorem m_drop(arg lit cells:Int):GivesOk 214 (λg=>#[.pointer (some ⟨g,0,none⟩)]) ⟨22,arg,lit,cells⟩ (λs=>[]):=by
 intro c g x src s ba w F hs hask hb
 have hw2: (Code.wants 22).1.toNat=1:=by decide
 simp only[hw2]at hb⊢
 have hon:=On.refl hb
 replace hon:=hid hon
 clear hb hw2 hask hs
 show Calls _ _ #[g,(22:Int),.slice ba 1 1] _ _
 go_enter func214,ntmps214
 go_wp2
 go_ret
 exact⟨none,0,_,rfl,carries_nil _,hon.out⟩
theorem m_swap(arg lit cells:Int):GivesOk 214 (λg=>#[.pointer (some ⟨g,0,none⟩)]) ⟨23,arg,lit,cells⟩ (λs=>[ar s 2 1,ar s 2 0]):=by
 intro c g x src s ba w F hs hask hb
 have hw2: (Code.wants 23).1.toNat=2:=by decide
 simp only[hw2]at hb⊢
 have hon:=On.refl hb
 have hrow:=hon.blkAt 0 rfl
 have a0:=row_get hrow (j:=0) oM
 have a1:=row_get hrow (j:=1) oM
 generalize ar s 2 0=X at *
 generalize ar s 2 1=Y at *
 have hbx:=hon.tail.box #[Y,X] 3
 replace hbx:=hid hbx
 clear hb hrow hw2 hask hs hon
 show Calls _ _ #[g,(23:Int),.slice ba 2 2] _ _
 go_enter func214,ntmps214
 go_wp2_with fail
 go_region
 all_goals go_wp2
 all_goals go_ret
 all_goals exact⟨some ⟨w.heap.size,0,none⟩,2,BlkA w.heap.size 3 (intsC [Y,X]),rfl,carries_row _ _,hbx.out.drew⟩
theorem m_over(arg lit cells:Int):GivesOk 214 (λg=>#[.pointer (some ⟨g,0,none⟩)]) ⟨24,arg,lit,cells⟩ (λs=>[ar s 2 0,ar s 2 1,ar s 2 0]):=by
 intro c g x src s ba w F hs hask hb
 have hw2: (Code.wants 24).1.toNat=2:=by decide
 simp only[hw2]at hb⊢
 have hon:=On.refl hb
 have hrow:=hon.blkAt 0 rfl
 have a0:=row_get hrow (j:=0) oM
 have a1:=row_get hrow (j:=1) oM
 generalize ar s 2 0=X at *
 generalize ar s 2 1=Y at *
 have hbx:=hon.tail.box #[X,Y,X] 3
 replace hbx:=hid hbx
 clear hb hrow hw2 hask hs hon
 show Calls _ _ #[g,(24:Int),.slice ba 2 2] _ _
 go_enter func214,ntmps214
 go_wp2_with fail
 go_region
 all_goals go_wp2
 all_goals go_ret
 all_goals exact⟨some ⟨w.heap.size,0,none⟩,3,BlkA w.heap.size 3 (intsC [X,Y,X]),rfl,carries_row _ _,hbx.out.drew⟩
def GivesR(f:FuncId)(pre:Nat->Array Value)(i:Inst)(q:Rn->Mt->Rs×List Int):Prop:=
 ∀(c:Vc) (g:Nat) (x:Rn) (src:Value) (s:Mt) (ba:Nat) (w:World) (F:Nat->Prop),s.Ok->x.Ok->Asked i x s->
  (AllA (BlkA ba 3 (intsC (s.args (Code.wants i.op).1.toNat))::vL c g x src s)).holds w F->
  Calls prog f (pre g++#[.int .i64 i.op,.slice (some ⟨ba,0,none⟩) (Code.wants i.op).1.toNat (Code.wants i.op).1.toNat]) w
   (λe w'=>if(q x s).1.f=0 then Gives (q x s).2 (vL c g (q x s).1.x src (q x s).1.s) F w e w' else e = .panicked [flt (q x s).1.f]∧On F w (VA c g (q x s).1.x src (q x s).1.s) w')
def Rs.laid(n:Nat)(p:Rs×List Int):Rs:=if p.1.f=0 then laysR n p.2 p.1.x p.1.s else p.1
def LaysOk(i:Inst)(q:Rn->Mt->Rs×List Int):Prop:= ∀x s,s.Ok->x.Ok->Asked i x s->(q x s).1.f=0->
 (q x s).1.s.Ok∧(q x s).1.s.d=s.d∧(q x s).2.length<=(q x s).1.s.pd.rm- (s.d- (Code.wants i.op).1.toNat)∧∀v∈(q x s).2,V64 v
abbrev Kn:=Vc->Value->Mt->Prop
def GivesG(P:Kn)(f:FuncId)(pre:Nat->Array Value)(i:Inst)(q:Rn->Mt->Rs×List Int):Prop:=
 ∀(c:Vc) (g:Nat) (x:Rn) (src:Value) (s:Mt) (ba:Nat) (w:World) (F:Nat->Prop),P c src s->s.Ok->x.Ok->Asked i x s->
  (AllA (BlkA ba 3 (intsC (s.args (Code.wants i.op).1.toNat))::vL c g x src s)).holds w F->
  Calls prog f (pre g++#[.int .i64 i.op,.slice (some ⟨ba,0,none⟩) (Code.wants i.op).1.toNat (Code.wants i.op).1.toNat]) w
   (λe w'=>if(q x s).1.f=0 then Gives (q x s).2 (vL c g (q x s).1.x src (q x s).1.s) F w e w' else e = .panicked [flt (q x s).1.f]∧On F w (VA c g (q x s).1.x src (q x s).1.s) w')
def LaysG(P:Kn)(i:Inst)(q:Rn->Mt->Rs×List Int):Prop:= ∀c src x s,P c src s->s.Ok->x.Ok->Asked i x s->(q x s).1.f=0->
 (q x s).1.s.Ok∧(q x s).1.s.d=s.d∧(q x s).2.length<=(q x s).1.s.pd.rm- (s.d- (Code.wants i.op).1.toNat)∧∀v∈(q x s).2,V64 v
def DoesG(P:Kn)(i:Inst)(q:Rn->Mt->Rs):Prop:=
 ∀(c:Vc) (g:Nat) (x:Rn) (src:Value) (s:Mt) (w:World) (F:Nat->Prop),P c src s->s.Ok->x.Ok->V64 i.arg->V64 i.lit->Asked i x s->(VA c g x src s).holds w F->
  Calls prog 195 #[.pointer (some ⟨g,0,none⟩),i.v] w (Got (tryE (q x s).f) (VA c g (q x s).x src (q x s).s) F w)
theorem DoesOk.toG{i:Inst}{q:Rn->Mt->Rs}(h:DoesOk i q)(P:Kn):DoesG P i q:=λc g x src s w F _=>h c g x src s w F
theorem GivesR.toG{f:FuncId}{pre:Nat->Array Value}{i:Inst}{q:Rn->Mt->Rs×List Int}(h:GivesR f pre i q)(P:Kn):GivesG P f pre i q:=λc g x src s ba w F _=>h c g x src s ba w F
inductive Sel:Int->FuncId->(Nat->Array Value)->(Nat->Int->Nat->Nat->Array Value)->Prop
 | moved {op:Int} (h1:20<op) (h2:op<=30):Sel op 214 (λg=>#[.pointer (some ⟨g,0,none⟩)]) (λg op ba n=>#[.pointer (some ⟨g,0,none⟩),.int .i64 op,.slice (some ⟨ba,0,none⟩) n n])
 | reckoned {op:Int} (h1:30<op) (h2:op<=64):Sel op 215 (λ_=>#[]) (λ_ op ba n=>#[.int .i64 op,.slice (some ⟨ba,0,none⟩) n n])
 | memory {op:Int} (h1:64<op) (h2:op<=71):Sel op 216 (λg=>#[.pointer (some ⟨g,0,none⟩)]) (λg op ba n=>#[.pointer (some ⟨g,0,none⟩),.int .i64 op,.slice (some ⟨ba,0,none⟩) n n])
 | lists {op:Int} (h1:71<op) (h2:op<=77):Sel op 217 (λg=>#[.pointer (some ⟨g,0,none⟩)]) (λg op ba n=>#[.pointer (some ⟨g,0,none⟩),.int .i64 op,.slice (some ⟨ba,0,none⟩) n n])
 | goes {op:Int} (h1:77<op) (h2:op<=84):Sel op 218 (λg=>#[.pointer (some ⟨g,0,none⟩)]) (λg op ba n=>#[.pointer (some ⟨g,0,none⟩),.int .i64 op,.slice (some ⟨ba,0,none⟩) n n])
 | told {op:Int} (h1:85<op) (h2:op<=92):Sel op 221 (λg=>#[.pointer (some ⟨g,0,none⟩)]) (λg op ba n=>#[.pointer (some ⟨g,0,none⟩),.int .i64 op,.slice (some ⟨ba,0,none⟩) n n])
 | complexes {op:Int} (h1:93<op) (h2:op<=99):Sel op 222 (λ_=>#[]) (λ_ op ba n=>#[.int .i64 op,.slice (some ⟨ba,0,none⟩) n n])
 | turtle {op:Int} (h1:99<op) (h2:op<=104):Sel op 223 (λg=>#[.pointer (some ⟨g,0,none⟩)]) (λg op ba n=>#[.pointer (some ⟨g,0,none⟩),.int .i64 op,.slice (some ⟨ba,0,none⟩) n n])
theorem Sel.eq{op:Int}{fn:FuncId}{pre:Nat->Array Value}{a:Nat->Int->Nat->Nat->Array Value}(h:Sel op fn pre a)(g ba n:Nat):pre g++#[.int .i64 op,.slice (some ⟨ba,0,none⟩) n n]=a g op ba n:=by
 cases h<;>rfl
theorem does3_all(P:Kn)(i:Inst)(q:Rn->Mt->Rs×List Int){fn:FuncId}{pre:Nat->Array Value}{ar2:Nat->Int->Nat->Nat->Array Value}(hsel:Sel i.op fn pre ar2)(hq:GivesG P fn pre i q)(hlen:LaysG P i q):DoesG P i (λx s=>Rs.laid (Code.wants i.op).1.toNat (q x s)):=by
 intro c g x src s w F hp hs hx hv1 hv2 hask hb
 obtain⟨op,arg,lit,cells⟩:=i
 simp only at hsel
 have hse:=hsel.eq g
 show Calls _ _ #[_,.agg #[.int .i64 op,.int .i64 arg,.int .i64 lit,.int .i64 cells]] _ _
 have hon:=(On.refl hb).box #[.int .i64 op,.int .i64 arg,.int .i64 lit,.int .i64 cells] 293
 have hw:=wants_le op
 have htk:=hask.tk
 have hwa:=λw=>v_wants op w
 obtain⟨n,hn⟩: ∃n:Nat,(Code.wants op).1= (n:Int):=⟨(Code.wants op).1.toNat,by omega⟩
 have hn2: (Code.wants op).1.toNat=n:=by omega
 have hn8:n<=8:=by omega
 rw[hn]at hwa htk
 have hnd:n<=s.d:=by omega
 have hlen:=hlen c src x s hp hs hx hask
 simp only[hn2]at hlen⊢
 generalize (Code.wants op).2=ly at *
 have hargs:=λw1 (h1:On F w (AllA (BlkA w.heap.size 293 #[.int .i64 op,.int .i64 arg,.int .i64 lit,.int .i64 cells]::vL c g x src s)) w1)=>h1.callTail λF' hb' _ _=>v_args' hb' hs n hn8
 have hmov: ∀w1 w2 ba,On F w (AllA (BlkA w1 293 #[.int .i64 op,.int .i64 arg,.int .i64 lit,.int .i64 cells]::BlkA ba 3 (intsC (s.args n))::vL c g x src s)) w2->
  Calls prog fn (ar2 g op ba n) w2 (λe w3=> ∃L',(if(q x s).1.f=0 then(∃A cap B,e = .returned (.slice A (q x s).2.length cap)∧Carries B A (q x s).2∧L'=B::vL c g (q x s).1.x src (q x s).1.s)else e = .panicked [flt (q x s).1.f]∧L'=vL c g (q x s).1.x src (q x s).1.s)∧On F w (AllA (BlkA w1 293 #[.int .i64 op,.int .i64 arg,.int .i64 lit,.int .i64 cells]::L')) w3):=by
  intro w1 w2 ba h
  refine h.callTailR λF' hb'=> ?_
  have h1:=hq c g x src s ba w2 F' hp hs hx hask
  simp only[hn2,hse]at h1
  refine(h1 hb').mono ?_
  intro e w3 hh
  by_cases hf: (q x s).1.f=0
  ·rw[if_pos hf]at hh
   obtain⟨A,cap,B,he,hB,hon⟩:=hh
   refine⟨_,?_,hon⟩
   rw[if_pos hf]
   exact⟨A,cap,B,he,hB,rfl⟩
  ·rw[if_neg hf]at hh
   obtain⟨he,hon⟩:=hh
   refine⟨_,?_,hon⟩
   rw[if_neg hf]
   exact⟨he,rfl⟩
 generalize hQ:q x s=Q at *
 clear hQ
 obtain⟨⟨f,x',s'⟩,ls⟩:=Q
 simp only at hmov hlen
 clear hse hq
 cases hsel
 all_goals(rename_i hop hop2;(try dsimp only at hmov))
 all_goals first|have t20:decide (op<=20)=false:=decide_eq_false oM |have t20:decide (op<=20)=true:=decide_eq_true oM
 all_goals first|have t30:decide (op<=30)=false:=decide_eq_false oM |have t30:decide (op<=30)=true:=decide_eq_true oM
 all_goals first|have t64:decide (op<=64)=false:=decide_eq_false oM |have t64:decide (op<=64)=true:=decide_eq_true oM
 all_goals first|have t71:decide (op<=71)=false:=decide_eq_false oM |have t71:decide (op<=71)=true:=decide_eq_true oM
 all_goals first|have t77:decide (op<=77)=false:=decide_eq_false oM |have t77:decide (op<=77)=true:=decide_eq_true oM
 all_goals first|have t84:decide (op<=84)=false:=decide_eq_false oM |have t84:decide (op<=84)=true:=decide_eq_true oM
 all_goals first|have t99:decide (op<=99)=false:=decide_eq_false oM |have t99:decide (op<=99)=true:=decide_eq_true oM
 all_goals first|have t104:decide (op<=104)=false:=decide_eq_false oM |have t104:decide (op<=104)=true:=decide_eq_true oM
 all_goals have t85: (op==85)=false:=by rw[beq_eq_false_iff_ne];omega
 all_goals have t93: (op==93)=false:=by rw[beq_eq_false_iff_ne];omega
 all_goals first|have t93b:decide (op<93)=false:=decide_eq_false oM |have t93b:decide (op<93)=true:=decide_eq_true oM
 all_goals
  by_cases hf:f=0
  ·simp only[if_pos hf]at hmov
   obtain⟨hs',hd',hroom,hl⟩:=hlen hf
   have hfl: (s'.lays n ls).1=0:=lays_f (by rw[hd'];exact hroom)
   have hlay: ∀w1 w2 A cap B,Carries B A ls->On F w (AllA (BlkA w1 293 #[.int .i64 op,.int .i64 arg,.int .i64 lit,.int .i64 cells]::B::vL c g x' src s')) w2->
    Calls prog 213 #[.pointer (some ⟨g,0,none⟩),.int .i64 (n:Int),.slice A ls.length cap] w2 (Got (.returned (.tuple #[])) (AllA (BlkA w1 293 #[.int .i64 op,.int .i64 arg,.int .i64 lit,.int .i64 cells]::B::vL c g x' src (s'.lays n ls).2)) F w):=by
    intro w1 w2 A cap B hB h
    exact h.callTail λF' hb' _ _=>v_lays_of (On.refl hb') hs' n (by rw[hd'];exact hnd) ls hl A cap hB (by rw[hd'];exact hroom)
   have hE:Rs.laid n (⟨f,x',s'⟩,ls)= ⟨0,x',(s'.lays n ls).2⟩:=by
    show(if f=0 then laysR n ls x' s' else _)=_
    rw[if_pos hf]
    show(⟨(s'.lays n ls).1,x',(s'.lays n ls).2⟩:Rs)=_
    rw[hfl]
   rw[hE]
   show Calls _ _ _ _ (Got (.returned (.tuple #[])) (VA c g x' src (s'.lays n ls).2) F w)
   generalize (s'.lays n ls).2=s2 at *
   replace hwa:=hid hwa
   replace hargs:=hid hargs
   replace hmov:=hid hmov
   replace hlay:=hid hlay
   replace hon:=hid hon
   clear hp hb hs hx hask hw hn hn2 hv1 hv2 hop hop2 htk hlen hf hE hfl hl hs' hroom hd'
   go_enter func195,ntmps195
   go_wp2_with fail
   refine mo (hwa.out _) λw1 hb1=>?_
   have hon1:=hon.out.below hb1
   replace hargs:=hid (hargs.out _ hon1)
   clear hb1
   go_wp2_with fail
   refine mo hargs.out λw2 hon2=>?_
   have b0:w2.cell? ⟨w.heap.size,0,none⟩=some (.int .i64 op):=(hon2.blkAt 0 rfl).cell 0
   replace hmov:=hid (hmov.out _ _ _ hon2)
   clear hon2 hon1
   go_wp2_with fail
   refine hmov.out.mono ?_
   rintro e w3 ⟨L',⟨A,cap,B,rfl,hB,rfl⟩,hon3⟩
   replace hlay:=hid (hlay.out _ _ A cap B hB hon3)
   clear hon3
   replace hB:=hid hB
   go_wp2_with fail
   refine mo hlay.out λw4 hon4=>?_
   replace hon4:=hid hon4.tail.tail
   go_wp2
   go_end0
   exact⟨rfl,hon4.out⟩
  ·simp only[if_neg hf]at hmov
   have hE:Rs.laid n (⟨f,x',s'⟩,ls)= ⟨f,x',s'⟩:=by
    show(if f=0 then laysR n ls x' s' else _)=_
    rw[if_neg hf]
   rw[hE]
   have he2:tryE f = .panicked [flt f]:=by unfold tryE;rw[if_neg hf]
   show Calls _ _ _ _ (Got (tryE f) (VA c g x' src s') F w)
   rw[he2]
   replace hwa:=hid hwa
   replace hargs:=hid hargs
   replace hmov:=hid hmov
   replace hon:=hid hon
   clear hp hb hs hx hask hw hn hn2 hv1 hv2 hop hop2 htk hlen hf hE he2
   go_enter func195,ntmps195
   go_wp2_with fail
   refine mo (hwa.out _) λw1 hb1=>?_
   have hon1:=hon.out.below hb1
   replace hargs:=hid (hargs.out _ hon1)
   clear hb1
   go_wp2_with fail
   refine mo hargs.out λw2 hon2=>?_
   have b0:w2.cell? ⟨w.heap.size,0,none⟩=some (.int .i64 op):=(hon2.blkAt 0 rfl).cell 0
   replace hmov:=hid (hmov.out _ _ _ hon2)
   clear hon2 hon1
   go_wp2_with fail
   refine hmov.out.mono ?_
   rintro e w3 ⟨L',⟨rfl,rfl⟩,hon3⟩
   replace hon3:=hid hon3.tail
   go_wp2
   exact⟨rfl,rfl,hon3.out⟩
theorem does2_of{i:Inst}{q:Rn->Mt->Rs×List Int}{fn:FuncId}{pre:Nat->Array Value}{ar2:Nat->Int->Nat->Nat->Array Value}(hsel:Sel i.op fn pre ar2)(hq:GivesR fn pre i q)(hlen:LaysOk i q):DoesOk i (λx s=>Rs.laid (Code.wants i.op).1.toNat (q x s)):=
 λc g x src s w F=>does3_all (λ_ _ _=>True) i q hsel (hq.toG _) (λ_ _ x s _=>hlen x s) c g x src s w F trivial
theorem does2_reckoned(i:Inst)(q:Rn->Mt->Rs×List Int)(hop:30<i.op)(hop2:i.op<=64)(hq:GivesR 215 (λg=>#[]) i q)(hlen:LaysOk i q):DoesOk i (λx s=>Rs.laid (Code.wants i.op).1.toNat (q x s)):=
 does2_of (.reckoned hop hop2) hq hlen
theorem does2_memory(i:Inst)(q:Rn->Mt->Rs×List Int)(hop:64<i.op)(hop2:i.op<=71)(hq:GivesR 216 (λg=>#[.pointer (some ⟨g,0,none⟩)]) i q)(hlen:LaysOk i q):DoesOk i (λx s=>Rs.laid (Code.wants i.op).1.toNat (q x s)):=
 does2_of (.memory hop hop2) hq hlen
theorem does2_lists(i:Inst)(q:Rn->Mt->Rs×List Int)(hop:71<i.op)(hop2:i.op<=77)(hq:GivesR 217 (λg=>#[.pointer (some ⟨g,0,none⟩)]) i q)(hlen:LaysOk i q):DoesOk i (λx s=>Rs.laid (Code.wants i.op).1.toNat (q x s)):=
 does2_of (.lists hop hop2) hq hlen
theorem does1_of{i:Inst}{l:Mt->List Int}{fn:FuncId}{pre:Nat->Array Value}{ar2:Nat->Int->Nat->Nat->Array Value}(hsel:Sel i.op fn pre ar2)(hq:GivesOk fn pre i l)
 (hlen: ∀x s,s.Ok->Asked i x s->(l s).length<=s.pd.rm- (s.d- (Code.wants i.op).1.toNat)∧∀v∈l s,V64 v):DoesOk i (λx s=>laysR (Code.wants i.op).1.toNat (l s) x s):=
 does2_of (q:=λx s=>(⟨0,x,s⟩,l s)) hsel (λc g x src s ba w F hs _ ha hb=>(hq c g x src s ba w F hs ha hb).mono λe w' h=>by
  show(if(0:Int)=0 then _ else _)
  rw[if_pos rfl];exact h) (λx s hs _ ha _=>⟨hs,rfl,hlen x s hs ha⟩)
theorem does_moved(i:Inst)(l:Mt->List Int)(hop:20<i.op)(hop2:i.op<=30)(hq:GivesOk 214 (λg=>#[.pointer (some ⟨g,0,none⟩)]) i l)
 (hlen: ∀x s,s.Ok->Asked i x s->(l s).length<=s.pd.rm- (s.d- (Code.wants i.op).1.toNat)∧∀v∈l s,V64 v):DoesOk i (λx s=>laysR (Code.wants i.op).1.toNat (l s) x s):=
 does1_of (.moved hop hop2) hq hlen
theorem does_reckoned(i:Inst)(l:Mt->List Int)(hop:30<i.op)(hop2:i.op<=64)(hq:GivesOk 215 (λg=>#[]) i l)
 (hlen: ∀x s,s.Ok->Asked i x s->(l s).length<=s.pd.rm- (s.d- (Code.wants i.op).1.toNat)∧∀v∈l s,V64 v):DoesOk i (λx s=>laysR (Code.wants i.op).1.toNat (l s) x s):=
 does1_of (.reckoned hop hop2) hq hlen
theorem does3_goes(P:Kn)(i:Inst)(q:Rn->Mt->Rs×List Int)(hop:77<i.op)(hop2:i.op<=84)(hq:GivesG P 218 (λg=>#[.pointer (some ⟨g,0,none⟩)]) i q)(hlen:LaysG P i q):DoesG P i (λx s=>Rs.laid (Code.wants i.op).1.toNat (q x s)):=
 does3_all P i q (.goes hop hop2) hq hlen
def DcA(gI g fr en:Nat)(D:Dc):Asr:=DictA gI g fr en (D.h:Int) (D.l:Int)
structure At8(S:Img)(D:Dc)(fr en:Nat):Prop where
 ok:D.Ok S
 img:S.Ok
 fr:D.fr S=fr
 lim:D.lim S=en
theorem At8.le{S:Img}{D:Dc}{fr en:Nat}(h:At8 S D fr en):en<=143360:=by rw[<-h.lim];exact h.ok.le h.img
theorem At8.lo{S:Img}{D:Dc}{fr en:Nat}(h:At8 S D fr en):fr<=D.h∧D.h<=en:=by rw[<-h.lim,<-h.fr];exact⟨h.ok.lo,h.ok.hi⟩
theorem At8.next{S S':Img}{D D':Dc}{fr en:Nat}(h:At8 S D fr en)(hS:S'.Ok)(hD:D'.Ok S')(ha:Alike S S')(hr:D'.rg=D.rg):At8 S' D' fr en:=by
 refine⟨hD,hS,?_,?_⟩
 ·rw[<-h.fr]
  unfold Dc.fr
  rw[hr,ha.beg]
 ·rw[<-h.lim]
  unfold Dc.lim
  rw[hr,ha.beg]
section
variable {w:World}{F:Nat->Prop}{g gI fr en:Nat}{D:Dc}{S:Img}
theorem dictC_here(gI fr en:Nat)(h l n:Int): (dictC gI fr en h l).setIfInBounds 3 (.int .i64 n)=dictC gI fr en n l:=rfl
theorem comma_full(hb: (AllA [DcA gI g fr en D,ImgA gI S]).holds w F)(h8:At8 S D fr en)(hf:en<D.h+8)(v:Int):
 Calls prog 91 #[g,v] w (Got (.returned (.int .i64 9)) (AllA [DcA gI g fr en D,ImgA gI S]) F w):=by
 have hon:=On.refl hb
 have hs:Blk w g 146 (dictC gI fr en (D.h:Int) (D.l:Int)):=hon.blkAt 0 rfl
 have c2:w.cell? (g,2)=some ((en:Int):Vl):=hs.cell 2
 have c3:w.cell? (g,3)=some ((D.h:Int):Vl):=hs.cell 3
 have h1:=h8.le
 have h2:=h8.lo.2
 have ht:decide ((en:Int) -8< (D.h:Int))=true:=decide_eq_true oM
 replace hon:=hid hon
 clear hs hb h8
 go_enter func91,ntmps91
 go_wp2
 go_quiet (fail)
 go_wp2
 go_ret
 exact⟨rfl,hon.out.drewN _⟩
theorem comma_try(hb: (AllA [DcA gI g fr en D,ImgA gI S]).holds w F)(h8:At8 S D fr en)(hf: ¬en<D.h+8)(v:Int)(hv:V64 v)(f:Int)(hF:S.cellF 0 (D.h:Int) true=f)(hne:f≠0):
 Calls prog 91 #[g,v] w (Got (.returned f) (AllA [DcA gI g fr en D,ImgA gI S]) F w):=by
 have hon:=On.refl hb
 have hs:Blk w g 146 (dictC gI fr en (D.h:Int) (D.l:Int)):=hon.blkAt 0 rfl
 have c0:w.cell? (g,0)=some (gI:Vl):=hs.cell 0
 have c2:w.cell? (g,2)=some ((en:Int):Vl):=hs.cell 2
 have c3:w.cell? (g,3)=some ((D.h:Int):Vl):=hs.cell 3
 have h1:=h8.le
 have h2:=h8.lo.2
 have ht:decide ((en:Int) -8< (D.h:Int))=false:=decide_eq_false oM
 have hz: (f==0)=false:=by simpa using hne
 have hset:=λn=>(hon.drewN n).drew.callAtG 1 rfl (λF' ha=>g_setCell ha 0 (D.h:Int) v hv)
 have e2:S.setCell 0 (D.h:Int) v=S:=by unfold Img.setCell;rw[if_neg (by rw[hF];exact hne)]
 rw[hF,e2]at hset
 replace hon:=hid hon
 replace hset:=hid hset
 clear hs hb h8 hF hv hne e2 hf
 go_enter func91,ntmps91
 go_wp2
 go_quiet (fail)
 go_wp2_with fail
 go_region_held (λw'=>w'.cell? (g,0)=some (gI:Vl)∧w'.cell? (g,3)=some ((D.h:Int):Vl)) (go_keep)
  ((go_at_call 36;refine mo (hset.out _) λw1 h=>?_;have m0:w1.cell? (g,0)=some (gI:Vl):=(h.blkAt 0 rfl).cell 0;have m3:w1.cell? (g,3)=some ((D.h:Int):Vl):=(h.blkAt 0 rfl).cell 3;replace h:=hid h))
 go_wp2
 go_ret
 exact⟨rfl,h.out⟩
theorem comma_yes(hb: (AllA [DcA gI g fr en D,ImgA gI S]).holds w F)(h8:At8 S D fr en)(hf: ¬en<D.h+8)(v:Int)(hv:V64 v)(hF:S.cellF 0 (D.h:Int) true=0):
 Calls prog 91 #[g,v] w (Got (.returned (.int .i64 0)) (AllA [DcA gI g fr en { D with h:=D.h+8 },ImgA gI (S.put D.h (toB v))]) F w):=by
 have hon:=On.refl hb
 have hs:Blk w g 146 (dictC gI fr en (D.h:Int) (D.l:Int)):=hon.blkAt 0 rfl
 have c0:w.cell? (g,0)=some (gI:Vl):=hs.cell 0
 have c2:w.cell? (g,2)=some ((en:Int):Vl):=hs.cell 2
 have c3:w.cell? (g,3)=some ((D.h:Int):Vl):=hs.cell 3
 have h1:=h8.le
 have h2:=h8.lo.2
 have ht:decide ((en:Int) -8< (D.h:Int))=false:=decide_eq_false oM
 have hset:=λn=>(hon.drewN n).drew.callAtG 1 rfl (λF' ha=>g_setCell ha 0 (D.h:Int) v hv)
 have e2:S.setCell 0 (D.h:Int) v=S.put D.h (toB v):=by unfold Img.setCell;rw[if_pos hF];rfl
 rw[hF,e2]at hset
 generalize S.put D.h (toB v)=S' at *
 replace hon:=hid hon
 replace hset:=hid hset
 clear hs hb h8 hF hv e2 hf
 go_enter func91,ntmps91
 go_wp2
 go_quiet (fail)
 go_wp2_with fail
 go_region_held (λw'=>w'.cell? (g,0)=some (gI:Vl)∧w'.cell? (g,3)=some ((D.h:Int):Vl)) (go_keep)
  ((go_at_call 36;refine mo (hset.out _) λw1 h=>?_;have m0:w1.cell? (g,0)=some (gI:Vl):=(h.blkAt 0 rfl).cell 0;have m3:w1.cell? (g,3)=some ((D.h:Int):Vl):=(h.blkAt 0 rfl).cell 3;have f3:w1.frozen? (g,3)=false:=(h.blkAt 0 rfl).frozen 3;have hfin:=h.setAt 0 rfl 3 (.int .i64 ((D.h:Int) +8));rw[dictC_here]at hfin;replace h:=hid h;replace hfin:=hid hfin))
 go_wp2
 go_ret
 exact⟨rfl,hfin.out⟩
theorem d_comma(hb: (AllA [DcA gI g fr en D,ImgA gI S]).holds w F)(h8:At8 S D fr en)(v:Int)(hv:V64 v):
 Calls prog 91 #[g,v] w (Got (.returned (D.commaF S)) (AllA [DcA gI g fr en (D.commaD S),ImgA gI (D.commaS S v)]) F w):=by
 have h2:=h8.lo
 by_cases hf:en<D.h+8
 ·have e:D.commaF S=9:=by unfold Dc.commaF;rw[h8.lim,if_pos hf]
  unfold Dc.commaD Dc.commaS
  rw[e,if_neg (by decide),if_neg (by decide)]
  exact comma_full hb h8 hf v
 ·have hc:=h8.ok.cellW D.h (by rw[h8.fr];exact h2.1) (by rw[h8.lim];omega)
  have e:D.commaF S=S.cellF 0 (D.h:Int) true:=by rw[hc];unfold Dc.commaF;rw[h8.lim,if_neg hf]
  unfold Dc.commaD Dc.commaS
  rw[e]
  by_cases h0:S.cellF 0 (D.h:Int) true=0
  ·rw[h0,if_pos rfl,if_pos rfl]
   exact comma_yes hb h8 hf v hv h0
  ·rw[if_neg h0,if_neg h0]
   exact comma_try hb h8 hf v hv _ rfl h0
end
section
variable {w:World}{F:Nat->Prop}{g gI fr en:Nat}{D:Dc}{S:Img}
theorem ccomma_full(hb: (AllA [DcA gI g fr en D,ImgA gI S]).holds w F)(h8:At8 S D fr en)(hf:en<=D.h)(b:Int):
 Calls prog 131 #[g,.int .u8 b] w (Got (.returned (.int .i64 9)) (AllA [DcA gI g fr en D,ImgA gI S]) F w):=by
 have hon:=On.refl hb
 have hs:Blk w g 146 (dictC gI fr en (D.h:Int) (D.l:Int)):=hon.blkAt 0 rfl
 have c2:w.cell? (g,2)=some ((en:Int):Vl):=hs.cell 2
 have c3:w.cell? (g,3)=some ((D.h:Int):Vl):=hs.cell 3
 have ht:decide ((en:Int)<=(D.h:Int))=true:=decide_eq_true oM
 have ht':decide (en<=D.h)=true:=decide_eq_true hf
 replace hon:=hid hon
 clear hs hb h8
 go_enter func131,ntmps131
 go_wp2
 go_quiet (fail)
 go_wp2
 go_ret
 exact⟨rfl,hon.out.drewN _⟩
theorem ccomma_shut(hb: (AllA [DcA gI g fr en D,ImgA gI S]).holds w F)(h8:At8 S D fr en)(hf: ¬en<=D.h)(b:UInt8)(hF:S.byteF 0 (D.h:Int) true=5):
 Calls prog 131 #[g,.int .u8 (b.toNat:Int)] w (Got (.returned (.int .i64 5)) (AllA [DcA gI g fr en D,ImgA gI S]) F w):=by
 have hon:=On.refl hb
 have hs:Blk w g 146 (dictC gI fr en (D.h:Int) (D.l:Int)):=hon.blkAt 0 rfl
 have c0:w.cell? (g,0)=some (gI:Vl):=hs.cell 0
 have c2:w.cell? (g,2)=some ((en:Int):Vl):=hs.cell 2
 have c3:w.cell? (g,3)=some ((D.h:Int):Vl):=hs.cell 3
 have ht:decide ((en:Int)<=(D.h:Int))=false:=decide_eq_false oM
 have ht':decide (en<=D.h)=false:=decide_eq_false hf
 have hset:=λn=>(hon.drewN n).drew.callAtG 1 rfl (λF' ha=>g_setByte ha 0 (D.h:Int) b)
 have e2:S.setByte 0 (D.h:Int) b=S:=by
  unfold Img.byteF at hF
  unfold Img.setByte
  split
  ·rename_i h
   rw[if_pos h]at hF
   cases hF
  ·rfl
 rw[hF,e2]at hset
 replace hon:=hid hon
 replace hset:=hid hset
 clear hs hb h8 hF e2 hf
 go_enter func131,ntmps131
 go_wp2
 go_quiet (fail)
 go_wp2_with fail
 go_region_held (λw'=>w'.cell? (g,0)=some (gI:Vl)∧w'.cell? (g,3)=some ((D.h:Int):Vl)) (go_keep)
  ((go_at_call 178;refine mo (hset.out _) λw1 h=>?_;have m0:w1.cell? (g,0)=some (gI:Vl):=(h.blkAt 0 rfl).cell 0;have m3:w1.cell? (g,3)=some ((D.h:Int):Vl):=(h.blkAt 0 rfl).cell 3;replace h:=hid h))
 go_wp2
 go_ret
 exact⟨rfl,h.out⟩
theorem ccomma_yes(hb: (AllA [DcA gI g fr en D,ImgA gI S]).holds w F)(h8:At8 S D fr en)(hf: ¬en<=D.h)(b:UInt8)(hF:S.byteF 0 (D.h:Int) true=0):
 Calls prog 131 #[g,.int .u8 (b.toNat:Int)] w (Got (.returned (.int .i64 0)) (AllA [DcA gI g fr en { D with h:=D.h+1 },ImgA gI (S.put D.h [b])]) F w):=by
 have hon:=On.refl hb
 have hs:Blk w g 146 (dictC gI fr en (D.h:Int) (D.l:Int)):=hon.blkAt 0 rfl
 have c0:w.cell? (g,0)=some (gI:Vl):=hs.cell 0
 have c2:w.cell? (g,2)=some ((en:Int):Vl):=hs.cell 2
 have c3:w.cell? (g,3)=some ((D.h:Int):Vl):=hs.cell 3
 have h1:=h8.le
 have h2:=h8.lo.2
 have ht:decide ((en:Int)<=(D.h:Int))=false:=decide_eq_false oM
 have ht':decide (en<=D.h)=false:=decide_eq_false hf
 have hset:=λn=>(hon.drewN n).drew.callAtG 1 rfl (λF' ha=>g_setByte ha 0 (D.h:Int) b)
 have e2:S.setByte 0 (D.h:Int) b=S.put D.h [b]:=by
  unfold Img.byteF at hF
  unfold Img.setByte
  split
  ·rfl
  ·rename_i h
   rw[if_neg h]at hF
   cases hF
 rw[hF,e2]at hset
 generalize S.put D.h [b]=S' at *
 replace hon:=hid hon
 replace hset:=hid hset
 clear hs hb h8 hF e2 hf
 go_enter func131,ntmps131
 go_wp2
 go_quiet (fail)
 go_wp2_with fail
 go_region_held (λw'=>w'.cell? (g,0)=some (gI:Vl)∧w'.cell? (g,3)=some ((D.h:Int):Vl)) (go_keep)
  ((go_at_call 178;refine mo (hset.out _) λw1 h=>?_;have m0:w1.cell? (g,0)=some (gI:Vl):=(h.blkAt 0 rfl).cell 0;have m3:w1.cell? (g,3)=some ((D.h:Int):Vl):=(h.blkAt 0 rfl).cell 3;have f3:w1.frozen? (g,3)=false:=(h.blkAt 0 rfl).frozen 3;have hfin:=h.setAt 0 rfl 3 (.int .i64 ((D.h:Int) +1));rw[dictC_here]at hfin;replace h:=hid h;replace hfin:=hid hfin))
 go_wp2
 go_ret
 exact⟨rfl,hfin.out⟩
theorem d_ccomma(hb: (AllA [DcA gI g fr en D,ImgA gI S]).holds w F)(h8:At8 S D fr en)(b:UInt8):
 Calls prog 131 #[g,.int .u8 (b.toNat:Int)] w (Got (.returned (D.ccommaF S)) (AllA [DcA gI g fr en (D.ccommaD S),ImgA gI (D.ccommaS S b)]) F w):=by
 have h2:=h8.lo
 by_cases hf:en<=D.h
 ·have e:D.ccommaF S=9:=by unfold Dc.ccommaF;rw[h8.lim,if_pos hf]
  unfold Dc.ccommaD Dc.ccommaS
  rw[e,if_neg (by decide),if_neg (by decide)]
  exact ccomma_full hb h8 hf _
 ·have hc:=h8.ok.byteW D.h (by rw[h8.fr];exact h2.1) (by rw[h8.lim];omega)
  have e:D.ccommaF S=S.byteF 0 (D.h:Int) true:=by rw[hc];unfold Dc.ccommaF;rw[h8.lim,if_neg hf]
  unfold Dc.ccommaD Dc.ccommaS
  rw[e]
  by_cases h0:D.shut S=true
  ·rw[if_pos h0]at hc
   rw[hc,if_neg (by decide),if_neg (by decide)]
   exact ccomma_shut hb h8 hf b hc
  ·rw[if_neg h0]at hc
   rw[hc,if_pos rfl,if_pos rfl]
   exact ccomma_yes hb h8 hf b hc
def laidB(D:Dc)(n:Nat):Dc:={ D with h:=D.h+n }
theorem at8_laid(h8:At8 S D fr en)(hs:D.shut S=false)(l:List UInt8)(hl:D.h+l.length<=en):At8 (S.put D.h l) (laidB D l.length) fr en:=by
 have h2:=h8.lo
 have ha:=Alike.put S D.h l
 refine h8.next (put_ok h8.img _ _ (by have:=h8.ok.all;rw[h8.lim]at this;omega)) (Dc.Ok.alike (h8.ok.with _ _ (by rw[h8.fr];omega) (by rw[h8.lim];exact hl) h8.ok.l) ha) ha rfl
theorem ccomma_more(h8:At8 S D fr en)(hs:D.shut S=false)(l:List UInt8)(b:UInt8)(hl:D.h+l.length<en)(hb: (AllA [DcA gI g fr en (laidB D l.length),ImgA gI (S.put D.h l)]).holds w F):
 Calls prog 131 #[g,.int .u8 (b.toNat:Int)] w (Got (.returned (.int .i64 0)) (AllA [DcA gI g fr en (laidB D (l.length+1)),ImgA gI (S.put D.h (l ++ [b]))]) F w):=by
 have h:=d_ccomma hb (at8_laid h8 hs l oM) b
 have hsh: (laidB D l.length).shut (S.put D.h l)=false:=by rw[<-hs];rfl
 have h9:=at8_laid h8 hs l oM
 have e: (laidB D l.length).ccommaF (S.put D.h l)=0:=by
  unfold Dc.ccommaF
  rw[h9.lim,hsh,if_neg (by show¬en<=D.h+l.length;omega)]
  rfl
 unfold Dc.ccommaD Dc.ccommaS at h
 rw[e,if_pos rfl,if_pos rfl]at h
 have h2:=h8.lo
 have e2: (S.put D.h l).put (laidB D l.length).h [b]=S.put D.h (l ++ [b]):=S.put_append D.h l [b] (by rw[h8.img.len];have:=h8.ok.all;rw[h8.lim]at this;omega)
 rw[e2]at h
 exact h
theorem u8_0: (((0:UInt8).toNat:Nat):Int)=0:=rfl
theorem DcA.c3{w':World}{L:List Asr}(h:On F w (AllA (DcA gI g fr en D::L)) w'):w'.cell? (g,3)=some ((D.h:Int):Vl):=(show Blk w' g 146 (dictC gI fr en (D.h:Int) (D.l:Int))from h.blkAt 0 rfl).cell 3
theorem d_align_yes(hb: (AllA [DcA gI g fr en D,ImgA gI S]).holds w F)(h8:At8 S D fr en)(hs:D.h % 8=0∨D.shut S=false):
 Calls prog 130 #[g] w (Got (.returned (.int .i64 0)) (AllA [DcA gI g fr en (laidB D (up D.h-D.h)),ImgA gI (S.put D.h (List.replicate (up D.h-D.h) 0))]) F w):=by
 have hon:=On.refl hb
 have h1:=h8.lo
 have hle:=h8.le
 have h2:=h8.ok.al.1
 rw[h8.lim]at h2
 have hup:=up_ge D.h
 have hmore:=λ(j:Nat) (hj:j<up D.h-D.h) w1 (h:On F w (AllA [DcA gI g fr en (laidB D j),ImgA gI (S.put D.h (List.replicate j 0))]) w1)=>
  h.callG (λF' ha=>by
   have hj1:D.h+j<en:=by omega
   have hsh:D.shut S=false:=by
    rcases hs with hs|hs
    ·rw[up_id _ hs]at hj;omega
    ·exact hs
   have hl: (List.replicate j (0:UInt8)).length=j:=by simp
   have hq:=ccomma_more (w:=w1) (F:=F') h8 hsh (List.replicate j 0) 0 (by rw[hl];exact hj1) (by rw[hl];exact ha)
   rw[hl,replicate_snoc,u8_0]at hq
   exact hq)
 have hc3:=λj w1 (h:On F w (AllA [DcA gI g fr en (laidB D j),ImgA gI (S.put D.h (List.replicate j 0))]) w1)=>DcA.c3 h
 have h00:On F w (AllA [DcA gI g fr en (laidB D 0),ImgA gI (S.put D.h (List.replicate 0 0))]) w:=by
  rw[show List.replicate 0 (0:UInt8)= []from rfl,Img.put_nil]
  exact hon
 have hk: ∀j,(((laidB D j).h:Nat):Int)= (D.h:Int) + (j:Int):=λj=>by unfold laidB;simp
 have htt: ∀j,j<up D.h-D.h->((((D.h:Int) + (j:Int)) % 8) != 0)=true:=λj hj=>by rw[bne_iff_ne];unfold up at hj;omega
 have htf: ((((D.h:Int) + ((up D.h-D.h:Nat):Int)) % 8) != 0)=false:=by rw[bne_eq_false_iff_eq];omega
 generalize hn:up D.h-D.h=n at *
 have hn8:n<=8:=by omega
 have hk0:D.h<=143360:=by omega
 generalize D.h=k at *
 replace hmore:=hid hmore
 replace hc3:=hid hc3
 replace h00:=hid h00
 replace hk:=hid hk
 replace htt:=hid htt
 clear hb h8 hs h2 hup hon hn h1 hle
 go_enter func130,ntmps130
 go_wp2
 go_loopg [3] n (λm t wr=> ∃j:Nat,j+m=n∧t = .int .i64 0∧On F w (AllA [DcA gI g fr en (laidB D j),ImgA gI (S.put k (List.replicate j 0))]) wr)
 case atStart=>exact⟨0,by omega,rfl,h00.out⟩
 case round=>
  obtain⟨j,hj,rfl,h⟩:=hrel
  have c3:=hc3.out j _ h
  rw[hk.out]at c3
  by_cases hjn:j<n
  ·have ht:=htt.out j hjn
   have hq:=hid (hmore.out j hjn _ h)
   replace h:=hid h
   go_wp2_with fail
   refine mo hq.out λw1 h2=>?_
   replace h2:=hid h2
   go_wp2
   go_roundg (gk-1)
   case measure=>omega
   case rel=>exact⟨j+1,by omega,rfl,h2.out⟩
  ·have hjj:j=n:=by omega
   subst hjj
   replace h:=hid h
   go_wp2
   go_ret
   exact⟨rfl,h.out⟩
end
section
variable {P:Program}(w:World)
theorem wp_append_grow{o:Oper}{a:Act}{K:Act->World->Prop}{Q:Exit->Act->World->Prop}(s x:Operand)(t:TypeId)
 (ho:o.op = .call { callee:= .builtin .append,args:=#[s,x],argTypes:=#[t,t] })
 (e:TypeId) (i:TypeInfo) (z:Value) (ht:P.underlying t=some (.slice e)) (hi:P.info? e=some i) (hz:i.zero=some z)
 (b:Addr) (sLen sCap:Nat) (olds:List Value) (hs:a.eval s = .slice (some b) sLen sCap) (hlo:olds.length=sLen*i.size) (holds: ∀j v,olds[j]? = some v->w.cell? (b.add j)=some v)
 (ad:Addr) (n c:Nat) (news:List Value) (hx:a.eval x = .slice (some ad) n c) (hl:news.length=n*i.size) (hnews: ∀j v,news[j]? = some v->w.cell? (ad.add j)=some v)
 (hg:sCap<sLen+n) (h63: ((sLen+n:Nat):Int)<=9223372036854775807) (hfit:Builtin.nextslicecap (sLen+n) sCap*i.bytes<=281474976710656)
 (h: ∀cap zs,K (a.put o.dst (.slice (some ⟨w.heap.size,0,none⟩) (sLen+n) cap)) (w.drew.alloc (.cells (olds.toArray++news.toArray++zs) e))):o.wp P a w K Q:=by
 have hr:=run_append_grow (P:=P) (w:=w) t o.type e i z ht hi hz b sLen sCap olds hlo holds ad n c news hl hnews hg h63 hfit
 unfold Oper.wp execOp
 simp only[ho,resolve,invoke,builtin,Sem.run_bind,Sem.run_pure,Result.andThen_ok,List.map_toArray,List.map_cons,List.map_nil,hs,hx,hr]
 exact h _ _
theorem wpList_append_grow{ops:Array Oper}{rest:List Oper}{o:Oper}{a:Act}{Q:Exit->Act->World->Prop}(hgd:o.guard=none)(s x:Operand)(t:TypeId)
 (ho:o.op = .call { callee:= .builtin .append,args:=#[s,x],argTypes:=#[t,t] })
 (e:TypeId) (i:TypeInfo) (z:Value) (ht:P.underlying t=some (.slice e)) (hi:P.info? e=some i) (hz:i.zero=some z)
 (b:Addr) (sLen sCap:Nat) (olds:List Value) (hs:a.eval s = .slice (some b) sLen sCap) (hlo:olds.length=sLen*i.size) (holds: ∀j v,olds[j]? = some v->w.cell? (b.add j)=some v)
 (ad:Addr) (n c:Nat) (news:List Value) (hx:a.eval x = .slice (some ad) n c) (hl:news.length=n*i.size) (hnews: ∀j v,news[j]? = some v->w.cell? (ad.add j)=some v)
 (hg:sCap<sLen+n) (h63: ((sLen+n:Nat):Int)<=9223372036854775807) (hfit:Builtin.nextslicecap (sLen+n) sCap*i.bytes<=281474976710656)
 (h: ∀cap zs,wpList P ops Q rest (a.put o.dst (.slice (some ⟨w.heap.size,0,none⟩) (sLen+n) cap)) (w.drew.alloc (.cells (olds.toArray++news.toArray++zs) e))):wpList P ops Q (o::rest) a w:=
 wpList_plain hgd λ_ hK=>wp_append_grow w s x t ho e i z ht hi hz b sLen sCap olds hs hlo holds ad n c news hx hl hnews hg h63 hfit λcap zs=>hK _ _ (h cap zs)
theorem step_append_grow{ops:Array Oper}{o:Oper}{a:Act}{K:Act->World->Prop}{Q:Exit->Act->World->Prop}{E:Prop}(hgd:o.guard=none)(s x:Operand)(t:TypeId)
 (ho:o.op = .call { callee:= .builtin .append,args:=#[s,x],argTypes:=#[t,t] })
 (e:TypeId) (i:TypeInfo) (z:Value) (ht:P.underlying t=some (.slice e)) (hi:P.info? e=some i) (hz:i.zero=some z)
 (b:Addr) (sLen sCap:Nat) (olds:List Value) (hs:a.eval s = .slice (some b) sLen sCap) (hlo:olds.length=sLen*i.size) (holds: ∀j v,olds[j]? = some v->w.cell? (b.add j)=some v)
 (ad:Addr) (n c:Nat) (news:List Value) (hx:a.eval x = .slice (some ad) n c) (hl:news.length=n*i.size) (hnews: ∀j v,news[j]? = some v->w.cell? (ad.add j)=some v)
 (hg:sCap<sLen+n) (h63: ((sLen+n:Nat):Int)<=9223372036854775807) (hfit:Builtin.nextslicecap (sLen+n) sCap*i.bytes<=281474976710656)
 (h: ∀cap zs,K (a.put o.dst (.slice (some ⟨w.heap.size,0,none⟩) (sLen+n) cap)) (w.drew.alloc (.cells (olds.toArray++news.toArray++zs) e))):
 if Region.wanted o (yielded ops a.tmps)=true then Oper.wp P o a w K Q else E:=by
 have hw:Region.wanted o (yielded ops a.tmps)=true:=by simp[Region.wanted,hgd]
 rw[if_pos hw]
 exact wp_append_grow w s x t ho e i z ht hi hz b sLen sCap olds hs hlo holds ad n c news hx hl hnews hg h63 hfit h
end
theorem at_add(b j k:Nat): ((⟨b,j,none⟩:Addr).add k)= ⟨b,j+k,none⟩:=by cases k<;>simp[Addr.add]
theorem carries_pre(rb:Nat)(t:TypeId)(cs:Array Value)(l:List Int)(hc: ∀(k:Nat) (v:Int),l[k]? = some v->cs[k]? = some (Value.int .i64 v)):Carries (BlkA rb t cs) (some ⟨rb,0,none⟩) l:=by
 intro w F hB
 refine⟨?_,?_⟩
 ·intro k v hk
  refine⟨_,rfl,?_⟩
  have h1:=hB.1.cell k
  have h2: ((⟨rb,0,none⟩:Addr).add k)= ⟨rb,k,none⟩:=by simp[Addr.add];intro h;exact h.symm
  rw[h2,h1]
  exact hc k v hk
 ·intro a ha
  obtain rfl:a= ⟨rb,0,none⟩:=by injection ha with ha;exact ha.symm
  exact(hB.2 rb).2 rfl
theorem carries_app(rb:Nat)(t:TypeId)(l:List Int)(zs:Array Value):Carries (BlkA rb t (intsC l++zs)) (some ⟨rb,0,none⟩) l:=carries_pre _ _ _ _ λk v hk=>by
 have hlt:k<l.length:=(List.getElem?_eq_some_iff.1 hk).1
 rw[Array.getElem?_append_left (by simp[intsC];exact hlt)]
 simp[intsC,hk]
theorem carries_from(rb:Nat)(t:TypeId)(cs:Array Value)(j:Nat)(l:List Int)(hc: ∀(k:Nat) (v:Int),l[k]? = some v->cs[j+k]? = some (Value.int .i64 v)):Carries (BlkA rb t cs) (some ⟨rb,j,none⟩) l:=by
 intro w F hB
 refine⟨?_,?_⟩
 ·intro k v hk
  refine⟨_,rfl,?_⟩
  have h1:=hB.1.cell (j+k)
  have h2:=at_add rb j k
  rw[h2,h1]
  exact hc k v hk
 ·intro a ha
  obtain rfl:a= ⟨rb,j,none⟩:=by injection ha with ha;exact ha.symm
  exact(hB.2 rb).2 rfl
theorem args1(s:Mt):s.args 1 = [ar s 1 0]:=rfl
theorem args2'(s:Mt):s.args 2 = [ar s 2 0,ar s 2 1]:=rfl
theorem m_tuck(arg lit cells:Int):GivesOk 214 (λg=>#[.pointer (some ⟨g,0,none⟩)]) ⟨28,arg,lit,cells⟩ (λs=>[ar s 2 1,ar s 2 0,ar s 2 1]):=by
 intro c g x src s ba w F hs hask hb
 have hw2: (Code.wants 28).1.toNat=2:=by decide
 simp only[hw2]at hb⊢
 have hon:=On.refl hb
 have hrow:=hon.blkAt 0 rfl
 have a0:=row_get hrow (j:=0) oM
 have a1:=row_get hrow (j:=1) oM
 generalize ar s 2 0=X at *
 generalize ar s 2 1=Y at *
 have hbx:=hon.tail.box #[.int .i64 Y,.int .i64 X,.int .i64 Y] 3
 replace hbx:=hid hbx
 clear hb hrow hw2 hask hs hon
 show Calls _ _ #[.pointer (some ⟨g,0,none⟩),.int .i64 28,.slice (some ⟨ba,0,none⟩) 2 2] _ _
 go_enter func214,ntmps214
 go_wp2_with fail
 go_region
 all_goals go_wp2
 all_goals go_ret
 all_goals exact⟨some ⟨w.heap.size,0,none⟩,3,BlkA w.heap.size 3 (intsC [Y,X,Y]),rfl,carries_row _ _,hbx.out.drew⟩
theorem m_nip(arg lit cells:Int):GivesOk 214 (λg=>#[.pointer (some ⟨g,0,none⟩)]) ⟨27,arg,lit,cells⟩ (λs=>[ar s 2 1]):=by
 intro c g x src s ba w F hs hask hb
 have hw2: (Code.wants 27).1.toNat=2:=by decide
 simp only[hw2]at hb⊢
 have hon:=On.refl hb
 have hcar:Carries (BlkA ba 3 (intsC (s.args 2))) (some ⟨ba,1,none⟩) [ar s 2 1]:=carries_from _ _ _ 1 _ λk v hk=>by
  rw[args2']
  rcases k with _|k
  ·simp at hk
   subst hk
   rfl
  ·simp at hk
 generalize intsC (s.args 2)=ac at *
 generalize ar s 2 1=Y at *
 replace hon:=hid hon
 replace hcar:=hid hcar
 clear hb hw2 hask hs
 show Calls _ _ #[.pointer (some ⟨g,0,none⟩),.int .i64 27,.slice (some ⟨ba,0,none⟩) 2 2] _ _
 go_enter func214,ntmps214
 go_wp2
 go_ret
 exact⟨some ⟨ba,1,none⟩,1,BlkA ba 3 ac,rfl,hcar.out,hon.out⟩
theorem info_int: (prog.info? 3).map (λi=>(i.zero,i.size,i.bytes))=some (some (.int .i64 0),1,8):=by kernel_rfl
theorem m_rot(arg lit cells:Int):GivesOk 214 (λg=>#[.pointer (some ⟨g,0,none⟩)]) ⟨25,arg,lit,cells⟩ (λs=>[ar s 3 1,ar s 3 2,ar s 3 0]):=by
 intro c g x src s ba w F hs hask hb
 have hw2: (Code.wants 25).1.toNat=3:=by decide
 simp only[hw2]at hb⊢
 have hon:=On.refl hb
 have hrow:=hon.blkAt 0 rfl
 have a0:=row_get hrow (j:=0) oM
 have a1:=row_get hrow (j:=1) oM
 have a2:=row_get hrow (j:=2) oM
 have hlt:=hrow.lt
 obtain⟨i0,hi0,hz0,hz1,hz2⟩:=info_parts info_int
 generalize ar s 3 0=X at *
 generalize ar s 3 1=Y at *
 generalize ar s 3 2=Z at *
 generalize intsC (s.args 3)=ac at *
 replace hon:=hid hon
 replace hi0:=hid hi0
 replace hz0:=hid hz0
 replace hz1:=hid hz1
 replace hz2:=hid hz2
 have b1:=hid a1
 have b2:=hid a2
 clear hb hrow hw2 hask hs
 show Calls _ _ #[.pointer (some ⟨g,0,none⟩),.int .i64 25,.slice (some ⟨ba,0,none⟩) 3 3] _ _
 go_enter func214,ntmps214
 go_wp2_with fail
 go_region_law ((refine step_append_grow _ rfl (.tmp 41) (.tmp 45) 50 rfl 3 i0 (.int .i64 0) ?_ ?_ ?_ ⟨ba,1,none⟩ 2 2 [.int .i64 Y,.int .i64 Z] ?_ ?_ ?_ ⟨w.heap.size,0,none⟩ 1 1 [.int .i64 X] ?_ ?_ ?_ ?_ ?_ ?_ ?_;exact underlying50;exact hi0.out;exact hz0.out;rfl;rw[hz1.out];rfl;intro j v hj;rw[at_add];(rcases j with _|_|j);(simp at hj;subst hj;simp[World.cell?_alloc_some,b1.out]);(simp at hj;subst hj;simp[World.cell?_alloc_some,b2.out]);(simp at hj);rfl;rw[hz1.out];rfl;intro j v hj;rw[at_add];(rcases j with _|j);(simp at hj;subst hj;simp);(simp at hj);decide;decide;rw[hz2.out];decide;intro cap zs))
 all_goals go_wp2
 all_goals go_ret
 have h9:=(hon.out.box #[.int .i64 X] 3).box (#[.int .i64 Y,.int .i64 Z,.int .i64 X]++zs) 3
 simp only[World.size_alloc]at h9
 exact⟨some ⟨w.heap.size+1,0,none⟩,cap,BlkA (w.heap.size+1) 3 (intsC [Y,Z,X]++zs),rfl,carries_app _ _ [Y,Z,X] zs,((h9.drop 1 rfl).drop 1 rfl).drew.drew⟩
def qdupL(x:Int):List Int:=if x=0 then [x]else [x,x]
theorem m_qdup(arg lit cells:Int):GivesOk 214 (λg=>#[.pointer (some ⟨g,0,none⟩)]) ⟨26,arg,lit,cells⟩ (λs=>qdupL (ar s 1 0)):=by
 intro c g x src s ba w F hs hask hb
 have hw2: (Code.wants 26).1.toNat=1:=by decide
 simp only[hw2]at hb⊢
 have hon:=On.refl hb
 have hrow:=hon.blkAt 0 rfl
 have a0:=row_get hrow (j:=0) oM
 have hlt:=hrow.lt
 obtain⟨i0,hi0,hz0,hz1,hz2⟩:=info_parts info_int
 have hcar:Carries (BlkA ba 3 (intsC (s.args 1))) (some ⟨ba,0,none⟩) [ar s 1 0]:=by
  have h:=carries_row ba (s.args 1)
  rw[args1]at h
  rw[args1]
  exact h
 generalize ar s 1 0=X at *
 generalize intsC (s.args 1)=ac at *
 replace hon:=hid hon
 replace hi0:=hid hi0
 replace hz0:=hid hz0
 replace hz1:=hid hz1
 replace hz2:=hid hz2
 replace hcar:=hid hcar
 have b0:=hid a0
 clear hb hrow hw2 hask hs
 show Calls _ _ #[.pointer (some ⟨g,0,none⟩),.int .i64 26,.slice (some ⟨ba,0,none⟩) 1 1] _ _
 by_cases hX:X=0
 ·have e:qdupL X = [X]:=if_pos hX
  have t1: (X != 0)=false:=by simpa using hX
  rw[e]
  clear e
  replace hX:=hid hX
  go_enter func214,ntmps214
  go_wp2
  go_ret
  exact⟨some ⟨ba,0,none⟩,1,BlkA ba 3 ac,rfl,hcar.out,hon.out⟩
 ·have e:qdupL X = [X,X]:=if_neg hX
  have t1: (X != 0)=true:=by simpa using hX
  rw[e]
  clear e
  replace hX:=hid hX
  go_enter func214,ntmps214
  go_wp2_with (at_builtin;refine wpList_append_grow _ rfl (.tmp 53) (.tmp 57) 50 rfl 3 i0 (.int .i64 0) ?_ ?_ ?_ ⟨ba,0,none⟩ 1 1 [.int .i64 X] ?_ ?_ ?_ ⟨w.heap.size,0,none⟩ 1 1 [.int .i64 X] ?_ ?_ ?_ ?_ ?_ ?_ ?_;exact underlying50;exact hi0.out;exact hz0.out;rfl;rw[hz1.out];rfl;intro j v hj;rw[at_add];(rcases j with _|j);(simp at hj;subst hj;simp[World.cell?_alloc_some,b0.out]);(simp at hj);rfl;rw[hz1.out];rfl;intro j v hj;rw[at_add];(rcases j with _|j);(simp at hj;subst hj;simp);(simp at hj);decide;decide;rw[hz2.out];decide;intro cap zs)
  all_goals go_ret
  have h9:=(hon.out.box #[.int .i64 X] 3).box (#[.int .i64 X,.int .i64 X]++zs) 3
  simp only[World.size_alloc]at h9
  exact⟨some ⟨w.heap.size+1,0,none⟩,cap,BlkA (w.heap.size+1) 3 (intsC [X,X]++zs),rfl,carries_app _ _ [X,X] zs,((h9.drop 1 rfl).drop 1 rfl).drew⟩
def rdicC(gb bg en cap:Nat)(cl:Bool)(D:Dc):Array Value:=#[.slice (some ⟨gb,bg,none⟩) (en-bg) cap,(bg:Int),.bool cl,(D.h:Int),(D.l:Int)]
def RDicA(g gb bg en cap:Nat)(cl:Bool)(D:Dc):Asr:=BlkA g 157 (rdicC gb bg en cap cl D)
def RbA(gb:Nat)(S:Img):Asr:=BlkA gb 5 (bcells S.b).toArray
theorem rdicC_here(gb bg en cap:Nat)(cl:Bool)(D:Dc)(n:Nat)(v:Int)(h:v=n): (rdicC gb bg en cap cl D).setIfInBounds 3 (.int .i64 v)=rdicC gb bg en cap cl { D with h:=n }:=by subst h;rfl
theorem rdicC_latest(gb bg en cap:Nat)(cl:Bool)(D:Dc)(n:Nat)(v:Int)(h:v=n): (rdicC gb bg en cap cl D).setIfInBounds 4 (.int .i64 v)=rdicC gb bg en cap cl { D with l:=n }:=by subst h;rfl
section
variable {w w1:World}{F:Nat->Prop}{g gb bg en cap:Nat}{cl:Bool}{D:Dc}{S:Img}
structure RdIn(w:World)(g gb bg en cap:Nat)(cl:Bool)(D:Dc):Prop where
 c0:w.cell? (g,0)=some (.slice (some ⟨gb,bg,none⟩) (en-bg) cap)
 c1:w.cell? (g,1)=some ((bg:Int):Vl)
 c2:w.cell? (g,2)=some (.bool cl)
 c3:w.cell? (g,3)=some ((D.h:Int):Vl)
 c4:w.cell? (g,4)=some ((D.l:Int):Vl)
 fr: ∀i,w.frozen? ⟨g,i,none⟩=false
theorem rd_in{L:List Asr}(h:On F w (AllA (RDicA g gb bg en cap cl D::L)) w1):RdIn w1 g gb bg en cap cl D:=
 have hb:Blk w1 g 157 (rdicC gb bg en cap cl D):=h.blkAt 0 rfl
 ⟨hb.cell 0,hb.cell 1,hb.cell 2,hb.cell 3,hb.cell 4,λi=>hb.frozen i⟩
theorem RdIn.drewN(h:RdIn w g gb bg en cap cl D)(n:Nat):RdIn (w.drewN n) g gb bg en cap cl D:=⟨h.c0,h.c1,h.c2,h.c3,h.c4,h.fr⟩
theorem rd_to(h:RdIn w g gb bg en cap cl D)(hbg:bg<=en)(hen:en<=143360):Calls prog 133 #[g] w (λe w'=>e = .returned (en:Int)∧∃n,w'=w.drewN n):=by
 obtain⟨c0,c1,_,_,_,_⟩:=h
 have e: (bg:Int) + ((en-bg:Nat):Int)= (en:Int):=by omega
 replace e:=hid e
 go_enter func133,ntmps133
 go_wp2
 go_quiet (fail)
 go_wp2
 go_ret
 exact⟨congrArg (λn=>Ending.returned (Value.int .i64 n)) e.out,_,rfl⟩
theorem rd_up(n:Nat)(hn:n<=1000000)(w:World):Calls prog 132 #[(n:Int)] w (Same (up n:Int) w):=by
 have hu:=up_ge n
 have hall: ∀j:Nat,n<=j->j<=up n->((((j:Int) % 8 != 0)=true∧j<up n)∨(((j:Int) % 8 != 0)=false∧j=up n)):=λj h1 h2=>by
  by_cases hj:j=up n
  ·right
   exact⟨by rw[bne_eq_false_iff_eq];omega,hj⟩
  ·left
   exact⟨by rw[bne_iff_ne];unfold up at *;omega,by omega⟩
 generalize up n=m at *
 replace hall:=hid hall
 go_enter func132,ntmps132
 go_wp2
 go_loopg [0] (m-n) (λk t wr=> ∃j:Nat,n<=j∧j+k=m∧t = .int .i64 (j:Int)∧wr=w)
 case atStart=>exact⟨n,by omega,by omega,rfl,rfl⟩
 case round=>
  obtain⟨j,h1,h2,rfl,rfl⟩:=hrel
  rcases hall.out j h1 oM with⟨ht,hlt⟩ | ⟨ht,rfl⟩
  ·go_wp2
   go_roundg (gk-1)
   case measure=>omega
   case rel=>exact⟨j+1,by omega,by omega,by go_num,rfl⟩
  ·go_wp2
   go_ret
   exact⟨rfl,rfl⟩
def RLaidA(g gb bg en cap:Nat)(cl:Bool)(D:Dc)(S:Img)(l:List UInt8):Asr:=AllA [RDicA g gb bg en cap cl (laidB D l.length),RbA gb (S.put D.h l)]
theorem rl_in(l:List UInt8)(h:On F w (RLaidA g gb bg en cap cl D S l) w1):RdIn w1 g gb bg en cap cl (laidB D l.length):=rd_in h
theorem rl_byte(l:List UInt8)(h8:At8 S D (bg+8) en)(hl:D.h+l.length<en)(h:On F w (RLaidA g gb bg en cap cl D S l) w1): (∃x,w1.cell? ⟨gb,D.h+l.length,none⟩=some (.int .u8 x))∧(∀i,w1.frozen? ⟨gb,i,none⟩=false)∧g≠gb:=by
 have hb:Blk w1 gb 5 (bcells (S.put D.h l).b).toArray:=h.blkAt 1 rfl
 have hg:Blk w1 g 157 (rdicC gb bg en cap cl (laidB D l.length)):=h.blkAt 0 rfl
 have hall:=h8.ok.all
 rw[h8.lim]at hall
 have hlen: (S.put D.h l).b.length=S.beg 6:=by rw[S.put_len D.h l (by rw[h8.img.len];omega),h8.img.len]
 refine⟨⟨((S.put D.h l).b.getD (D.h+l.length) 0).toNat,?_⟩,λi=>hb.frozen i,hg.ne_ hb (by decide)⟩
 rw[hb.cell]
 have h2:D.h+l.length< (S.put D.h l).b.length:=by omega
 simp[bcells,h2]
theorem rl_more(l:List UInt8)(b:UInt8)(h8:At8 S D (bg+8) en)(hl:D.h+l.length<en)(h:On F w (RLaidA g gb bg en cap cl D S l) w1)(n:Int)(hn:n= ((D.h+l.length:Nat):Int) +1):
 On F w (RLaidA g gb bg en cap cl D S (l ++ [b])) ((w1.setCell ⟨gb,D.h+l.length,none⟩ (.int .u8 (b.toNat:Int))).setCell (g,3) (.int .i64 n)):=by
 have hall:=h8.ok.all
 rw[h8.lim]at hall
 have hlen: (S.put D.h l).b.length=S.beg 6:=by rw[S.put_len D.h l (by rw[h8.img.len];omega),h8.img.len]
 have h1:On F w (AllA [RDicA g gb bg en cap cl (laidB D l.length),RbA gb (S.put D.h (l ++ [b]))]) (w1.setCell ⟨gb,D.h+l.length,none⟩ (.int .u8 (b.toNat:Int))):=by
  have h2:=On.setAt 1 (g:=gb) (t:=5) (cs:=(bcells (S.put D.h l).b).toArray) h rfl (D.h+l.length) (.int .u8 (b.toNat:Int))
  rw[set_put _ _ b oM]at h2
  have e:putL (S.put D.h l).b (D.h+l.length) [b]= (S.put D.h (l ++ [b])).b:=by
   rw[<-S.put_append D.h l [b] (by rw[h8.img.len];omega)]
   rfl
  rw[e]at h2
  exact h2
 have h3:=h1.setAt 0 rfl 3 (.int .i64 n)
 rw[rdicC_here gb bg en cap cl (laidB D l.length) (D.h+l.length+1) n oM]at h3
 have e2: ({ laidB D l.length with h:=D.h+l.length+1 }:Dc)=laidB D (l ++ [b]).length:=by
  unfold laidB
  simp
  omega
 rw[e2]at h3
 exact h3
end
def uJ(v:Int)(j:Nat):Int:=v % 18446744073709551616/ (256:Int) ^ j
theorem uJ_zero(v:Int):uJ v 0=v % 18446744073709551616:=by unfold uJ;simp
theorem uJ_step(v:Int)(j:Nat):uJ v j/256=uJ v (j+1):=by
 unfold uJ
 rw[Int.pow_succ,Int.ediv_ediv_of_nonneg (Int.le_of_lt (Int.pow_pos oM))]
theorem uJ_byte(v:Int)(j:Nat)(hj:j<8):uJ v j % 256= (((toB v).getD j 0).toNat:Int):=by
 have e: (toB v).getD j 0=byteAt v j:=by simp[toB,List.getD,hj]
 rw[e,byteAt_nat]
 unfold uJ
 have h:j=0∨j=1∨j=2∨j=3∨j=4∨j=5∨j=6∨j=7:=by omega
 rcases h with rfl|rfl|rfl|rfl|rfl|rfl|rfl|rfl<;>simp<;>omega
theorem uJ_range(v:Int)(j:Nat):0<=uJ v j∧uJ v j<=18446744073709551615:=by
 unfold uJ
 have h1:0<=v % 18446744073709551616:=Int.emod_nonneg _ oM
 have h2:v % 18446744073709551616<18446744073709551616:=Int.emod_lt_of_pos _ oM
 have hp: (0:Int) <256 ^ j:=Int.pow_pos oM
 refine⟨Int.ediv_nonneg h1 oM,?_⟩
 have:=Int.ediv_le_self (256 ^ j) h1
 omega
section
variable {w w1:World}{F:Nat->Prop}{g gb bg en cap:Nat}{cl:Bool}{D:Dc}{S:Img}
theorem take_snoc(l:List UInt8)(j:Nat)(hj:j<l.length):l.take j ++ [l.getD j 0]=l.take (j+1):=by
 rw[List.take_succ_eq_append_getElem hj,List.getD_eq_getElem?_getD,List.getElem?_eq_getElem hj]
 rfl
theorem rd_lay(l0:List UInt8)(hb:On F w (RLaidA g gb bg en cap cl D S l0) w1)(h8:At8 S D (bg+8) en)(hl:D.h+l0.length+8<=en)(v:Int)(hv:V64 v):
 Calls prog 135 #[g,v] w1 (Got (.returned (.tuple #[])) (RLaidA g gb bg en cap cl D S (l0++toB v)) F w):=by
 have hle:=h8.le
 have hlo:=h8.lo
 have hin:=λwr l (h:On F w (RLaidA g gb bg en cap cl D S l) wr)=>rl_in l h
 have hbt:=λwr l (hl:D.h+l.length<en) (h:On F w (RLaidA g gb bg en cap cl D S l) wr)=>rl_byte l h8 hl h
 have hmo:=λwr l b (hl:D.h+l.length<en) (h:On F w (RLaidA g gb bg en cap cl D S l) wr) n hn=>rl_more l b h8 hl h n hn
 have htl:=toB_len v
 have huz:=uJ_zero v
 have hby:=uJ_byte v
 have hst:=uJ_step v
 have hra:=uJ_range v
 have htk:=λj (hj:j<8)=>take_snoc (toB v) j (by rw[htl];exact hj)
 unfold V64 at hv
 have hwr:IntKind.u64.wrap v=uJ v 0:=by rw[huz];rfl
 replace hin:=hid hin
 replace hbt:=hid hbt
 replace hmo:=hid hmo
 replace htl:=hid htl
 replace hby:=hid hby
 replace hst:=hid hst
 replace hra:=hid hra
 replace htk:=hid htk
 replace hb:=hid hb
 clear h8 huz
 go_enter func135,ntmps135
 go_wp2
 go_loopg [4,5] 8 (λk u i wr=> ∃j:Nat,j+k=8∧u = .int .u64 (uJ v j)∧i = .int .i64 (j:Int)∧On F w (RLaidA g gb bg en cap cl D S (l0++ (toB v).take j)) wr)
 case atStart=>exact⟨0,by omega,rfl,rfl,by rw[List.take_zero,List.append_nil];exact hb.out⟩
 case round=>
  obtain⟨j,hj,rfl,rfl,hon⟩:=hrel
  by_cases hjl:j<8
  ·have hlj: (l0++ (toB v).take j).length=l0.length+j:=by rw[List.length_append,List.length_take,htl.out];omega
   obtain⟨c0,c1,c2,c3,c4,cf⟩:=hin.out _ _ hon
   obtain⟨⟨xo,cx⟩,cfr,hne⟩:=hbt.out _ _ (by rw[hlj];omega) hon
   have hfin:=λn hn=>hmo.out wr _ ((toB v).getD j 0) (by rw[hlj];omega) hon n hn
   rw[List.append_assoc,htk.out j hjl]at hfin
   have c3':wr.cell? (g,3)=some (((D.h+ (l0.length+j):Nat):Int):Vl):=by rw[c3];unfold laidB;rw[hlj]
   rw[hlj]at cx hfin
   have hb8:=hby.out j hjl
   have hs8:=hst.out j
   have hr8:=hra.out j
   generalize (((toB v).getD j 0).toNat:Int)=cb at *
   generalize hu2:uJ v (j+1)=u2 at *
   replace hu2:=hid hu2
   generalize uJ v j=u1 at *
   obtain⟨k,hk⟩: ∃k,D.h+ (l0.length+j)=k:=⟨_,rfl⟩
   rw[hk]at c3' cx hfin
   have hk1:bg<=k:=by omega
   have hk2:k<en:=by omega
   have hfin2:=hfin _ rfl
   have f3:=cf 3
   have fk:=cfr k
   replace hfin2:=hid hfin2
   clear c2 c3 c4 cf cfr hfin hlj hon hk
   go_wp2
   go_region
   go_wp2
   go_roundg (gk-1)
   case measure=>omega
   case rel=>exact⟨j+1,by omega,by rw[hu2.out],by go_num,hfin2.out.drew⟩
  ·have hjj:j=8:=by omega
   subst hjj
   rw[List.take_of_length_le (by rw[htl.out];exact Nat.le_refl _)]at hon
   replace hon:=hid hon
   go_wp2
   go_end0
   exact⟨rfl,hon.out⟩
theorem rd_ccomma(l:List UInt8)(hb:On F w (RLaidA g gb bg en cap false D S l) w1)(h8:At8 S D (bg+8) en)(hl:D.h+l.length<en)(b:UInt8):
 Calls prog 136 #[g,.int .u8 (b.toNat:Int)] w1 (Got (.returned (.int .i64 0)) (RLaidA g gb bg en cap false D S (l ++ [b])) F w):=by
 have hle:=h8.le
 have hlo:=h8.lo
 have hin:=λwr (h:On F w (RLaidA g gb bg en cap false D S l) wr)=>rl_in l h
 have hbt:=λwr (h:On F w (RLaidA g gb bg en cap false D S l) wr)=>rl_byte l h8 hl h
 have hmo:=λwr (h:On F w (RLaidA g gb bg en cap false D S l) wr) n hn=>rl_more l b h8 hl h n hn
 have hto:=λn=>rd_to ((hin _ hb).drewN n) oM oM
 obtain⟨c0,c1,c2,c3,c4,cf⟩:=hin _ hb
 have c3':w1.cell? (g,3)=some (((D.h+l.length:Nat):Int):Vl):=c3
 obtain⟨k,hk⟩: ∃k,D.h+l.length=k:=⟨_,rfl⟩
 rw[hk]at c3'
 replace hb:=hid hb
 replace hin:=hid hin
 replace hbt:=hid hbt
 replace hmo:=hid hmo
 replace hto:=hid hto
 clear h8 c0 c1 c2 c3 c4 cf
 have ht:decide ((en:Int)<=(k:Int))=false:=decide_eq_false oM
 generalize (b.toNat:Int)=cb at *
 go_enter func136,ntmps136
 go_wp2_with fail
 go_quiet ((go_at_call 133;exact Calls.quiet_of (hto.out _)))
 have hb2:=hb.out.drewN nq
 obtain⟨w2,hw2⟩: ∃w2,w1.drewN nq=w2:=⟨_,rfl⟩
 rw[hw2]at hb2⊢
 clear hw2 hb hto c3'
 obtain⟨c0,c1,c2,c3,c4,cf⟩:=hin.out _ hb2
 have c3':w2.cell? (g,3)=some (((D.h+l.length:Nat):Int):Vl):=c3
 obtain⟨⟨xo,cx⟩,cfr,hne⟩:=hbt.out _ hb2
 have hfin:=hmo.out _ hb2 _ rfl
 rw[hk]at c3' cx hfin
 have hk1:bg<=k:=by omega
 have hk2:k<en:=by omega
 have f3:=cf 3
 have fk:=cfr k
 replace hfin:=hid hfin
 replace hb2:=hid hb2
 replace hk:=hid hk
 clear c3 c4 cf cfr hin hbt hmo
 go_wp2_with fail
 go_region
 go_wp2
 go_ret
 exact⟨rfl,hfin.out.drew⟩
end
def rstkC(gr n d:Nat)(un ov:Int):Array Value:=#[.slice gr n n,(d:Int),un,ov]
def rstkL(g gr d:Nat)(un ov:Int)(all:List Int):List Asr:=[BlkA g 199 (rstkC gr all.length d un ov),BlkA gr 3 (intsC all)]
theorem made0i(n:Nat):madeCells #[Value.int .i64 0] n=intsC (List.replicate n 0):=by
 unfold intsC
 apply Array.ext'
 simp[madeCells,Nat.mod_one]
 apply List.ext_getElem<;>simp
section
variable {w w1:World}{F:Nat->Prop}{g gr d:Nat}{un ov:Int}{all:List Int}
theorem rs_new(rg:Int)(n:Nat)(hn:n<=512)(un ov:Int)(hrg: (rg=4∧un=1∧ov=2)∨(rg=5∧un=3∧ov=4))(w:World):
 Calls prog 56 #[rg,((8*n:Nat):Int)] w (PostE (λe B=> ∃g gr,e = .returned (.tuple #[.pointer (some ⟨g,0,none⟩),.bool true])∧B=AllA (rstkL g gr 0 un ov (List.replicate n 0))) Nob w):=by
 have hmk:=run_make_row' (P:=prog) 50 3 (.int .i64 0) 8 underlying50 kR rfl .i64 .i64 n oM oM w
 rw[made0i]at hmk
 have hq: ((8*n:Nat):Int).tdiv 8= (n:Int):=by rw[Int.tdiv_eq_ediv_of_nonneg oM];omega
 have hq2: ((8*n:Nat):Int) /8= (n:Int):=by omega
 have hon:=((On.refl (A:=AllA []) (F:=Nob) (w:=w) (λ_ h=>h)).box (intsC (List.replicate n 0)) 3)
 have hlen: (List.replicate n (0:Int)).length=n:=by simp
 have hfin:=λW (h:On Nob w (AllA [BlkA (w.heap.size+1) 199 (rstkC w.heap.size n 0 un ov),BlkA w.heap.size 3 (intsC (List.replicate n 0))]) W)=>(by
  unfold rstkL
  rw[hlen]
  exact h:On Nob w (AllA (rstkL (w.heap.size+1) w.heap.size 0 un ov (List.replicate n 0))) W)
 have hn8: ((8*n:Nat):Int)=8* (n:Int):=by omega
 have hsz: (w.alloc (.cells (intsC (List.replicate n 0)) 3)).heap.size=w.heap.size+1:=by simp
 have hbx:=hon.box (rstkC w.heap.size n 0 un ov) 199
 rw[hsz]at hbx
 unfold rstkC at hbx hfin
 have hfin2:=hfin _ hbx
 generalize intsC (List.replicate n 0)=row at *
 rw[hn8]
 rw[hn8]at hq2 hq
 replace hon:=hid hon
 replace hfin:=hid hfin
 replace hfin2:=hid hfin2
 replace hn8:=hid hn8
 clear hlen hbx
 rcases hrg with⟨rfl,rfl,rfl⟩ | ⟨rfl,rfl,rfl⟩
 ·go_enter func56,ntmps56
  go_wp2
  go_ret2
  exact⟨_,⟨_,_,rfl,rfl⟩,hfin2.out⟩
 ·go_enter func56,ntmps56
  go_wp2
  go_ret2
  exact⟨_,⟨_,_,rfl,rfl⟩,hfin2.out⟩
end
end Vm
end Go.Proofs.YteaijdgnagkllaaGreatDoor
