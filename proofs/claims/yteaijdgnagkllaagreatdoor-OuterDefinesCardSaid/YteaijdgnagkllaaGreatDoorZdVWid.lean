/- Chapter 1: cells of two words: products, quotients. Conditions: as written. -/
import Derived.Test.YteaijdgnagkllaaGreatDoorZdVDiv64
import Derived.Shelf.Spec.BitsCarry
open Go.Proofs.Tryz
namespace Go.Proofs.YteaijdgnagkllaaGreatDoor
set_option linter.unusedVariables false
set_option linter.unusedSimpArgs false
set_option maxHeartbeats 8000000
set_option maxRecDepth 100000
open Go.RowKit Go.Lib Go.Deep
namespace Vm
def uw(a:Int):Nat:=(a % 18446744073709551616).toNat
theorem uw_lt(a:Int):uw a<18446744073709551616:=by unfold uw;omega
theorem uw_wrap(a:Int):IntKind.u64.wrap a= (uw a:Int):=by rw[IntKind.wrap_u64];unfold uw;omega
theorem On.outN{w w':World}{A:Asr}(h:On Nob w A w'):Below w.heap.size w w':=let⟨_,_,hk,_⟩:=h;hk.below0
def utHi(a b:Int):Int:=wrap64 ((uw a*uw b/18446744073709551616:Nat):Int)
def utLo(a b:Int):Int:=wrap64 ((uw a*uw b % 18446744073709551616:Nat):Int)
theorem c_utimes(a b:Int)(w:World):Calls prog 233 #[a,b] w (Quiet (.agg #[(utLo a b),(utHi a b)]) w):=by
 have hm:=λw=>Tryz.bits_Mul64 (uw a) (uw b) (uw_lt a) (uw_lt b) w
 have e1:=uw_wrap a
 have e2:=uw_wrap b
 unfold utLo utHi
 generalize uw a*uw b/18446744073709551616=h at *
 generalize uw a*uw b % 18446744073709551616=l at *
 generalize uw a=ua at *
 generalize uw b=ub at *
 replace hm:=hid hm
 go_enter func233,ntmps233
 go_wp2_with fail
 refine(hm.out _).mono ?_
 rintro e w1 ⟨rfl,rfl⟩
 simp only[]
 go_wp2
 exact bodyPost_ret (v:= .agg #[(wrap64 (l:Int)),(wrap64 (h:Int))]) (by simp[results,results233,go_sem]) rfl ⟨rfl,((On.refl (A:=AllA []) (F:=Nob) (w:=w) (λ_ h=>h)).box _ _).outN⟩
def tHi(a b:Int):Int:=wrap64 (utHi a b-wrap64 (bits .and .i64 (a/9223372036854775808) b+bits .and .i64 (b/9223372036854775808) a))
theorem c_times(a b:Int)(w:World):Calls prog 232 #[a,b] w (Quiet (.agg #[(utLo a b),(tHi a b)]) w):=by
 have hu:=λw=>c_utimes a b w
 unfold tHi
 generalize utLo a b=l at *
 generalize utHi a b=h at *
 have hbx:On Nob w (AllA [BlkA w.heap.size 328 #[(0:Int),(0:Int)]]) (w.alloc (.cells #[(0:Int),(0:Int)] 328)):=(On.refl (A:=AllA []) (F:=Nob) (w:=w) (λ_ h=>h)).box _ _
 replace hu:=hid hu
 replace hbx:=hid hbx
 go_enter func232,ntmps232
 go_wp2_with fail
 refine mo (hu.out _) λw1 hb=>?_
 simp only[]
 have h1:=hbx.out.below hb
 have c0:w1.cell? (w.heap.size,0)=some (.int .i64 0):=(h1.blkAt 0 rfl).cell 0
 have c1:w1.cell? (w.heap.size,1)=some (.int .i64 0):=(h1.blkAt 0 rfl).cell 1
 have f0:=(h1.blkAt 0 rfl).frozen 0
 have f1:=(h1.blkAt 0 rfl).frozen 1
 have lt:=(h1.blkAt 0 rfl).lt
 replace h1:=hid h1
 clear hb
 go_wp2
 generalize wrap64 (h-wrap64 (bits .and .i64 (a/9223372036854775808) b+bits .and .i64 (b/9223372036854775808) a))=t at *
 have h2:=((h1.out.setAt 0 rfl 0 (.int .i64 l)).setAt 0 rfl 1 (.int .i64 t)).box #[l,t] 328
 have d0:=(h2.blkAt 1 rfl).cell 0
 have d1:=(h2.blkAt 1 rfl).cell 1
 exact bodyPost_ret (v:= .agg #[l,t]) (by simp[results,results232,go_sem,d0,d1]) rfl ⟨rfl,h2.outN⟩
theorem sub64_run(x y b:Nat)(hb:b<=1)(w:World): (callFunc 290 #[.int .u64 (x:Int),.int .u64 (y:Int),.int .u64 (b:Int)]).run prog w =
 .ok (.value (.tuple #[.int .u64 (((x+18446744073709551616-y-b) % 18446744073709551616:Nat):Int),.int .u64 ((if x<y+b then 1 else 0:Nat):Int)])) w:=by
 rw[run_callFunc_extern func290 kR kR kR (e:=sub64Entry) kR,run_sub64 x y b hb]
 rfl
def udQ(lo hi n:Int):Int:=wrap64 (((uw hi*18446744073709551616+uw lo) /uw n:Nat):Int)
def udR(lo hi n:Int):Int:=wrap64 (((uw hi*18446744073709551616+uw lo) % uw n:Nat):Int)
def udOut(hi n:Int):Bool:=decide (uw n<=uw hi)
def tri(out:Bool)(q r:Int):Value:=if out then .tuple #[(0:Int),(0:Int),(7:Int)]else .tuple #[q,r,(0:Int)]
theorem c_udiv(lo hi n:Int)(w:World):Calls prog 234 #[.agg #[lo,hi],n] w (Quiet (tri (udOut hi n) (udQ lo hi n) (udR lo hi n)) w):=by
 have hbx:On Nob w (AllA [BlkA w.heap.size 328 #[lo,hi]]) (w.alloc (.cells #[lo,hi] 328)):=(On.refl (A:=AllA []) (F:=Nob) (w:=w) (λ_ h=>h)).box _ _
 have e1:=uw_wrap lo
 have e2:=uw_wrap hi
 have e3:=uw_wrap n
 have hlo:=uw_lt lo
 have hhi:=uw_lt hi
 have hn:=uw_lt n
 unfold udQ udR udOut
 generalize uw lo=ul at *
 generalize uw hi=uh at *
 generalize uw n=un at *
 replace hbx:=hid hbx
 by_cases h:un<=uh
 ·have t1:decide (un<=uh)=true:=decide_eq_true h
  rw[t1]
  clear hlo hhi hn
  replace h:=hid h
  generalize wrap64 _=q
  generalize wrap64 _=r
  show Calls _ _ _ _ (Quiet (.tuple #[(0:Int),(0:Int),(7:Int)]) w)
  go_enter func234,ntmps234
  go_wp2
  exact bodyPost_ret (v:= .tuple #[(0:Int),(0:Int),(7:Int)]) (by simp[results,results234,go_sem]) rfl ⟨rfl,hbx.out.outN⟩
 ·have t1:decide (un<=uh)=false:=decide_eq_false h
  rw[t1]
  have hd:=λw=>div64_walk uh ul un oM hlo hn w
  generalize (uh*18446744073709551616+ul) /un=Q at *
  generalize (uh*18446744073709551616+ul) % un=R at *
  clear hlo hhi hn
  replace h:=hid h
  replace hd:=hid hd
  show Calls _ _ _ _ (Quiet (.tuple #[(wrap64 (Q:Int)),(wrap64 (R:Int)),(0:Int)]) w)
  go_enter func234,ntmps234
  go_wp2_with fail
  refine(hd.out _).mono ?_
  rintro e w1 ⟨rfl,k,rfl⟩
  simp only[]
  go_wp2
  exact bodyPost_ret (v:= .tuple #[(wrap64 (Q:Int)),(wrap64 (R:Int)),(0:Int)]) (by simp[results,results234,go_sem]) rfl ⟨rfl,(hbx.out.drewN k).outN⟩
def opLo(lo:Int):Int:=wrap64 (((18446744073709551616-uw lo) % 18446744073709551616:Nat):Int)
def opB(lo:Int):Nat:=if 0<uw lo then 1 else 0
def opHi(lo hi:Int):Int:=wrap64 (((18446744073709551616-uw hi-opB lo) % 18446744073709551616:Nat):Int)
theorem c_opp(lo hi:Int)(w:World):Calls prog 281 #[.agg #[lo,hi]] w (Quiet (.agg #[(opLo lo),(opHi lo hi)]) w):=by
 have hbx:On Nob w (AllA [BlkA w.heap.size 328 #[lo,hi]]) (w.alloc (.cells #[lo,hi] 328)):=(On.refl (A:=AllA []) (F:=Nob) (w:=w) (λ_ h=>h)).box _ _
 have hb2:=hbx.box #[(opLo lo),(opHi lo hi)] 328
 have e1:=uw_wrap lo
 have e2:=uw_wrap hi
 have h1:=λw=>sub64_run 0 (uw lo) 0 oM w
 have hob:opB lo<=1:=by unfold opB;split<;>omega
 have h2:=λw=>sub64_run 0 (uw hi) (opB lo) hob w
 unfold opHi opLo at *
 have ho: (if 0<uw lo+0 then 1 else 0:Nat)=opB lo:=rfl
 rw[ho,Nat.zero_add,Nat.sub_zero]at h1
 rw[Nat.zero_add]at h2
 generalize opB lo=b at *
 generalize (18446744073709551616-uw lo) % 18446744073709551616=A at *
 generalize (18446744073709551616-uw hi-b) % 18446744073709551616=B at *
 generalize uw lo=ul at *
 generalize (if 0<uw hi+b then 1 else 0:Nat)=b2 at *
 generalize uw hi=uh at *
 replace hb2:=hid hb2
 clear hbx hob ho
 have h1': ∀w,(callFunc 290 #[.int .u64 0,.int .u64 (ul:Int),.int .u64 0]).run prog w = .ok (.value (.tuple #[.int .u64 (A:Int),.int .u64 (b:Int)])) w:=h1
 have h2': ∀w,(callFunc 290 #[.int .u64 0,.int .u64 (uh:Int),.int .u64 (b:Int)]).run prog w = .ok (.value (.tuple #[.int .u64 (B:Int),.int .u64 (b2:Int)])) w:=h2
 clear h1 h2
 go_enter func281,ntmps281
 go_wp2
 exact bodyPost_ret (v:= .agg #[(wrap64 (A:Int)),(wrap64 (B:Int))]) (by simp[results,results281,go_sem]) rfl ⟨rfl,hb2.out.outN⟩
def dvLo(lo hi:Int):Int:=if hi<0 then opLo lo else lo
def dvHi(lo hi:Int):Int:=if hi<0 then opHi lo hi else hi
def dvM(n:Int):Int:=if n<0 then wrap64 (-n)else n
def dvQ0(lo hi n:Int):Int:=udQ (dvLo lo hi) (dvHi lo hi) (dvM n)
def dvR0(lo hi n:Int):Int:=udR (dvLo lo hi) (dvHi lo hi) (dvM n)
def dvOut0(lo hi n:Int):Bool:=udOut (dvHi lo hi) (dvM n)
def dvSame(hi n:Int):Bool:=decide (hi<0) ==decide (n<0)
def dvOut(lo hi n:Int):Bool:=dvOut0 lo hi n|| (if dvSame hi n then decide (dvQ0 lo hi n<0)else decide (dvQ0 lo hi n<0) &&decide (dvQ0 lo hi n≠ -9223372036854775808))
def dvQ(lo hi n:Int):Int:=if dvSame hi n then dvQ0 lo hi n else wrap64 (-dvQ0 lo hi n)
def dvR(lo hi n:Int):Int:=if hi<0 then wrap64 (-dvR0 lo hi n)else dvR0 lo hi n
theorem two_box(lo hi n:Int)(w:World):On Nob w (AllA [BlkA (w.heap.size+1) 366 #[.bool (decide (hi<0)),.bool (decide (n<0))],BlkA w.heap.size 328 #[lo,hi]]) ((w.alloc (.cells #[lo,hi] 328)).alloc (.cells #[.bool (decide (hi<0)),.bool (decide (n<0))] 366)):=by
 have h:=((On.refl (A:=AllA []) (F:=Nob) (w:=w) (λ_ h=>h)).box #[lo,hi] 328).box #[.bool (decide (hi<0)),.bool (decide (n<0))] 366
 simp only[World.size_alloc]at h
 exact h
theorem ne_bne(a b:Int):decide (a≠b)= (a != b):=by
 by_cases h:a=b
 ·subst h;simp
 ·simp[h]
theorem eq_beq(a b:Int):decide (a=b)= (a==b):=by
 by_cases h:a=b
 ·subst h;simp
 ·simp[h]
theorem c_div(lo hi n:Int)(w:World):Calls prog 265 #[.agg #[lo,hi],n] w (Quiet (tri (dvOut lo hi n) (dvQ lo hi n) (dvR lo hi n)) w):=by
 have hbx:=two_box lo hi n w
 have hu2: ∀w,Calls prog 234 #[.agg #[(dvLo lo hi),(dvHi lo hi)],(dvM n)] w (Quiet (tri (dvOut0 lo hi n) (dvQ0 lo hi n) (dvR0 lo hi n)) w):=λw=>c_udiv (dvLo lo hi) (dvHi lo hi) (dvM n) w
 have ho:=λw=>c_opp lo hi w
 unfold dvOut dvQ dvR dvSame
 generalize dvOut0 lo hi n=o at *
 generalize dvQ0 lo hi n=Q at *
 generalize dvR0 lo hi n=R at *
 unfold dvLo dvHi dvM at hu2
 generalize opLo lo=lo2 at *
 generalize opHi lo hi=hi2 at *
 rw[ne_bne]
 generalize hV:tri _ _ _=V
 replace ho:=hid ho
 rcases ha:decide (hi<0)with _|_<;>rcases hb:decide (n<0)with _|_
 all_goals
  have pa:=ha
  have pb:=hb
  simp only[decide_eq_true_eq,decide_eq_false_iff_not]at pa pb
  rw[ha,hb]at hbx hV
  simp only[pa,pb,if_true,if_false,beq_self_eq_true,show(true==false)=false from rfl,show(false==true)=false from rfl,Bool.false_eq_true]at hV hu2
  replace hV:=hid hV
  replace hbx:=hid hbx
  replace hu2:=hid hu2
  have h2:=hbx
  clear pa pb
  go_enter func265,ntmps265
  go_wp2_with fail
 any_goals
  go_at_call 281
  refine mo (ho.out _) λw1 hb1=>?_
  simp only[]
  have h1:=hbx.out.below hb1
  have c0:w1.cell? (w.heap.size,0)=some (lo:Vl):=(h1.blkAt 1 rfl).cell 0
  have c1:w1.cell? (w.heap.size,1)=some (hi:Vl):=(h1.blkAt 1 rfl).cell 1
  have f0:=(h1.blkAt 1 rfl).frozen 0
  have f1:=(h1.blkAt 1 rfl).frozen 1
  have s0:w1.cell? ⟨w.heap.size+1,0,none⟩=some (.bool _):=(h1.blkAt 0 rfl).cell 0
  have s1:w1.cell? ⟨w.heap.size+1,1,none⟩=some (.bool _):=(h1.blkAt 0 rfl).cell 1
  replace h2:=hid ((h1.setAt 1 rfl 0 (.int .i64 lo2)).setAt 1 rfl 1 (.int .i64 hi2))
  replace h1:=hid h1
  clear hb1
  go_wp2_with fail
 all_goals
  refine mo (hu2.out _) λw3 hb3=>?_
  have h3:=hid (h2.out.below hb3)
  have z0:w3.cell? ⟨w.heap.size+1,0,none⟩=some (.bool _):=(h3.out.blkAt 0 rfl).cell 0
  have z1:w3.cell? ⟨w.heap.size+1,1,none⟩=some (.bool _):=(h3.out.blkAt 0 rfl).cell 1
  replace hV:=hV.out
  clear hb3 ho hbx hu2 h2
  rcases o with _|_
 all_goals rcases t1:decide (Q<0)with _|_
 all_goals rcases t2: (Q != -9223372036854775808)with _|_
 all_goals
  simp only[tri,t1,t2,Bool.true_or,Bool.false_or,Bool.or_true,Bool.or_false,Bool.true_and,Bool.false_and,Bool.and_true,Bool.and_false,Bool.not_true,Bool.not_false,Bool.false_eq_true,eq_self,if_true,if_false]at hV
  replace hV:=hid hV
  unfold tri
  simp only[]
  go_wp2
  obtain rfl:=hV.out
  exact bodyPost_ret (by simp[results,results265,go_sem]) rfl ⟨rfl,h3.out.outN⟩
def fdOff(lo hi n:Int):Bool:= !dvOut lo hi n&& (decide (dvR lo hi n≠0) &&decide (bits .xor .i64 (dvR lo hi n) n<0))
def fdOut(lo hi n:Int):Bool:=dvOut lo hi n|| (fdOff lo hi n&&decide (dvQ lo hi n = -9223372036854775808))
def fdQ(lo hi n:Int):Int:=if fdOff lo hi n then wrap64 (dvQ lo hi n-1)else dvQ lo hi n
def fdR(lo hi n:Int):Int:=if fdOff lo hi n then wrap64 (dvR lo hi n+n)else dvR lo hi n
theorem c_fdiv(lo hi n:Int)(w:World):Calls prog 231 #[.agg #[lo,hi],n] w (Quiet (tri (fdOut lo hi n) (fdQ lo hi n) (fdR lo hi n)) w):=by
 have hd:=λw=>c_div lo hi n w
 have hbx:On Nob w (AllA [BlkA w.heap.size 328 #[lo,hi]]) (w.alloc (.cells #[lo,hi] 328)):=(On.refl (A:=AllA []) (F:=Nob) (w:=w) (λ_ h=>h)).box _ _
 unfold fdOut fdQ fdR fdOff
 generalize dvQ lo hi n=Q at *
 generalize dvR lo hi n=R at *
 generalize dvOut lo hi n=o at *
 rw[ne_bne,eq_beq]
 generalize hV:tri _ _ _=V
 replace hd:=hid hd
 replace hbx:=hid hbx
 rcases o with _|_
 all_goals rcases t1: (R != 0)with _|_
 all_goals rcases t2:decide (bits .xor .i64 R n<0)with _|_
 all_goals rcases t3: (Q == -9223372036854775808)with _|_
 all_goals
  simp only[tri,t1,t2,t3,Bool.true_or,Bool.false_or,Bool.or_true,Bool.or_false,Bool.true_and,Bool.false_and,Bool.and_true,Bool.and_false,Bool.not_true,Bool.not_false,Bool.false_eq_true,eq_self,if_true,if_false]at hV
  replace hV:=hid hV
  go_enter func231,ntmps231
  go_wp2_with fail
  refine mo (hd.out _) λw3 hb3=>?_
  unfold tri
  simp only[]
  have h3:=hid (hbx.out.below hb3)
  clear hb3
  go_wp2
  obtain rfl:=hV.out
  exact bodyPost_ret (by simp[results,results231,go_sem]) rfl ⟨rfl,h3.out.outN⟩
theorem c_sdiv(lo hi n:Int)(w:World):Calls prog 235 #[.agg #[lo,hi],n] w (Quiet (tri (dvOut lo hi n) (dvQ lo hi n) (dvR lo hi n)) w):=by
 have hd:=λw=>c_div lo hi n w
 have hbx:On Nob w (AllA [BlkA w.heap.size 328 #[lo,hi]]) (w.alloc (.cells #[lo,hi] 328)):=(On.refl (A:=AllA []) (F:=Nob) (w:=w) (λ_ h=>h)).box _ _
 replace hbx:=hid hbx
 generalize dvQ lo hi n=Q at *
 generalize dvR lo hi n=R at *
 generalize dvOut lo hi n=o at *
 replace hd:=hid hd
 cases o with
 | true=>
   show Calls _ _ _ _ (Quiet (.tuple #[(0:Int),(0:Int),(7:Int)]) w)
   go_enter func235,ntmps235
   go_wp2_with fail
   refine mo (hd.out _) λw3 hb3=>?_
   unfold tri
   simp only[]
   replace hb3:=hid hb3
   go_wp2
   exact bodyPost_ret (v:= .tuple #[(0:Int),(0:Int),(7:Int)]) (by simp[results,results235,go_sem]) rfl ⟨rfl,(hbx.out.below hb3.out).outN⟩
 | false=>
   show Calls _ _ _ _ (Quiet (.tuple #[Q,R,(0:Int)]) w)
   go_enter func235,ntmps235
   go_wp2_with fail
   refine mo (hd.out _) λw3 hb3=>?_
   unfold tri
   simp only[]
   replace hb3:=hid hb3
   go_wp2
   exact bodyPost_ret (v:= .tuple #[Q,R,(0:Int)]) (by simp[results,results235,go_sem]) rfl ⟨rfl,(hbx.out.below hb3.out).outN⟩
end Vm
end Go.Proofs.YteaijdgnagkllaaGreatDoor
