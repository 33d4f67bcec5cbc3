/- The law VmFuel, walked. Conditions: the law's arguments are cells; the tables of the library are there. Printed by gen_vfuelw.py. -/
import Derived.Test.YtjohhkikoejadaaGreatDoorOm
import Derived.Test.YtjohhkikoejadaaGreatDoorZ02
import Derived.Test.YtjohhkikoejadaaGreatDoorZ48
import Derived.Test.YtjohhkikoejadaaGreatDoorZVArgS
namespace Go.Proofs.YtjohhkikoejadaaGreatDoor
set_option linter.unusedVariables false
set_option linter.unusedSimpArgs false
set_option maxHeartbeats 8000000
set_option maxRecDepth 100000
open Go.RowKit Go.Lib Go.Deep
namespace Vm
theorem fuel_walk(s:Setup)(m:Sl)(a1 a2 a3:Int)(h1:V64 a1)(h2:V64 a2)(h3:V64 a3)(w:World)(hs:dU w s m)(hv:EV s)(hP:Pows w)(hB:Bruijn w) :
 Calls Tryz.prog 3 #[.agg (ak s m),a1,a2,a3] w (Quiet (.bool true) w):=by
 have hp0:=λW=>j6 s.aQ 8 W hs.aQ oM
 have hp1:=λW=>j6 a1 2000 W h1 oM
 have hp3:=λW=>j6 a3 1000 W h3 oM
 have hcp:=nj s.aQ 8 oM
 have hF:=nj a1 2000 oM
 have hM:=nj a3 1000 oM
 generalize dG s.aQ 8=cp at *
 generalize dG a1 2000=Fu at *
 generalize dG a3 1000=mo at *
 obtain⟨hcp0,hcp8⟩:=hcp
 obtain⟨hF0,hF1⟩:=hF
 obtain⟨hM0,hM1⟩:=hM
 have hs2:dU w { s with aQ:=cp } m:=⟨hs.kw,hs.sw,hs.dw,hs.rw_,hs.kl,hs.sl,by show V64 cp;unfold V64;omega,hs.room,hs.base,hs.inp,hs.hid⟩
 have hv2:EV { s with aQ:=cp }:=⟨hv.fa,hv.us,hv.hd⟩
 have hfit:=λ(a:Mw) (b:Bc) (r:Rc) (x:Rw)=>Lt (a:=a) (b:=b) (r:=r) (x:=x) { s with aQ:=cp } hv2 hcp0 hcp8 w hP hB
 have hbx:=(Cz w).box (ak s m) 25
 have hb0:Blk (w.alloc (.cells (ak s m) 25)) w.heap.size 25 (ak s m):=hbx.ab 0 rfl
 replace hbx:=hid hbx
 replace hb0:=hid hb0
 replace hs2:=hid hs2
 replace hfit:=hid hfit
 replace hp0:=hid hp0
 replace hp1:=hid hp1
 replace hp3:=hid hp3
 clear hs hv hv2 h1 h3
 unfold ak
 go_enter Tryz.func3,Tryz.ntmps3
 go_wp2_with fail
 refine(AJ _).mono ?_
 rintro e w1 ⟨rfl,hb1⟩
 simp only[]
 have hon1:=hbx.out.below hb1
 have hbA:Blk w1 w.heap.size 25 (ak s m):=hon1.ab 0 rfl
 have k0:w1.cell? (w.heap.size,0) =some (s.aQ:Vl):=hbA.cell 0
 have k1:w1.cell? (w.heap.size,1) =some (s.room:Vl):=hbA.cell 1
 have k2:w1.cell? (w.heap.size,2) =some (.string s.input):=hbA.cell 2
 have k3:w1.cell? (w.heap.size,3) =some (.string s.hidden):=hbA.cell 3
 have k4:w1.cell? (w.heap.size,4) =some (.bool s.opened):=hbA.cell 4
 have k5:w1.cell? (w.heap.size,5) =some (.slice m.kA s.kernel.length m.kc):=hbA.cell 5
 have k6:w1.cell? (w.heap.size,6) =some (.slice m.sA s.aN.length m.sc):=hbA.cell 6
 have k7:w1.cell? (w.heap.size,7) =some (s.base:Vl):=hbA.cell 7
 have k8:w1.cell? (w.heap.size,8) =some (.slice m.dA s.data.length m.dc):=hbA.cell 8
 have k9:w1.cell? (w.heap.size,9) =some (.slice m.rA s.ret.length m.rc):=hbA.cell 9
 have k10:w1.cell? (w.heap.size,10) =some (s.fault:Vl):=hbA.cell 10
 have k11:w1.cell? (w.heap.size,11) =some (s.used:Vl):=hbA.cell 11
 have k12:w1.cell? (w.heap.size,12) =some (s.cP:Vl):=hbA.cell 12
 have f0:=(hon1.ab 0 rfl).frozen 0
 replace hon1:=hid hon1
 replace hb1:=hid hb1
 replace hbA:=hid hbA
 go_wp2_with fail
 refine(hp0.out _).mono ?_
 rintro e w2 ⟨rfl,rfl⟩
 simp only[]
 go_wp2_with fail
 have hon2:On (lC w) w (aa [ae w.heap.size 25 (ak { s with aQ:=cp } m),dW w]) (w2.setCell (w.heap.size,0) (.int .i64 cp)):=hon1.out.setAt 0 rfl 0 (.int .i64 cp)
 generalize w2.setCell (w.heap.size,0) (.int .i64 cp) =w3 at *
 clear k0 k1 k2 k3 k4 k5 k6 k7 k8 k9 k10 k11 k12 f0 hon1 hb1 hbA
 have hb1:Blk w3 w.heap.size 25 (ak { s with aQ:=cp } m):=hon2.ab 0 rfl
 have k0:w3.cell? (w.heap.size,0) =some (cp:Vl):=hb1.cell 0
 have k1:w3.cell? (w.heap.size,1) =some (s.room:Vl):=hb1.cell 1
 have k2:w3.cell? (w.heap.size,2) =some (.string s.input):=hb1.cell 2
 have k3:w3.cell? (w.heap.size,3) =some (.string s.hidden):=hb1.cell 3
 have k4:w3.cell? (w.heap.size,4) =some (.bool s.opened):=hb1.cell 4
 have k5:w3.cell? (w.heap.size,5) =some (.slice m.kA s.kernel.length m.kc):=hb1.cell 5
 have k6:w3.cell? (w.heap.size,6) =some (.slice m.sA s.aN.length m.sc):=hb1.cell 6
 have k7:w3.cell? (w.heap.size,7) =some (s.base:Vl):=hb1.cell 7
 have k8:w3.cell? (w.heap.size,8) =some (.slice m.dA s.data.length m.dc):=hb1.cell 8
 have k9:w3.cell? (w.heap.size,9) =some (.slice m.rA s.ret.length m.rc):=hb1.cell 9
 have k10:w3.cell? (w.heap.size,10) =some (s.fault:Vl):=hb1.cell 10
 have k11:w3.cell? (w.heap.size,11) =some (s.used:Vl):=hb1.cell 11
 have k12:w3.cell? (w.heap.size,12) =some (s.cP:Vl):=hb1.cell 12
 have hmd:=hid (lh hon2 (hs2.out.later (hon2.old 1 rfl)))
 replace hon2:=hid hon2
 replace hb1:=hid hb1
 refine hmd.out.mono ?_
 rintro e v1 ⟨a1,b1,r1,rfl,hW1,hon3⟩
 simp only[]
 replace hW1:=hid hW1
 clear k0 k1 k2 k3 k4 k5 k6 k7 k8 k9 k10 k11 k12 hmd hb1 hon2
 have hb2:Blk v1 w.heap.size 25 (ak { s with aQ:=cp } m):=hon3.ab 1 rfl
 have k0:v1.cell? (w.heap.size,0) =some (cp:Vl):=hb2.cell 0
 have k1:v1.cell? (w.heap.size,1) =some (s.room:Vl):=hb2.cell 1
 have k2:v1.cell? (w.heap.size,2) =some (.string s.input):=hb2.cell 2
 have k3:v1.cell? (w.heap.size,3) =some (.string s.hidden):=hb2.cell 3
 have k4:v1.cell? (w.heap.size,4) =some (.bool s.opened):=hb2.cell 4
 have k5:v1.cell? (w.heap.size,5) =some (.slice m.kA s.kernel.length m.kc):=hb2.cell 5
 have k6:v1.cell? (w.heap.size,6) =some (.slice m.sA s.aN.length m.sc):=hb2.cell 6
 have k7:v1.cell? (w.heap.size,7) =some (s.base:Vl):=hb2.cell 7
 have k8:v1.cell? (w.heap.size,8) =some (.slice m.dA s.data.length m.dc):=hb2.cell 8
 have k9:v1.cell? (w.heap.size,9) =some (.slice m.rA s.ret.length m.rc):=hb2.cell 9
 have k10:v1.cell? (w.heap.size,10) =some (s.fault:Vl):=hb2.cell 10
 have k11:v1.cell? (w.heap.size,11) =some (s.used:Vl):=hb2.cell 11
 have k12:v1.cell? (w.heap.size,12) =some (s.cP:Vl):=hb2.cell 12
 have hmd:=hid (lh hon3 (hs2.out.later (hon3.old 2 rfl)))
 replace hon3:=hid hon3
 replace hb2:=hid hb2
 go_wp2_with fail
 refine hmd.out.mono ?_
 rintro e v2 ⟨a2,b2,r2,rfl,hW2,hon4⟩
 simp only[]
 replace hW2:=hid hW2
 clear k0 k1 k2 k3 k4 k5 k6 k7 k8 k9 k10 k11 k12 hmd hb2 hon3
 have hb3:Blk v2 w.heap.size 25 (ak { s with aQ:=cp } m):=hon4.ab 2 rfl
 have k0:v2.cell? (w.heap.size,0) =some (cp:Vl):=hb3.cell 0
 have k1:v2.cell? (w.heap.size,1) =some (s.room:Vl):=hb3.cell 1
 have k2:v2.cell? (w.heap.size,2) =some (.string s.input):=hb3.cell 2
 have k3:v2.cell? (w.heap.size,3) =some (.string s.hidden):=hb3.cell 3
 have k4:v2.cell? (w.heap.size,4) =some (.bool s.opened):=hb3.cell 4
 have k5:v2.cell? (w.heap.size,5) =some (.slice m.kA s.kernel.length m.kc):=hb3.cell 5
 have k6:v2.cell? (w.heap.size,6) =some (.slice m.sA s.aN.length m.sc):=hb3.cell 6
 have k7:v2.cell? (w.heap.size,7) =some (s.base:Vl):=hb3.cell 7
 have k8:v2.cell? (w.heap.size,8) =some (.slice m.dA s.data.length m.dc):=hb3.cell 8
 have k9:v2.cell? (w.heap.size,9) =some (.slice m.rA s.ret.length m.rc):=hb3.cell 9
 have k10:v2.cell? (w.heap.size,10) =some (s.fault:Vl):=hb3.cell 10
 have k11:v2.cell? (w.heap.size,11) =some (s.used:Vl):=hb3.cell 11
 have k12:v2.cell? (w.heap.size,12) =some (s.cP:Vl):=hb3.cell 12
 have hmd:=hid (lh hon4 (hs2.out.later (hon4.old 3 rfl)))
 replace hon4:=hid hon4
 replace hb3:=hid hb3
 go_wp2_with fail
 refine hmd.out.mono ?_
 rintro e v3 ⟨a3,b3,r3,rfl,hW3,hon5⟩
 simp only[]
 replace hW3:=hid hW3
 clear k0 k1 k2 k3 k4 k5 k6 k7 k8 k9 k10 k11 k12 hmd hb3 hon4
 have hb4:Blk v3 w.heap.size 25 (ak { s with aQ:=cp } m):=hon5.ab 3 rfl
 have k0:v3.cell? (w.heap.size,0) =some (cp:Vl):=hb4.cell 0
 have k1:v3.cell? (w.heap.size,1) =some (s.room:Vl):=hb4.cell 1
 have k2:v3.cell? (w.heap.size,2) =some (.string s.input):=hb4.cell 2
 have k3:v3.cell? (w.heap.size,3) =some (.string s.hidden):=hb4.cell 3
 have k4:v3.cell? (w.heap.size,4) =some (.bool s.opened):=hb4.cell 4
 have k5:v3.cell? (w.heap.size,5) =some (.slice m.kA s.kernel.length m.kc):=hb4.cell 5
 have k6:v3.cell? (w.heap.size,6) =some (.slice m.sA s.aN.length m.sc):=hb4.cell 6
 have k7:v3.cell? (w.heap.size,7) =some (s.base:Vl):=hb4.cell 7
 have k8:v3.cell? (w.heap.size,8) =some (.slice m.dA s.data.length m.dc):=hb4.cell 8
 have k9:v3.cell? (w.heap.size,9) =some (.slice m.rA s.ret.length m.rc):=hb4.cell 9
 have k10:v3.cell? (w.heap.size,10) =some (s.fault:Vl):=hb4.cell 10
 have k11:v3.cell? (w.heap.size,11) =some (s.used:Vl):=hb4.cell 11
 have k12:v3.cell? (w.heap.size,12) =some (s.cP:Vl):=hb4.cell 12
 have hmd:=hid (lh hon5 (hs2.out.later (hon5.old 4 rfl)))
 replace hon5:=hid hon5
 replace hb4:=hid hb4
 go_wp2_with fail
 refine hmd.out.mono ?_
 rintro e v4 ⟨a4,b4,r4,rfl,hW4,hon6⟩
 simp only[]
 replace hW4:=hid hW4
 clear k0 k1 k2 k3 k4 k5 k6 k7 k8 k9 k10 k11 k12 hmd hb4 hon5
 replace hon6:=hid hon6
 have hW1':=hW1.out
 have hf1:=hfit.out a1 b1 r1 (x41 { s with aQ:=cp })
 have hin:=Af hf1 hF0 oM
 have hmore:=λ(m:Int) (h0:0<=m) (h1:m<=500000)=>HD hf1 (F:=Fu) (m:=m) hF0 oM h0 h1
 have hless:=λ(m:Int) (h0:0<=m)=>GM hf1 (F:=Fu) (m:=m) hF0 oM h0
 obtain⟨hn0,hn1⟩:=hin
 have hr1:=mQ 3 5 (by decide) hon6.out rfl rfl hW1.out hf1 Fu
 replace hmore:=hid hmore
 replace hless:=hid hless
 obtain⟨f,hfe⟩ : ∃f,kG { s with aQ:=cp } Fu=f:=⟨_,rfl⟩
 obtain⟨n,hne⟩ : ∃n,eT { s with aQ:=cp } Fu=n:=⟨_,rfl⟩
 rw[hfe,hne]at hr1
 rw[hne]at hn0 hn1
 replace hr1:=hid hr1
 replace hfe:=hid hfe
 replace hne:=hid hne
 clear hf1 hW1'
 go_wp2_with fail
 refine(hp1.out _).mono ?_
 rintro e w4 ⟨rfl,rfl⟩
 simp only[]
 go_wp2_with fail
 refine hr1.out.mono ?_
 rintro e w5 ⟨rfl,hon7⟩
 simp only[]
 have hon7:On (lC w) w (aa [aa (mL (aO a4 b4 r4 (x41 { s with aQ:=cp })) ({ s with aQ:=cp }:Setup).mt),aa (mL (aO a3 b3 r3 (x41 { s with aQ:=cp })) ({ s with aQ:=cp }:Setup).mt),aa (mL (aO a2 b2 r2 (x41 { s with aQ:=cp })) ({ s with aQ:=cp }:Setup).mt),aa (mL (aO a1 b1 r1 (x41 { s with aQ:=cp })) (ea { s with aQ:=cp } Fu)),ae w.heap.size 25 (ak { s with aQ:=cp } m),dW w]) w5:=hon7
 replace hon7:=hid hon7
 clear hr1 hon6
 have hnF:decide (Fu<n) =false:=decide_eq_false oM
 have hnF2:decide (n<=Fu) =true:=decide_eq_true hn1
 by_cases hf13:f=13
 ·subst hf13
  go_wp2
  go_ret
  exact⟨rfl,hon7.out.old 5 rfl⟩
 have hfb: (f==13) =false:=by simpa using hf13
 have hq:kG { s with aQ:=cp } Fu≠13:=by rw[hfe.out];exact hf13
 have hm0:=hmore.out 0 oM oM hq
 have hm1:=hmore.out mo hM0 oM hq
 rw[hne.out]at hm0 hm1
 rw[Int.add_zero]at hm0
 rw[hfe.out]at hm0 hm1
 obtain⟨p1,p2,p3,p4,p5⟩:=hm0
 obtain⟨q1,q2,q3,q4,q5⟩:=hm1
 have hr2:=mQ 2 5 (by decide) hon7.out rfl rfl hW2.out (hfit.out a2 b2 r2 _) n
 rw[p1,p2]at hr2
 replace hr2:=hid hr2
 replace hf13:=hid hf13
 replace hq:=hid hq
 go_wp2_with fail
 refine hr2.out.mono ?_
 rintro e w6 ⟨rfl,hon8⟩
 simp only[]
 have hon8:On (lC w) w (aa [aa (mL (aO a4 b4 r4 (x41 { s with aQ:=cp })) ({ s with aQ:=cp }:Setup).mt),aa (mL (aO a3 b3 r3 (x41 { s with aQ:=cp })) ({ s with aQ:=cp }:Setup).mt),aa (mL (aO a2 b2 r2 (x41 { s with aQ:=cp })) (ea { s with aQ:=cp } n)),aa (mL (aO a1 b1 r1 (x41 { s with aQ:=cp })) (ea { s with aQ:=cp } Fu)),ae w.heap.size 25 (ak { s with aQ:=cp } m),dW w]) w6:=hon8
 replace hon8:=hid hon8
 clear hr2 hon7
 have hr3:=mQ 1 5 (by decide) hon8.out rfl rfl hW3.out (hfit.out a3 b3 r3 _) (n+mo)
 rw[q1,q2]at hr3
 have hwr:IntKind.i64.wrap (n+mo) =n+mo:=IntWalk.i64_in _ oM
 replace hr3:=hid hr3
 replace hwr:=hid hwr
 clear p1 p2 q1 q2
 go_upto_region 14 with fail
 go_cut [18,19] (λt18 t19 wx=>t18 = .int .i64 f∧t19 = .int .i64 n∧On (lC w) w (aa [aa (mL (aO a4 b4 r4 (x41 { s with aQ:=cp })) ({ s with aQ:=cp }:Setup).mt),aa (mL (aO a3 b3 r3 (x41 { s with aQ:=cp })) (ea { s with aQ:=cp } (n+mo))),aa (mL (aO a2 b2 r2 (x41 { s with aQ:=cp })) (ea { s with aQ:=cp } n)),aa (mL (aO a1 b1 r1 (x41 { s with aQ:=cp })) (ea { s with aQ:=cp } Fu)),ae w.heap.size 25 (ak { s with aQ:=cp } m),dW w]) wx)
 case first=>
  go_wp2_with fail
  refine(hp3.out _).mono ?_
  rintro e w7 ⟨rfl,rfl⟩
  simp only[]
  go_wp2_with fail
  try rw[hwr.out]
  refine hr3.out.mono ?_
  rintro e w8 ⟨rfl,hon9⟩
  simp only[]
  replace hon9:=hid hon9
  go_wp2_with fail
  go_meet
  exact⟨rfl,rfl,hon9.out⟩
 case rest=>
 obtain⟨rfl,rfl,hon9⟩:=hcut
 clear hr3 hon8
 replace hon9:=hid hon9
 have hlf : ∀m,0<=m->m<n->kG { s with aQ:=cp } m=13∧eT { s with aQ:=cp } m<n∧(∃t:List UInt8,(ea { s with aQ:=cp } Fu).T.out.data.toList= (ea { s with aQ:=cp } m).T.out.data.toList++t)∧∃k e2,0<k∧(ea { s with aQ:=cp } Fu).seen=upL k (ea { s with aQ:=cp } m).seen++e2:=λm h0 h1=>by
  obtain⟨l1,l2,l3,l4,e2,l5⟩:=hless.out m h0 hq.out (by rw[hne.out];exact h1)
  rw[hne.out]at l2
  exact⟨l1,l2,l4,Fu-m,e2,by omega,l5⟩
 have hd4:=λ(le:Int) (W2:World) (h:On (lC w) w (aa [aa (mL (aO a4 b4 r4 (x41 { s with aQ:=cp })) ({ s with aQ:=cp }:Setup).mt),aa (mL (aO a3 b3 r3 (x41 { s with aQ:=cp })) (ea { s with aQ:=cp } (n+mo))),aa (mL (aO a2 b2 r2 (x41 { s with aQ:=cp })) (ea { s with aQ:=cp } n)),aa (mL (aO a1 b1 r1 (x41 { s with aQ:=cp })) (ea { s with aQ:=cp } Fu)),ae w.heap.size 25 (ak { s with aQ:=cp } m),dW w]) W2)=>mQ (W:=W2) 0 5 (by decide) h rfl rfl hW4.out (hfit.out a4 b4 r4 _) le
 apply_assumption
 exact M9 (rF:=kG { s with aQ:=cp }) (rN:=eT { s with aQ:=cp }) (rM:=ea { s with aQ:=cp }) (t1:=ea { s with aQ:=cp } Fu) (t2:=ea { s with aQ:=cp } n) (t3:=ea { s with aQ:=cp } (n+mo)) h2 hn0 oM hf13.out p3 p4 p5 q3 q4 q5 hlf hd4 hon9.out
end Vm
end Go.Proofs.YtjohhkikoejadaaGreatDoor
