/- Chapter 11: a machine and all that it works on, as a list of objects. No condition. -/
import Derived.Test.YtjohhkikoejadaaGreatDoorOm
import Derived.Test.YtjohhkikoejadaaGreatDoorZ16
import Derived.Recover
import Derived.Deep.DeepCutAuto
import Derived.ScopeJumps
import Derived.WalkMore
import Derived.Test.YtjohhkikoejadaaGreatDoorZ02
import Derived.Deep.RegionHeld
import Derived.BigQuiet
import Derived.Test.YtjohhkikoejadaaGreatDoorZ03
import Derived.Test.YtjohhkikoejadaaGreatDoorZ13
namespace Go.Proofs.YtjohhkikoejadaaGreatDoor
set_option linter.unusedVariables false
set_option maxHeartbeats 8000000
open Go.RowKit Go.Lib Go.Deep
namespace Vm
def mL(c:Vc)(s:Mt) :List Asr:=gA c s::au c.gI s.S::cR c.gI c.gD s.pd s.d::cR c.gI c.gR s.pr s.r::de c.gT s.T::jO c.gI c.gS c.sfr c.sto s.hs s.ls::jO c.gI c.gK c.kfr c.kto s.hk s.lk::c.tl s.seen::c.rest s.ext
theorem IF(l:List UInt8) :V64 (ofB l):=by unfold ofB V64 wrap64;omega
theorem lp(S:Img)(m a:Int) :V64 (S.aR m a):=by
 unfold Img.aR
 split
 ·exact IF _
 ·unfold V64;omega
theorem fA(S:Img)(fr d:Nat)(n:Int) :V64 (jY S fr d n):=by
 unfold jY
 split
 ·exact lp _ _ _
 ·unfold V64;omega
theorem aZ(n:Int) :V64 (wrap64 n):=by unfold V64 wrap64;omega
end Vm
set_option maxRecDepth 100000
namespace Vm
theorem HL(s:Mt)(n:Nat) : ∀v∈s.args n,V64 v:=by
 intro v hv
 unfold Mt.args at hv
 obtain⟨j,_,rfl⟩:=List.mem_map.1 hv
 exact fA _ _ _ _
theorem aL(s:Mt)(n j:Nat) :V64 (ar s n j):=by
 unfold ar
 by_cases h:j<n
 ·have h2: (s.args n).getD j 0=s.top ((n-1-j:Nat) :Int):=by simp[Mt.args,h]
  rw[h2]
  exact fA _ _ _ _
 ·have h2: (s.args n).getD j 0=0:=by simp[Mt.args,h]
  rw[h2]
  unfold V64;omega
section
variable {w w':World}{F:Nat->Prop}{c:Vc}{g:Nat}{x:Rn}{src:Value}{s:Mt}
theorem kp(m:Nat){L:List Asr}(hm:m<=L.length)(hL:L.drop m=vL c g x src s)(h:On F w (aa L) w')(hs:s.Ok)(l:List Int)(hl : ∀v∈l,V64 v)
 (j:Nat) (hj:j<m) (rb:Nat) (hrow:L[j]? = some (ae rb 3 (af l))) (n:Nat) (hn:n=l.length) (hroom:l.length<=s.pr.rm-s.r) :
 Calls Tryz.prog 53 #[c.gR,.slice rb n n] w' (Got (.returned (.int .i64 0)) (aa (L.take m++vL c g x src (s.aE l))) F w):=by
 subst hn
 refine h.bE m hm λF' hb hdis _=> ?_
 rw[hL]at hb
 obtain⟨F3,hB,hfar⟩:=hdis j _ hj hrow
 obtain⟨h1,h2⟩:=ay rb l _ _ hB
 exact B4 (On.refl hb) hs l hl (some ⟨rb,0,none⟩) l.length h1 (λa ha=>⟨λhk=>hfar _ (h2 a ha) hk,by
  obtain rfl:a= ⟨rb,0,none⟩:=by injection ha with ha;exact ha.symm
  exact hB.1.lt⟩) hroom
end
theorem mW{w:World}{F:Nat->Prop}{c:Vc}{g:Nat}{x:Rn}{src:Value}{s:Mt}{ba:Nat}{r:Array Value}(hb: (aa (ae ba 3 r::vL c g x src s)).holds w F)(op arg lit cells:Int) :
 On F w (aa (ae w.heap.size 155 #[op,arg,lit,cells] ::ae ba 3 r::vL c g x src s)) (w.alloc (.cells #[op,arg,lit,cells] 155))∧(w.alloc (.cells #[op,arg,lit,cells] 155)).cell? (w.heap.size,0) =some (op:Vl)∧(w.alloc (.cells #[op,arg,lit,cells] 155)).cell? (w.heap.size,1) =some (arg:Vl)∧(w.alloc (.cells #[op,arg,lit,cells] 155)).cell? (w.heap.size,2) =some (lit:Vl)∧(w.alloc (.cells #[op,arg,lit,cells] 155)).cell? (w.heap.size,3) =some (cells:Vl):=by
 have hon:=(On.refl hb).box #[op,arg,lit,cells] 155
 have h:=hon.ab 0 rfl
 exact⟨hon,h.cell 0,h.cell 1,h.cell 2,h.cell 3⟩
theorem Gx(arg lit cells:Int) :cS 96 ⟨4,arg,lit,cells⟩ (λx s=>⟨0,{ x with next:=arg },s⟩):=by
 intro c g x src s ba w F hs hx hv1 hv2 hask hb
 obtain⟨hw2,hn⟩:=hask.wn 0
 simp only[hw2]at hb⊢
 obtain⟨hon,b0,b1,-⟩:=mW hb 4 arg lit cells
 show Calls Tryz.prog 96 #[g,.agg #[(4:Int),arg,lit,cells],.slice ba 0 0] w (Got (.returned (.tuple #[])) (aa (ae ba 3 (af (s.args 0)) ::vL c g ({ x with next:=arg }) src (s))) F w)
 have c4:=hon.tail.tail.r4
 have f4:=hon.tail.tail.rf 4
 have hset:=hon.setAt 2 rfl 4 (.int .i64 arg)
 replace hset:=hid hset
 generalize af (s.args 0) =ac at *
 clear hb hs hx hask hon hw2 hn
 go_enter Tryz.func96,Tryz.ntmps96
 go_wp2
 go_end0
 exact⟨rfl,hset.out.tail⟩
theorem Hj(arg lit cells:Int) :cS 96 ⟨3,arg,lit,cells⟩ (λx s=>⟨0,{ x with next:=arg },s.aE [x.next]⟩):=by
 intro c g x src s ba w F hs hx hv1 hv2 hask hb
 obtain⟨hw2,hn⟩:=hask.wn 0
 simp only[hw2]at hb⊢
 obtain⟨hon,b0,b1,-⟩:=mW hb 3 arg lit cells
 show Calls Tryz.prog 96 #[g,.agg #[(3:Int),arg,lit,cells],.slice ba 0 0] w (Got (.returned (.tuple #[])) (aa (ae ba 3 (af (s.args 0)) ::vL c g ({ x with next:=arg }) src (s.aE [x.next]))) F w)
 have hroom:1<=s.pr.rm-s.r:=by
  have h:=hask.Cd
  have e:returns 3 arg s.same= (0,1):=rfl
  simp only[e]at h
  omega
 have d0:=hon.tail.tail.r0
 have d4:=hon.tail.tail.r4
 have d6:=hon.tail.tail.m6
 have hbx:=(hon.box #[x.next] 3).drew
 have hz: (w.alloc (.cells #[(3:Int),arg,lit,cells] 155)).heap.size=w.heap.size+1:=by simp
 rw[hz]at hbx
 have hpush:=kp (c:=c) (g:=g) (x:=x) (src:=src) (s:=s) 3 (by simp) rfl hbx hs [x.next] (λv hv=>by rw[List.mem_singleton.1 hv];exact hx.next) 0 oM (w.heap.size+1) rfl 1 rfl hroom
 have hs1:=eZ hs [x.next] hroom
 have hn1:0<=(s.aE [x.next]).d:=hn
 generalize s.aE [x.next] =s1 at *
 generalize af (s.args 0) =ac at *
 have hst : ∀W,On F w (aa (ae w.heap.size 155 #[(3:Int),arg,lit,cells] ::ae ba 3 ac::vL c g (x) src (s1))) W->W.cell? (g,4) =some (x.next:Vl)∧W.frozen? (g,4) =false∧W.cell? (w.heap.size,0) =some (.int .i64 3)∧W.cell? (w.heap.size,1) =some (arg:Vl)∧w.heap.size≠g∧W.cell? (g,0) =some (c.gM:Vl)∧W.cell? (c.gM,6) =some (c.gR:Vl):=λW h=>⟨h.tail.tail.r4,h.tail.tail.rf 4,(h.ab 0 rfl).cell 0,(h.ab 0 rfl).cell 1,h.sk 0 2 (by decide) rfl rfl,h.tail.tail.r0,h.tail.tail.m6⟩
 replace hpush:=hid hpush
 replace hst:=hid hst
 clear hb hs hx hask hw2 hn hz hbx hroom hs1 hn1 hon
 go_enter Tryz.func96,Tryz.ntmps96
 go_wp2_with fail
 go_region_held (λw'=>w'.cell? (g,0) =some (c.gM:Vl)∧w'.cell? (c.gM,6) =some (c.gR:Vl)∧w'.cell? (g,4) =some (x.next:Vl)) (go_keep)
  ((go_at_call 53;refine hpush.out.mono ?_;rintro e w1 ⟨rfl,h⟩;have h5:On F w (aa (ae w.heap.size 155 #[(3:Int),arg,lit,cells] ::ae ba 3 ac::vL c g (x) src (s1))) w1:=On.tail h;obtain⟨k4,z4,k0,k1,hne,n0,n6⟩:=hst.out _ h5;have h6:=h5.setAt 2 rfl 4 (.int .i64 arg);clear h;replace h5:=hid h5;replace h6:=hid h6;replace hne:=hid hne))
 go_wp2
 go_end0
 exact⟨rfl,h6.out.tail⟩
theorem wO(arg lit cells:Int) :cS 96 ⟨16,arg,lit,cells⟩ (λx s=>⟨0,{ x with next:=ar s 1 0 },((s.aE [x.next]).aq 1 []).2⟩):=by
 intro c g x src s ba w F hs hx hv1 hv2 hask hb
 obtain⟨hw2,hn⟩:=hask.wn 1
 simp only[hw2]at hb⊢
 obtain⟨hon,b0,b1,-⟩:=mW hb 16 arg lit cells
 show Calls Tryz.prog 96 #[g,.agg #[(16:Int),arg,lit,cells],.slice ba 1 1] w (Got (.returned (.tuple #[])) (aa (ae ba 3 (af (s.args 1)) ::vL c g ({ x with next:=ar s 1 0 }) src (((s.aE [x.next]).aq 1 []).2))) F w)
 have hroom:1<=s.pr.rm-s.r:=by
  have h:=hask.Cd
  have e:returns 16 arg s.same= (0,1):=rfl
  simp only[e]at h
  omega
 have ha0 : ∀W,Blk W ba 3 (af (s.args 1))->W.cell? (ba,0) =some ((ar s 1 0) :Vl):=λW hW=>ai hW oM
 have d0:=hon.tail.tail.r0
 have d4:=hon.tail.tail.r4
 have d6:=hon.tail.tail.m6
 have hbx:=(hon.box #[x.next] 3).drew
 have hz: (w.alloc (.cells #[(16:Int),arg,lit,cells] 155)).heap.size=w.heap.size+1:=by simp
 rw[hz]at hbx
 have hpush:=kp (c:=c) (g:=g) (x:=x) (src:=src) (s:=s) 3 (by simp) rfl hbx hs [x.next] (λv hv=>by rw[List.mem_singleton.1 hv];exact hx.next) 0 oM (w.heap.size+1) rfl 1 rfl hroom
 have hs1:=eZ hs [x.next] hroom
 have hn1:1<=(s.aE [x.next]).d:=hn
 generalize s.aE [x.next] =s1 at *
 generalize ar s 1 0=A0 at *
 generalize af (s.args 1) =ac at *
 have hst : ∀W,On F w (aa (ae w.heap.size 155 #[(16:Int),arg,lit,cells] ::ae ba 3 ac::vL c g (x) src (s1))) W->W.cell? (g,4) =some (x.next:Vl)∧W.frozen? (g,4) =false∧W.cell? (w.heap.size,0) =some (.int .i64 16)∧W.cell? (w.heap.size,1) =some (arg:Vl)∧w.heap.size≠g∧W.cell? (g,0) =some (c.gM:Vl)∧W.cell? (c.gM,6) =some (c.gR:Vl):=λW h=>⟨h.tail.tail.r4,h.tail.tail.rf 4,(h.ab 0 rfl).cell 0,(h.ab 0 rfl).cell 1,h.sk 0 2 (by decide) rfl rfl,h.tail.tail.r0,h.tail.tail.m6⟩
 have hlay:=λW (h:On F w (aa (ae w.heap.size 155 #[(16:Int),arg,lit,cells] ::ae ba 3 ac::vL c g ({ x with next:=arg }) src (s1))) W)=>lW (c:=c) (g:=g) (x:={ x with next:=arg }) (src:=src) (s:=s1) 2 (by simp) rfl h hs1 1 hn1
 generalize (s1.aq 1 []).2=s2 at *
 replace hpush:=hid hpush
 replace hst:=hid hst
 replace hlay:=hid hlay
 replace ha0:=hid ha0
 clear hb hs hx hask hw2 hn hz hbx hroom hs1 hn1 hon
 go_enter Tryz.func96,Tryz.ntmps96
 go_wp2_with fail
 go_region_held (λw'=>w'.cell? (g,0) =some (c.gM:Vl)∧w'.cell? (c.gM,6) =some (c.gR:Vl)∧w'.cell? (g,4) =some (x.next:Vl)) (go_keep)
  ((go_at_call 53;refine hpush.out.mono ?_;rintro e w1 ⟨rfl,h⟩;have h5:On F w (aa (ae w.heap.size 155 #[(16:Int),arg,lit,cells] ::ae ba 3 ac::vL c g (x) src (s1))) w1:=On.tail h;obtain⟨k4,z4,k0,k1,hne,n0,n6⟩:=hst.out _ h5;have h6:=h5.setAt 2 rfl 4 (.int .i64 arg);clear h;replace h5:=hid h5;replace h6:=hid h6;replace hne:=hid hne))
 replace hlay:=hid (hlay.out _ h6.out)
 have hne2:=hne.out
 go_wp2_with fail
 refine hlay.out.mono ?_
 rintro e w2 ⟨rfl,h⟩
 have h7:On F w (aa (ae w.heap.size 155 #[(16:Int),arg,lit,cells] ::ae ba 3 ac::vL c g ({ x with next:=arg }) src (s2))) w2:=h
 have p4:=h7.tail.tail.r4
 have q4:=h7.tail.tail.rf 4
 have a0:=ha0.out _ (h7.ab 1 rfl)
 have h8:=h7.setAt 2 rfl 4 (.int .i64 A0)
 replace h8:=hid h8
 clear h h7
 go_wp2
 go_end0
 exact⟨rfl,h8.out.tail⟩
theorem GL(arg lit cells:Int) :cS 96 ⟨5,arg,lit,cells⟩ (λx s=>⟨0,if ar s 1 0=0 then { x with next:=arg } else x,(s.aq 1 []).2⟩):=by
 intro c g x src s ba w F hs hx hv1 hv2 hask hb
 obtain⟨hw2,hn⟩:=hask.wn 1
 simp only[hw2]at hb⊢
 obtain⟨hon,b0,b1,-⟩:=mW hb 5 arg lit cells
 show Calls Tryz.prog 96 #[g,.agg #[(5:Int),arg,lit,cells],.slice ba 1 1] w (Got (.returned (.tuple #[])) (aa (ae ba 3 (af (s.args 1)) ::vL c g (if ar s 1 0=0 then { x with next:=arg } else x) src ((s.aq 1 []).2))) F w)
 have ha0 : ∀W,Blk W ba 3 (af (s.args 1))->W.cell? (ba,0) =some ((ar s 1 0) :Vl):=λW hW=>ai hW oM
 have hlay:=lW (c:=c) (g:=g) (x:=x) (src:=src) (s:=s) 2 (by simp) rfl hon hs 1 hn
 generalize (s.aq 1 []).2=s1 at *
 generalize ar s 1 0=A0 at *
 generalize af (s.args 1) =ac at *
 have hst : ∀W,On F w (aa (ae w.heap.size 155 #[(5:Int),arg,lit,cells] ::ae ba 3 ac::vL c g (x) src (s1))) W->W.cell? (g,4) =some (x.next:Vl)∧W.frozen? (g,4) =false∧W.cell? (ba,0) =some (A0:Vl)∧W.cell? (w.heap.size,1) =some (arg:Vl):=λW h=>⟨h.tail.tail.r4,h.tail.tail.rf 4,ha0 _ (h.ab 1 rfl),(h.ab 0 rfl).cell 1⟩
 replace hlay:=hid hlay
 replace hst:=hid hst
 clear hb hs hx hask hw2 hn ha0 hon
 by_cases hz:A0=0
 ·have ez: (A0==0) =true:=by simpa using hz
  rw[if_pos hz]
  clear hz
  go_enter Tryz.func96,Tryz.ntmps96
  go_wp2_with fail
  refine hlay.out.mono ?_
  rintro e w1 ⟨rfl,h⟩
  have h5:On F w (aa (ae w.heap.size 155 #[(5:Int),arg,lit,cells] ::ae ba 3 ac::vL c g (x) src (s1))) w1:=h
  obtain⟨k4,z4,k0,k1⟩:=hst.out _ h5
  have h6:=h5.setAt 2 rfl 4 (.int .i64 arg)
  clear h h5
  replace h6:=hid h6
  go_wp2
  go_end0
  exact⟨rfl,h6.out.tail⟩
 ·have ez: (A0==0) =false:=by simpa using hz
  rw[if_neg hz]
  clear hz
  go_enter Tryz.func96,Tryz.ntmps96
  go_wp2_with fail
  refine hlay.out.mono ?_
  rintro e w1 ⟨rfl,h⟩
  have h5:On F w (aa (ae w.heap.size 155 #[(5:Int),arg,lit,cells] ::ae ba 3 ac::vL c g (x) src (s1))) w1:=h
  obtain⟨k4,z4,k0,k1⟩:=hst.out _ h5
  replace h5:=hid h5
  clear h
  go_wp2
  go_end0
  exact⟨rfl,h5.out.tail⟩
theorem wk(arg lit cells:Int) :cS 96 ⟨17,arg,lit,cells⟩ (λx s=>if arg=0 then back { x with next:=arg } (s.aq 0 [wrap64 (x.pc+16)]).2 else⟨0,{ x with next:=arg },(s.aq 0 [wrap64 (x.pc+16)]).2⟩):=by
 intro c g x src s ba w F hs hx hv1 hv2 hask hb
 obtain⟨hw2,hn⟩:=hask.wn 0
 simp only[hw2]at hb⊢
 obtain⟨hon,b0,b1,-⟩:=mW hb 17 arg lit cells
 have hroom:1<=s.pd.rm- (s.d-0):=by
  have h1:=hask.room
  have e1: (Code.ah 17).1=0:=by decide
  have e2: (Code.ah 17).2=1:=by decide
  simp[e1,e2]at h1
  omega
 have d3:=hon.tail.tail.r3
 have hbx:=hon.box #[(wrap64 (x.pc+16))] 3
 have hz: (w.alloc (.cells #[(17:Int),arg,lit,cells] 155)).heap.size=w.heap.size+1:=by simp
 rw[hz]at hbx
 have hlay:=gx (c:=c) (g:=g) (x:=x) (src:=src) (s:=s) 3 (by simp) rfl hbx hs 0 (Nat.zero_le _) [wrap64 (x.pc+16)] (λv hv=>by rw[List.mem_singleton.1 hv];exact aZ _) 0 oM (w.heap.size+1) rfl hroom
 have hs1: (s.aq 0 [wrap64 (x.pc+16)]).2.Ok:=by
  unfold Mt.aq
  rw[if_neg (by simp;omega)]
  exact ng (pS hs (s.d-0) oM) _ hroom
 have hr1: (s.aq 0 [wrap64 (x.pc+16)]).2.r=s.r:=by unfold Mt.aq;split<;>rfl
 have h0:arg=0->0<s.r:=λh=>by
  have h1:=hask.off
  have h2:=hx.base
  subst h
  have e: (returns 17 0 s.same).1=1:=rfl
  simp only[e]at h1
  omega
 rw[<-hr1]at h0
 generalize (s.aq 0 [wrap64 (x.pc+16)]).2=s1 at *
 show Calls Tryz.prog 96 #[g,.agg #[(17:Int),arg,lit,cells],.slice ba 0 0] w (Got (bO (if arg=0 then back { x with next:=arg } s1 else⟨0,{ x with next:=arg },s1⟩).f) (aa (ae ba 3 (af (s.args 0)) ::vL c g (if arg=0 then back { x with next:=arg } s1 else⟨0,{ x with next:=arg },s1⟩).x src (if arg=0 then back { x with next:=arg } s1 else⟨0,{ x with next:=arg },s1⟩).s)) F w)
 generalize af (s.args 0) =ac at *
 have hst : ∀W,On F w (aa (ae w.heap.size 155 #[(17:Int),arg,lit,cells] ::ae ba 3 ac::vL c g (x) src (s1))) W->W.cell? (g,4) =some (x.next:Vl)∧W.frozen? (g,4) =false∧W.cell? (w.heap.size,1) =some (arg:Vl)∧w.heap.size≠g:=λW h=>⟨h.tail.tail.r4,h.tail.tail.rf 4,(h.ab 0 rfl).cell 1,h.sk 0 2 (by decide) rfl rfl⟩
 have hbk:=λ(h:arg=0) W (hW:On F w (aa (ae w.heap.size 155 #[(17:Int),arg,lit,cells] ::ae ba 3 ac::vL c g ({ x with next:=arg }) src (s1))) W)=>hW.bE 2 (by simp) λF'' hb'' _ _=>AE hb'' hs1 (h0 h)
 replace hlay:=hid hlay
 replace hst:=hid hst
 replace hbk:=hid hbk
 clear hb hx hask hw2 hn hon hbx hz hroom hs1 hr1 hs
 by_cases hz:arg=0
 ·have ez: (arg==0) =true:=by simpa using hz
  rw[if_pos hz]
  have hbf: (back { x with next:=arg } s1).f=0:=by unfold back;rw[if_neg (by have:=h0 hz;omega)]
  rw[hbf]
  have hbk:=hbk.out hz
  show Calls _ _ _ _ (Got (.returned (.tuple #[])) _ _ _)
  generalize back { x with next:=arg } s1=R at *
  replace hbk:=hid hbk
  clear hz h0 hbf
  go_enter Tryz.func96,Tryz.ntmps96
  go_wp2_with fail
  refine hlay.out.mono ?_
  rintro e w1 ⟨rfl,h⟩
  have h5:On F w (aa (ae w.heap.size 155 #[(17:Int),arg,lit,cells] ::ae ba 3 ac::vL c g (x) src (s1))) w1:=h.tail
  obtain⟨k4,z4,k1,hne⟩:=hst.out _ h5
  have h6:=h5.setAt 2 rfl 4 (.int .i64 arg)
  replace hbk:=hid (hbk.out _ h6)
  clear h h5
  replace h6:=hid h6
  go_wp2_with fail
  refine hbk.out.mono ?_
  rintro e w2 ⟨rfl,h⟩
  replace h:=hid h
  go_wp2
  go_end0
  exact⟨rfl,h.out.tail⟩
 ·have ez: (arg==0) =false:=by simpa using hz
  rw[if_neg hz]
  clear hz h0 hbk
  show Calls _ _ _ _ (Got (.returned (.tuple #[])) _ _ _)
  go_enter Tryz.func96,Tryz.ntmps96
  go_wp2_with fail
  refine hlay.out.mono ?_
  rintro e w1 ⟨rfl,h⟩
  have h5:On F w (aa (ae w.heap.size 155 #[(17:Int),arg,lit,cells] ::ae ba 3 ac::vL c g (x) src (s1))) w1:=h.tail
  obtain⟨k4,z4,k1,hne⟩:=hst.out _ h5
  have h6:=h5.setAt 2 rfl 4 (.int .i64 arg)
  clear h h5
  replace h6:=hid h6
  go_wp2
  go_end0
  exact⟨rfl,h6.out.tail⟩
theorem FG(arg lit cells:Int) :cS 96 ⟨19,arg,lit,cells⟩ (λx s=>aK 0 [wrap64 (x.pc+8),arg] x s):=by
 intro c g x src s ba w F hs hx hv1 hv2 hask hb
 obtain⟨hw2,hn⟩:=hask.wn 0
 simp only[hw2]at hb⊢
 obtain⟨hon,b0,b1,-⟩:=mW hb 19 arg lit cells
 have hroom:2<=s.pd.rm- (s.d-0):=by
  have h1:=hask.room
  have e1: (Code.ah 19).1=0:=by decide
  have e2: (Code.ah 19).2=2:=by decide
  simp[e1,e2]at h1
  omega
 have d3:=hon.tail.tail.r3
 have hbx:=(hon.box #[(wrap64 (x.pc+8)),arg] 3).drew
 have hz: (w.alloc (.cells #[(19:Int),arg,lit,cells] 155)).heap.size=w.heap.size+1:=by simp
 rw[hz]at hbx
 have hlay:=gx (c:=c) (g:=g) (x:=x) (src:=src) (s:=s) 3 (by simp) rfl hbx hs 0 (Nat.zero_le _) [wrap64 (x.pc+8),arg] (λv hv=>by
  simp only[List.mem_cons,List.mem_nil_iff,or_false]at hv
  rcases hv with rfl|rfl
  ·exact aZ _
  ·exact hv1) 0 oM (w.heap.size+1) rfl hroom
 have hf: (aK 0 [wrap64 (x.pc+8),arg] x s).f=0:=rG hroom
 rw[hf]
 show Calls Tryz.prog 96 #[g,.agg #[(19:Int),arg,lit,cells],.slice ba 0 0] w (Got (.returned (.tuple #[])) (aa (ae ba 3 (af (s.args 0)) ::vL c g (x) src ((s.aq 0 [wrap64 (x.pc+8),arg]).2))) F w)
 generalize (s.aq 0 [wrap64 (x.pc+8),arg]).2=s1 at *
 generalize af (s.args 0) =ac at *
 have hlay:Calls Tryz.prog 97 #[g,(0:Int),.slice (some ⟨w.heap.size+1,0,none⟩) 2 2] ((w.alloc (.cells #[(19:Int),arg,lit,cells] 155)).alloc (.cells #[(IntKind.i64.wrap (x.pc+8)),arg] 3)).drew (Got (.returned (.tuple #[])) (aa (ae (w.heap.size+1) 3 #[(wrap64 (x.pc+8)),arg] ::ae w.heap.size 155 #[(19:Int),arg,lit,cells] ::ae ba 3 ac::vL c g x src s1)) F w):=by
  rw[IntWalk.i64_left]
  exact hlay
 replace hlay:=hid hlay
 clear hb hs hx hask hw2 hn hz hbx hroom hf hon
 go_enter Tryz.func96,Tryz.ntmps96
 go_wp2_with fail
 go_region_held (λw'=>w'.cell? (g,3) =some (x.pc:Vl)∧w'.cell? (w.heap.size,1) =some (arg:Vl)) (go_keep)
  ((go_at_call 97;refine hlay.out.mono ?_;rintro e w1 ⟨rfl,h⟩;have h5:On F w (aa (ae (w.heap.size+1) 3 #[(wrap64 (x.pc+8)),arg] ::ae w.heap.size 155 #[(19:Int),arg,lit,cells] ::ae ba 3 ac::vL c g x src s1)) w1:=h;have n3:=h5.tail.tail.tail.r3;have n1:w1.cell? (w.heap.size,1) =some (arg:Vl):=(h5.ab 1 rfl).cell 1;replace h5:=hid h5;clear h))
 go_wp2
 go_end0
 exact⟨rfl,h5.out.tail.tail⟩
theorem yN(arg lit cells:Int) :cS 96 ⟨20,arg,lit,cells⟩ (λx s=>⟨16,x,s⟩):=by
 intro c g x src s ba w F hs hx hv1 hv2 hask hb
 obtain⟨hw2,hn⟩:=hask.wn 0
 simp only[hw2]at hb⊢
 obtain⟨hon,b0,b1,-⟩:=mW hb 20 arg lit cells
 show Calls Tryz.prog 96 #[g,.agg #[(20:Int),arg,lit,cells],.slice ba 0 0] w (Got (.panicked [flt 16]) (aa (ae ba 3 (af (s.args 0)) ::vL c g (x) src (s))) F w)
 generalize af (s.args 0) =ac at *
 replace hon:=hid hon
 clear hb hs hx hask hw2 hn
 go_enter Tryz.func96,Tryz.ntmps96
 go_wp2
 exact⟨rfl,rfl,hon.out.tail⟩
variable {w:World}{c:Vc}{s:Mt}{gb:Nat}
theorem IZ(arg lit cells:Int) :bn 100 (λg=> #[.pointer (some ⟨g,0,none⟩)]) ⟨65,arg,lit,cells⟩ (λx s=>(⟨s.S.az x.mode (ar s 1 0) false,x,s⟩,[s.S.aR x.mode (ar s 1 0)])):=by
 intro c g x src s ba w F hs hx hask hb
 have hw2: (Code.ah 65).1.toNat=1:=by decide
 simp only[hw2]at hb⊢
 have hon:=(On.refl hb).drew
 have r0:=(On.refl hb).tail.r0
 have r1:=(On.refl hb).tail.r1
 have m0:=(On.refl hb).tail.m0
 have a0:=ai ((On.refl hb).ab 0 rfl) (j:=0) oM
 obtain⟨gb,hi⟩:=hon.img 3 rfl
 have hc:=jE hi x.mode (ar s 1 0)
 have hcell : ∀W,On F w (aa (ae ba 3 (af (s.args 1)) ::vL c g x src s)) W->W.cell? (g,0) =some (c.gM:Vl)∧W.cell? (c.gM,0) =some (c.gI:Vl)∧W.cell? (g,1) =some (x.mode:Vl)∧W.cell? (ba,0) =some ((ar s 1 0) :Vl):=λW h=>⟨h.tail.r0,h.tail.m0,h.tail.r1,ai (h.ab 0 rfl) oM⟩
 generalize ar s 1 0=X at *
 show Calls _ _ #[g,(65:Int),.slice ba 1 1] _ _
 generalize s.S.aR x.mode X=v at *
 generalize s.S.az x.mode X false=f at *
 generalize af (s.args 1) =ac at *
 replace hcell:=hid hcell
 replace hc:=hid hc
 replace hon:=hid hon
 clear hb hi hw2 hask hs hx
 by_cases hf:f=0
 ·simp only[if_pos hf]
  subst hf
  go_enter Tryz.func100,Tryz.ntmps100
  go_wp2_with fail
  go_region_held (λw'=>w'.cell? (g,0) =some (c.gM:Vl)∧w'.cell? (c.gM,0) =some (c.gI:Vl)∧w'.cell? (g,1) =some (x.mode:Vl)∧w'.cell? (ba,0) =some (X:Vl)) (go_keep)
   ((go_at_call 68;refine hc.out.mono ?_;rintro e w5 ⟨rfl,hb⟩;simp only[];have hn5:=On.below hon.out hb;have⟨n0,n1,n2,n3⟩:=hcell.out _ hn5;clear hb;replace hn5:=hid hn5))
  all_goals go_wp2_with fail
  refine(bD _).mono ?_
  rintro e w6 ⟨rfl,rfl⟩
  simp only[]
  have h6:=hid (hn5.out.tail.box #[v] 3)
  go_wp2
  go_ret
  exact⟨some ⟨w6.heap.size,0,none⟩,1,ae w6.heap.size 3 (af [v]),rfl,ay _ _,h6.out⟩
 ·simp only[if_neg hf]
  have ht:=hid (λw=>cG f hf w)
  replace hf:=hid hf
  go_enter Tryz.func100,Tryz.ntmps100
  go_wp2_with fail
  go_region_held (λw'=>w'.cell? (g,0) =some (c.gM:Vl)∧w'.cell? (c.gM,0) =some (c.gI:Vl)∧w'.cell? (g,1) =some (x.mode:Vl)∧w'.cell? (ba,0) =some (X:Vl)) (go_keep)
   ((go_at_call 68;refine hc.out.mono ?_;rintro e w5 ⟨rfl,hb⟩;simp only[];have hn5:=On.below hon.out hb;have⟨n0,n1,n2,n3⟩:=hcell.out _ hn5;clear hb;replace hn5:=hid hn5))
  all_goals go_wp2_with fail
  refine(ht.out _).mono ?_
  rintro e w6 ⟨rfl,rfl⟩
  exact⟨rfl,rfl,hn5.out.tail⟩
theorem JJ(arg lit cells:Int) :bn 100 (λg=> #[.pointer (some ⟨g,0,none⟩)]) ⟨66,arg,lit,cells⟩ (λx s=>(⟨s.S.az x.mode (ar s 2 1) true,x,{ s with S:=s.S.setCell x.mode (ar s 2 1) (ar s 2 0) }⟩,[])):=by
 intro c g x src s ba w F hs hx hask hb
 have hw2: (Code.ah 66).1.toNat=2:=by decide
 simp only[hw2]at hb⊢
 have hon:=(On.refl hb).drew
 have r0:=(On.refl hb).tail.r0
 have m0:=(On.refl hb).tail.m0
 have r1:=(On.refl hb).tail.r1
 have a0:=ai ((On.refl hb).ab 0 rfl) (j:=0) oM
 have a1:=ai ((On.refl hb).ab 0 rfl) (j:=1) oM
 have hcell : ∀s2 W,On F w (aa (ae ba 3 (af (s.args 2)) ::vL c g x src s2)) W->W.cell? (g,0) =some (c.gM:Vl)∧W.cell? (c.gM,0) =some (c.gI:Vl)∧W.cell? (g,1) =some (x.mode:Vl)∧W.cell? (ba,0) =some ((ar s 2 0) :Vl)∧W.cell? (ba,1) =some ((ar s 2 1) :Vl):=λs2 W h=>⟨h.tail.r0,h.tail.m0,h.tail.r1,ai (h.ab 0 rfl) oM,ai (h.ab 0 rfl) oM⟩
 have hc:Calls Tryz.prog 55 _ w.drew (Got (.returned (s.S.az x.mode (ar s 2 1) true)) (aa (ae ba 3 (af (s.args 2)) ::vL c g x src ({ s with S:=s.S.setCell x.mode (ar s 2 1) (ar s 2 0) }))) F w):=hon.bA 3 rfl (λF' ha=>fL ha x.mode (ar s 2 1) (ar s 2 0) (aL s 2 0))
 generalize hs2: ({ s with S:=s.S.setCell x.mode (ar s 2 1) (ar s 2 0) }) =s2 at *
 clear hs2
 generalize s.S.az x.mode (ar s 2 1) true=f at *
 generalize ar s 2 0=X at *
 generalize ar s 2 1=Y at *
 show Calls _ _ #[g,(66:Int),.slice ba 2 2] _ _
 generalize af (s.args 2) =ac at *
 replace hcell:=hid hcell
 replace hc:=hid hc
 replace hon:=hid hon
 clear hb hw2 hask hs hx
 by_cases hf:f=0
 ·simp only[if_pos hf]
  subst hf
  go_enter Tryz.func100,Tryz.ntmps100
  go_wp2_with fail
  go_region_held (λw'=>w'.cell? (g,0) =some (c.gM:Vl)∧w'.cell? (c.gM,0) =some (c.gI:Vl)∧w'.cell? (g,1) =some (x.mode:Vl)∧w'.cell? (ba,0) =some (X:Vl)∧w'.cell? (ba,1) =some (Y:Vl)) (go_keep)
   ((first
     | (go_at_call 55;refine hc.out.mono ?_;rintro e w5 ⟨rfl,hn5⟩;have⟨n0,n1,n2,n3,n4⟩:=hcell.out _ _ hn5;replace hn5:=hid hn5)
     | (go_at_call 64;refine(bD _).mono ?_;rintro e w6 ⟨rfl,rfl⟩)))
  all_goals go_wp2
  all_goals go_ret
  all_goals exact⟨none,0,_,rfl,br _,hn5.out⟩
 ·simp only[if_neg hf]
  have ht:=hid (λw=>cG f hf w)
  replace hf:=hid hf
  go_enter Tryz.func100,Tryz.ntmps100
  go_wp2_with fail
  go_region_held (λw'=>w'.cell? (g,0) =some (c.gM:Vl)∧w'.cell? (c.gM,0) =some (c.gI:Vl)∧w'.cell? (g,1) =some (x.mode:Vl)∧w'.cell? (ba,0) =some (X:Vl)∧w'.cell? (ba,1) =some (Y:Vl)) (go_keep)
   ((first
     | (go_at_call 55;refine hc.out.mono ?_;rintro e w5 ⟨rfl,hn5⟩;have⟨n0,n1,n2,n3,n4⟩:=hcell.out _ _ hn5;replace hn5:=hid hn5)
     | (go_at_call 64;refine dead (ht.out _) ⟨rfl,rfl,hn5.out.tail⟩ ?_;intro hF e w6 he hw;subst he;subst hw;replace hF:=hid hF)))
  all_goals exact hF.out.elim
theorem AB(h:Blk w c.gM 108 (rP c s))(hi:bU w c.gI gb s.S) :Calls Tryz.prog 56 #[c.gM] w (Quiet (s.S.beg 3:Int) w):=by
 have c0:w.cell? (c.gM,0) =some (c.gI:Vl):=h.cell 0
 have hsp:=jA hi 3 oM oM
 replace hsp:=hid hsp
 clear h hi
 go_enter Tryz.func56,Tryz.ntmps56
 go_wp2_with fail
 refine hsp.out.mono ?_
 rintro e w1 ⟨rfl,n,rfl⟩
 go_wp2
 go_ret
 exact⟨rfl,Below.dN (Below.refl _ _) n⟩
theorem LJ(arg lit cells:Int) :cA 101 (λg=> #[.pointer (some ⟨g,0,none⟩)]) ⟨77,arg,lit,cells⟩ (λs=>[wrap64 (s.S.beg 3:Int)]):=by
 intro c g x src s ba w F hs hask hb
 have hw2: (Code.ah 77).1.toNat=0:=by decide
 simp only[hw2]at hb⊢
 have hon:=On.refl hb
 have r0:=hon.tail.r0
 obtain⟨gb,hi⟩:=hon.img 3 rfl
 have hbs:=AB (hon.ab 2 rfl) hi
 have hsm:wrap64 (s.S.beg 3:Int) = (s.S.beg 3:Int):=by
  have h1:=hi.ok.small
  have h2:s.S.beg 3<=s.S.beg 6:=s.S.dm oM oM oM
  unfold wrap64
  omega
 rw[hsm]
 clear hsm
 generalize af (s.args 0) =ac at *
 generalize ((s.S.beg 3:Nat) :Int) =v at *
 replace hon:=hid hon
 replace hbs:=hid hbs
 clear hb hw2 hask hs hi
 show Calls _ _ #[g,(77:Int),.slice ba 0 0] _ _
 go_enter Tryz.func101,Tryz.ntmps101
 go_wp2_with fail
 refine hbs.out.mono ?_
 rintro e w1 ⟨rfl,hb1⟩
 simp only[]
 have h6:=hid ((hon.out.below hb1).tail.box #[v] 3)
 clear hb1
 go_wp2
 go_ret
 exact⟨some ⟨w1.heap.size,0,none⟩,1,ae w1.heap.size 3 (af [v]),rfl,ay _ _,h6.out⟩
def ct(b:Bool) :Int:=if b then -1 else 0
def xA(x:Int) :Int:=if x<0 then wrap64 (-x)else x
def xW(x:Int) :Int:=x/9223372036854775808
def xX(x y:Int) :Int:=if y<0 then 0 else wrap64 (x*2 ^ min y.toNat 64)
def yo(x y:Int) :Int:=if y<0 then 0 else wrap64 (IntKind.u64.wrap x/2 ^ min y.toNat 64)
theorem GB(b:Bool) :V64 (ct b):=by unfold ct V64;split<;>omega
theorem Iz{x:Int}(h:V64 x) :V64 (xA x):=by unfold xA;split;exact aZ _;exact h
theorem I5(x y:Int) :V64 (xX x y):=by unfold xX;split;(unfold V64;omega);exact aZ _
theorem IE(x y:Int) :V64 (yo x y):=by unfold yo;split;(unfold V64;omega);exact aZ _
theorem EM{x:Int}(h:V64 x) :V64 (x/2):=by unfold V64 at *;omega
theorem FE{x:Int}(h:V64 x) :V64 (x/9223372036854775808):=by unfold V64 at *;omega
theorem DF{x:Int}(h:V64 x) :V64 (xW x):=FE h
theorem I2{x y:Int}(h:V64 x)(g:V64 y) :V64 (min x y):=by unfold V64 at *;omega
theorem Je{x y:Int}(h:V64 x)(g:V64 y) :V64 (max x y):=by unfold V64 at *;omega
theorem ob(n:Int) :V64 (IntKind.i64.wrap n):=by rw[IntKind.wrap_i64];unfold V64;omega
theorem J7(x y:Int) :V64 (bits .and .i64 x y):=ob _
theorem Lb(x y:Int) :V64 (bits .or .i64 x y):=ob _
theorem J5(x y:Int) :V64 (bits .xor .i64 x y):=ob _
theorem Dv(x:Int)(w:World) :Calls Tryz.prog 138 #[.int .i64 40,.int .i64 x] w (aA (.int .i64 (xA x)) w):=by
 by_cases h:x<0
 ·have e:xA x=wrap64 (-x):=if_pos h
  rw[e]
  have t:decide (x<0) =true:=decide_eq_true h
  replace h:=hid h
  clear e
  go_enter Tryz.func138,Tryz.ntmps138
  go_wp2
  go_ret
  exact⟨rfl,rfl⟩
 ·have e:xA x=x:=if_neg h
  rw[e]
  have t:decide (x<0) =false:=decide_eq_false h
  clear e
  go_enter Tryz.func138,Tryz.ntmps138
  go_wp2
  go_ret
  exact⟨rfl,rfl⟩
theorem ya(x:Int)(w:World) :Calls Tryz.prog 138 #[.int .i64 45,.int .i64 x] w (aA (.int .i64 (wrap64 (x*2))) w):=by
 go_enter Tryz.func138,Tryz.ntmps138
 go_wp2
 go_ret
 exact⟨rfl,rfl⟩
theorem yO(x:Int)(w:World) :Calls Tryz.prog 138 #[.int .i64 46,.int .i64 x] w (aA (.int .i64 (x/2)) w):=by
 go_enter Tryz.func138,Tryz.ntmps138
 go_wp2
 go_ret
 exact⟨rfl,rfl⟩
theorem vU(x:Int)(w:World) :Calls Tryz.prog 138 #[.int .i64 50,.int .i64 x] w (aA (.int .i64 (bits .xor .i64 (-1) x)) w):=by
 go_enter Tryz.func138,Tryz.ntmps138
 go_wp2
 go_ret
 exact⟨rfl,rfl⟩
theorem vP(x:Int)(w:World) :Calls Tryz.prog 138 #[.int .i64 63,.int .i64 x] w (aA (.int .i64 (ct (x==0))) w):=by
 rcases h: (x==0)with _|_
 ·show Calls _ _ _ _ (aA (.int .i64 0) w)
  go_enter Tryz.func138,Tryz.ntmps138
  go_wp2
  go_ret
  exact⟨rfl,rfl⟩
 ·show Calls _ _ _ _ (aA (.int .i64 (-1)) w)
  go_enter Tryz.func138,Tryz.ntmps138
  go_wp2
  go_ret
  exact⟨rfl,rfl⟩
theorem uN(x:Int)(w:World) :Calls Tryz.prog 138 #[.int .i64 64,.int .i64 x] w (aA (.int .i64 (xW x)) w):=by
 go_enter Tryz.func138,Tryz.ntmps138
 go_wp2
 go_ret
 exact⟨rfl,rfl⟩
theorem Hr(x y:Int)(w:World) :Calls Tryz.prog 139 #[.int .i64 41,.int .i64 x,.int .i64 y] w (aA (.int .i64 (min x y)) w):=by
 go_enter Tryz.func139,Tryz.ntmps139
 go_wp2
 go_ret
 exact⟨rfl,rfl⟩
theorem HW(x y:Int)(w:World) :Calls Tryz.prog 139 #[.int .i64 42,.int .i64 x,.int .i64 y] w (aA (.int .i64 (max x y)) w):=by
 go_enter Tryz.func139,Tryz.ntmps139
 go_wp2
 go_ret
 exact⟨rfl,rfl⟩
theorem Gt(x y:Int)(w:World) :Calls Tryz.prog 139 #[.int .i64 47,.int .i64 x,.int .i64 y] w (aA (.int .i64 (bits .and .i64 x y)) w):=by
 go_enter Tryz.func139,Tryz.ntmps139
 go_wp2
 go_ret
 exact⟨rfl,rfl⟩
theorem J6(x y:Int)(w:World) :Calls Tryz.prog 139 #[.int .i64 48,.int .i64 x,.int .i64 y] w (aA (.int .i64 (bits .or .i64 x y)) w):=by
 go_enter Tryz.func139,Tryz.ntmps139
 go_wp2
 go_ret
 exact⟨rfl,rfl⟩
theorem Fb(x y:Int)(w:World) :Calls Tryz.prog 139 #[.int .i64 49,.int .i64 x,.int .i64 y] w (aA (.int .i64 (bits .xor .i64 x y)) w):=by
 go_enter Tryz.func139,Tryz.ntmps139
 go_wp2
 go_ret
 exact⟨rfl,rfl⟩
theorem FU(x y:Int)(w:World) :Calls Tryz.prog 139 #[.int .i64 51,.int .i64 x,.int .i64 y] w (aA (.int .i64 (xX x y)) w):=by
 by_cases h:y<0
 ·have e:xX x y=0:=if_pos h
  rw[e]
  have t:decide (y<0) =true:=decide_eq_true h
  replace h:=hid h
  clear e
  go_enter Tryz.func139,Tryz.ntmps139
  go_wp2
  go_ret
  exact⟨rfl,rfl⟩
 ·have e:xX x y=wrap64 (x*2 ^ min y.toNat 64):=if_neg h
  rw[e]
  have t:decide (y<0) =false:=decide_eq_false h
  clear e
  go_enter Tryz.func139,Tryz.ntmps139
  go_wp2
  go_ret
  exact⟨by rw[<-IntWalk.i64_left];rfl,rfl⟩
theorem Hq(x y:Int)(w:World) :Calls Tryz.prog 139 #[.int .i64 52,.int .i64 x,.int .i64 y] w (aA (.int .i64 (yo x y)) w):=by
 by_cases h:y<0
 ·have e:yo x y=0:=if_pos h
  rw[e]
  have t:decide (y<0) =true:=decide_eq_true h
  replace h:=hid h
  clear e
  go_enter Tryz.func139,Tryz.ntmps139
  go_wp2
  go_ret
  exact⟨rfl,rfl⟩
 ·have e:yo x y=wrap64 (IntKind.u64.wrap x/2 ^ min y.toNat 64):=if_neg h
  rw[e]
  have t:decide (y<0) =false:=decide_eq_false h
  clear e
  go_enter Tryz.func139,Tryz.ntmps139
  go_wp2
  go_ret
  exact⟨rfl,rfl⟩
theorem I1(x y:Int)(w:World) :Calls Tryz.prog 139 #[.int .i64 58,.int .i64 x,.int .i64 y] w (aA (.int .i64 (ct (x==y))) w):=by
 rcases h: (x==y)with _|_
 ·show Calls _ _ _ _ (aA (.int .i64 0) w)
  go_enter Tryz.func139,Tryz.ntmps139
  go_wp2
  go_ret
  exact⟨rfl,rfl⟩
 ·show Calls _ _ _ _ (aA (.int .i64 (-1)) w)
  go_enter Tryz.func139,Tryz.ntmps139
  go_wp2
  go_ret
  exact⟨rfl,rfl⟩
theorem Kq(x y:Int)(w:World) :Calls Tryz.prog 139 #[.int .i64 59,.int .i64 x,.int .i64 y] w (aA (.int .i64 (ct (x != y))) w):=by
 rcases h: (x != y)with _|_
 ·show Calls _ _ _ _ (aA (.int .i64 0) w)
  go_enter Tryz.func139,Tryz.ntmps139
  go_wp2
  go_ret
  exact⟨rfl,rfl⟩
 ·show Calls _ _ _ _ (aA (.int .i64 (-1)) w)
  go_enter Tryz.func139,Tryz.ntmps139
  go_wp2
  go_ret
  exact⟨rfl,rfl⟩
theorem IV(x y:Int)(w:World) :Calls Tryz.prog 139 #[.int .i64 60,.int .i64 x,.int .i64 y] w (aA (.int .i64 (ct (decide (x<y)))) w):=by
 rcases h: (decide (x<y))with _|_
 ·show Calls _ _ _ _ (aA (.int .i64 0) w)
  go_enter Tryz.func139,Tryz.ntmps139
  go_wp2
  go_ret
  exact⟨rfl,rfl⟩
 ·show Calls _ _ _ _ (aA (.int .i64 (-1)) w)
  go_enter Tryz.func139,Tryz.ntmps139
  go_wp2
  go_ret
  exact⟨rfl,rfl⟩
theorem JT(x y:Int)(w:World) :Calls Tryz.prog 139 #[.int .i64 61,.int .i64 x,.int .i64 y] w (aA (.int .i64 (ct (decide (y<x)))) w):=by
 rcases h: (decide (y<x))with _|_
 ·show Calls _ _ _ _ (aA (.int .i64 0) w)
  go_enter Tryz.func139,Tryz.ntmps139
  go_wp2
  go_ret
  exact⟨rfl,rfl⟩
 ·show Calls _ _ _ _ (aA (.int .i64 (-1)) w)
  go_enter Tryz.func139,Tryz.ntmps139
  go_wp2
  go_ret
  exact⟨rfl,rfl⟩
theorem Hv(x y:Int)(w:World) :Calls Tryz.prog 139 #[.int .i64 62,.int .i64 x,.int .i64 y] w (aA (.int .i64 (ct (decide (IntKind.u64.wrap x<IntKind.u64.wrap y)))) w):=by
 rcases h: (decide (IntKind.u64.wrap x<IntKind.u64.wrap y))with _|_
 ·show Calls _ _ _ _ (aA (.int .i64 0) w)
  go_enter Tryz.func139,Tryz.ntmps139
  go_wp2
  go_ret
  exact⟨rfl,rfl⟩
 ·show Calls _ _ _ _ (aA (.int .i64 (-1)) w)
  go_enter Tryz.func139,Tryz.ntmps139
  go_wp2
  go_ret
  exact⟨rfl,rfl⟩
end Vm
set_option linter.unusedSimpArgs false
namespace Vm
section
variable {w w':World}{F:Nat->Prop}{c:Vc}{g:Nat}{x:Rn}{src:Value}{s:Mt}
theorem Ki(h:On F w (VA c g x src s) w')(hs:s.Ok)(h0:0<s.r)(v:Int)(hv:V64 v) :Calls Tryz.prog 201 #[c.gR,(0:Int),v] w' (Got (.returned (.int .i64 0)) (VA c g x src (s.s6 0 v)) F w):=
 h.cD 4 2 (by decide) rfl rfl λF' ha=>MG ha hs.pr 0 h0 hs.r v hv
theorem E3(hs:s.Ok)(n:Nat)(v:Int) : (s.s6 n v).Ok:=⟨hs.pd,hs.pr,hs.d,hs.r,hs.du,hs.dv,hs.ru,hs.rv⟩
theorem FX(n:Nat)(k:Nat)(hk:k<=n)(hn:n<=17920) :IntKind.i64.wrap ((n:Int) - (k:Int)) = ((n-k:Nat) :Int):=by rw[IntWalk.i64_in _ oM];omega
theorem Ly(hb: (VA c g x src s).holds w F)(hs:s.Ok)(h0:2<=s.r)(n at_:Int)(hv:V64 n)(ends:Bool) :Calls Tryz.prog 175 #[g,n,.bool ends,at_] w (Got (.returned (.tuple #[])) (VA c g (ee n ends at_ x s).x src (ee n ends at_ x s).s) F w):=by
 have hon:=On.refl hb
 have r0:=hon.r0
 have m6:=hon.m6
 cases ends with
 | true=>
   have hdep:=eE hon.drew.sr
   have hcut:=FC hon.drew hs (s.r-2) oM
   rw[<-FX s.r 2 h0 hs.rle]at hcut
   show Calls _ _ _ _ (Got _ (VA c g x src (s.iB (s.r-2))) _ _)
   generalize s.iB (s.r-2) =s1 at *
   generalize s.r=d at *
   replace hdep:=hid hdep
   replace hcut:=hid hcut
   clear hb hs hon h0
   go_enter Tryz.func175,Tryz.ntmps175
   go_wp2_with fail
   go_region_held (λw'=>w'.cell? (g,0) =some (c.gM:Vl)∧w'.cell? (c.gM,6) =some (c.gR:Vl)) (go_keep)
    ((first
      | (go_at_call 14;refine hdep.out.mono ?_;rintro e w1 ⟨rfl,rfl⟩)
      | (go_at_call 130;refine hcut.out.mono ?_;rintro e w1 ⟨rfl,h⟩;have k0:=h.r0;have k5:=h.m6;replace h:=hid h)))
   all_goals go_wp2
   all_goals go_end0
   all_goals exact⟨rfl,h.out⟩
 | false=>
   have hpoke:=Ki hon hs oM n hv
   show Calls _ _ _ _ (Got _ (VA c g { x with next:=at_ } src (s.s6 0 n)) _ _)
   generalize s.s6 0 n=s1 at *
   replace hpoke:=hid hpoke
   clear hb hs hon h0 hv
   go_enter Tryz.func175,Tryz.ntmps175
   go_wp2_with fail
   refine hpoke.out.mono ?_
   rintro e w1 ⟨rfl,h⟩
   have k4:=h.r4
   have f4:=h.rf 4
   have h2:=h.Cv at_
   replace h2:=hid h2
   clear h
   go_wp2
   go_end0
   exact⟨rfl,h2.out⟩
theorem JM(s:Mt) :ar s 2 0=s.top 1∧ar s 2 1=s.top 0:=by
 unfold ar Mt.args
 exact⟨rfl,rfl⟩
end
theorem FD{c:Vc}{g:Nat}{x:Rn}{src:Value}{s:Mt}{ba b:Nat}{w w0:World}{F:Nat->Prop}{op arg lit cells f0 f1:Int}{r:Array Value}
 (hon:On F w (aa (ae b 155 #[op,arg,lit,cells] ::ae ba 3 r::vL c g x src s)) w0) (hs:s.Ok)
 (hf0: (if hasB s.r 0 then(0:Int)else s.pr.un) =f0) (hf1: (if hasB s.r 1 then(0:Int)else s.pr.un) =f1) :
 (∀W,On F w (aa (ae b 155 #[op,arg,lit,cells] ::ae ba 3 r::vL c g x src s)) W->Calls Tryz.prog 13 #[c.gR,(0:Int)] W (Quiet (.tuple #[(s.bH 0),f0]) W))∧
 (∀W,On F w (aa (ae b 155 #[op,arg,lit,cells] ::ae ba 3 r::vL c g x src s)) W->Calls Tryz.prog 13 #[c.gR,(1:Int)] W (Quiet (.tuple #[(s.bH 1),f1]) W))∧
 (∀W,On F w (aa (ae b 155 #[op,arg,lit,cells] ::ae ba 3 r::vL c g x src s)) W->W.cell? (g,0) =some (c.gM:Vl)∧W.cell? (c.gM,6) =some (c.gR:Vl)∧W.cell? (b,0) =some (op:Vl)∧W.cell? (b,1) =some (arg:Vl)):=by
 refine⟨λW h=> ?_,λW h=> ?_,λW h=>⟨h.tail.tail.r0,h.tail.tail.m6,(h.ab 0 rfl).cell 0,(h.ab 0 rfl).cell 1⟩⟩
 ·obtain⟨gb,hi⟩:=h.tail.tail.im
  have h1:=og h.tail.tail.sr hi hs.pr hs.rle 0
  unfold oN at h1
  rw[hf0]at h1
  exact h1
 ·obtain⟨gb,hi⟩:=h.tail.tail.im
  have h1:=og h.tail.tail.sr hi hs.pr hs.rle 1
  unfold oN at h1
  rw[hf1]at h1
  exact h1
section
variable {w w':World}{F:Nat->Prop}{c:Vc}{g:Nat}{x:Rn}{src:Value}{s:Mt}{A B:Asr}
theorem ec(n:Nat)(hs:s.Ok) : (s.aq n []).2.Ok:=by
 unfold Mt.aq
 rw[if_neg (by simp)]
 exact ng (pS hs (s.d-n) oM) [] (by simp)
theorem Ao(h:On F w (aa (A::B::vL c g x src s)) w')(hs:s.Ok)(n:Nat)(hn:n<=s.d) :Calls Tryz.prog 97 #[g,(n:Int),.slice none 0 0] w' (Got (.returned (.tuple #[])) (aa (A::B::vL c g x src (s.aq n []).2)) F w):=
 lW 2 (by simp) rfl h hs n hn
theorem AX(s:Mt)(n:Nat) : (s.aq n []).2.r=s.r∧(s.aq n []).2.pr=s.pr:=by unfold Mt.aq;split<;>exact⟨rfl,rfl⟩
theorem BP{ba:Nat}{n:Nat}(h:On F w (aa (A::ae ba 3 (af (s.args n)) ::vL c g x src (s.aq n []).2)) w')(hs:s.Ok)(hroom: (s.r:Int) -0+n<=s.pr.rm) :Calls Tryz.prog 53 #[c.gR,.slice ba n n] w' (Got (.returned (.int .i64 0)) (aa (A::ae ba 3 (af (s.args n)) ::vL c g x src ((s.aq n []).2.aE (s.args n)))) F w):=
 kp 2 (by simp) rfl h (ec n hs) (s.args n) (HL s n) 1 oM ba rfl n (mM s n).symm (by rw[mM,(AX s n).1,(AX s n).2];omega)
theorem vx(h:On F w (aa (A::B::vL c g x src s)) w')(hs:s.Ok){v:Int}(hv:V64 v)(hroom:1<=s.pd.rm- (s.d-0)) :Calls Tryz.prog 97 #[g,((0:Nat) :Int),.slice w'.heap.size 1 1] (w'.alloc (.cells #[v] 3)) (Got (.returned (.tuple #[])) (aa (ae w'.heap.size 3 #[v] ::A::B::vL c g x src (s.aq 0 [v]).2)) F w):=
 gx 3 (by simp) rfl (h.box #[v] 3) hs 0 (Nat.zero_le _) [v] (λu hu=>by rw[List.mem_singleton.1 hu];exact hv) 0 oM _ rfl hroom
theorem Ic(h:On F w (aa (A::B::vL c g x src s)) w')(hs:s.Ok)(k:Nat)(hk:k<=s.r) :Calls Tryz.prog 14 #[c.gR] w'.drew (aA (s.r:Int) w'.drew)∧Calls Tryz.prog 130 #[c.gR,(IntKind.i64.wrap ((s.r:Int) - (k:Int)))] w'.drew (Got (.returned (.bool true)) (aa (A::B::vL c g x src (s.iB (s.r-k)))) F w):=by
 rw[FX s.r k hk hs.rle]
 exact⟨eE h.drew.tail.tail.sr,h.drew.bE 2 (by simp) λF' hb _ _=>FC (On.refl hb) hs (s.r-k) oM⟩
theorem Cp(h:On F w (aa (A::B::vL c g x src s)) w')(hs:s.Ok)(h0:2<=s.r)(n at_:Int)(hv:V64 n)(ends:Bool) :Calls Tryz.prog 175 #[g,n,.bool ends,at_] w' (Got (.returned (.tuple #[])) (aa (A::B::vL c g (ee n ends at_ x s).x src (ee n ends at_ x s).s)) F w):=
 h.bE 2 (by simp) λF' hb _ _=>Ly hb hs h0 n at_ hv ends
end
def lV(n m a:Int) :Bool:=decide (bits .xor .i64 (IntKind.i64.wrap (n-m)) (IntKind.i64.wrap (IntKind.i64.wrap (n-m) +a)) <0) &&decide (bits .xor .i64 (IntKind.i64.wrap (n-m)) a<0)
theorem iQ(op arg lit cells:Int)(q:Rn->Mt->Rs)(hq :
 ((op=6∨op=13)∧q=λx s=>⟨0,x,((s.aq (Code.ah op).1.toNat []).2).aE (s.args (Code.ah op).1.toNat)⟩)∨
 (op=7∧q=λx s=>if ar s 2 0=ar s 2 1 then⟨0,{ x with next:=arg },(s.aq 2 []).2⟩else⟨0,x,((s.aq 2 []).2).aE (s.args 2)⟩)∨
 (op=8∧q=λx s=>ee (wrap64 (s.bH 0+1)) (wrap64 (s.bH 0+1) ==s.bH 1) arg x s)∨
 (op=9∧q=λx s=>ee (wrap64 (s.bH 0+ar s 1 0)) (lV (s.bH 0) (s.bH 1) (ar s 1 0)) arg x (s.aq 1 []).2)∨
 (op=10∧q=λx s=>⟨0,x,s.iB (s.r-2)⟩)∨
 ((op=11∨op=15)∧q=λx s=>aK 0 [s.bH 0] x s)∨
 (op=12∧q=λx s=>aK 0 [s.bH 2] x s)∨
 (op=14∧q=λx s=>aK 0 [s.bH 0] x (s.iB (s.r-1)))) :cS 129 ⟨op,arg,lit,cells⟩ q:=by
 intro c g x src s ba w F hs hx hv1 hv2 hask hb
 obtain⟨n,hw⟩ : ∃n,(Code.ah op).1.toNat=n:=⟨_,rfl⟩
 have hn:n<=s.d:=by have h:=hask.tk;dsimp only at h;omega
 simp only[hw]at hb⊢
 obtain⟨hon,b0,b1,-⟩:=mW hb op arg lit cells
 obtain⟨f0,hf0⟩ : ∃f:Int,(if hasB s.r 0 then(0:Int)else s.pr.un) =f:=⟨_,rfl⟩
 obtain⟨f1,hf1⟩ : ∃f:Int,(if hasB s.r 1 then(0:Int)else s.pr.un) =f:=⟨_,rfl⟩
 obtain⟨hpk0,hpk1,hcl⟩:=FD hon hs hf0 hf1
 have hroom: (op=11∨op=15∨op=12∨op=14)->1<=s.pd.rm- (s.d-0):=λh=>by
  have h1:=hask.room
  rcases h with rfl|rfl|rfl|rfl
  all_goals
   dsimp only at h1
   rw[if_neg oM,show(Code.ah _) = ((0:Int),(1:Int))from rfl]at h1
   dsimp only at h1
   omega
 obtain⟨R,hR⟩ : ∃R,q x s=R:=⟨_,rfl⟩
 have hf:R.f=0:=by
  subst hR
  rcases hq with⟨_,rfl⟩ | ⟨_,rfl⟩ | ⟨_,rfl⟩ | ⟨_,rfl⟩ | ⟨_,rfl⟩ | ⟨h,rfl⟩ | ⟨h,rfl⟩ | ⟨h,rfl⟩
  all_goals first|rfl| (dsimp only;unfold ee;split<;>rfl) | (dsimp only;split<;>rfl) |exact rG (hroom oM)
 have hoff:=hask.off
 have hrr:=hask.Cd
 dsimp only at hoff hrr
 rw[hR,hf]
 show Calls Tryz.prog 129 #[g,.agg #[op,arg,lit,cells],.slice ba n n] w (Got (.returned (.tuple #[])) (aa (ae ba 3 (af (s.args n)) ::vL c g R.x src R.s)) F w)
 have hrv:=λn=>(fA _ _ _ _:V64 (s.bH n))
 have hbs:=hx.base
 clear hb hx hv1 hv2 hask hf0 hf1 hf
 replace hq:=hid hq
 replace hw:=hid hw
 replace hn:=hid hn
 replace hs:=hid hs
 replace hR:=hid hR
 replace hrv:=hid hrv
 replace hoff:=hid (And.intro hbs hoff)
 replace hrr:=hid hrr
 replace hroom:=hid hroom
 replace hpk0:=hid hpk0
 replace hpk1:=hid hpk1
 replace hcl:=hid hcl
 replace hon:=hid hon
 clear hbs
 go_enter Tryz.func129,Tryz.ntmps129
 obtain⟨d0,d6,d1,d2⟩:=hcl.out _ hon.out
 go_wp2_with fail
 refine(hpk0.out _ hon.out).mono ?_
 rintro e w1 ⟨rfl,hB⟩
 have hon1:=hon.out.below hB
 obtain⟨d01,d61,d11,d21⟩:=hcl.out _ hon1
 clear d0 d6 d1 d2 b0 b1 hB
 replace hon1:=hid hon1
 go_wp2_with fail
 refine(hpk1.out _ hon1.out).mono ?_
 rintro e w2 ⟨rfl,hB⟩
 have hon2:=hon1.out.below hB
 obtain⟨d02,d62,d12,d22⟩:=hcl.out _ hon2
 clear d01 d61 d11 d21 hB hon1 hpk0 hpk1 hon
 replace hon2:=hid hon2
 rcases hq.out with⟨ho,rfl⟩ | ⟨rfl,rfl⟩ | ⟨rfl,rfl⟩ | ⟨rfl,rfl⟩ | ⟨rfl,rfl⟩ | ⟨ho,rfl⟩ | ⟨rfl,rfl⟩ | ⟨rfl,rfl⟩
 all_goals clear hq
 ·rcases ho with rfl|rfl
  all_goals
   first
    | (obtain rfl:2=n:=hw.out;have hrm: (s.r:Int) -0+ (2:Nat)<=s.pr.rm:=hrr.out)
    | (obtain rfl:1=n:=hw.out;have hrm: (s.r:Int) -0+ (1:Nat)<=s.pr.rm:=hrr.out)
   replace hrm:=hid hrm
   have hlay:=hid (Ao hon2.out hs.out _ hn.out)
   go_wp2_with fail
   refine hlay.out.mono ?_
   rintro e w3 ⟨rfl,h⟩
   have k0:=h.tail.tail.r0
   have k6:=h.tail.tail.m6
   replace h:=hid (BP h hs.out hrm.out)
   clear d02 d62 d12 d22
   go_wp2_with fail
   refine h.out.mono ?_
   rintro e w4 ⟨rfl,h⟩
   replace h:=hid h
   go_wp2
   go_end0
   obtain rfl:=hR.out
   exact⟨rfl,h.out.tail⟩
 ·obtain rfl:2=n:=hw.out
  have hlay:=hid (Ao hon2.out hs.out _ hn.out)
  go_wp2_with fail
  refine hlay.out.mono ?_
  rintro e w3 ⟨rfl,h⟩
  have k0:=h.tail.tail.r0
  have k6:=h.tail.tail.m6
  have k4:=h.tail.tail.r4
  have z4:=h.tail.tail.rf 4
  have ka:w3.cell? (ba,0) =some ((ar s 2 0) :Vl):=ai (h.ab 1 rfl) oM
  have kb:w3.cell? (ba,1) =some ((ar s 2 1) :Vl):=ai (h.ab 1 rfl) oM
  have k1:w3.cell? (w.heap.size,1) =some (arg:Vl):=(h.ab 0 rfl).cell 1
  replace h:=hid h
  clear d02 d62 d12 d22
  have hR2:=hR.out
  try dsimp only at hR2
  by_cases hz:ar s 2 0=ar s 2 1
  ·have ez: (ar s 2 0==ar s 2 1) =true:=by simpa using hz
   rw[if_pos hz]at hR2
   replace hR2:=hid hR2
   replace h:=hid λn=>(h.out.drewN n).setAt 2 rfl 4 (.int .i64 arg)
   clear hz
   go_wp2_with fail
   go_quiet (fail)
   go_wp2
   go_end0
   obtain rfl:=hR2.out
   exact⟨rfl,(h.out _).tail⟩
  ·have ez: (ar s 2 0==ar s 2 1) =false:=by simpa using hz
   rw[if_neg hz]at hR2
   replace hR2:=hid hR2
   have hrm:=hrr.out
   rw[show s.same=false by
    unfold Mt.same
    rw[(JM s).1,(JM s).2]at hz
    simpa using λh=>hz h.symm]at hrm
   replace h:=hid λn=>BP (h.out.drewN n) hs.out hrm
   clear hz hrm
   go_wp2_with fail
   go_quiet (fail)
   go_wp2_with fail
   refine(h.out _).mono ?_
   rintro e w4 ⟨rfl,h⟩
   replace h:=hid h
   go_wp2
   go_end0
   obtain rfl:=hR2.out
   exact⟨rfl,h.out.tail⟩
 ·have h0: (2:Int)<=s.r-x.base:=hoff.out.2
  have h:=hid (Cp hon2.out hs.out (by have:=hoff.out.1;omega) (wrap64 (s.bH 0+1)) arg (aZ _) (wrap64 (s.bH 0+1) ==s.bH 1))
  clear h0
  go_wp2_with fail
  refine h.out.mono ?_
  rintro e w3 ⟨rfl,h⟩
  replace h:=hid h
  go_wp2
  go_end0
  obtain rfl:=hR.out
  exact⟨rfl,h.out.tail⟩
 ·obtain rfl:1=n:=hw.out
  have hlay:=hid (Ao hon2.out hs.out _ hn.out)
  go_wp2_with fail
  refine hlay.out.mono ?_
  rintro e w3 ⟨rfl,h⟩
  have ha0 : ∀W,Blk W ba 3 (af (s.args 1))->W.cell? (ba,0) =some ((ar s 1 0) :Vl):=λW hW=>ai hW oM
  have ka:=ha0 _ (h.ab 1 rfl)
  have k1:w3.cell? (w.heap.size,1) =some (arg:Vl):=(h.ab 0 rfl).cell 1
  have h0: (2:Int)<=s.r-x.base:=hoff.out.2
  have htu:=Cp h.drew (ec 1 hs.out) (by have:=hoff.out.1;rw[(AX s 1).1];omega) (wrap64 (s.bH 0+ar s 1 0)) arg (aZ _) (lV (s.bH 0) (s.bH 1) (ar s 1 0))
  have hR2:ee (wrap64 (s.bH 0+ar s 1 0)) (lV (s.bH 0) (s.bH 1) (ar s 1 0)) arg x (s.aq 1 []).2=R:=hR.out
  rw[hR2]at htu
  clear h h0 hR hR2 d02 d62 d12 d22 hroom hrr hoff hrv hw hon2 hlay
  generalize s.bH 0=N0 at *
  generalize s.bH 1=N1 at *
  generalize ar s 1 0=A0 at *
  replace ha0:=hid ha0
  unfold lV at htu
  rw[<-IntWalk.i64_left]at htu
  rcases hE1:decide (bits .xor .i64 (IntKind.i64.wrap (N0-N1)) (IntKind.i64.wrap (IntKind.i64.wrap (N0-N1) +A0)) <0)with _|_
  all_goals
   rw[hE1]at htu
   simp only[Bool.false_and,Bool.true_and]at htu
   replace htu:=hid htu
   replace hE1:=hid hE1
   go_wp2_with fail
   have hE2:=hE1.out
   refine wp_region_held_drew (S:=λw'=>w'.cell? (ba,0) =some (A0:Vl)∧w'.cell? (w.heap.size,1) =some (arg:Vl)) kR ?_ (λhHeld=> ?_)
   · ((try dsimp only);go_keep)
   refine tkL 0 ?_
   refine pt ?_
   refine tkL 1 ?_
   refine pt ?_
   refine tkL 2 ?_
   refine pt ?_
   refine tkL 3 ?_
   refine pt ?_
   refine tkL 4 ?_
   refine pt ?_
   refine tkL 5 ?_
   refine pt ?_
   refine tkL 6 ?_
   refine pt ?_
   refine tkL 7 ?_
   refine pt ?_
   refine tkL 8 ?_
   refine pt ?_
  all_goals
   first
    | (refine tkL 9 (v:= .bool false) ?_ (hy:=Or.inl ⟨by kernel_rfl,by intro w hSw;(try dsimp only at hSw);go_simp;(have hE4:=hE2;simp only[IntWalk.i64_left,decide_eq_false_iff_not,decide_eq_true_eq,Int.not_lt]at hE4;exact hE4)⟩)
       refine pt ?_
       refine tkL 10 ?_
       refine pt ?_
       refine tkU 11 ?_
       refine tkU 12 ?_
       refine tkU 13 ?_
       refine tkU 14 ?_
       refine tkU 15 ?_
       refine tkU 16 ?_
       refine pt ?_
       refine tkL 17 ?_)
    | (refine tkL 9 (v:= .bool true) ?_ (hy:=Or.inl ⟨by kernel_rfl,by intro w hSw;(try dsimp only at hSw);go_simp;(have hE4:=hE2;simp only[IntWalk.i64_left,decide_eq_false_iff_not,decide_eq_true_eq,Int.not_lt]at hE4;exact hE4)⟩)
       refine pt ?_
       refine tkL 10 ?_
       refine pt ?_
       refine tkL 11 ?_
       refine pt ?_
       refine tkL 12 ?_
       refine pt ?_
       refine tkL 13 ?_
       refine pt ?_
       refine tkL 14 ?_
       refine pt ?_
       refine tkL 15 ?_
       refine pt ?_
       refine tkL 16 (v:= .bool (decide (bits .xor .i64 (IntKind.i64.wrap (N0-N1)) A0<0))) ?_ (hy:=Or.inl ⟨by kernel_rfl,by intro w hSw;(try dsimp only at hSw);go_simp;try (first|with_reducible rfl|simp only[IntWalk.i64_left])⟩)
       refine pt ?_
       refine tkL 17 (v:= .bool (decide (bits .xor .i64 (IntKind.i64.wrap (N0-N1)) A0<0))) ?_ (hy:=Or.inl ⟨by kernel_rfl,by intro w hSw;(try dsimp only at hSw);go_simp;try (first|with_reducible rfl|simp only[IntWalk.i64_left])⟩))
   refine pt ?_
   refine tkL 18 ?_
   refine pt ?_
   refine tkL 19 ?_
   refine pt ?_
   refine wpAnyH_ready (rs:=[20]) kR (by simp) ?_
   refine AllReadyH.cons rfl (λK hK=> ?_) AllReadyH.nil
   go_simp
   go_wp2_with ((go_at_call 175;refine htu.out.mono ?_;rintro e w4 ⟨rfl,h⟩;have n0:w4.cell? (ba,0) =some (A0:Vl):=ha0.out _ (h.ab 1 rfl);have n1:w4.cell? (w.heap.size,1) =some (arg:Vl):=(h.ab 0 rfl).cell 1;replace h:=hid h))
   refine hK.out _ _ ⟨n0,n1⟩ (λhHeld=> ?_)
   clear hK K
   refine wpAnyH_done kR ?_ _
   go_wp2
   go_end0
   exact⟨rfl,h.out.tail⟩
 ·have h0: (2:Int)<=s.r-x.base:=hoff.out.2
  obtain⟨hdep,hcut⟩:=Ic hon2.out hs.out 2 (by have:=hoff.out.1;omega)
  replace hdep:=hid hdep
  replace hcut:=hid hcut
  go_wp2_with fail
  go_region_held (λw'=>w'.cell? (g,0) =some (c.gM:Vl)∧w'.cell? (c.gM,6) =some (c.gR:Vl)) (go_keep)
   ((first
     | (go_at_call 14;refine hdep.out.mono ?_;rintro e w5 ⟨rfl,rfl⟩)
     | (go_at_call 130;refine hcut.out.mono ?_;rintro e w5 ⟨rfl,h⟩;have k0:=h.tail.tail.r0;have k6:=h.tail.tail.m6;replace h:=hid h)))
  all_goals go_wp2
  all_goals go_end0
  all_goals obtain rfl:=hR.out
  all_goals exact⟨rfl,h.out.tail⟩
 ·have h:=hid (vx hon2.out hs.out (hrv.out 0) (hroom.out oM))
  rcases ho with rfl|rfl
  all_goals
   go_wp2_with fail
   refine h.out.mono ?_
   rintro e w3 ⟨rfl,h⟩
   replace h:=hid h
   go_wp2
   go_end0
   obtain rfl:=hR.out
   exact⟨rfl,h.out.tail.tail⟩
 ·obtain⟨f2,hf2⟩ : ∃f:Int,(if hasB s.r 2 then(0:Int)else s.pr.un) =f:=⟨_,rfl⟩
  have hpk2:Calls Tryz.prog 13 #[c.gR,(2:Int)] w2 (Quiet (.tuple #[(s.bH 2),f2]) w2):=by
   obtain⟨gb,hi⟩:=hon2.out.tail.tail.im
   have h1:=og hon2.out.tail.tail.sr hi hs.out.pr hs.out.rle 2
   unfold oN at h1
   rw[hf2]at h1
   exact h1
  replace hpk2:=hid hpk2
  clear hf2
  go_wp2_with fail
  refine hpk2.out.mono ?_
  rintro e w3 ⟨rfl,hB⟩
  have h:=hid (vx (hon2.out.below hB) hs.out (hrv.out 2) (hroom.out (by simp)))
  clear hB hon2 d02 d62 d12 d22
  go_wp2_with fail
  refine h.out.mono ?_
  rintro e w4 ⟨rfl,h⟩
  replace h:=hid h
  go_wp2
  go_end0
  obtain rfl:=hR.out
  exact⟨rfl,h.out.tail.tail⟩
 ·have h0: (1:Int)<=s.r-x.base:=hoff.out.2
  have hk:1<=s.r:=by have:=hoff.out.1;omega
  obtain⟨hdep,hcut⟩:=Ic hon2.out hs.out 1 hk
  replace hdep:=hid hdep
  replace hcut:=hid hcut
  go_wp2_with fail
  go_region_held (λw'=>w'.cell? (g,0) =some (c.gM:Vl)∧w'.cell? (c.gM,6) =some (c.gR:Vl)) (go_keep)
   ((first
     | (go_at_call 14;refine hdep.out.mono ?_;rintro e w5 ⟨rfl,rfl⟩)
     | (go_at_call 130;refine hcut.out.mono ?_;rintro e w5 ⟨rfl,h⟩;have k0:=h.tail.tail.r0;have k6:=h.tail.tail.m6;replace h:=hid h)))
  all_goals replace h:=hid (vx h.out (pJ hs.out (s.r-1) oM) (hrv.out 0) (hroom.out (by simp)))
  all_goals go_wp2_with fail
  all_goals refine h.out.mono ?_
  all_goals rintro e w4 ⟨rfl,h⟩
  all_goals replace h:=hid h
  all_goals go_wp2
  all_goals go_end0
  all_goals obtain rfl:=hR.out
  all_goals exact⟨rfl,h.out.tail.tail⟩
theorem dL(op arg lit cells:Int)(q:Rn->Mt->Rs)(h1:6<=op)(h2:op<=15)(hf0 : ∀x s,(q x s).f=0)(hq:cS 129 ⟨op,arg,lit,cells⟩ q) :cS 96 ⟨op,arg,lit,cells⟩ q:=by
 intro c g x src s ba w F hs hx hv1 hv2 hask hb
 obtain⟨hon,b0,b1,b2,b3⟩:=mW hb op arg lit cells
 have hl:=hon.aW λF' hb' _ _=>hq c g x src s ba _ F' hs hx hv1 hv2 hask hb'
 rw[hf0]at hl⊢
 have e1: (op==1) =false:=by rw[beq_eq_false_iff_ne];omega
 have e2: (op==2) =false:=by rw[beq_eq_false_iff_ne];omega
 have e3: (op==3) =false:=by rw[beq_eq_false_iff_ne];omega
 have e4: (op==4) =false:=by rw[beq_eq_false_iff_ne];omega
 have e5: (op==5) =false:=by rw[beq_eq_false_iff_ne];omega
 have e16: (op==16) =false:=by rw[beq_eq_false_iff_ne];omega
 have e17: (op==17) =false:=by rw[beq_eq_false_iff_ne];omega
 have e18: (op==18) =false:=by rw[beq_eq_false_iff_ne];omega
 have e19: (op==19) =false:=by rw[beq_eq_false_iff_ne];omega
 have e20: (op==20) =false:=by rw[beq_eq_false_iff_ne];omega
 generalize q x s=R at *
 simp only[ao.v]at hl
 show Calls Tryz.prog 96 #[g,.agg #[op,arg,lit,cells],.slice ba (Code.ah op).1.toNat (Code.ah op).1.toNat] w (Got (.returned (.tuple #[])) (aa (ae ba 3 (af (s.args (Code.ah op).1.toNat)) ::vL c g R.x src R.s)) F w)
 generalize af (s.args (Code.ah op).1.toNat) =ac at *
 generalize (Code.ah op).1.toNat=n at *
 replace hl:=hid hl
 clear hb hs hx hv1 hv2 hask hf0 hq hon h1 h2
 go_enter Tryz.func96,Tryz.ntmps96
 go_wp2_with fail
 refine hl.out.mono ?_
 rintro e w1 ⟨rfl,h⟩
 replace h:=hid h
 go_wp2
 go_end0
 exact⟨rfl,h.out.tail⟩
def dS(s:Mt) :Dc:=⟨3,s.hs.toNat,s.ls.toNat⟩
structure Dcs(c:Vc)(src:Value)(s:Mt) :Prop where
 h:0<=s.hs
 l:0<=s.ls
 at8:At8 s.S (dS s) c.sfr c.sto
def Mt.bL(s:Mt)(S':Img)(D':Dc) :Mt:={ s with S:=S',hs:=(D'.h:Int),ls:=(D'.l:Int) }
section
variable {w w':World}{F:Nat->Prop}{c:Vc}{g:Nat}{x:Rn}{src:Value}{s:Mt}{B:Asr}{gI fr en:Nat}{D:Dc}{S:Img}
theorem Dcs.dc(h:Dcs c src s) :jO c.gI c.gS c.sfr c.sto s.hs s.ls=DcA c.gI c.gS c.sfr c.sto (dS s):=by
 unfold DcA dS
 rw[Int.toNat_of_nonneg h.h,Int.toNat_of_nonneg h.l]
theorem Dcs.call{f:FuncId}{args:Array Value}{e0:Ending}{S':Img}{D':Dc}(hp:Dcs c src s)(h:On F w (aa (B::vL c g x src s)) w')
 (hc : ∀F',(aa [DcA c.gI c.gS c.sfr c.sto (dS s),au c.gI s.S]).holds w' F'->Calls Tryz.prog f args w' (Got e0 (aa [DcA c.gI c.gS c.sfr c.sto D',au c.gI S']) F' w')) :
 Calls Tryz.prog f args w' (Got e0 (aa (B::vL c g x src (s.bL S' D'))) F w):=
 h.cD 7 3 (by decide) (congrArg some hp.dc) rfl hc
theorem NG(X:Int) :IntKind.u8.wrap X= ((UInt8.ofNat (X % 256).toNat).toNat:Int):=by
 have h1:IntKind.u8.wrap X=X % 256:=by simp[IntKind.wrap,IntKind.bits,IntKind.signed]
 rw[h1,UInt8.toNat_ofNat']
 omega
def byteOf(X:Int) :UInt8:=UInt8.ofNat (X % 256).toNat
theorem kN(X:Int) : ((byteOf X).toNat:Int) =IntKind.u8.wrap X:=(NG X).symm
theorem IA(hb: (aa [DcA gI g fr en D,au gI S]).holds w F)(h8:At8 S D fr en)(n:Int)(hn:V64 n) :
 Calls Tryz.prog 145 #[g,n] w (Got (.returned (D.iy S n)) (aa [DcA gI g fr en (D.ie S n),au gI S]) F w):=by
 have hon:=On.refl hb
 have hs:Blk w g 136 (cu gI fr en (D.h:Int) (D.l:Int)):=hon.ab 0 rfl
 have c1:w.cell? (g,1) =some ((fr:Int) :Vl):=hs.cell 1
 have c2:w.cell? (g,2) =some ((en:Int) :Vl):=hs.cell 2
 have c3:w.cell? (g,3) =some ((D.h:Int) :Vl):=hs.cell 3
 have h1:=h8.le
 have h2:=h8.lo
 have e:D.iy S n=if n< (fr:Int) -D.h∨(en:Int) -D.h<n then 9 else 0:=by unfold Dc.iy;rw[h8.fr,h8.lim]
 unfold Dc.ie
 by_cases hb1:n< (fr:Int) -D.h
 ·rw[e,if_pos (.inl hb1),if_neg (by decide)]
  have ht:decide (n< (fr:Int) -D.h) =true:=decide_eq_true hb1
  replace hon:=hid hon
  clear hs hb h8 e
  go_enter Tryz.func145,Tryz.ntmps145
  go_wp2
  go_quiet (fail)
  go_wp2
  go_ret
  exact⟨rfl,hon.out.drewN _⟩
 have ht:decide (n< (fr:Int) -D.h) =false:=decide_eq_false hb1
 by_cases hb2: (en:Int) -D.h<n
 ·rw[e,if_pos (.inr hb2),if_neg (by decide)]
  have ht2:decide ((en:Int) -D.h<n) =true:=decide_eq_true hb2
  replace hon:=hid hon
  clear hs hb h8 e
  go_enter Tryz.func145,Tryz.ntmps145
  go_wp2
  go_quiet (fail)
  go_wp2
  go_ret
  exact⟨rfl,hon.out.drewN _⟩
 ·rw[e,if_neg oM,if_pos rfl]
  have ht2:decide ((en:Int) -D.h<n) =false:=decide_eq_false hb2
  obtain⟨m,hm⟩ : ∃m:Nat,(D.h:Int) +n= (m:Int):=⟨((D.h:Int) +n).toNat,by omega⟩
  have hm2: ((D.h:Int) +n).toNat=m:=by omega
  rw[hm2]
  have f3:w.frozen? (g,3) =false:=hs.frozen 3
  replace hon:=hid hon
  clear hs hb h8 e
  go_enter Tryz.func145,Tryz.ntmps145
  go_wp2
  go_quiet (fail)
  go_wp2
  go_ret
  have hfin:=(hon.out.drewN nq).setAt 0 rfl 3 (.int .i64 (m:Int))
  rw[lS]at hfin
  exact⟨rfl,hfin⟩
end
theorem I4(arg lit cells:Int) :cE Dcs 101 (λg=> #[.pointer (some ⟨g,0,none⟩)]) ⟨74,arg,lit,cells⟩ (λx s=>(⟨(dS s).bo s.S,x,s.bL ((dS s).bp s.S (ar s 1 0)) ((dS s).bq s.S)⟩,[])):=by
 intro c g x src s ba w F hp hs hx hask hb
 have hw2: (Code.ah 74).1.toNat=1:=by decide
 simp only[hw2]at hb⊢
 have hon:=(On.refl hb).drew
 have r0:=(On.refl hb).tail.r0
 have m0:=(On.refl hb).tail.m1
 have a0:=ai ((On.refl hb).ab 0 rfl) (j:=0) oM
 have hcell : ∀s2 W,On F w (aa (ae ba 3 (af (s.args 1)) ::vL c g x src s2)) W->W.cell? (g,0) =some (c.gM:Vl)∧W.cell? (c.gM,1) =some (c.gS:Vl)∧W.cell? (ba,0) =some ((ar s 1 0) :Vl):=λs2 W h=>⟨h.tail.r0,h.tail.m1,ai (h.ab 0 rfl) oM⟩
 have hc:Calls Tryz.prog 75 _ w.drew (Got (.returned ((dS s).bo s.S)) (aa (ae ba 3 (af (s.args 1)) ::vL c g x src (s.bL ((dS s).bp s.S (ar s 1 0)) ((dS s).bq s.S)))) F w):=hp.call hon λF' ha=>vJ ha hp.at8 (ar s 1 0) (aL s 1 0)
 generalize hs2: (s.bL ((dS s).bp s.S (ar s 1 0)) ((dS s).bq s.S)) =s2 at *
 clear hs2
 generalize (dS s).bo s.S=f at *
 generalize ar s 1 0=X at *
 show Calls _ _ #[g,(74:Int),.slice ba 1 1] _ _
 generalize af (s.args 1) =ac at *
 replace hcell:=hid hcell
 replace hc:=hid hc
 replace hon:=hid hon
 clear hp hb hw2 hask hs hx
 by_cases hf:f=0
 ·simp only[if_pos hf]
  subst hf
  go_enter Tryz.func101,Tryz.ntmps101
  go_wp2_with fail
  go_region_held (λw'=>w'.cell? (g,0) =some (c.gM:Vl)∧w'.cell? (c.gM,1) =some (c.gS:Vl)∧w'.cell? (ba,0) =some (X:Vl)) (go_keep)
   ((first
     | (go_at_call 75;refine hc.out.mono ?_;rintro e w5 ⟨rfl,hn5⟩;have⟨n0,n1,n2⟩:=hcell.out _ _ hn5;replace hn5:=hid hn5)
     | (go_at_call 64;refine(bD _).mono ?_;rintro e w6 ⟨rfl,rfl⟩)))
  all_goals go_wp2
  all_goals go_ret
  all_goals exact⟨none,0,_,rfl,br _,hn5.out⟩
 ·simp only[if_neg hf]
  have ht:=hid (λw=>cG f hf w)
  replace hf:=hid hf
  go_enter Tryz.func101,Tryz.ntmps101
  go_wp2_with fail
  go_region_held (λw'=>w'.cell? (g,0) =some (c.gM:Vl)∧w'.cell? (c.gM,1) =some (c.gS:Vl)∧w'.cell? (ba,0) =some (X:Vl)) (go_keep)
   ((first
     | (go_at_call 75;refine hc.out.mono ?_;rintro e w5 ⟨rfl,hn5⟩;have⟨n0,n1,n2⟩:=hcell.out _ _ hn5;replace hn5:=hid hn5)
     | (go_at_call 64;refine dead (ht.out _) ⟨rfl,rfl,hn5.out.tail⟩ ?_;intro hF e w6 he hw;subst he;subst hw;replace hF:=hid hF)))
  all_goals exact hF.out.elim
theorem Jl(arg lit cells:Int) :cE Dcs 101 (λg=> #[.pointer (some ⟨g,0,none⟩)]) ⟨76,arg,lit,cells⟩ (λx s=>(⟨(dS s).fm s.S,x,s.bL ((dS s).fp s.S) ((dS s).gZ s.S)⟩,[])):=by
 intro c g x src s ba w F hp hs hx hask hb
 have hw2: (Code.ah 76).1.toNat=0:=by decide
 simp only[hw2]at hb⊢
 have hon:=On.refl hb
 have r0:=hon.tail.r0
 have m0:=hon.tail.m1
 have hc:Calls Tryz.prog 114 _ w (Got (.returned ((dS s).fm s.S)) (aa (ae ba 3 (af (s.args 0)) ::vL c g x src (s.bL ((dS s).fp s.S) ((dS s).gZ s.S)))) F w):=hp.call hon λF' ha=>Kx ha hp.at8
 generalize hs2: (s.bL ((dS s).fp s.S) ((dS s).gZ s.S)) =s2 at *
 clear hs2
 generalize (dS s).fm s.S=f at *
 show Calls _ _ #[g,(76:Int),.slice ba 0 0] _ _
 generalize af (s.args 0) =ac at *
 replace hc:=hid hc
 clear hp hb hw2 hask hs hx hon
 by_cases hf:f=0
 ·simp only[if_pos hf]
  subst hf
  go_enter Tryz.func101,Tryz.ntmps101
  go_wp2_with fail
  refine hc.out.mono ?_
  rintro e w5 ⟨rfl,hn5⟩
  simp only[]
  replace hn5:=hid hn5
  go_wp2_with fail
  refine(bD _).mono ?_
  rintro e w6 ⟨rfl,rfl⟩
  simp only[]
  go_wp2
  go_ret
  exact⟨none,0,_,rfl,br _,hn5.out⟩
 ·simp only[if_neg hf]
  have ht:=hid (λw=>cG f hf w)
  replace hf:=hid hf
  go_enter Tryz.func101,Tryz.ntmps101
  go_wp2_with fail
  refine hc.out.mono ?_
  rintro e w5 ⟨rfl,hn5⟩
  simp only[]
  replace hn5:=hid hn5
  go_wp2_with fail
  refine(ht.out _).mono ?_
  rintro e w6 ⟨rfl,rfl⟩
  exact⟨rfl,rfl,hn5.out.tail⟩
theorem L6(arg lit cells:Int) :cE Dcs 101 (λg=> #[.pointer (some ⟨g,0,none⟩)]) ⟨72,arg,lit,cells⟩ (λx s=>(⟨0,x,s⟩,[s.hs])):=by
 intro c g x src s ba w F hp hs hx hask hb
 have hw2: (Code.ah 72).1.toNat=0:=by decide
 simp only[hw2]at hb⊢
 simp only[if_pos]
 have hon:=On.refl hb
 have r0:=hon.tail.r0
 have m0:=hon.tail.m1
 have e1:s.hs= ((dS s).h:Int):=(Int.toNat_of_nonneg hp.h).symm
 have e2:s.ls= ((dS s).l:Int):=(Int.toNat_of_nonneg hp.l).symm
 have hd:=hon.ab 7 rfl
 rw[e1,e2]at hd
 have hc:=Mp hd
 rw[<-e1]at hc
 generalize af (s.args 0) =ac at *
 generalize s.hs=v at *
 replace hon:=hid hon
 replace hc:=hid hc
 clear hp hb hw2 hask hs hx hd e1 e2
 show Calls _ _ #[g,(72:Int),.slice ba 0 0] _ _
 go_enter Tryz.func101,Tryz.ntmps101
 go_wp2_with fail
 refine hc.out.mono ?_
 rintro e w1 ⟨rfl,rfl⟩
 simp only[]
 have h6:=hid (hon.out.tail.box #[v] 3)
 go_wp2
 go_ret
 exact⟨some ⟨w1.heap.size,0,none⟩,1,ae w1.heap.size 3 (af [v]),rfl,ay _ _,h6.out⟩
theorem Kv(arg lit cells:Int) :cE Dcs 101 (λg=> #[.pointer (some ⟨g,0,none⟩)]) ⟨73,arg,lit,cells⟩ (λx s=>(⟨(dS s).iy s.S (ar s 1 0),x,s.bL s.S ((dS s).ie s.S (ar s 1 0))⟩,[])):=by
 intro c g x src s ba w F hp hs hx hask hb
 have hw2: (Code.ah 73).1.toNat=1:=by decide
 simp only[hw2]at hb⊢
 have hon:=(On.refl hb).drew
 have r0:=(On.refl hb).tail.r0
 have m0:=(On.refl hb).tail.m1
 have a0:=ai ((On.refl hb).ab 0 rfl) (j:=0) oM
 have hcell : ∀s2 W,On F w (aa (ae ba 3 (af (s.args 1)) ::vL c g x src s2)) W->W.cell? (g,0) =some (c.gM:Vl)∧W.cell? (c.gM,1) =some (c.gS:Vl)∧W.cell? (ba,0) =some ((ar s 1 0) :Vl):=λs2 W h=>⟨h.tail.r0,h.tail.m1,ai (h.ab 0 rfl) oM⟩
 have hc:Calls Tryz.prog 145 _ w.drew (Got (.returned ((dS s).iy s.S (ar s 1 0))) (aa (ae ba 3 (af (s.args 1)) ::vL c g x src (s.bL s.S ((dS s).ie s.S (ar s 1 0))))) F w):=hp.call hon λF' ha=>IA ha hp.at8 (ar s 1 0) (aL s 1 0)
 generalize hs2: (s.bL s.S ((dS s).ie s.S (ar s 1 0))) =s2 at *
 clear hs2
 generalize (dS s).iy s.S (ar s 1 0) =f at *
 generalize ar s 1 0=X at *
 show Calls _ _ #[g,(73:Int),.slice ba 1 1] _ _
 generalize af (s.args 1) =ac at *
 replace hcell:=hid hcell
 replace hc:=hid hc
 replace hon:=hid hon
 clear hp hb hw2 hask hs hx
 by_cases hf:f=0
 ·simp only[if_pos hf]
  subst hf
  go_enter Tryz.func101,Tryz.ntmps101
  go_wp2_with fail
  go_region_held (λw'=>w'.cell? (g,0) =some (c.gM:Vl)∧w'.cell? (c.gM,1) =some (c.gS:Vl)∧w'.cell? (ba,0) =some (X:Vl)) (go_keep)
   ((first
     | (go_at_call 145;refine hc.out.mono ?_;rintro e w5 ⟨rfl,hn5⟩;have⟨n0,n1,n2⟩:=hcell.out _ _ hn5;replace hn5:=hid hn5)
     | (go_at_call 64;refine(bD _).mono ?_;rintro e w6 ⟨rfl,rfl⟩)))
  all_goals go_wp2
  all_goals go_ret
  all_goals exact⟨none,0,_,rfl,br _,hn5.out⟩
 ·simp only[if_neg hf]
  have ht:=hid (λw=>cG f hf w)
  replace hf:=hid hf
  go_enter Tryz.func101,Tryz.ntmps101
  go_wp2_with fail
  go_region_held (λw'=>w'.cell? (g,0) =some (c.gM:Vl)∧w'.cell? (c.gM,1) =some (c.gS:Vl)∧w'.cell? (ba,0) =some (X:Vl)) (go_keep)
   ((first
     | (go_at_call 145;refine hc.out.mono ?_;rintro e w5 ⟨rfl,hn5⟩;have⟨n0,n1,n2⟩:=hcell.out _ _ hn5;replace hn5:=hid hn5)
     | (go_at_call 64;refine dead (ht.out _) ⟨rfl,rfl,hn5.out.tail⟩ ?_;intro hF e w6 he hw;subst he;subst hw;replace hF:=hid hF)))
  all_goals exact hF.out.elim
theorem Gi(arg lit cells:Int) :cE Dcs 101 (λg=> #[.pointer (some ⟨g,0,none⟩)]) ⟨75,arg,lit,cells⟩ (λx s=>(⟨(dS s).cF s.S,x,s.bL ((dS s).di s.S (byteOf (ar s 1 0))) ((dS s).dR s.S)⟩,[])):=by
 intro c g x src s ba w F hp hs hx hask hb
 have hw2: (Code.ah 75).1.toNat=1:=by decide
 simp only[hw2]at hb⊢
 have hon:=(On.refl hb).drew
 have r0:=(On.refl hb).tail.r0
 have m0:=(On.refl hb).tail.m1
 have a0:=ai ((On.refl hb).ab 0 rfl) (j:=0) oM
 have hcell : ∀s2 W,On F w (aa (ae ba 3 (af (s.args 1)) ::vL c g x src s2)) W->W.cell? (g,0) =some (c.gM:Vl)∧W.cell? (c.gM,1) =some (c.gS:Vl)∧W.cell? (ba,0) =some ((ar s 1 0) :Vl):=λs2 W h=>⟨h.tail.r0,h.tail.m1,ai (h.ab 0 rfl) oM⟩
 have hc:Calls Tryz.prog 115 #[c.gS,.int .u8 (IntKind.u8.wrap (ar s 1 0))] w.drew (Got (.returned ((dS s).cF s.S)) (aa (ae ba 3 (af (s.args 1)) ::vL c g x src (s.bL ((dS s).di s.S (byteOf (ar s 1 0))) ((dS s).dR s.S)))) F w):=kN (ar s 1 0)▸hp.call hon λF' ha=>qW ha hp.at8 (byteOf (ar s 1 0))
 generalize hs2: (s.bL ((dS s).di s.S (byteOf (ar s 1 0))) ((dS s).dR s.S)) =s2 at *
 clear hs2
 generalize (dS s).cF s.S=f at *
 generalize ar s 1 0=X at *
 show Calls _ _ #[g,(75:Int),.slice ba 1 1] _ _
 generalize af (s.args 1) =ac at *
 replace hcell:=hid hcell
 replace hc:=hid hc
 replace hon:=hid hon
 clear hp hb hw2 hask hs hx
 by_cases hf:f=0
 ·simp only[if_pos hf]
  subst hf
  go_enter Tryz.func101,Tryz.ntmps101
  go_wp2_with fail
  go_region_held (λw'=>w'.cell? (g,0) =some (c.gM:Vl)∧w'.cell? (c.gM,1) =some (c.gS:Vl)∧w'.cell? (ba,0) =some (X:Vl)) (go_keep)
   ((first
     | (go_at_call 115;refine hc.out.mono ?_;rintro e w5 ⟨rfl,hn5⟩;have⟨n0,n1,n2⟩:=hcell.out _ _ hn5;replace hn5:=hid hn5)
     | (go_at_call 64;refine(bD _).mono ?_;rintro e w6 ⟨rfl,rfl⟩)))
  all_goals go_wp2
  all_goals go_ret
  all_goals exact⟨none,0,_,rfl,br _,hn5.out⟩
 ·simp only[if_neg hf]
  have ht:=hid (λw=>cG f hf w)
  replace hf:=hid hf
  go_enter Tryz.func101,Tryz.ntmps101
  go_wp2_with fail
  go_region_held (λw'=>w'.cell? (g,0) =some (c.gM:Vl)∧w'.cell? (c.gM,1) =some (c.gS:Vl)∧w'.cell? (ba,0) =some (X:Vl)) (go_keep)
   ((first
     | (go_at_call 115;refine hc.out.mono ?_;rintro e w5 ⟨rfl,hn5⟩;have⟨n0,n1,n2⟩:=hcell.out _ _ hn5;replace hn5:=hid hn5)
     | (go_at_call 64;refine dead (ht.out _) ⟨rfl,rfl,hn5.out.tail⟩ ?_;intro hF e w6 he hw;subst he;subst hw;replace hF:=hid hF)))
  all_goals exact hF.out.elim
def aY(x:Rn)(n:Int) :Int:=if n<0 then 19 else if x.left<n/8 then 13 else 0
def Rn.pay(x:Rn)(n:Int) :Rn:=if aY x n=0 then { x with left:=x.left-n/8 } else x
def yt(x:Rn) :Int:=if x.asked=true then 0 else x.mode
def iA(x:Rn)(s:Mt)(t:ByteArray) :Int:=Caps.nO s.T (yt x) t
def Mt.fl(s:Mt)(x:Rn)(t:ByteArray) :Mt:={ s with T:=Caps.mn s.T (yt x) t }
def ig(x:Rn)(s:Mt)(a n:Int) :Int:=if aY x n=0 then s.S.cZ x.mode a n else aY x n
def jH(f:Int)(t:ByteArray) :Ending:=if f=0 then .returned (.string t)else .panicked [flt f]
theorem eD{f:Int}(h:f≠0) :bO f = .panicked [flt f]:=by unfold bO;rw[if_neg h]
theorem mP{f:Int}{t:ByteArray}(h:f≠0) :jH f t = .panicked [flt f]:=by unfold jH;rw[if_neg h]
theorem jj{x:Rn}(hx:x.Ok)(n:Int) : (x.pay n).Ok:=by
 unfold Rn.pay
 split
 ·rename_i h
  unfold aY at h
  have h1:=hx.left
  have h2:=hx.dQ
  split at h
  ·cases h
  split at h
  ·cases h
  ·refine⟨hx.base,hx.dT,hx.next,hx.pc,?_,?_⟩
   ·show 0<=x.left-n/8;omega
   ·show x.left-n/8<=1000000;omega
 ·exact hx
section
variable {w w':World}{F:Nat->Prop}{c:Vc}{g:Nat}{x:Rn}{src:Value}{s:Mt}
theorem vr(hb: (VA c g x src s).holds w F)(hx:x.Ok)(n:Int)(hn:V64 n) :
 Calls Tryz.prog 141 #[g,n] w (Got (bO (aY x n)) (VA c g (x.pay n) src s) F w):=by
 have hon:=On.refl hb
 have r2:=hon.r2
 have f2:=hon.rf 2
 by_cases h0:n<0
 ·have e1:aY x n=19:=by unfold aY;rw[if_pos h0]
  have e2:x.pay n=x:=by unfold Rn.pay;rw[e1];rfl
  rw[e1,e2]
  have t1:decide (0<=n) =false:=decide_eq_false oM
  replace hon:=hid hon
  clear hb e1 e2 h0
  go_enter Tryz.func141,Tryz.ntmps141
  go_wp2_with fail
  refine(bV _ _).mono ?_
  rintro e w1 ⟨rfl,rfl⟩
  exact⟨rfl,rfl,hon.out⟩
 have t1:decide (0<=n) =true:=decide_eq_true oM
 obtain⟨k,hk⟩ : ∃k:Nat,n= (k:Int):=⟨n.toNat,by omega⟩
 subst hk
 have hd: ((k:Int)).tdiv 8= ((k/8:Nat) :Int):=by rw[Int.tdiv_eq_ediv_of_nonneg oM];rfl
 have hd2: (k:Int) /8= ((k/8:Nat) :Int):=by omega
 have hw1:IntKind.i64.wrap ((k/8:Nat) :Int) = ((k/8:Nat) :Int):=IntWalk.i64_in _ (by unfold V64 at hn;omega)
 by_cases h1:x.left< ((k/8:Nat) :Int)
 ·have e1:aY x k=13:=by unfold aY;rw[if_neg h0,hd2,if_pos h1]
  have e2:x.pay k=x:=by unfold Rn.pay;rw[e1];rfl
  rw[e1,e2]
  have t2:decide (((k/8:Nat) :Int)<=x.left) =false:=decide_eq_false oM
  generalize k/8=q at *
  replace hon:=hid hon
  replace hn:=hid hn
  clear hb e1 e2 h0 hd2 h1
  go_enter Tryz.func141,Tryz.ntmps141
  go_wp2_with fail
  refine(bF _ _).mono ?_
  rintro e w1 ⟨rfl,rfl⟩
  simp only[]
  go_wp2_with fail
  refine(bV _ _).mono ?_
  rintro e w2 ⟨rfl,rfl⟩
  exact⟨rfl,rfl,hon.out⟩
 ·have e1:aY x k=0:=by unfold aY;rw[if_neg h0,hd2,if_neg h1]
  have e2:x.pay k = { x with left:=x.left- ((k/8:Nat) :Int) }:=by unfold Rn.pay;rw[if_pos e1,hd2]
  rw[e1,e2]
  have t2:decide (((k/8:Nat) :Int)<=x.left) =true:=decide_eq_true oM
  have hl1:=hx.left
  have hl2:=hx.dQ
  have hset : ∀W,On F w (VA c g x src s) W->On F w (VA c g { x with left:=x.left- ((k/8:Nat) :Int) } src s) (W.setCell (g,2) (.int .i64 (x.left- ((k/8:Nat) :Int)))):=λW h=>h.setAt 0 rfl 2 (.int .i64 (x.left- ((k/8:Nat) :Int)))
  have hw2:IntKind.i64.wrap (x.left- ((k/8:Nat) :Int)) =x.left- ((k/8:Nat) :Int):=IntWalk.i64_in _ oM
  generalize k/8=q at *
  replace hon:=hid hon
  replace hset:=hid hset
  replace hn:=hid hn
  clear hb e1 e2 h0 hd2 h1
  go_enter Tryz.func141,Tryz.ntmps141
  go_wp2_with fail
  refine(bF _ _).mono ?_
  rintro e w1 ⟨rfl,rfl⟩
  simp only[]
  go_wp2_with fail
  refine(bF _ _).mono ?_
  rintro e w2 ⟨rfl,rfl⟩
  simp only[]
  go_wp2
  go_end0
  exact⟨rfl,hset.out _ hon.out⟩
theorem Cq(hb: (VA c g x src s).holds w F)(t:ByteArray)(ht:t.size<=maxLen) :
 Calls Tryz.prog 146 #[g,.string t] w (Got (bO (iA x s t)) (VA c g x src (s.fl x t)) F w):=by
 have hon:=On.refl hb
 have r0:=hon.r0
 have r1:=hon.r1
 have r6:=hon.r6
 have m3:=hon.m3
 have hcell : ∀s2 W,On F w (VA c g x src s2) W->W.cell? (g,0) =some (c.gM:Vl)∧W.cell? (c.gM,3) =some (c.gT:Vl):=λs2 W h=>⟨h.r0,h.m3⟩
 have hc : ∀W,On F w (VA c g x src s) W->Calls Tryz.prog 186 #[c.gT,(yt x),.string t] W (Got (.returned (iA x s t)) (VA c g x src (s.fl x t)) F w):=λW h=>h.bA 5 rfl (λF' ha=>fJ ha λw0 L h=>Np h (yt x) t ht)
 obtain⟨f,hf⟩ : ∃f,iA x s t=f:=⟨_,rfl⟩
 obtain⟨s2,hs2⟩ : ∃s2,s.fl x t=s2:=⟨_,rfl⟩
 rw[hf,hs2]at hc⊢
 clear hf hs2 hb
 replace hcell:=hid hcell
 replace hon:=hid hon
 rcases ha:x.asked with _|_
 ·have hm:yt x=x.mode:=by unfold yt;rw[ha];rfl
  rw[hm]at hc
  rw[ha]at r6
  replace hc:=hid hc
  clear hm ha
  by_cases hf:f=0
  ·subst hf
   go_enter Tryz.func146,Tryz.ntmps146
   go_wp2_with fail
   refine(hc.out _ hon.out).mono ?_
   rintro e w5 ⟨rfl,hn5⟩
   simp only[]
   replace hn5:=hid hn5
   go_wp2_with fail
   refine(bD _).mono ?_
   rintro e w6 ⟨rfl,rfl⟩
   simp only[]
   go_wp2
   go_end0
   exact⟨rfl,hn5.out⟩
  ·rw[eD hf]
   have hn:=hid (λw=>cG f hf w)
   replace hf:=hid hf
   go_enter Tryz.func146,Tryz.ntmps146
   go_wp2_with fail
   refine(hc.out _ hon.out).mono ?_
   rintro e w5 ⟨rfl,hn5⟩
   simp only[]
   replace hn5:=hid hn5
   go_wp2_with fail
   refine(hn.out _).mono ?_
   rintro e w6 ⟨rfl,rfl⟩
   exact⟨rfl,rfl,hn5.out⟩
 ·have hm:yt x=0:=by unfold yt;rw[ha];rfl
  rw[hm]at hc
  rw[ha]at r6
  replace hc:=hid hc
  clear hm ha
  by_cases hf:f=0
  ·subst hf
   go_enter Tryz.func146,Tryz.ntmps146
   go_wp2_with fail
   refine(hc.out _ hon.out).mono ?_
   rintro e w5 ⟨rfl,hn5⟩
   simp only[]
   replace hn5:=hid hn5
   go_wp2_with fail
   refine(bD _).mono ?_
   rintro e w6 ⟨rfl,rfl⟩
   simp only[]
   go_wp2
   go_end0
   exact⟨rfl,hn5.out⟩
  ·rw[eD hf]
   have hn:=hid (λw=>cG f hf w)
   replace hf:=hid hf
   go_enter Tryz.func146,Tryz.ntmps146
   go_wp2_with fail
   refine(hc.out _ hon.out).mono ?_
   rintro e w5 ⟨rfl,hn5⟩
   simp only[]
   replace hn5:=hid hn5
   go_wp2_with fail
   refine(hn.out _).mono ?_
   rintro e w6 ⟨rfl,rfl⟩
   exact⟨rfl,rfl,hn5.out⟩
theorem AS(hb: (VA c g x src s).holds w F)(hx:x.Ok)(a n:Int)(hn:V64 n) :
 Calls Tryz.prog 147 #[g,a,n] w (Got (jH (ig x s a n) (s.S.text x.mode a n)) (VA c g (x.pay n) src s) F w):=by
 have hm:=vr hb hx n hn
 have hc : ∀x2 W,On F w (VA c g x2 src s) W->Calls Tryz.prog 87 #[c.gI,x.mode,a,n] W (aA (.tuple #[.string (s.S.text x.mode a n),(s.S.cZ x.mode a n)]) W):=λx2 W h=>by
  obtain⟨gb,hi⟩:=h.im
  exact AL hi x.mode a n hn.2
 have hcell : ∀x2 s2 W,x2.mode=x.mode->On F w (VA c g x2 src s2) W->W.cell? (g,0) =some (c.gM:Vl)∧W.cell? (c.gM,0) =some (c.gI:Vl)∧W.cell? (g,1) =some (x.mode:Vl):=λx2 s2 W e h=>⟨h.r0,h.m0,by rw[<-e];exact h.r1⟩
 have hpm: (x.pay n).mode=x.mode:=by unfold Rn.pay;split<;>rfl
 unfold ig
 generalize s.S.text x.mode a n=t at *
 generalize s.S.cZ x.mode a n=f2 at *
 generalize x.pay n=x2 at *
 generalize aY x n=f at *
 replace hcell:=hid (λs2 W=>hcell x2 s2 W hpm)
 replace hc:=hid (hc x2)
 replace hm:=hid hm
 replace hn:=hid hn
 clear hb hx hpm
 by_cases hf:f=0
 ·have e1:bO f = .returned (.tuple #[]):=by unfold bO;rw[if_pos hf]
  rw[e1]at hm
  simp only[if_pos hf]
  clear hf e1
  by_cases hf2:f2=0
  ·have e2:jH f2 t = .returned (.string t):=by unfold jH;rw[if_pos hf2]
   rw[e2]
   clear e2
   subst hf2
   go_enter Tryz.func147,Tryz.ntmps147
   go_wp2_with fail
   refine hm.out.mono ?_
   rintro e w1 ⟨rfl,h1⟩
   simp only[]
   have⟨n0,n1,n2⟩:=hcell.out _ _ h1
   replace h1:=hid h1
   go_wp2_with fail
   go_region_held (λw'=>w'.cell? (g,0) =some (c.gM:Vl)∧w'.cell? (c.gM,0) =some (c.gI:Vl)∧w'.cell? (g,1) =some (x.mode:Vl)) (go_keep)
    ((go_at_call 87;refine(hc.out _ h1.out.drew).mono ?_;rintro e w5 ⟨rfl,rfl⟩))
   all_goals go_wp2_with fail
   refine(bD _).mono ?_
   rintro e w6 ⟨rfl,rfl⟩
   simp only[]
   go_wp2
   go_ret
   exact⟨rfl,h1.out.drew⟩
  ·rw[mP hf2]
   have ht:=hid (λw=>cG f2 hf2 w)
   replace hf2:=hid hf2
   go_enter Tryz.func147,Tryz.ntmps147
   go_wp2_with fail
   refine hm.out.mono ?_
   rintro e w1 ⟨rfl,h1⟩
   simp only[]
   have⟨n0,n1,n2⟩:=hcell.out _ _ h1
   replace h1:=hid h1
   go_wp2_with fail
   go_region_held (λw'=>w'.cell? (g,0) =some (c.gM:Vl)∧w'.cell? (c.gM,0) =some (c.gI:Vl)∧w'.cell? (g,1) =some (x.mode:Vl)) (go_keep)
    ((go_at_call 87;refine(hc.out _ h1.out.drew).mono ?_;rintro e w5 ⟨rfl,rfl⟩))
   all_goals go_wp2_with fail
   refine(ht.out _).mono ?_
   rintro e w6 ⟨rfl,rfl⟩
   exact⟨rfl,rfl,h1.out.drew⟩
 ·rw[eD hf]at hm
  simp only[if_neg hf]
  rw[mP hf]
  replace hf:=hid hf
  go_enter Tryz.func147,Tryz.ntmps147
  go_wp2_with fail
  refine hm.out.mono ?_
  rintro e w1 ⟨rfl,h1⟩
  exact⟨rfl,rfl,h1⟩
end
section
variable {w w':World}{F:Nat->Prop}{gI gb:Nat}{S:Img}
def IX(S:Img) :Pl:=⟨S.beg 4,S.d/8,1,2⟩
def J2(S:Img) :Pl:=⟨S.beg 5,S.r/8,3,4⟩
def BC(gI:Nat)(p:Pl)(e:Ending)(B:Asr) :Prop:= ∃g,e = .returned (.tuple #[.pointer (some ⟨g,0,none⟩),.int .i64 0])∧B=cR gI g p 0
theorem Hm(hi:bU w gI gb S)(hd:S.d<=4096) :Calls Tryz.prog 49 #[.pointer (some ⟨gI,0,none⟩),.int .i64 4] w (b8 (BC gI (IX S)) Nob w):=by
 have hbx:=(On.refl (A:=aa []) (F:=Nob) (w:=w) (λ_ h=>h)).box (gv gI ⟨0,0,1,2⟩ 0) 111
 have hsp:=jA (w:=w.alloc (.cells (gv gI ⟨0,0,1,2⟩ 0) 111)) ⟨hi.blk.alloc _,hi.row.alloc _,hi.ok⟩ 4 oM oM
 have e5:S.beg (4+1) =S.beg 4+S.d:=by simp[Img.beg]
 have hsm:S.beg 4<=143360:=Nat.le_trans (S.dm oM oM oM) hi.ok.small
 rw[e5]at hsp
 have hp:IX S= ⟨S.beg 4,S.d/8,1,2⟩:=rfl
 rw[hp]
 generalize S.beg 4=b at *
 generalize S.d=d at *
 have hst:gv gI ⟨0,0,1,2⟩ 0 = #[.pointer (some ⟨gI,0,none⟩),.int .i64 0,.int .i64 0,.int .i64 0,.int .i64 1,.int .i64 2]:=rfl
 rw[hst]at hsp hbx
 replace hsp:=hid hsp
 replace hbx:=hid hbx
 clear hi hp hst e5
 go_enter Tryz.func49,Tryz.ntmps49
 go_wp2_with fail
 refine hsp.out.mono ?_
 rintro e w1 ⟨rfl,n,rfl⟩
 have hon:=hbx.out.drewN n
 have f1:=(hon.ab 0 rfl).frozen 1
 have f2:=(hon.ab 0 rfl).frozen 2
 have c1: ((w.alloc (.cells #[.pointer (some ⟨gI,0,none⟩),.int .i64 0,.int .i64 0,.int .i64 0,.int .i64 1,.int .i64 2] 111)).drewN n).cell? ⟨w.heap.size,1,none⟩ =some (.int .i64 0):=(hon.ab 0 rfl).cell 1
 have c2: ((w.alloc (.cells #[.pointer (some ⟨gI,0,none⟩),.int .i64 0,.int .i64 0,.int .i64 0,.int .i64 1,.int .i64 2] 111)).drewN n).cell? ⟨w.heap.size,2,none⟩ =some (.int .i64 0):=(hon.ab 0 rfl).cell 2
 have hq: ((b:Int) + (d:Int) - (b:Int)) /8= ((d/8:Nat) :Int):=by omega
 have hcs: ((#[.pointer (some ⟨gI,0,none⟩),.int .i64 0,.int .i64 0,.int .i64 0,.int .i64 1,.int .i64 2] :Array Value).setIfInBounds 1 (.int .i64 (b:Int))).setIfInBounds 2 (.int .i64 (((b:Int) + (d:Int) - (b:Int)) /8)) =gv gI ⟨b,d/8,1,2⟩ 0:=by rw[hq];rfl
 have hfin2:On Nob w (aa [ae w.heap.size 111 (((#[.pointer (some ⟨gI,0,none⟩),.int .i64 0,.int .i64 0,.int .i64 0,.int .i64 1,.int .i64 2] :Array Value).setIfInBounds 1 (.int .i64 (b:Int))).setIfInBounds 2 (.int .i64 (((b:Int) + (d:Int) - (b:Int)) /8)))]) _:=(hon.setAt 0 rfl 1 (.int .i64 (b:Int))).setAt 0 rfl 2 (.int .i64 (((b:Int) + (d:Int) - (b:Int)) /8))
 rw[hcs]at hfin2
 replace hfin2:=hid hfin2
 clear hon hq hcs
 go_wp2
 go_ret2
 exact⟨_,⟨w.heap.size,rfl,rfl⟩,hfin2.out.nc⟩
theorem GK(hi:bU w gI gb S)(hd:S.r<=4096) :Calls Tryz.prog 49 #[.pointer (some ⟨gI,0,none⟩),.int .i64 5] w (b8 (BC gI (J2 S)) Nob w):=by
 have hbx:=(On.refl (A:=aa []) (F:=Nob) (w:=w) (λ_ h=>h)).box (gv gI ⟨0,0,3,4⟩ 0) 111
 have hsp:=jA (w:=w.alloc (.cells (gv gI ⟨0,0,3,4⟩ 0) 111)) ⟨hi.blk.alloc _,hi.row.alloc _,hi.ok⟩ 5 oM oM
 have e5:S.beg (5+1) =S.beg 5+S.r:=by simp[Img.beg]
 have hsm:S.beg 5<=143360:=Nat.le_trans (S.dm oM oM oM) hi.ok.small
 rw[e5]at hsp
 have hp:J2 S= ⟨S.beg 5,S.r/8,3,4⟩:=rfl
 rw[hp]
 generalize S.beg 5=b at *
 generalize S.r=d at *
 have hst:gv gI ⟨0,0,3,4⟩ 0 = #[.pointer (some ⟨gI,0,none⟩),.int .i64 0,.int .i64 0,.int .i64 0,.int .i64 3,.int .i64 4]:=rfl
 rw[hst]at hsp hbx
 replace hsp:=hid hsp
 replace hbx:=hid hbx
 clear hi hp hst e5
 go_enter Tryz.func49,Tryz.ntmps49
 go_wp2_with fail
 refine hsp.out.mono ?_
 rintro e w1 ⟨rfl,n,rfl⟩
 have hon:=hbx.out.drewN n
 have f1:=(hon.ab 0 rfl).frozen 1
 have f2:=(hon.ab 0 rfl).frozen 2
 have c1: ((w.alloc (.cells #[.pointer (some ⟨gI,0,none⟩),.int .i64 0,.int .i64 0,.int .i64 0,.int .i64 3,.int .i64 4] 111)).drewN n).cell? ⟨w.heap.size,1,none⟩ =some (.int .i64 0):=(hon.ab 0 rfl).cell 1
 have c2: ((w.alloc (.cells #[.pointer (some ⟨gI,0,none⟩),.int .i64 0,.int .i64 0,.int .i64 0,.int .i64 3,.int .i64 4] 111)).drewN n).cell? ⟨w.heap.size,2,none⟩ =some (.int .i64 0):=(hon.ab 0 rfl).cell 2
 have hq: ((b:Int) + (d:Int) - (b:Int)) /8= ((d/8:Nat) :Int):=by omega
 have hcs: ((#[.pointer (some ⟨gI,0,none⟩),.int .i64 0,.int .i64 0,.int .i64 0,.int .i64 3,.int .i64 4] :Array Value).setIfInBounds 1 (.int .i64 (b:Int))).setIfInBounds 2 (.int .i64 (((b:Int) + (d:Int) - (b:Int)) /8)) =gv gI ⟨b,d/8,3,4⟩ 0:=by rw[hq];rfl
 have hfin2:On Nob w (aa [ae w.heap.size 111 (((#[.pointer (some ⟨gI,0,none⟩),.int .i64 0,.int .i64 0,.int .i64 0,.int .i64 3,.int .i64 4] :Array Value).setIfInBounds 1 (.int .i64 (b:Int))).setIfInBounds 2 (.int .i64 (((b:Int) + (d:Int) - (b:Int)) /8)))]) _:=(hon.setAt 0 rfl 1 (.int .i64 (b:Int))).setAt 0 rfl 2 (.int .i64 (((b:Int) + (d:Int) - (b:Int)) /8))
 rw[hcs]at hfin2
 replace hfin2:=hid hfin2
 clear hon hq hcs
 go_wp2
 go_ret2
 exact⟨_,⟨w.heap.size,rfl,rfl⟩,hfin2.out.nc⟩
end
def lE(x:Rn)(s:Mt) :Rs×List Int:=
 if s.S.az x.mode (ar s 2 1) false=0 then(⟨s.S.az x.mode (ar s 2 1) true,x,{ s with S:=s.S.setCell x.mode (ar s 2 1) (wrap64 (s.S.aR x.mode (ar s 2 1) +ar s 2 0)) }⟩,[])else(⟨s.S.az x.mode (ar s 2 1) false,x,s⟩,[])
theorem Mo(arg lit cells:Int) :bn 100 (λg=> #[.pointer (some ⟨g,0,none⟩)]) ⟨69,arg,lit,cells⟩ lE:=by
 intro c g x src s ba w F hs hx hask hb
 have hw2: (Code.ah 69).1.toNat=2:=by decide
 simp only[hw2]at hb⊢
 have hon:=(On.refl hb).drew
 have r0:=(On.refl hb).tail.r0
 have r1:=(On.refl hb).tail.r1
 have m0:=(On.refl hb).tail.m0
 have a1:=ai ((On.refl hb).ab 0 rfl) (j:=1) oM
 obtain⟨gb,hi⟩:=hon.img 3 rfl
 have hc:=jE hi x.mode (ar s 2 1)
 have hcell : ∀s2 W,On F w (aa (ae ba 3 (af (s.args 2)) ::vL c g x src s2)) W->W.cell? (g,0) =some (c.gM:Vl)∧W.cell? (c.gM,0) =some (c.gI:Vl)∧W.cell? (g,1) =some (x.mode:Vl)∧W.cell? (ba,1) =some ((ar s 2 1) :Vl)∧W.cell? (ba,0) =some ((ar s 2 0) :Vl):=λs2 W h=>⟨h.tail.r0,h.tail.m0,h.tail.r1,ai (h.ab 0 rfl) oM,ai (h.ab 0 rfl) oM⟩
 have hc2 : ∀W,On F w (aa (ae ba 3 (af (s.args 2)) ::vL c g x src s)) W->Calls Tryz.prog 55 #[c.gI,x.mode,(ar s 2 1),(IntKind.i64.wrap (s.S.aR x.mode (ar s 2 1) +ar s 2 0))] W.drew (Got (.returned (s.S.az x.mode (ar s 2 1) true)) (aa (ae ba 3 (af (s.args 2)) ::vL c g x src ({ s with S:=s.S.setCell x.mode (ar s 2 1) (wrap64 (s.S.aR x.mode (ar s 2 1) +ar s 2 0)) }))) F w):=λW h=>by
  rw[show IntKind.i64.wrap (s.S.aR x.mode (ar s 2 1) +ar s 2 0) =wrap64 (s.S.aR x.mode (ar s 2 1) +ar s 2 0)by rw[IntKind.wrap_i64];unfold wrap64;omega]
  exact h.drew.bA 3 rfl (λF' ha=>fL ha x.mode (ar s 2 1) _ (aZ _))
 unfold lE
 generalize hs2: ({ s with S:=s.S.setCell x.mode (ar s 2 1) (wrap64 (s.S.aR x.mode (ar s 2 1) +ar s 2 0)) }:Mt) =s2 at *
 clear hs2
 generalize s.S.az x.mode (ar s 2 1) true=f2 at *
 generalize s.S.aR x.mode (ar s 2 1) =v at *
 generalize s.S.az x.mode (ar s 2 1) false=f at *
 generalize ar s 2 0=X at *
 generalize ar s 2 1=Y at *
 show Calls _ _ #[g,(69:Int),.slice ba 2 2] _ _
 generalize af (s.args 2) =ac at *
 replace hcell:=hid hcell
 replace hc:=hid hc
 replace hc2:=hid hc2
 replace hon:=hid hon
 clear hb hi hw2 hask hs hx
 by_cases hf:f=0
 ·simp only[if_pos hf]
  subst hf
  by_cases hf2:f2=0
  ·simp only[if_pos hf2]
   subst hf2
   go_enter Tryz.func100,Tryz.ntmps100
   go_wp2_with fail
   go_region_held (λw'=>w'.cell? (g,0) =some (c.gM:Vl)∧w'.cell? (c.gM,0) =some (c.gI:Vl)∧w'.cell? (g,1) =some (x.mode:Vl)∧w'.cell? (ba,1) =some (Y:Vl)) (go_keep)
    ((go_at_call 68;refine hc.out.mono ?_;rintro e w5 ⟨rfl,hb⟩;simp only[];have hn5:=On.below hon.out hb;have⟨n0,n1,n2,n3,n4⟩:=hcell.out _ _ hn5;clear hb;replace hn5:=hid hn5))
   all_goals go_wp2_with fail
   refine(bD _).mono ?_
   rintro e w6 ⟨rfl,rfl⟩
   simp only[]
   clear r0 r1 m0 a1
   go_wp2_with fail
   go_region_held (λw'=>w'.cell? (g,0) =some (c.gM:Vl)∧w'.cell? (c.gM,0) =some (c.gI:Vl)∧w'.cell? (g,1) =some (x.mode:Vl)∧w'.cell? (ba,1) =some (Y:Vl)∧w'.cell? (ba,0) =some (X:Vl)) (go_keep)
    ((first
      | (go_at_call 55;refine(hc2.out _ hn5.out).mono ?_;rintro e w7 ⟨rfl,hn7⟩;simp only[];have⟨o0,o1,o2,o3,o4⟩:=hcell.out _ _ hn7;replace hn7:=hid hn7)
      | (go_at_call 64;refine(bD _).mono ?_;rintro e w8 ⟨rfl,rfl⟩;simp only[])))
   all_goals go_wp2
   all_goals go_ret
   all_goals exact⟨none,0,_,rfl,br _,hn7.out⟩
  ·simp only[if_neg hf2]
   have ht:=hid (λw=>cG f2 hf2 w)
   replace hf2:=hid hf2
   go_enter Tryz.func100,Tryz.ntmps100
   go_wp2_with fail
   go_region_held (λw'=>w'.cell? (g,0) =some (c.gM:Vl)∧w'.cell? (c.gM,0) =some (c.gI:Vl)∧w'.cell? (g,1) =some (x.mode:Vl)∧w'.cell? (ba,1) =some (Y:Vl)) (go_keep)
    ((go_at_call 68;refine hc.out.mono ?_;rintro e w5 ⟨rfl,hb⟩;simp only[];have hn5:=On.below hon.out hb;have⟨n0,n1,n2,n3,n4⟩:=hcell.out _ _ hn5;clear hb;replace hn5:=hid hn5))
   all_goals go_wp2_with fail
   refine(bD _).mono ?_
   rintro e w6 ⟨rfl,rfl⟩
   simp only[]
   clear r0 r1 m0 a1
   go_wp2_with fail
   go_region_held (λw'=>w'.cell? (g,0) =some (c.gM:Vl)∧w'.cell? (c.gM,0) =some (c.gI:Vl)∧w'.cell? (g,1) =some (x.mode:Vl)∧w'.cell? (ba,1) =some (Y:Vl)∧w'.cell? (ba,0) =some (X:Vl)) (go_keep)
    ((first
      | (go_at_call 55;refine(hc2.out _ hn5.out).mono ?_;rintro e w7 ⟨rfl,hn7⟩;simp only[];have⟨o0,o1,o2,o3,o4⟩:=hcell.out _ _ hn7;replace hn7:=hid hn7)
      | (go_at_call 64;refine dead (ht.out _) ⟨rfl,rfl,hn7.out.tail⟩ ?_;intro hF e w6 he hw;subst he;subst hw;replace hF:=hid hF)))
   all_goals exact hF.out.elim
 ·simp only[if_neg hf]
  have ht:=hid (λw=>cG f hf w)
  replace hf:=hid hf
  go_enter Tryz.func100,Tryz.ntmps100
  go_wp2_with fail
  go_region_held (λw'=>w'.cell? (g,0) =some (c.gM:Vl)∧w'.cell? (c.gM,0) =some (c.gI:Vl)∧w'.cell? (g,1) =some (x.mode:Vl)∧w'.cell? (ba,1) =some (Y:Vl)) (go_keep)
   ((go_at_call 68;refine hc.out.mono ?_;rintro e w5 ⟨rfl,hb⟩;simp only[];have hn5:=On.below hon.out hb;have⟨n0,n1,n2,n3,n4⟩:=hcell.out _ _ hn5;clear hb;replace hn5:=hid hn5))
  all_goals go_wp2_with fail
  refine(ht.out _).mono ?_
  rintro e w6 ⟨rfl,rfl⟩
  exact⟨rfl,rfl,hn5.out.tail⟩
theorem Hc(arg lit cells:Int) :cA 105 (λg=> #[.pointer (some ⟨g,0,none⟩)]) ⟨87,arg,lit,cells⟩ (λs=>[(s.S.beg 2:Int),s.hidden]):=by
 intro c g x src s ba w F hs hask hb
 have hw2: (Code.ah 87).1.toNat=0:=by decide
 simp only[hw2]at hb⊢
 have hon:=On.refl hb
 have r0:=hon.tail.r0
 have m0:=hon.tail.m0
 obtain⟨gb,hi⟩:=hon.img 3 rfl
 have hsp:=jA hi 2 oM oM
 have hmv : ∀W,On F w (aa (ae ba 3 (af (s.args 0)) ::vL c g x src s)) W->W.cell? (c.gM,10) =some (s.hidden:Vl)∧W.cell? (g,0) =some (c.gM:Vl):=λW h=>⟨(h.ab 2 rfl).cell 10,h.tail.r0⟩
 generalize af (s.args 0) =ac at *
 generalize ((s.S.beg 2:Nat) :Int) =u at *
 generalize s.hidden=v at *
 replace hsp:=hid hsp
 replace hon:=hid hon
 replace hmv:=hid hmv
 clear hb hw2 hask hs hi
 show Calls _ _ #[g,(87:Int),.slice ba 0 0] _ _
 go_enter Tryz.func105,Tryz.ntmps105
 go_wp2_with fail
 refine hsp.out.mono ?_
 rintro e w1 ⟨rfl,n,rfl⟩
 simp only[]
 have h1:=hon.out.drewN n
 have⟨n0,n1⟩:=hmv.out _ h1
 generalize w.drewN n=w1 at *
 have h6:=hid (h1.tail.box #[u,v] 3)
 replace h1:=hid h1
 go_wp2
 go_ret
 exact⟨some ⟨w1.heap.size,0,none⟩,2,ae w1.heap.size 3 (af [u,v]),rfl,ay _ _,h6.out⟩
theorem FF(arg lit cells:Int) :bn 100 (λg=> #[.pointer (some ⟨g,0,none⟩)]) ⟨67,arg,lit,cells⟩ (λx s=>(⟨s.S.bR x.mode (ar s 1 0) false,x,s⟩,[((s.S.gU x.mode (ar s 1 0)).toNat:Int)])):=by
 intro c g x src s ba w F hs hx hask hb
 have hw2: (Code.ah 67).1.toNat=1:=by decide
 simp only[hw2]at hb⊢
 have hon:=(On.refl hb).drew
 have r0:=(On.refl hb).tail.r0
 have r1:=(On.refl hb).tail.r1
 have m0:=(On.refl hb).tail.m0
 have a0:=ai ((On.refl hb).ab 0 rfl) (j:=0) oM
 obtain⟨gb,hi⟩:=hon.img 3 rfl
 have hc:=Bl hi x.mode (ar s 1 0)
 have hcell : ∀W,On F w (aa (ae ba 3 (af (s.args 1)) ::vL c g x src s)) W->W.cell? (g,0) =some (c.gM:Vl)∧W.cell? (c.gM,0) =some (c.gI:Vl)∧W.cell? (g,1) =some (x.mode:Vl)∧W.cell? (ba,0) =some ((ar s 1 0) :Vl):=λW h=>⟨h.tail.r0,h.tail.m0,h.tail.r1,ai (h.ab 0 rfl) oM⟩
 generalize ar s 1 0=X at *
 show Calls _ _ #[g,(67:Int),.slice ba 1 1] _ _
 have hv0: (s.S.gU x.mode X).toNat<256:=(s.S.gU x.mode X).toNat_lt
 generalize (s.S.gU x.mode X).toNat=v at *
 generalize s.S.bR x.mode X false=f at *
 generalize af (s.args 1) =ac at *
 replace hcell:=hid hcell
 replace hc:=hid hc
 replace hon:=hid hon
 clear hb hi hw2 hask hs hx
 by_cases hf:f=0
 ·simp only[if_pos hf]
  subst hf
  go_enter Tryz.func100,Tryz.ntmps100
  go_wp2_with fail
  go_region_held (λw'=>w'.cell? (g,0) =some (c.gM:Vl)∧w'.cell? (c.gM,0) =some (c.gI:Vl)∧w'.cell? (g,1) =some (x.mode:Vl)∧w'.cell? (ba,0) =some (X:Vl)) (go_keep)
   ((go_at_call 125;refine hc.out.mono ?_;rintro e w5 ⟨rfl,rfl⟩;simp only[];have hn5:=hon.out;have⟨n0,n1,n2,n3⟩:=hcell.out _ hn5;replace hn5:=hid hn5))
  all_goals go_wp2_with fail
  refine(bD _).mono ?_
  rintro e w6 ⟨rfl,rfl⟩
  simp only[]
  have h6:=hid (hn5.out.tail.box #[(v:Int)] 3)
  go_wp2
  go_ret
  exact⟨some ⟨_,0,none⟩,1,ae _ 3 (af [(v:Int)]),rfl,ay _ _,h6.out⟩
 ·simp only[if_neg hf]
  have ht:=hid (λw=>cG f hf w)
  replace hf:=hid hf
  go_enter Tryz.func100,Tryz.ntmps100
  go_wp2_with fail
  go_region_held (λw'=>w'.cell? (g,0) =some (c.gM:Vl)∧w'.cell? (c.gM,0) =some (c.gI:Vl)∧w'.cell? (g,1) =some (x.mode:Vl)∧w'.cell? (ba,0) =some (X:Vl)) (go_keep)
   ((go_at_call 125;refine hc.out.mono ?_;rintro e w5 ⟨rfl,rfl⟩;simp only[];have hn5:=hon.out;have⟨n0,n1,n2,n3⟩:=hcell.out _ hn5;replace hn5:=hid hn5))
  all_goals go_wp2_with fail
  refine(ht.out _).mono ?_
  rintro e w6 ⟨rfl,rfl⟩
  exact⟨rfl,rfl,hn5.out.tail⟩
theorem FR(arg lit cells:Int) :bn 100 (λg=> #[.pointer (some ⟨g,0,none⟩)]) ⟨68,arg,lit,cells⟩ (λx s=>(⟨s.S.bR x.mode (ar s 2 1) true,x,{ s with S:=s.S.aV x.mode (ar s 2 1) (byteOf (ar s 2 0)) }⟩,[])):=by
 intro c g x src s ba w F hs hx hask hb
 have hw2: (Code.ah 68).1.toNat=2:=by decide
 simp only[hw2]at hb⊢
 have hon:=(On.refl hb).drew
 have r0:=(On.refl hb).tail.r0
 have m0:=(On.refl hb).tail.m0
 have r1:=(On.refl hb).tail.r1
 have a0:=ai ((On.refl hb).ab 0 rfl) (j:=0) oM
 have a1:=ai ((On.refl hb).ab 0 rfl) (j:=1) oM
 have hcell : ∀s2 W,On F w (aa (ae ba 3 (af (s.args 2)) ::vL c g x src s2)) W->W.cell? (g,0) =some (c.gM:Vl)∧W.cell? (c.gM,0) =some (c.gI:Vl)∧W.cell? (g,1) =some (x.mode:Vl)∧W.cell? (ba,0) =some ((ar s 2 0) :Vl)∧W.cell? (ba,1) =some ((ar s 2 1) :Vl):=λs2 W h=>⟨h.tail.r0,h.tail.m0,h.tail.r1,ai (h.ab 0 rfl) oM,ai (h.ab 0 rfl) oM⟩
 have hc:Calls Tryz.prog 140 #[c.gI,x.mode,(ar s 2 1),.int .u8 (IntKind.u8.wrap (ar s 2 0))] w.drew (Got (.returned (s.S.bR x.mode (ar s 2 1) true)) (aa (ae ba 3 (af (s.args 2)) ::vL c g x src ({ s with S:=s.S.aV x.mode (ar s 2 1) (byteOf (ar s 2 0)) }))) F w):=kN (ar s 2 0)▸hon.bA 3 rfl (λF' ha=>iX ha x.mode (ar s 2 1) (byteOf (ar s 2 0)))
 generalize hs2: ({ s with S:=s.S.aV x.mode (ar s 2 1) (byteOf (ar s 2 0)) }) =s2 at *
 clear hs2
 generalize s.S.bR x.mode (ar s 2 1) true=f at *
 generalize ar s 2 0=X at *
 generalize ar s 2 1=Y at *
 show Calls _ _ #[g,(68:Int),.slice ba 2 2] _ _
 generalize af (s.args 2) =ac at *
 replace hcell:=hid hcell
 replace hc:=hid hc
 replace hon:=hid hon
 clear hb hw2 hask hs hx
 by_cases hf:f=0
 ·simp only[if_pos hf]
  subst hf
  go_enter Tryz.func100,Tryz.ntmps100
  go_wp2_with fail
  go_region_held (λw'=>w'.cell? (g,0) =some (c.gM:Vl)∧w'.cell? (c.gM,0) =some (c.gI:Vl)∧w'.cell? (g,1) =some (x.mode:Vl)∧w'.cell? (ba,0) =some (X:Vl)∧w'.cell? (ba,1) =some (Y:Vl)) (go_keep)
   ((first
     | (go_at_call 140;refine hc.out.mono ?_;rintro e w5 ⟨rfl,hn5⟩;have⟨n0,n1,n2,n3,n4⟩:=hcell.out _ _ hn5;replace hn5:=hid hn5)
     | (go_at_call 64;refine(bD _).mono ?_;rintro e w6 ⟨rfl,rfl⟩)))
  all_goals go_wp2
  all_goals go_ret
  all_goals exact⟨none,0,_,rfl,br _,hn5.out⟩
 ·simp only[if_neg hf]
  have ht:=hid (λw=>cG f hf w)
  replace hf:=hid hf
  go_enter Tryz.func100,Tryz.ntmps100
  go_wp2_with fail
  go_region_held (λw'=>w'.cell? (g,0) =some (c.gM:Vl)∧w'.cell? (c.gM,0) =some (c.gI:Vl)∧w'.cell? (g,1) =some (x.mode:Vl)∧w'.cell? (ba,0) =some (X:Vl)∧w'.cell? (ba,1) =some (Y:Vl)) (go_keep)
   ((first
     | (go_at_call 140;refine hc.out.mono ?_;rintro e w5 ⟨rfl,hn5⟩;have⟨n0,n1,n2,n3,n4⟩:=hcell.out _ _ hn5;replace hn5:=hid hn5)
     | (go_at_call 64;refine dead (ht.out _) ⟨rfl,rfl,hn5.out.tail⟩ ?_;intro hF e w6 he hw;subst he;subst hw;replace hF:=hid hF)))
  all_goals exact hF.out.elim
def clip(fuel:Int) :Int:=max 0 (min fuel 1000000)
def Rn.start(mode fuel:Int) :Rn:=⟨mode,clip fuel,0,0,false,false,0⟩
theorem wh(mode fuel:Int) : (Rn.start mode fuel).Ok:=by
 have h:0<=clip fuel∧clip fuel<=1000000:=by unfold clip;omega
 exact⟨by show(0:Int)<=0;omega,by show(0:Int)<=512;omega,by show V64 0;unfold V64;omega,by show V64 0;unfold V64;omega,h.1,h.2⟩
end Vm
end Go.Proofs.YtjohhkikoejadaaGreatDoor
