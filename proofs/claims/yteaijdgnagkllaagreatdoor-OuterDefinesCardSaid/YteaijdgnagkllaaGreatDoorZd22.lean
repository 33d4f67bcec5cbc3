/- Chapter 11: a machine and all that it works on, as a list of objects. No condition. -/
import Derived.Test.YteaijdgnagkllaaGreatDoorZd21
open Go.Proofs.Tryz
namespace Go.Proofs.YteaijdgnagkllaaGreatDoor
set_option linter.unusedVariables false
set_option linter.unusedSimpArgs false
set_option maxHeartbeats 8000000
open Go.RowKit Go.Lib Go.Deep
namespace Vm
def mL(c:Vc)(s:Mt):List Asr:=MachA c s::ImgA c.gI s.S::StkA c.gI c.gD s.pd s.d::StkA c.gI c.gR s.pr s.r::TabA c.gT s.T::DictA c.gI c.gS c.sfr c.sto s.hs s.ls::DictA c.gI c.gK c.kfr c.kto s.hk s.lk::c.tl s.seen::c.rest s.ext
theorem ofB_v64(l:List UInt8):V64 (ofB l):=by unfold ofB V64 wrap64;omega
theorem cellV_v64(S:Img)(m a:Int):V64 (S.cellV m a):=by
 unfold Img.cellV
 split
 ·exact ofB_v64 _
 ·unfold V64;omega
theorem stopv_v64(S:Img)(fr d:Nat)(n:Int):V64 (stopv S fr d n):=by
 unfold stopv
 split
 ·exact cellV_v64 _ _ _
 ·unfold V64;omega
theorem wrap_v64(n:Int):V64 (wrap64 n):=by unfold V64 wrap64;omega
end Vm
set_option maxRecDepth 100000
namespace Vm
theorem args_v64(s:Mt)(n:Nat): ∀v∈s.args n,V64 v:=by
 intro v hv
 unfold Mt.args at hv
 obtain⟨j,_,rfl⟩:=List.mem_map.1 hv
 exact stopv_v64 _ _ _ _
theorem ar_v64(s:Mt)(n j:Nat):V64 (ar s n j):=by
 unfold ar
 by_cases h:j<n
 ·have h2: (s.args n).getD j 0=s.top ((n-1-j:Nat):Int):=by simp[Mt.args,h]
  rw[h2]
  exact stopv_v64 _ _ _ _
 ·have h2: (s.args n).getD j 0=0:=by simp[Mt.args,h]
  rw[h2]
  unfold V64;omega
section
variable {w w':World}{F:Nat->Prop}{c:Vc}{g:Nat}{x:Rn}{src:Value}{s:Mt}
theorem v_pushR_row(m:Nat){L:List Asr}(hm:m<=L.length)(hL:L.drop m=vL c g x src s)(h:On F w (AllA L) w')(hs:s.Ok)(l:List Int)(hl: ∀v∈l,V64 v)
 (j:Nat) (hj:j<m) (rb:Nat) (hrow:L[j]? = some (BlkA rb 3 (intsC l))) (n:Nat) (hn:n=l.length) (hroom:l.length<=s.pr.rm-s.r):
 Calls prog 113 #[c.gR,.slice rb n n] w' (Got (.returned (.int .i64 0)) (AllA (L.take m++vL c g x src (s.pushR l))) F w):=by
 subst hn
 refine h.callDrop m hm λF' hb hdis _=> ?_
 rw[hL]at hb
 obtain⟨F3,hB,hfar⟩:=hdis j _ hj hrow
 obtain⟨h1,h2⟩:=carries_row rb l _ _ hB
 exact v_pushR (On.refl hb) hs l hl (some ⟨rb,0,none⟩) l.length h1 (λa ha=>⟨λhk=>hfar _ (h2 a ha) hk,by
  obtain rfl:a= ⟨rb,0,none⟩:=by injection ha with ha;exact ha.symm
  exact hB.1.lt⟩) hroom
end
theorem p_box{w:World}{F:Nat->Prop}{c:Vc}{g:Nat}{x:Rn}{src:Value}{s:Mt}{ba:Nat}{r:Array Value}(hb: (AllA (BlkA ba 3 r::vL c g x src s)).holds w F)(op arg lit cells:Int):
 On F w (AllA (BlkA w.heap.size 293 #[op,arg,lit,cells]::BlkA ba 3 r::vL c g x src s)) (w.alloc (.cells #[op,arg,lit,cells] 293))∧(w.alloc (.cells #[op,arg,lit,cells] 293)).cell? (w.heap.size,0)=some (op:Vl)∧(w.alloc (.cells #[op,arg,lit,cells] 293)).cell? (w.heap.size,1)=some (arg:Vl)∧(w.alloc (.cells #[op,arg,lit,cells] 293)).cell? (w.heap.size,2)=some (lit:Vl)∧(w.alloc (.cells #[op,arg,lit,cells] 293)).cell? (w.heap.size,3)=some (cells:Vl):=by
 have hon:=(On.refl hb).box #[op,arg,lit,cells] 293
 have h:=hon.blkAt 0 rfl
 exact⟨hon,h.cell 0,h.cell 1,h.cell 2,h.cell 3⟩
theorem ctl_jump(arg lit cells:Int):PartOk 212 ⟨4,arg,lit,cells⟩ (λx s=>⟨0,{ x with next:=arg },s⟩):=by
 intro c g x src s ba w F hs hx hv1 hv2 hask hb
 obtain⟨hw2,hn⟩:=hask.wn 0
 simp only[hw2]at hb⊢
 obtain⟨hon,b0,b1,-⟩:=p_box hb 4 arg lit cells
 show Calls prog 212 #[g,.agg #[(4:Int),arg,lit,cells],.slice ba 0 0] w (Got (.returned (.tuple #[])) (AllA (BlkA ba 3 (intsC (s.args 0))::vL c g ({ x with next:=arg }) src (s))) F w)
 have c4:=hon.tail.tail.r4
 have f4:=hon.tail.tail.rf 4
 have hset:=hon.setAt 2 rfl 4 (.int .i64 arg)
 replace hset:=hid hset
 generalize intsC (s.args 0)=ac at *
 clear hb hs hx hask hon hw2 hn
 go_enter func212,ntmps212
 go_wp2
 go_end0
 exact⟨rfl,hset.out.tail⟩
theorem ctl_call(arg lit cells:Int):PartOk 212 ⟨3,arg,lit,cells⟩ (λx s=>⟨0,{ x with next:=arg },s.pushR [x.next]⟩):=by
 intro c g x src s ba w F hs hx hv1 hv2 hask hb
 obtain⟨hw2,hn⟩:=hask.wn 0
 simp only[hw2]at hb⊢
 obtain⟨hon,b0,b1,-⟩:=p_box hb 3 arg lit cells
 show Calls prog 212 #[g,.agg #[(3:Int),arg,lit,cells],.slice ba 0 0] w (Got (.returned (.tuple #[])) (AllA (BlkA ba 3 (intsC (s.args 0))::vL c g ({ x with next:=arg }) src (s.pushR [x.next]))) F w)
 have hroom:1<=s.pr.rm-s.r:=by
  have h:=hask.rroom
  have e:returns 3 arg s.same= (0,1):=rfl
  simp only[e]at h
  omega
 have d0:=hon.tail.tail.r0
 have d4:=hon.tail.tail.r4
 have d6:=hon.tail.tail.m6
 have hbx:=(hon.box #[x.next] 3).drew
 have hz: (w.alloc (.cells #[(3:Int),arg,lit,cells] 293)).heap.size=w.heap.size+1:=by simp
 rw[hz]at hbx
 have hpush:=v_pushR_row (c:=c) (g:=g) (x:=x) (src:=src) (s:=s) 3 (by simp) rfl hbx hs [x.next] (λv hv=>by rw[List.mem_singleton.1 hv];exact hx.next) 0 oM (w.heap.size+1) rfl 1 rfl hroom
 have hs1:=pushR_ok hs [x.next] hroom
 have hn1:0<=(s.pushR [x.next]).d:=hn
 generalize s.pushR [x.next]=s1 at *
 generalize intsC (s.args 0)=ac at *
 have hst: ∀W,On F w (AllA (BlkA w.heap.size 293 #[(3:Int),arg,lit,cells]::BlkA ba 3 ac::vL c g (x) src (s1))) W->W.cell? (g,4)=some (x.next:Vl)∧W.frozen? (g,4)=false∧W.cell? (w.heap.size,0)=some (.int .i64 3)∧W.cell? (w.heap.size,1)=some (arg:Vl)∧w.heap.size≠g∧W.cell? (g,0)=some (c.gM:Vl)∧W.cell? (c.gM,6)=some (c.gR:Vl):=λW h=>⟨h.tail.tail.r4,h.tail.tail.rf 4,(h.blkAt 0 rfl).cell 0,(h.blkAt 0 rfl).cell 1,h.neAt 0 2 (by decide) rfl rfl,h.tail.tail.r0,h.tail.tail.m6⟩
 replace hpush:=hid hpush
 replace hst:=hid hst
 clear hb hs hx hask hw2 hn hz hbx hroom hs1 hn1 hon
 go_enter func212,ntmps212
 go_wp2_with fail
 go_region_held (λw'=>w'.cell? (g,0)=some (c.gM:Vl)∧w'.cell? (c.gM,6)=some (c.gR:Vl)∧w'.cell? (g,4)=some (x.next:Vl)) (go_keep)
  ((go_at_call 113;refine mo hpush.out λw1 h=>?_;have h5:On F w (AllA (BlkA w.heap.size 293 #[(3:Int),arg,lit,cells]::BlkA ba 3 ac::vL c g (x) src (s1))) w1:=On.tail h;obtain⟨k4,z4,k0,k1,hne,n0,n6⟩:=hst.out _ h5;have h6:=h5.setAt 2 rfl 4 (.int .i64 arg);clear h;replace h5:=hid h5;replace h6:=hid h6;replace hne:=hid hne))
 go_wp2
 go_end0
 exact⟨rfl,h6.out.tail⟩
theorem ctl_execute(arg lit cells:Int):PartOk 212 ⟨16,arg,lit,cells⟩ (λx s=>⟨0,{ x with next:=ar s 1 0 },((s.pushR [x.next]).lays 1 []).2⟩):=by
 intro c g x src s ba w F hs hx hv1 hv2 hask hb
 obtain⟨hw2,hn⟩:=hask.wn 1
 simp only[hw2]at hb⊢
 obtain⟨hon,b0,b1,-⟩:=p_box hb 16 arg lit cells
 show Calls prog 212 #[g,.agg #[(16:Int),arg,lit,cells],.slice ba 1 1] w (Got (.returned (.tuple #[])) (AllA (BlkA ba 3 (intsC (s.args 1))::vL c g ({ x with next:=ar s 1 0 }) src (((s.pushR [x.next]).lays 1 []).2))) F w)
 have hroom:1<=s.pr.rm-s.r:=by
  have h:=hask.rroom
  have e:returns 16 arg s.same= (0,1):=rfl
  simp only[e]at h
  omega
 have ha0: ∀W,Blk W ba 3 (intsC (s.args 1))->W.cell? (ba,0)=some ((ar s 1 0):Vl):=λW hW=>row_get hW oM
 have d0:=hon.tail.tail.r0
 have d4:=hon.tail.tail.r4
 have d6:=hon.tail.tail.m6
 have hbx:=(hon.box #[x.next] 3).drew
 have hz: (w.alloc (.cells #[(16:Int),arg,lit,cells] 293)).heap.size=w.heap.size+1:=by simp
 rw[hz]at hbx
 have hpush:=v_pushR_row (c:=c) (g:=g) (x:=x) (src:=src) (s:=s) 3 (by simp) rfl hbx hs [x.next] (λv hv=>by rw[List.mem_singleton.1 hv];exact hx.next) 0 oM (w.heap.size+1) rfl 1 rfl hroom
 have hs1:=pushR_ok hs [x.next] hroom
 have hn1:1<=(s.pushR [x.next]).d:=hn
 generalize s.pushR [x.next]=s1 at *
 generalize ar s 1 0=A0 at *
 generalize intsC (s.args 1)=ac at *
 have hst: ∀W,On F w (AllA (BlkA w.heap.size 293 #[(16:Int),arg,lit,cells]::BlkA ba 3 ac::vL c g (x) src (s1))) W->W.cell? (g,4)=some (x.next:Vl)∧W.frozen? (g,4)=false∧W.cell? (w.heap.size,0)=some (.int .i64 16)∧W.cell? (w.heap.size,1)=some (arg:Vl)∧w.heap.size≠g∧W.cell? (g,0)=some (c.gM:Vl)∧W.cell? (c.gM,6)=some (c.gR:Vl):=λW h=>⟨h.tail.tail.r4,h.tail.tail.rf 4,(h.blkAt 0 rfl).cell 0,(h.blkAt 0 rfl).cell 1,h.neAt 0 2 (by decide) rfl rfl,h.tail.tail.r0,h.tail.tail.m6⟩
 have hlay:=λW (h:On F w (AllA (BlkA w.heap.size 293 #[(16:Int),arg,lit,cells]::BlkA ba 3 ac::vL c g ({ x with next:=arg }) src (s1))) W)=>v_lays_nil (c:=c) (g:=g) (x:={ x with next:=arg }) (src:=src) (s:=s1) 2 (by simp) rfl h hs1 1 hn1
 generalize (s1.lays 1 []).2=s2 at *
 replace hpush:=hid hpush
 replace hst:=hid hst
 replace hlay:=hid hlay
 replace ha0:=hid ha0
 clear hb hs hx hask hw2 hn hz hbx hroom hs1 hn1 hon
 go_enter func212,ntmps212
 go_wp2_with fail
 go_region_held (λw'=>w'.cell? (g,0)=some (c.gM:Vl)∧w'.cell? (c.gM,6)=some (c.gR:Vl)∧w'.cell? (g,4)=some (x.next:Vl)) (go_keep)
  ((go_at_call 113;refine mo hpush.out λw1 h=>?_;have h5:On F w (AllA (BlkA w.heap.size 293 #[(16:Int),arg,lit,cells]::BlkA ba 3 ac::vL c g (x) src (s1))) w1:=On.tail h;obtain⟨k4,z4,k0,k1,hne,n0,n6⟩:=hst.out _ h5;have h6:=h5.setAt 2 rfl 4 (.int .i64 arg);clear h;replace h5:=hid h5;replace h6:=hid h6;replace hne:=hid hne))
 replace hlay:=hid (hlay.out _ h6.out)
 have hne2:=hne.out
 go_wp2_with fail
 refine mo hlay.out λw2 h=>?_
 have h7:On F w (AllA (BlkA w.heap.size 293 #[(16:Int),arg,lit,cells]::BlkA ba 3 ac::vL c g ({ x with next:=arg }) src (s2))) w2:=h
 have p4:=h7.tail.tail.r4
 have q4:=h7.tail.tail.rf 4
 have a0:=ha0.out _ (h7.blkAt 1 rfl)
 have h8:=h7.setAt 2 rfl 4 (.int .i64 A0)
 replace h8:=hid h8
 clear h h7
 go_wp2
 go_end0
 exact⟨rfl,h8.out.tail⟩
theorem ctl_zero(arg lit cells:Int):PartOk 212 ⟨5,arg,lit,cells⟩ (λx s=>⟨0,if ar s 1 0=0 then { x with next:=arg } else x,(s.lays 1 []).2⟩):=by
 intro c g x src s ba w F hs hx hv1 hv2 hask hb
 obtain⟨hw2,hn⟩:=hask.wn 1
 simp only[hw2]at hb⊢
 obtain⟨hon,b0,b1,-⟩:=p_box hb 5 arg lit cells
 show Calls prog 212 #[g,.agg #[(5:Int),arg,lit,cells],.slice ba 1 1] w (Got (.returned (.tuple #[])) (AllA (BlkA ba 3 (intsC (s.args 1))::vL c g (if ar s 1 0=0 then { x with next:=arg } else x) src ((s.lays 1 []).2))) F w)
 have ha0: ∀W,Blk W ba 3 (intsC (s.args 1))->W.cell? (ba,0)=some ((ar s 1 0):Vl):=λW hW=>row_get hW oM
 have hlay:=v_lays_nil (c:=c) (g:=g) (x:=x) (src:=src) (s:=s) 2 (by simp) rfl hon hs 1 hn
 generalize (s.lays 1 []).2=s1 at *
 generalize ar s 1 0=A0 at *
 generalize intsC (s.args 1)=ac at *
 have hst: ∀W,On F w (AllA (BlkA w.heap.size 293 #[(5:Int),arg,lit,cells]::BlkA ba 3 ac::vL c g (x) src (s1))) W->W.cell? (g,4)=some (x.next:Vl)∧W.frozen? (g,4)=false∧W.cell? (ba,0)=some (A0:Vl)∧W.cell? (w.heap.size,1)=some (arg:Vl):=λW h=>⟨h.tail.tail.r4,h.tail.tail.rf 4,ha0 _ (h.blkAt 1 rfl),(h.blkAt 0 rfl).cell 1⟩
 replace hlay:=hid hlay
 replace hst:=hid hst
 clear hb hs hx hask hw2 hn ha0 hon
 by_cases hz:A0=0
 ·have ez: (A0==0)=true:=by simpa using hz
  rw[if_pos hz]
  clear hz
  go_enter func212,ntmps212
  go_wp2_with fail
  refine mo hlay.out λw1 h=>?_
  have h5:On F w (AllA (BlkA w.heap.size 293 #[(5:Int),arg,lit,cells]::BlkA ba 3 ac::vL c g (x) src (s1))) w1:=h
  obtain⟨k4,z4,k0,k1⟩:=hst.out _ h5
  have h6:=h5.setAt 2 rfl 4 (.int .i64 arg)
  clear h h5
  replace h6:=hid h6
  go_wp2
  go_end0
  exact⟨rfl,h6.out.tail⟩
 ·have ez: (A0==0)=false:=by simpa using hz
  rw[if_neg hz]
  clear hz
  go_enter func212,ntmps212
  go_wp2_with fail
  refine mo hlay.out λw1 h=>?_
  have h5:On F w (AllA (BlkA w.heap.size 293 #[(5:Int),arg,lit,cells]::BlkA ba 3 ac::vL c g (x) src (s1))) w1:=h
  obtain⟨k4,z4,k0,k1⟩:=hst.out _ h5
  replace h5:=hid h5
  clear h
  go_wp2
  go_end0
  exact⟨rfl,h5.out.tail⟩
theorem ctl_special(arg lit cells:Int):PartOk 212 ⟨20,arg,lit,cells⟩ (λx s=>⟨16,x,s⟩):=by
 intro c g x src s ba w F hs hx hv1 hv2 hask hb
 obtain⟨hw2,hn⟩:=hask.wn 0
 simp only[hw2]at hb⊢
 obtain⟨hon,b0,b1,-⟩:=p_box hb 20 arg lit cells
 show Calls prog 212 #[g,.agg #[(20:Int),arg,lit,cells],.slice ba 0 0] w (Got (.panicked [flt 16]) (AllA (BlkA ba 3 (intsC (s.args 0))::vL c g (x) src (s))) F w)
 generalize intsC (s.args 0)=ac at *
 replace hon:=hid hon
 clear hb hs hx hask hw2 hn
 go_enter func212,ntmps212
 go_wp2
 exact⟨rfl,rfl,hon.out.tail⟩
def dS(s:Mt):Dc:=⟨3,s.hs.toNat,s.ls.toNat⟩
structure Dcs(c:Vc)(src:Value)(s:Mt):Prop where
 h:0<=s.hs
 l:0<=s.ls
 at8:At8 s.S (dS s) c.sfr c.sto
def Mt.onDict(s:Mt)(S':Img)(D':Dc):Mt:={ s with S:=S',hs:=(D'.h:Int),ls:=(D'.l:Int) }
section
variable {w w':World}{F:Nat->Prop}{c:Vc}{g:Nat}{x:Rn}{src:Value}{s:Mt}{B:Asr}{gI fr en:Nat}{D:Dc}{S:Img}
theorem Dcs.dc(h:Dcs c src s):DictA c.gI c.gS c.sfr c.sto s.hs s.ls=DcA c.gI c.gS c.sfr c.sto (dS s):=by
 unfold DcA dS
 rw[Int.toNat_of_nonneg h.h,Int.toNat_of_nonneg h.l]
theorem Dcs.call{f:FuncId}{args:Array Value}{e0:Ending}{S':Img}{D':Dc}(hp:Dcs c src s)(h:On F w (AllA (B::vL c g x src s)) w')
 (hc: ∀F',(AllA [DcA c.gI c.gS c.sfr c.sto (dS s),ImgA c.gI s.S]).holds w' F'->Calls prog f args w' (Got e0 (AllA [DcA c.gI c.gS c.sfr c.sto D',ImgA c.gI S']) F' w')):
 Calls prog f args w' (Got e0 (AllA (B::vL c g x src (s.onDict S' D'))) F w):=
 h.callAt2G 7 3 (by decide) (congrArg some hp.dc) rfl hc
end
section
variable {w w':World}{F:Nat->Prop}{gI gb:Nat}{S:Img}
def pdOf(S:Img):Pl:=⟨S.beg 4,S.d/8,1,2⟩
def prOf(S:Img):Pl:=⟨S.beg 5,S.r/8,3,4⟩
def MadeStk(gI:Nat)(p:Pl)(e:Ending)(B:Asr):Prop:= ∃g,e = .returned (.tuple #[.pointer (some ⟨g,0,none⟩),.int .i64 0])∧B=StkA gI g p 0
theorem n_stackD(hi:IRep w gI gb S)(hd:S.d<=4096):Calls prog 59 #[.pointer (some ⟨gI,0,none⟩),.int .i64 4] w (PostE (MadeStk gI (pdOf S)) Nob w):=by
 have hbx:=(On.refl (A:=AllA []) (F:=Nob) (w:=w) (λ_ h=>h)).box (stkC gI ⟨0,0,1,2⟩ 0) 110
 have hsp:=i_span (w:=w.alloc (.cells (stkC gI ⟨0,0,1,2⟩ 0) 110)) ⟨hi.blk.alloc _,hi.row.alloc _,hi.ok⟩ 4 oM oM
 have e5:S.beg (4+1)=S.beg 4+S.d:=by simp[Img.beg]
 have hsm:S.beg 4<=143360:=Nat.le_trans (S.beg_mono oM oM oM) hi.ok.small
 rw[e5]at hsp
 have hp:pdOf S= ⟨S.beg 4,S.d/8,1,2⟩:=rfl
 rw[hp]
 generalize S.beg 4=b at *
 generalize S.d=d at *
 have hst:stkC gI ⟨0,0,1,2⟩ 0=#[.pointer (some ⟨gI,0,none⟩),.int .i64 0,.int .i64 0,.int .i64 0,.int .i64 1,.int .i64 2]:=rfl
 rw[hst]at hsp hbx
 replace hsp:=hid hsp
 replace hbx:=hid hbx
 clear hi hp hst e5
 go_enter func59,ntmps59
 go_wp2_with fail
 refine hsp.out.mono ?_
 rintro e w1 ⟨rfl,n,rfl⟩
 have hon:=hbx.out.drewN n
 have f1:=(hon.blkAt 0 rfl).frozen 1
 have f2:=(hon.blkAt 0 rfl).frozen 2
 have c1: ((w.alloc (.cells #[.pointer (some ⟨gI,0,none⟩),.int .i64 0,.int .i64 0,.int .i64 0,.int .i64 1,.int .i64 2] 110)).drewN n).cell? ⟨w.heap.size,1,none⟩=some (.int .i64 0):=(hon.blkAt 0 rfl).cell 1
 have c2: ((w.alloc (.cells #[.pointer (some ⟨gI,0,none⟩),.int .i64 0,.int .i64 0,.int .i64 0,.int .i64 1,.int .i64 2] 110)).drewN n).cell? ⟨w.heap.size,2,none⟩=some (.int .i64 0):=(hon.blkAt 0 rfl).cell 2
 have hq: ((b:Int) + (d:Int) - (b:Int)) /8= ((d/8:Nat):Int):=by omega
 have hcs: ((#[.pointer (some ⟨gI,0,none⟩),.int .i64 0,.int .i64 0,.int .i64 0,.int .i64 1,.int .i64 2]:Array Value).setIfInBounds 1 (.int .i64 (b:Int))).setIfInBounds 2 (.int .i64 (((b:Int) + (d:Int) - (b:Int)) /8))=stkC gI ⟨b,d/8,1,2⟩ 0:=by rw[hq];rfl
 have hfin2:On Nob w (AllA [BlkA w.heap.size 110 (((#[.pointer (some ⟨gI,0,none⟩),.int .i64 0,.int .i64 0,.int .i64 0,.int .i64 1,.int .i64 2]:Array Value).setIfInBounds 1 (.int .i64 (b:Int))).setIfInBounds 2 (.int .i64 (((b:Int) + (d:Int) - (b:Int)) /8)))]) _:=(hon.setAt 0 rfl 1 (.int .i64 (b:Int))).setAt 0 rfl 2 (.int .i64 (((b:Int) + (d:Int) - (b:Int)) /8))
 rw[hcs]at hfin2
 replace hfin2:=hid hfin2
 clear hon hq hcs
 go_wp2
 go_ret2
 exact⟨_,⟨w.heap.size,rfl,rfl⟩,hfin2.out.ofOne⟩
theorem n_stackR(hi:IRep w gI gb S)(hd:S.r<=4096):Calls prog 59 #[.pointer (some ⟨gI,0,none⟩),.int .i64 5] w (PostE (MadeStk gI (prOf S)) Nob w):=by
 have hbx:=(On.refl (A:=AllA []) (F:=Nob) (w:=w) (λ_ h=>h)).box (stkC gI ⟨0,0,3,4⟩ 0) 110
 have hsp:=i_span (w:=w.alloc (.cells (stkC gI ⟨0,0,3,4⟩ 0) 110)) ⟨hi.blk.alloc _,hi.row.alloc _,hi.ok⟩ 5 oM oM
 have e5:S.beg (5+1)=S.beg 5+S.r:=by simp[Img.beg]
 have hsm:S.beg 5<=143360:=Nat.le_trans (S.beg_mono oM oM oM) hi.ok.small
 rw[e5]at hsp
 have hp:prOf S= ⟨S.beg 5,S.r/8,3,4⟩:=rfl
 rw[hp]
 generalize S.beg 5=b at *
 generalize S.r=d at *
 have hst:stkC gI ⟨0,0,3,4⟩ 0=#[.pointer (some ⟨gI,0,none⟩),.int .i64 0,.int .i64 0,.int .i64 0,.int .i64 3,.int .i64 4]:=rfl
 rw[hst]at hsp hbx
 replace hsp:=hid hsp
 replace hbx:=hid hbx
 clear hi hp hst e5
 go_enter func59,ntmps59
 go_wp2_with fail
 refine hsp.out.mono ?_
 rintro e w1 ⟨rfl,n,rfl⟩
 have hon:=hbx.out.drewN n
 have f1:=(hon.blkAt 0 rfl).frozen 1
 have f2:=(hon.blkAt 0 rfl).frozen 2
 have c1: ((w.alloc (.cells #[.pointer (some ⟨gI,0,none⟩),.int .i64 0,.int .i64 0,.int .i64 0,.int .i64 3,.int .i64 4] 110)).drewN n).cell? ⟨w.heap.size,1,none⟩=some (.int .i64 0):=(hon.blkAt 0 rfl).cell 1
 have c2: ((w.alloc (.cells #[.pointer (some ⟨gI,0,none⟩),.int .i64 0,.int .i64 0,.int .i64 0,.int .i64 3,.int .i64 4] 110)).drewN n).cell? ⟨w.heap.size,2,none⟩=some (.int .i64 0):=(hon.blkAt 0 rfl).cell 2
 have hq: ((b:Int) + (d:Int) - (b:Int)) /8= ((d/8:Nat):Int):=by omega
 have hcs: ((#[.pointer (some ⟨gI,0,none⟩),.int .i64 0,.int .i64 0,.int .i64 0,.int .i64 3,.int .i64 4]:Array Value).setIfInBounds 1 (.int .i64 (b:Int))).setIfInBounds 2 (.int .i64 (((b:Int) + (d:Int) - (b:Int)) /8))=stkC gI ⟨b,d/8,3,4⟩ 0:=by rw[hq];rfl
 have hfin2:On Nob w (AllA [BlkA w.heap.size 110 (((#[.pointer (some ⟨gI,0,none⟩),.int .i64 0,.int .i64 0,.int .i64 0,.int .i64 3,.int .i64 4]:Array Value).setIfInBounds 1 (.int .i64 (b:Int))).setIfInBounds 2 (.int .i64 (((b:Int) + (d:Int) - (b:Int)) /8)))]) _:=(hon.setAt 0 rfl 1 (.int .i64 (b:Int))).setAt 0 rfl 2 (.int .i64 (((b:Int) + (d:Int) - (b:Int)) /8))
 rw[hcs]at hfin2
 replace hfin2:=hid hfin2
 clear hon hq hcs
 go_wp2
 go_ret2
 exact⟨_,⟨w.heap.size,rfl,rfl⟩,hfin2.out.ofOne⟩
end
def outM(x:Rn):Int:=if x.asked=true then 0 else x.mode
def outF(x:Rn)(s:Mt)(t:ByteArray):Int:=Caps.typE s.T (outM x) t
def Mt.outS(s:Mt)(x:Rn)(t:ByteArray):Mt:={ s with T:=Caps.typS s.T (outM x) t }
theorem tryE_no{f:Int}(h:f≠0):tryE f = .panicked [flt f]:=by unfold tryE;rw[if_neg h]
section
variable {w w':World}{F:Nat->Prop}{c:Vc}{g:Nat}{x:Rn}{src:Value}{s:Mt}
theorem v_out(hb: (VA c g x src s).holds w F)(t:ByteArray)(ht:t.size<=maxLen):
 Calls prog 242 #[g,.string t] w (Got (tryE (outF x s t)) (VA c g x src (s.outS x t)) F w):=by
 have hon:=On.refl hb
 have r0:=hon.r0
 have r1:=hon.r1
 have r6:=hon.r6
 have m3:=hon.m3
 have hcell: ∀s2 W,On F w (VA c g x src s2) W->W.cell? (g,0)=some (c.gM:Vl)∧W.cell? (c.gM,3)=some (c.gT:Vl):=λs2 W h=>⟨h.r0,h.m3⟩
 have hc: ∀W,On F w (VA c g x src s) W->Calls prog 156 #[c.gT,(outM x),.string t] W (Got (.returned (outF x s t)) (VA c g x src (s.outS x t)) F w):=λW h=>h.callAtG 5 rfl (λF' ha=>got_of_at ha λw0 L h=>t_typ h (outM x) t ht)
 obtain⟨f,hf⟩: ∃f,outF x s t=f:=⟨_,rfl⟩
 obtain⟨s2,hs2⟩: ∃s2,s.outS x t=s2:=⟨_,rfl⟩
 rw[hf,hs2]at hc⊢
 clear hf hs2 hb
 replace hcell:=hid hcell
 replace hon:=hid hon
 rcases ha:x.asked with _|_
 ·have hm:outM x=x.mode:=by unfold outM;rw[ha];rfl
  rw[hm]at hc
  rw[ha]at r6
  replace hc:=hid hc
  clear hm ha
  by_cases hf:f=0
  ·subst hf
   go_enter func242,ntmps242
   go_wp2_with fail
   refine mo (hc.out _ hon.out) λw5 hn5=>?_
   simp only[]
   replace hn5:=hid hn5
   go_wp2_with fail
   refine(try_ok _).mono ?_
   rintro e w6 ⟨rfl,rfl⟩
   simp only[]
   go_wp2
   go_end0
   exact⟨rfl,hn5.out⟩
  ·rw[tryE_no hf]
   have hn:=hid (λw=>try_no f hf w)
   replace hf:=hid hf
   go_enter func242,ntmps242
   go_wp2_with fail
   refine mo (hc.out _ hon.out) λw5 hn5=>?_
   simp only[]
   replace hn5:=hid hn5
   go_wp2_with fail
   refine(hn.out _).mono ?_
   rintro e w6 ⟨rfl,rfl⟩
   exact⟨rfl,rfl,hn5.out⟩
 ·have hm:outM x=0:=by unfold outM;rw[ha];rfl
  rw[hm]at hc
  rw[ha]at r6
  replace hc:=hid hc
  clear hm ha
  by_cases hf:f=0
  ·subst hf
   go_enter func242,ntmps242
   go_wp2_with fail
   refine mo (hc.out _ hon.out) λw5 hn5=>?_
   simp only[]
   replace hn5:=hid hn5
   go_wp2_with fail
   refine(try_ok _).mono ?_
   rintro e w6 ⟨rfl,rfl⟩
   simp only[]
   go_wp2
   go_end0
   exact⟨rfl,hn5.out⟩
  ·rw[tryE_no hf]
   have hn:=hid (λw=>try_no f hf w)
   replace hf:=hid hf
   go_enter func242,ntmps242
   go_wp2_with fail
   refine mo (hc.out _ hon.out) λw5 hn5=>?_
   simp only[]
   replace hn5:=hid hn5
   go_wp2_with fail
   refine(hn.out _).mono ?_
   rintro e w6 ⟨rfl,rfl⟩
   exact⟨rfl,rfl,hn5.out⟩
end
variable {w:World}{c:Vc}{s:Mt}{gb:Nat}
theorem y_fetch(arg lit cells:Int):GivesR 216 (λg=>#[.pointer (some ⟨g,0,none⟩)]) ⟨65,arg,lit,cells⟩ (λx s=>(⟨s.S.cellF x.mode (ar s 1 0) false,x,s⟩,[s.S.cellV x.mode (ar s 1 0)])):=by
 intro c g x src s ba w F hs hx hask hb
 have hw2: (Code.wants 65).1.toNat=1:=by decide
 simp only[hw2]at hb⊢
 have hon:=(On.refl hb).drew
 have r0:=(On.refl hb).tail.r0
 have r1:=(On.refl hb).tail.r1
 have m0:=(On.refl hb).tail.m0
 have a0:=row_get ((On.refl hb).blkAt 0 rfl) (j:=0) oM
 obtain⟨gb,hi⟩:=hon.img 3 rfl
 have hc:=i_cell hi x.mode (ar s 1 0)
 have hcell: ∀W,On F w (AllA (BlkA ba 3 (intsC (s.args 1))::vL c g x src s)) W->W.cell? (g,0)=some (c.gM:Vl)∧W.cell? (c.gM,0)=some (c.gI:Vl)∧W.cell? (g,1)=some (x.mode:Vl)∧W.cell? (ba,0)=some ((ar s 1 0):Vl):=λW h=>⟨h.tail.r0,h.tail.m0,h.tail.r1,row_get (h.blkAt 0 rfl) oM⟩
 generalize ar s 1 0=X at *
 show Calls _ _ #[g,(65:Int),.slice ba 1 1] _ _
 generalize s.S.cellV x.mode X=v at *
 generalize s.S.cellF x.mode X false=f at *
 generalize intsC (s.args 1)=ac at *
 replace hcell:=hid hcell
 replace hc:=hid hc
 replace hon:=hid hon
 clear hb hi hw2 hask hs hx
 by_cases hf:f=0
 ·simp only[if_pos hf]
  subst hf
  go_enter func216,ntmps216
  go_wp2_with fail
  go_region_held (λw'=>w'.cell? (g,0)=some (c.gM:Vl)∧w'.cell? (c.gM,0)=some (c.gI:Vl)∧w'.cell? (g,1)=some (x.mode:Vl)∧w'.cell? (ba,0)=some (X:Vl)) (go_keep)
   ((go_at_call 79;refine mo hc.out λw5 hb=>?_;simp only[];have hn5:=On.below hon.out hb;have⟨n0,n1,n2,n3⟩:=hcell.out _ hn5;clear hb;replace hn5:=hid hn5))
  all_goals go_wp2_with fail
  refine(try_ok _).mono ?_
  rintro e w6 ⟨rfl,rfl⟩
  simp only[]
  have h6:=hid (hn5.out.tail.box #[v] 3)
  go_wp2
  go_ret
  exact⟨some ⟨w6.heap.size,0,none⟩,1,BlkA w6.heap.size 3 (intsC [v]),rfl,carries_row _ _,h6.out⟩
 ·simp only[if_neg hf]
  have ht:=hid (λw=>try_no f hf w)
  replace hf:=hid hf
  go_enter func216,ntmps216
  go_wp2_with fail
  go_region_held (λw'=>w'.cell? (g,0)=some (c.gM:Vl)∧w'.cell? (c.gM,0)=some (c.gI:Vl)∧w'.cell? (g,1)=some (x.mode:Vl)∧w'.cell? (ba,0)=some (X:Vl)) (go_keep)
   ((go_at_call 79;refine mo hc.out λw5 hb=>?_;simp only[];have hn5:=On.below hon.out hb;have⟨n0,n1,n2,n3⟩:=hcell.out _ hn5;clear hb;replace hn5:=hid hn5))
  all_goals go_wp2_with fail
  refine(ht.out _).mono ?_
  rintro e w6 ⟨rfl,rfl⟩
  exact⟨rfl,rfl,hn5.out.tail⟩
theorem y_store(arg lit cells:Int):GivesR 216 (λg=>#[.pointer (some ⟨g,0,none⟩)]) ⟨66,arg,lit,cells⟩ (λx s=>(⟨s.S.cellF x.mode (ar s 2 1) true,x,{ s with S:=s.S.setCell x.mode (ar s 2 1) (ar s 2 0) }⟩,[])):=by
 intro c g x src s ba w F hs hx hask hb
 have hw2: (Code.wants 66).1.toNat=2:=by decide
 simp only[hw2]at hb⊢
 have hon:=(On.refl hb).drew
 have r0:=(On.refl hb).tail.r0
 have m0:=(On.refl hb).tail.m0
 have r1:=(On.refl hb).tail.r1
 have a0:=row_get ((On.refl hb).blkAt 0 rfl) (j:=0) oM
 have a1:=row_get ((On.refl hb).blkAt 0 rfl) (j:=1) oM
 have hcell: ∀s2 W,On F w (AllA (BlkA ba 3 (intsC (s.args 2))::vL c g x src s2)) W->W.cell? (g,0)=some (c.gM:Vl)∧W.cell? (c.gM,0)=some (c.gI:Vl)∧W.cell? (g,1)=some (x.mode:Vl)∧W.cell? (ba,0)=some ((ar s 2 0):Vl)∧W.cell? (ba,1)=some ((ar s 2 1):Vl):=λs2 W h=>⟨h.tail.r0,h.tail.m0,h.tail.r1,row_get (h.blkAt 0 rfl) oM,row_get (h.blkAt 0 rfl) oM⟩
 have hc:Calls prog 36 _ w.drew (Got (.returned (s.S.cellF x.mode (ar s 2 1) true)) (AllA (BlkA ba 3 (intsC (s.args 2))::vL c g x src ({ s with S:=s.S.setCell x.mode (ar s 2 1) (ar s 2 0) }))) F w):=hon.callAtG 3 rfl (λF' ha=>g_setCell ha x.mode (ar s 2 1) (ar s 2 0) (ar_v64 s 2 0))
 generalize hs2: ({ s with S:=s.S.setCell x.mode (ar s 2 1) (ar s 2 0) })=s2 at *
 clear hs2
 generalize s.S.cellF x.mode (ar s 2 1) true=f at *
 generalize ar s 2 0=X at *
 generalize ar s 2 1=Y at *
 show Calls _ _ #[g,(66:Int),.slice ba 2 2] _ _
 generalize intsC (s.args 2)=ac at *
 replace hcell:=hid hcell
 replace hc:=hid hc
 replace hon:=hid hon
 clear hb hw2 hask hs hx
 by_cases hf:f=0
 ·simp only[if_pos hf]
  subst hf
  go_enter func216,ntmps216
  go_wp2_with fail
  go_region_held (λw'=>w'.cell? (g,0)=some (c.gM:Vl)∧w'.cell? (c.gM,0)=some (c.gI:Vl)∧w'.cell? (g,1)=some (x.mode:Vl)∧w'.cell? (ba,0)=some (X:Vl)∧w'.cell? (ba,1)=some (Y:Vl)) (go_keep)
   ((first
     | (go_at_call 36;refine mo hc.out λw5 hn5=>?_;have⟨n0,n1,n2,n3,n4⟩:=hcell.out _ _ hn5;replace hn5:=hid hn5)
     | (go_at_call 192;refine(try_ok _).mono ?_;rintro e w6 ⟨rfl,rfl⟩)))
  all_goals go_wp2
  all_goals go_ret
  all_goals exact⟨none,0,_,rfl,carries_nil _,hn5.out⟩
 ·simp only[if_neg hf]
  have ht:=hid (λw=>try_no f hf w)
  replace hf:=hid hf
  go_enter func216,ntmps216
  go_wp2_with fail
  go_region_held (λw'=>w'.cell? (g,0)=some (c.gM:Vl)∧w'.cell? (c.gM,0)=some (c.gI:Vl)∧w'.cell? (g,1)=some (x.mode:Vl)∧w'.cell? (ba,0)=some (X:Vl)∧w'.cell? (ba,1)=some (Y:Vl)) (go_keep)
   ((first
     | (go_at_call 36;refine mo hc.out λw5 hn5=>?_;have⟨n0,n1,n2,n3,n4⟩:=hcell.out _ _ hn5;replace hn5:=hid hn5)
     | (go_at_call 192;refine dead (ht.out _) ⟨rfl,rfl,hn5.out.tail⟩ ?_;intro hF e w6 he hw;subst he;subst hw;replace hF:=hid hF)))
  all_goals exact hF.out.elim
theorem v_base(h:Blk w c.gM 108 (machC c s))(hi:IRep w c.gI gb s.S):Calls prog 37 #[c.gM] w (Quiet (s.S.beg 3:Int) w):=by
 have c0:w.cell? (c.gM,0)=some (c.gI:Vl):=h.cell 0
 have hsp:=i_span hi 3 oM oM
 replace hsp:=hid hsp
 clear h hi
 go_enter func37,ntmps37
 go_wp2_with fail
 refine hsp.out.mono ?_
 rintro e w1 ⟨rfl,n,rfl⟩
 go_wp2
 go_ret
 exact⟨rfl,Below.dN (Below.refl _ _) n⟩
theorem y_base(arg lit cells:Int):GivesOk 217 (λg=>#[.pointer (some ⟨g,0,none⟩)]) ⟨77,arg,lit,cells⟩ (λs=>[wrap64 (s.S.beg 3:Int)]):=by
 intro c g x src s ba w F hs hask hb
 have hw2: (Code.wants 77).1.toNat=0:=by decide
 simp only[hw2]at hb⊢
 have hon:=On.refl hb
 have r0:=hon.tail.r0
 obtain⟨gb,hi⟩:=hon.img 3 rfl
 have hbs:=v_base (hon.blkAt 2 rfl) hi
 have hsm:wrap64 (s.S.beg 3:Int)= (s.S.beg 3:Int):=by
  have h1:=hi.ok.small
  have h2:s.S.beg 3<=s.S.beg 6:=s.S.beg_mono oM oM oM
  unfold wrap64
  omega
 rw[hsm]
 clear hsm
 generalize intsC (s.args 0)=ac at *
 generalize ((s.S.beg 3:Nat):Int)=v at *
 replace hon:=hid hon
 replace hbs:=hid hbs
 clear hb hw2 hask hs hi
 show Calls _ _ #[g,(77:Int),.slice ba 0 0] _ _
 go_enter func217,ntmps217
 go_wp2_with fail
 refine mo hbs.out λw1 hb1=>?_
 simp only[]
 have h6:=hid ((hon.out.below hb1).tail.box #[v] 3)
 clear hb1
 go_wp2
 go_ret
 exact⟨some ⟨w1.heap.size,0,none⟩,1,BlkA w1.heap.size 3 (intsC [v]),rfl,carries_row _ _,h6.out⟩
def flagS(b:Bool):Int:=if b then -1 else 0
def absS(x:Int):Int:=if x<0 then wrap64 (-x)else x
def signS(x:Int):Int:=x/9223372036854775808
def shlS(x y:Int):Int:=if y<0 then 0 else wrap64 (x*2 ^ min y.toNat 64)
def shrS(x y:Int):Int:=if y<0 then 0 else wrap64 (IntKind.u64.wrap x/2 ^ min y.toNat 64)
theorem flag_v64(b:Bool):V64 (flagS b):=by unfold flagS V64;split<;>omega
theorem abs_v64{x:Int}(h:V64 x):V64 (absS x):=by unfold absS;split;exact wrap_v64 _;exact h
theorem shl_v64(x y:Int):V64 (shlS x y):=by unfold shlS;split;(unfold V64;omega);exact wrap_v64 _
theorem shr_v64(x y:Int):V64 (shrS x y):=by unfold shrS;split;(unfold V64;omega);exact wrap_v64 _
theorem half_v64{x:Int}(h:V64 x):V64 (x/2):=by unfold V64 at *;omega
theorem sign_v64{x:Int}(h:V64 x):V64 (x/9223372036854775808):=by unfold V64 at *;omega
theorem signS_v64{x:Int}(h:V64 x):V64 (signS x):=sign_v64 h
theorem min_v64{x y:Int}(h:V64 x)(g:V64 y):V64 (min x y):=by unfold V64 at *;omega
theorem max_v64{x y:Int}(h:V64 x)(g:V64 y):V64 (max x y):=by unfold V64 at *;omega
theorem iwrap_v64(n:Int):V64 (IntKind.i64.wrap n):=by rw[IntKind.wrap_i64];unfold V64;omega
theorem and_v64(x y:Int):V64 (bits .and .i64 x y):=iwrap_v64 _
theorem or_v64(x y:Int):V64 (bits .or .i64 x y):=iwrap_v64 _
theorem xor_v64(x y:Int):V64 (bits .xor .i64 x y):=iwrap_v64 _
theorem alone_abs(x:Int)(w:World):Calls prog 236 #[.int .i64 40,.int .i64 x] w (Same (.int .i64 (absS x)) w):=by
 by_cases h:x<0
 ·have e:absS x=wrap64 (-x):=if_pos h
  rw[e]
  have t:decide (x<0)=true:=decide_eq_true h
  replace h:=hid h
  clear e
  go_enter func236,ntmps236
  go_wp2
  go_ret
  exact⟨rfl,rfl⟩
 ·have e:absS x=x:=if_neg h
  rw[e]
  have t:decide (x<0)=false:=decide_eq_false h
  clear e
  go_enter func236,ntmps236
  go_wp2
  go_ret
  exact⟨rfl,rfl⟩
theorem alone_twice(x:Int)(w:World):Calls prog 236 #[.int .i64 45,.int .i64 x] w (Same (.int .i64 (wrap64 (x*2))) w):=by
 go_enter func236,ntmps236
 go_wp2
 go_ret
 exact⟨rfl,rfl⟩
theorem alone_half(x:Int)(w:World):Calls prog 236 #[.int .i64 46,.int .i64 x] w (Same (.int .i64 (x/2)) w):=by
 go_enter func236,ntmps236
 go_wp2
 go_ret
 exact⟨rfl,rfl⟩
theorem alone_invert(x:Int)(w:World):Calls prog 236 #[.int .i64 50,.int .i64 x] w (Same (.int .i64 (bits .xor .i64 (-1) x)) w):=by
 go_enter func236,ntmps236
 go_wp2
 go_ret
 exact⟨rfl,rfl⟩
theorem alone_zeroeq(x:Int)(w:World):Calls prog 236 #[.int .i64 63,.int .i64 x] w (Same (.int .i64 (flagS (x==0))) w):=by
 rcases h: (x==0)with _|_
 ·show Calls _ _ _ _ (Same (.int .i64 0) w)
  go_enter func236,ntmps236
  go_wp2
  go_ret
  exact⟨rfl,rfl⟩
 ·show Calls _ _ _ _ (Same (.int .i64 (-1)) w)
  go_enter func236,ntmps236
  go_wp2
  go_ret
  exact⟨rfl,rfl⟩
theorem alone_zerolt(x:Int)(w:World):Calls prog 236 #[.int .i64 64,.int .i64 x] w (Same (.int .i64 (signS x)) w):=by
 go_enter func236,ntmps236
 go_wp2
 go_ret
 exact⟨rfl,rfl⟩
theorem pair_min(x y:Int)(w:World):Calls prog 237 #[.int .i64 41,.int .i64 x,.int .i64 y] w (Same (.int .i64 (min x y)) w):=by
 go_enter func237,ntmps237
 go_wp2
 go_ret
 exact⟨rfl,rfl⟩
theorem pair_max(x y:Int)(w:World):Calls prog 237 #[.int .i64 42,.int .i64 x,.int .i64 y] w (Same (.int .i64 (max x y)) w):=by
 go_enter func237,ntmps237
 go_wp2
 go_ret
 exact⟨rfl,rfl⟩
theorem pair_and(x y:Int)(w:World):Calls prog 237 #[.int .i64 47,.int .i64 x,.int .i64 y] w (Same (.int .i64 (bits .and .i64 x y)) w):=by
 go_enter func237,ntmps237
 go_wp2
 go_ret
 exact⟨rfl,rfl⟩
theorem pair_or(x y:Int)(w:World):Calls prog 237 #[.int .i64 48,.int .i64 x,.int .i64 y] w (Same (.int .i64 (bits .or .i64 x y)) w):=by
 go_enter func237,ntmps237
 go_wp2
 go_ret
 exact⟨rfl,rfl⟩
theorem pair_xor(x y:Int)(w:World):Calls prog 237 #[.int .i64 49,.int .i64 x,.int .i64 y] w (Same (.int .i64 (bits .xor .i64 x y)) w):=by
 go_enter func237,ntmps237
 go_wp2
 go_ret
 exact⟨rfl,rfl⟩
theorem pair_shl(x y:Int)(w:World):Calls prog 237 #[.int .i64 51,.int .i64 x,.int .i64 y] w (Same (.int .i64 (shlS x y)) w):=by
 by_cases h:y<0
 ·have e:shlS x y=0:=if_pos h
  rw[e]
  have t:decide (y<0)=true:=decide_eq_true h
  replace h:=hid h
  clear e
  go_enter func237,ntmps237
  go_wp2
  go_ret
  exact⟨rfl,rfl⟩
 ·have e:shlS x y=wrap64 (x*2 ^ min y.toNat 64):=if_neg h
  rw[e]
  have t:decide (y<0)=false:=decide_eq_false h
  clear e
  go_enter func237,ntmps237
  go_wp2
  go_ret
  exact⟨by rw[<-IntWalk.i64_left];rfl,rfl⟩
theorem pair_shr(x y:Int)(w:World):Calls prog 237 #[.int .i64 52,.int .i64 x,.int .i64 y] w (Same (.int .i64 (shrS x y)) w):=by
 by_cases h:y<0
 ·have e:shrS x y=0:=if_pos h
  rw[e]
  have t:decide (y<0)=true:=decide_eq_true h
  replace h:=hid h
  clear e
  go_enter func237,ntmps237
  go_wp2
  go_ret
  exact⟨rfl,rfl⟩
 ·have e:shrS x y=wrap64 (IntKind.u64.wrap x/2 ^ min y.toNat 64):=if_neg h
  rw[e]
  have t:decide (y<0)=false:=decide_eq_false h
  clear e
  go_enter func237,ntmps237
  go_wp2
  go_ret
  exact⟨rfl,rfl⟩
theorem pair_eq(x y:Int)(w:World):Calls prog 237 #[.int .i64 58,.int .i64 x,.int .i64 y] w (Same (.int .i64 (flagS (x==y))) w):=by
 rcases h: (x==y)with _|_
 ·show Calls _ _ _ _ (Same (.int .i64 0) w)
  go_enter func237,ntmps237
  go_wp2
  go_ret
  exact⟨rfl,rfl⟩
 ·show Calls _ _ _ _ (Same (.int .i64 (-1)) w)
  go_enter func237,ntmps237
  go_wp2
  go_ret
  exact⟨rfl,rfl⟩
theorem pair_ne(x y:Int)(w:World):Calls prog 237 #[.int .i64 59,.int .i64 x,.int .i64 y] w (Same (.int .i64 (flagS (x != y))) w):=by
 rcases h: (x != y)with _|_
 ·show Calls _ _ _ _ (Same (.int .i64 0) w)
  go_enter func237,ntmps237
  go_wp2
  go_ret
  exact⟨rfl,rfl⟩
 ·show Calls _ _ _ _ (Same (.int .i64 (-1)) w)
  go_enter func237,ntmps237
  go_wp2
  go_ret
  exact⟨rfl,rfl⟩
theorem pair_lt(x y:Int)(w:World):Calls prog 237 #[.int .i64 60,.int .i64 x,.int .i64 y] w (Same (.int .i64 (flagS (decide (x<y)))) w):=by
 rcases h: (decide (x<y))with _|_
 ·show Calls _ _ _ _ (Same (.int .i64 0) w)
  go_enter func237,ntmps237
  go_wp2
  go_ret
  exact⟨rfl,rfl⟩
 ·show Calls _ _ _ _ (Same (.int .i64 (-1)) w)
  go_enter func237,ntmps237
  go_wp2
  go_ret
  exact⟨rfl,rfl⟩
theorem pair_gt(x y:Int)(w:World):Calls prog 237 #[.int .i64 61,.int .i64 x,.int .i64 y] w (Same (.int .i64 (flagS (decide (y<x)))) w):=by
 rcases h: (decide (y<x))with _|_
 ·show Calls _ _ _ _ (Same (.int .i64 0) w)
  go_enter func237,ntmps237
  go_wp2
  go_ret
  exact⟨rfl,rfl⟩
 ·show Calls _ _ _ _ (Same (.int .i64 (-1)) w)
  go_enter func237,ntmps237
  go_wp2
  go_ret
  exact⟨rfl,rfl⟩
theorem pair_ult(x y:Int)(w:World):Calls prog 237 #[.int .i64 62,.int .i64 x,.int .i64 y] w (Same (.int .i64 (flagS (decide (IntKind.u64.wrap x<IntKind.u64.wrap y)))) w):=by
 rcases h: (decide (IntKind.u64.wrap x<IntKind.u64.wrap y))with _|_
 ·show Calls _ _ _ _ (Same (.int .i64 0) w)
  go_enter func237,ntmps237
  go_wp2
  go_ret
  exact⟨rfl,rfl⟩
 ·show Calls _ _ _ _ (Same (.int .i64 (-1)) w)
  go_enter func237,ntmps237
  go_wp2
  go_ret
  exact⟨rfl,rfl⟩
end Vm
set_option linter.unusedSimpArgs false
namespace Vm
section
variable {w w':World}{F:Nat->Prop}{c:Vc}{g:Nat}{x:Rn}{src:Value}{s:Mt}
theorem v_pokeR(h:On F w (VA c g x src s) w')(hs:s.Ok)(h0:0<s.r)(v:Int)(hv:V64 v):Calls prog 280 #[c.gR,(0:Int),v] w' (Got (.returned (.int .i64 0)) (VA c g x src (s.pokeR 0 v)) F w):=
 h.callAt2G 4 2 (by decide) rfl rfl λF' ha=>k_poke ha hs.pr 0 h0 hs.r v hv
theorem pokeR_ok(hs:s.Ok)(n:Nat)(v:Int): (s.pokeR n v).Ok:=⟨hs.pd,hs.pr,hs.d,hs.r,hs.du,hs.dv,hs.ru,hs.rv⟩
theorem wr_sub(n:Nat)(k:Nat)(hk:k<=n)(hn:n<=17920):IntKind.i64.wrap ((n:Int) - (k:Int))= ((n-k:Nat):Int):=by rw[IntWalk.i64_in _ oM];omega
theorem v_turn(hb: (VA c g x src s).holds w F)(hs:s.Ok)(h0:2<=s.r)(n at_:Int)(hv:V64 n)(ends:Bool):Calls prog 262 #[g,n,.bool ends,at_] w (Got (.returned (.tuple #[])) (VA c g (turn n ends at_ x s).x src (turn n ends at_ x s).s) F w):=by
 have hon:=On.refl hb
 have r0:=hon.r0
 have m6:=hon.m6
 cases ends with
 | true=>
   have hdep:=k_depth hon.drew.sr
   have hcut:=v_cutR hon.drew hs (s.r-2) oM
   rw[<-wr_sub s.r 2 h0 hs.rle]at hcut
   show Calls _ _ _ _ (Got _ (VA c g x src (s.cutR (s.r-2))) _ _)
   generalize s.cutR (s.r-2)=s1 at *
   generalize s.r=d at *
   replace hdep:=hid hdep
   replace hcut:=hid hcut
   clear hb hs hon h0
   go_enter func262,ntmps262
   go_wp2_with fail
   go_region_held (λw'=>w'.cell? (g,0)=some (c.gM:Vl)∧w'.cell? (c.gM,6)=some (c.gR:Vl)) (go_keep)
    ((first
      | (go_at_call 158;refine hdep.out.mono ?_;rintro e w1 ⟨rfl,rfl⟩)
      | (go_at_call 228;refine mo hcut.out λw1 h=>?_;have k0:=h.r0;have k5:=h.m6;replace h:=hid h)))
   all_goals go_wp2
   all_goals go_end0
   all_goals exact⟨rfl,h.out⟩
 | false=>
   have hpoke:=v_pokeR hon hs oM n hv
   show Calls _ _ _ _ (Got _ (VA c g { x with next:=at_ } src (s.pokeR 0 n)) _ _)
   generalize s.pokeR 0 n=s1 at *
   replace hpoke:=hid hpoke
   clear hb hs hon h0 hv
   go_enter func262,ntmps262
   go_wp2_with fail
   refine mo hpoke.out λw1 h=>?_
   have k4:=h.r4
   have f4:=h.rf 4
   have h2:=h.setNext at_
   replace h2:=hid h2
   clear h
   go_wp2
   go_end0
   exact⟨rfl,h2.out⟩
theorem ar20(s:Mt):ar s 2 0=s.top 1∧ar s 2 1=s.top 0:=by
 unfold ar Mt.args
 exact⟨rfl,rfl⟩
end
theorem lp_facts{c:Vc}{g:Nat}{x:Rn}{src:Value}{s:Mt}{ba b:Nat}{w w0:World}{F:Nat->Prop}{op arg lit cells f0 f1:Int}{r:Array Value}
 (hon:On F w (AllA (BlkA b 293 #[op,arg,lit,cells]::BlkA ba 3 r::vL c g x src s)) w0) (hs:s.Ok)
 (hf0: (if hasB s.r 0 then(0:Int)else s.pr.un)=f0) (hf1: (if hasB s.r 1 then(0:Int)else s.pr.un)=f1):
 (∀W,On F w (AllA (BlkA b 293 #[op,arg,lit,cells]::BlkA ba 3 r::vL c g x src s)) W->Calls prog 183 #[c.gR,(0:Int)] W (Quiet (.tuple #[(s.rtop 0),f0]) W))∧
 (∀W,On F w (AllA (BlkA b 293 #[op,arg,lit,cells]::BlkA ba 3 r::vL c g x src s)) W->Calls prog 183 #[c.gR,(1:Int)] W (Quiet (.tuple #[(s.rtop 1),f1]) W))∧
 (∀W,On F w (AllA (BlkA b 293 #[op,arg,lit,cells]::BlkA ba 3 r::vL c g x src s)) W->W.cell? (g,0)=some (c.gM:Vl)∧W.cell? (c.gM,6)=some (c.gR:Vl)∧W.cell? (b,0)=some (op:Vl)∧W.cell? (b,1)=some (arg:Vl)):=by
 refine⟨λW h=> ?_,λW h=> ?_,λW h=>⟨h.tail.tail.r0,h.tail.tail.m6,(h.blkAt 0 rfl).cell 0,(h.blkAt 0 rfl).cell 1⟩⟩
 ·obtain⟨gb,hi⟩:=h.tail.tail.im
  have h1:=k_peek h.tail.tail.sr hi hs.pr hs.rle 0
  unfold peekV at h1
  rw[hf0]at h1
  exact h1
 ·obtain⟨gb,hi⟩:=h.tail.tail.im
  have h1:=k_peek h.tail.tail.sr hi hs.pr hs.rle 1
  unfold peekV at h1
  rw[hf1]at h1
  exact h1
section
variable {w w':World}{F:Nat->Prop}{c:Vc}{g:Nat}{x:Rn}{src:Value}{s:Mt}{A B:Asr}
theorem lays_nil_ok(n:Nat)(hs:s.Ok): (s.lays n []).2.Ok:=by
 unfold Mt.lays
 rw[if_neg (by simp)]
 exact pushD_ok (cutD_ok hs (s.d-n) oM) [] (by simp)
theorem lp_lay(h:On F w (AllA (A::B::vL c g x src s)) w')(hs:s.Ok)(n:Nat)(hn:n<=s.d):Calls prog 213 #[g,(n:Int),.slice none 0 0] w' (Got (.returned (.tuple #[])) (AllA (A::B::vL c g x src (s.lays n []).2)) F w):=
 v_lays_nil 2 (by simp) rfl h hs n hn
theorem lays_r(s:Mt)(n:Nat): (s.lays n []).2.r=s.r∧(s.lays n []).2.pr=s.pr:=by unfold Mt.lays;split<;>exact⟨rfl,rfl⟩
theorem lp_push{ba:Nat}{n:Nat}(h:On F w (AllA (A::BlkA ba 3 (intsC (s.args n))::vL c g x src (s.lays n []).2)) w')(hs:s.Ok)(hroom: (s.r:Int) -0+n<=s.pr.rm):Calls prog 113 #[c.gR,.slice ba n n] w' (Got (.returned (.int .i64 0)) (AllA (A::BlkA ba 3 (intsC (s.args n))::vL c g x src ((s.lays n []).2.pushR (s.args n)))) F w):=
 v_pushR_row 2 (by simp) rfl h (lays_nil_ok n hs) (s.args n) (args_v64 s n) 1 oM ba rfl n (args_len s n).symm (by rw[args_len,(lays_r s n).1,(lays_r s n).2];omega)
theorem lp_lay1(h:On F w (AllA (A::B::vL c g x src s)) w')(hs:s.Ok){v:Int}(hv:V64 v)(hroom:1<=s.pd.rm- (s.d-0)):Calls prog 213 #[g,((0:Nat):Int),.slice w'.heap.size 1 1] (w'.alloc (.cells #[v] 3)) (Got (.returned (.tuple #[])) (AllA (BlkA w'.heap.size 3 #[v]::A::B::vL c g x src (s.lays 0 [v]).2)) F w):=
 v_lays_under 3 (by simp) rfl (h.box #[v] 3) hs 0 (Nat.zero_le _) [v] (λu hu=>by rw[List.mem_singleton.1 hu];exact hv) 0 oM _ rfl hroom
theorem lp_cut(h:On F w (AllA (A::B::vL c g x src s)) w')(hs:s.Ok)(k:Nat)(hk:k<=s.r):Calls prog 158 #[c.gR] w'.drew (Same (s.r:Int) w'.drew)∧Calls prog 228 #[c.gR,(IntKind.i64.wrap ((s.r:Int) - (k:Int)))] w'.drew (Got (.returned (.bool true)) (AllA (A::B::vL c g x src (s.cutR (s.r-k)))) F w):=by
 rw[wr_sub s.r k hk hs.rle]
 exact⟨k_depth h.drew.tail.tail.sr,h.drew.callDrop 2 (by simp) λF' hb _ _=>v_cutR (On.refl hb) hs (s.r-k) oM⟩
theorem lp_turn(h:On F w (AllA (A::B::vL c g x src s)) w')(hs:s.Ok)(h0:2<=s.r)(n at_:Int)(hv:V64 n)(ends:Bool):Calls prog 262 #[g,n,.bool ends,at_] w' (Got (.returned (.tuple #[])) (AllA (A::B::vL c g (turn n ends at_ x s).x src (turn n ends at_ x s).s)) F w):=
 h.callDrop 2 (by simp) λF' hb _ _=>v_turn hb hs h0 n at_ hv ends
end
def plEnds(n m a:Int):Bool:=decide (bits .xor .i64 (IntKind.i64.wrap (n-m)) (IntKind.i64.wrap (IntKind.i64.wrap (n-m) +a)) <0) &&decide (bits .xor .i64 (IntKind.i64.wrap (n-m)) a<0)
theorem lp_all(op arg lit cells:Int)(q:Rn->Mt->Rs)(hq :
 ((op=6∨op=13)∧q=λx s=>⟨0,x,((s.lays (Code.wants op).1.toNat []).2).pushR (s.args (Code.wants op).1.toNat)⟩)∨
 (op=7∧q=λx s=>if ar s 2 0=ar s 2 1 then⟨0,{ x with next:=arg },(s.lays 2 []).2⟩else⟨0,x,((s.lays 2 []).2).pushR (s.args 2)⟩)∨
 (op=8∧q=λx s=>turn (wrap64 (s.rtop 0+1)) (wrap64 (s.rtop 0+1) ==s.rtop 1) arg x s)∨
 (op=9∧q=λx s=>turn (wrap64 (s.rtop 0+ar s 1 0)) (plEnds (s.rtop 0) (s.rtop 1) (ar s 1 0)) arg x (s.lays 1 []).2)∨
 (op=10∧q=λx s=>⟨0,x,s.cutR (s.r-2)⟩)∨
 ((op=11∨op=15)∧q=λx s=>laysR 0 [s.rtop 0] x s)∨
 (op=12∧q=λx s=>laysR 0 [s.rtop 2] x s)∨
 (op=14∧q=λx s=>laysR 0 [s.rtop 0] x (s.cutR (s.r-1)))):PartOk 227 ⟨op,arg,lit,cells⟩ q:=by
 intro c g x src s ba w F hs hx hv1 hv2 hask hb
 obtain⟨n,hw⟩: ∃n,(Code.wants op).1.toNat=n:=⟨_,rfl⟩
 have hn:n<=s.d:=by have h:=hask.tk;dsimp only at h;omega
 simp only[hw]at hb⊢
 obtain⟨hon,b0,b1,-⟩:=p_box hb op arg lit cells
 obtain⟨f0,hf0⟩: ∃f:Int,(if hasB s.r 0 then(0:Int)else s.pr.un)=f:=⟨_,rfl⟩
 obtain⟨f1,hf1⟩: ∃f:Int,(if hasB s.r 1 then(0:Int)else s.pr.un)=f:=⟨_,rfl⟩
 obtain⟨hpk0,hpk1,hcl⟩:=lp_facts hon hs hf0 hf1
 have hroom: (op=11∨op=15∨op=12∨op=14)->1<=s.pd.rm- (s.d-0):=λh=>by
  have h1:=hask.room
  rcases h with rfl|rfl|rfl|rfl
  all_goals
   dsimp only at h1
   rw[if_neg oM,show(Code.wants _)= ((0:Int),(1:Int))from rfl]at h1
   dsimp only at h1
   omega
 obtain⟨R,hR⟩: ∃R,q x s=R:=⟨_,rfl⟩
 have hf:R.f=0:=by
  subst hR
  rcases hq with⟨_,rfl⟩ | ⟨_,rfl⟩ | ⟨_,rfl⟩ | ⟨_,rfl⟩ | ⟨_,rfl⟩ | ⟨h,rfl⟩ | ⟨h,rfl⟩ | ⟨h,rfl⟩
  all_goals first|rfl| (dsimp only;unfold turn;split<;>rfl) | (dsimp only;split<;>rfl) |exact lays_f (hroom oM)
 have hoff:=hask.off
 have hrr:=hask.rroom
 dsimp only at hoff hrr
 rw[hR,hf]
 show Calls prog 227 #[g,.agg #[op,arg,lit,cells],.slice ba n n] w (Got (.returned (.tuple #[])) (AllA (BlkA ba 3 (intsC (s.args n))::vL c g R.x src R.s)) F w)
 have hrv:=λn=>(stopv_v64 _ _ _ _:V64 (s.rtop n))
 have hbs:=hx.base
 clear hb hx hv1 hv2 hask hf0 hf1 hf
 replace hq:=hid hq
 replace hw:=hid hw
 replace hn:=hid hn
 replace hs:=hid hs
 replace hR:=hid hR
 replace hrv:=hid hrv
 replace hoff:=hid (And.intro hbs hoff)
 replace hrr:=hid hrr
 replace hroom:=hid hroom
 replace hpk0:=hid hpk0
 replace hpk1:=hid hpk1
 replace hcl:=hid hcl
 replace hon:=hid hon
 clear hbs
 go_enter func227,ntmps227
 obtain⟨d0,d6,d1,d2⟩:=hcl.out _ hon.out
 go_wp2_with fail
 refine mo (hpk0.out _ hon.out) λw1 hB=>?_
 have hon1:=hon.out.below hB
 obtain⟨d01,d61,d11,d21⟩:=hcl.out _ hon1
 clear d0 d6 d1 d2 b0 b1 hB
 replace hon1:=hid hon1
 go_wp2_with fail
 refine mo (hpk1.out _ hon1.out) λw2 hB=>?_
 have hon2:=hon1.out.below hB
 obtain⟨d02,d62,d12,d22⟩:=hcl.out _ hon2
 clear d01 d61 d11 d21 hB hon1 hpk0 hpk1 hon
 replace hon2:=hid hon2
 rcases hq.out with⟨ho,rfl⟩ | ⟨rfl,rfl⟩ | ⟨rfl,rfl⟩ | ⟨rfl,rfl⟩ | ⟨rfl,rfl⟩ | ⟨ho,rfl⟩ | ⟨rfl,rfl⟩ | ⟨rfl,rfl⟩
 all_goals clear hq
 ·rcases ho with rfl|rfl
  all_goals
   first
    | (obtain rfl:2=n:=hw.out;have hrm: (s.r:Int) -0+ (2:Nat)<=s.pr.rm:=hrr.out)
    | (obtain rfl:1=n:=hw.out;have hrm: (s.r:Int) -0+ (1:Nat)<=s.pr.rm:=hrr.out)
   replace hrm:=hid hrm
   have hlay:=hid (lp_lay hon2.out hs.out _ hn.out)
   go_wp2_with fail
   refine mo hlay.out λw3 h=>?_
   have k0:=h.tail.tail.r0
   have k6:=h.tail.tail.m6
   replace h:=hid (lp_push h hs.out hrm.out)
   clear d02 d62 d12 d22
   go_wp2_with fail
   refine mo h.out λw4 h=>?_
   replace h:=hid h
   go_wp2
   go_end0
   obtain rfl:=hR.out
   exact⟨rfl,h.out.tail⟩
 ·obtain rfl:2=n:=hw.out
  have hlay:=hid (lp_lay hon2.out hs.out _ hn.out)
  go_wp2_with fail
  refine mo hlay.out λw3 h=>?_
  have k0:=h.tail.tail.r0
  have k6:=h.tail.tail.m6
  have k4:=h.tail.tail.r4
  have z4:=h.tail.tail.rf 4
  have ka:w3.cell? (ba,0)=some ((ar s 2 0):Vl):=row_get (h.blkAt 1 rfl) oM
  have kb:w3.cell? (ba,1)=some ((ar s 2 1):Vl):=row_get (h.blkAt 1 rfl) oM
  have k1:w3.cell? (w.heap.size,1)=some (arg:Vl):=(h.blkAt 0 rfl).cell 1
  replace h:=hid h
  clear d02 d62 d12 d22
  have hR2:=hR.out
  try dsimp only at hR2
  by_cases hz:ar s 2 0=ar s 2 1
  ·have ez: (ar s 2 0==ar s 2 1)=true:=by simpa using hz
   rw[if_pos hz]at hR2
   replace hR2:=hid hR2
   replace h:=hid λn=>(h.out.drewN n).setAt 2 rfl 4 (.int .i64 arg)
   clear hz
   go_wp2_with fail
   go_quiet (fail)
   go_wp2
   go_end0
   obtain rfl:=hR2.out
   exact⟨rfl,(h.out _).tail⟩
  ·have ez: (ar s 2 0==ar s 2 1)=false:=by simpa using hz
   rw[if_neg hz]at hR2
   replace hR2:=hid hR2
   have hrm:=hrr.out
   rw[show s.same=false by
    unfold Mt.same
    rw[(ar20 s).1,(ar20 s).2]at hz
    simpa using λh=>hz h.symm]at hrm
   replace h:=hid λn=>lp_push (h.out.drewN n) hs.out hrm
   clear hz hrm
   go_wp2_with fail
   go_quiet (fail)
   go_wp2_with fail
   refine mo (h.out _) λw4 h=>?_
   replace h:=hid h
   go_wp2
   go_end0
   obtain rfl:=hR2.out
   exact⟨rfl,h.out.tail⟩
 ·have h0: (2:Int)<=s.r-x.base:=hoff.out.2
  have h:=hid (lp_turn hon2.out hs.out (by have:=hoff.out.1;omega) (wrap64 (s.rtop 0+1)) arg (wrap_v64 _) (wrap64 (s.rtop 0+1) ==s.rtop 1))
  clear h0
  go_wp2_with fail
  refine mo h.out λw3 h=>?_
  replace h:=hid h
  go_wp2
  go_end0
  obtain rfl:=hR.out
  exact⟨rfl,h.out.tail⟩
 ·obtain rfl:1=n:=hw.out
  have hlay:=hid (lp_lay hon2.out hs.out _ hn.out)
  go_wp2_with fail
  refine mo hlay.out λw3 h=>?_
  have ha0: ∀W,Blk W ba 3 (intsC (s.args 1))->W.cell? (ba,0)=some ((ar s 1 0):Vl):=λW hW=>row_get hW oM
  have ka:=ha0 _ (h.blkAt 1 rfl)
  have k1:w3.cell? (w.heap.size,1)=some (arg:Vl):=(h.blkAt 0 rfl).cell 1
  have h0: (2:Int)<=s.r-x.base:=hoff.out.2
  have htu:=lp_turn h.drew (lays_nil_ok 1 hs.out) (by have:=hoff.out.1;rw[(lays_r s 1).1];omega) (wrap64 (s.rtop 0+ar s 1 0)) arg (wrap_v64 _) (plEnds (s.rtop 0) (s.rtop 1) (ar s 1 0))
  have hR2:turn (wrap64 (s.rtop 0+ar s 1 0)) (plEnds (s.rtop 0) (s.rtop 1) (ar s 1 0)) arg x (s.lays 1 []).2=R:=hR.out
  rw[hR2]at htu
  clear h h0 hR hR2 d02 d62 d12 d22 hroom hrr hoff hrv hw hon2 hlay
  generalize s.rtop 0=N0 at *
  generalize s.rtop 1=N1 at *
  generalize ar s 1 0=A0 at *
  replace ha0:=hid ha0
  unfold plEnds at htu
  rw[<-IntWalk.i64_left]at htu
  rcases hE1:decide (bits .xor .i64 (IntKind.i64.wrap (N0-N1)) (IntKind.i64.wrap (IntKind.i64.wrap (N0-N1) +A0)) <0)with _|_
  all_goals
   rw[hE1]at htu
   simp only[Bool.false_and,Bool.true_and]at htu
   replace htu:=hid htu
   replace hE1:=hid hE1
   go_wp2_with fail
   have hE2:=hE1.out
   refine wp_region_held_drew (S:=λw'=>w'.cell? (ba,0)=some (A0:Vl)∧w'.cell? (w.heap.size,1)=some (arg:Vl)) kR ?_ (λhHeld=> ?_)
   · ((try dsimp only);go_keep)
   refine tkL 0 ?_
   refine pt ?_
   refine tkL 1 ?_
   refine pt ?_
   refine tkL 2 ?_
   refine pt ?_
   refine tkL 3 ?_
   refine pt ?_
   refine tkL 4 ?_
   refine pt ?_
   refine tkL 5 ?_
   refine pt ?_
   refine tkL 6 ?_
   refine pt ?_
   refine tkL 7 ?_
   refine pt ?_
   refine tkL 8 ?_
   refine pt ?_
  all_goals
   first
    | (refine tkL 9 (v:= .bool false) ?_ (hy:=Or.inl ⟨by kernel_rfl,by intro w hSw;(try dsimp only at hSw);go_simp;(have hE4:=hE2;simp only[IntWalk.i64_left,decide_eq_false_iff_not,decide_eq_true_eq,Int.not_lt]at hE4;exact hE4)⟩)
       refine pt ?_
       refine tkL 10 ?_
       refine pt ?_
       refine tkU 11 ?_
       refine tkU 12 ?_
       refine tkU 13 ?_
       refine tkU 14 ?_
       refine tkU 15 ?_
       refine tkU 16 ?_
       refine pt ?_
       refine tkL 17 ?_)
    | (refine tkL 9 (v:= .bool true) ?_ (hy:=Or.inl ⟨by kernel_rfl,by intro w hSw;(try dsimp only at hSw);go_simp;(have hE4:=hE2;simp only[IntWalk.i64_left,decide_eq_false_iff_not,decide_eq_true_eq,Int.not_lt]at hE4;exact hE4)⟩)
       refine pt ?_
       refine tkL 10 ?_
       refine pt ?_
       refine tkL 11 ?_
       refine pt ?_
       refine tkL 12 ?_
       refine pt ?_
       refine tkL 13 ?_
       refine pt ?_
       refine tkL 14 ?_
       refine pt ?_
       refine tkL 15 ?_
       refine pt ?_
       refine tkL 16 (v:= .bool (decide (bits .xor .i64 (IntKind.i64.wrap (N0-N1)) A0<0))) ?_ (hy:=Or.inl ⟨by kernel_rfl,by intro w hSw;(try dsimp only at hSw);go_simp;try (first|with_reducible rfl|simp only[IntWalk.i64_left])⟩)
       refine pt ?_
       refine tkL 17 (v:= .bool (decide (bits .xor .i64 (IntKind.i64.wrap (N0-N1)) A0<0))) ?_ (hy:=Or.inl ⟨by kernel_rfl,by intro w hSw;(try dsimp only at hSw);go_simp;try (first|with_reducible rfl|simp only[IntWalk.i64_left])⟩))
   refine pt ?_
   refine tkL 18 ?_
   refine pt ?_
   refine tkL 19 ?_
   refine pt ?_
   refine wpAnyH_ready (rs:=[20]) kR (by simp) ?_
   refine AllReadyH.cons rfl (λK hK=> ?_) AllReadyH.nil
   go_simp
   go_wp2_with ((go_at_call 262;refine mo htu.out λw4 h=>?_;have n0:w4.cell? (ba,0)=some (A0:Vl):=ha0.out _ (h.blkAt 1 rfl);have n1:w4.cell? (w.heap.size,1)=some (arg:Vl):=(h.blkAt 0 rfl).cell 1;replace h:=hid h))
   refine hK.out _ _ ⟨n0,n1⟩ (λhHeld=> ?_)
   clear hK K
   refine wpAnyH_done kR ?_ _
   go_wp2
   go_end0
   exact⟨rfl,h.out.tail⟩
 ·have h0: (2:Int)<=s.r-x.base:=hoff.out.2
  obtain⟨hdep,hcut⟩:=lp_cut hon2.out hs.out 2 (by have:=hoff.out.1;omega)
  replace hdep:=hid hdep
  replace hcut:=hid hcut
  go_wp2_with fail
  go_region_held (λw'=>w'.cell? (g,0)=some (c.gM:Vl)∧w'.cell? (c.gM,6)=some (c.gR:Vl)) (go_keep)
   ((first
     | (go_at_call 158;refine hdep.out.mono ?_;rintro e w5 ⟨rfl,rfl⟩)
     | (go_at_call 228;refine mo hcut.out λw5 h=>?_;have k0:=h.tail.tail.r0;have k6:=h.tail.tail.m6;replace h:=hid h)))
  all_goals go_wp2
  all_goals go_end0
  all_goals obtain rfl:=hR.out
  all_goals exact⟨rfl,h.out.tail⟩
 ·have h:=hid (lp_lay1 hon2.out hs.out (hrv.out 0) (hroom.out oM))
  rcases ho with rfl|rfl
  all_goals
   go_wp2_with fail
   refine mo h.out λw3 h=>?_
   replace h:=hid h
   go_wp2
   go_end0
   obtain rfl:=hR.out
   exact⟨rfl,h.out.tail.tail⟩
 ·obtain⟨f2,hf2⟩: ∃f:Int,(if hasB s.r 2 then(0:Int)else s.pr.un)=f:=⟨_,rfl⟩
  have hpk2:Calls prog 183 #[c.gR,(2:Int)] w2 (Quiet (.tuple #[(s.rtop 2),f2]) w2):=by
   obtain⟨gb,hi⟩:=hon2.out.tail.tail.im
   have h1:=k_peek hon2.out.tail.tail.sr hi hs.out.pr hs.out.rle 2
   unfold peekV at h1
   rw[hf2]at h1
   exact h1
  replace hpk2:=hid hpk2
  clear hf2
  go_wp2_with fail
  refine mo hpk2.out λw3 hB=>?_
  have h:=hid (lp_lay1 (hon2.out.below hB) hs.out (hrv.out 2) (hroom.out (by simp)))
  clear hB hon2 d02 d62 d12 d22
  go_wp2_with fail
  refine mo h.out λw4 h=>?_
  replace h:=hid h
  go_wp2
  go_end0
  obtain rfl:=hR.out
  exact⟨rfl,h.out.tail.tail⟩
 ·have h0: (1:Int)<=s.r-x.base:=hoff.out.2
  have hk:1<=s.r:=by have:=hoff.out.1;omega
  obtain⟨hdep,hcut⟩:=lp_cut hon2.out hs.out 1 hk
  replace hdep:=hid hdep
  replace hcut:=hid hcut
  go_wp2_with fail
  go_region_held (λw'=>w'.cell? (g,0)=some (c.gM:Vl)∧w'.cell? (c.gM,6)=some (c.gR:Vl)) (go_keep)
   ((first
     | (go_at_call 158;refine hdep.out.mono ?_;rintro e w5 ⟨rfl,rfl⟩)
     | (go_at_call 228;refine mo hcut.out λw5 h=>?_;have k0:=h.tail.tail.r0;have k6:=h.tail.tail.m6;replace h:=hid h)))
  all_goals replace h:=hid (lp_lay1 h.out (cutR_ok hs.out (s.r-1) oM) (hrv.out 0) (hroom.out (by simp)))
  all_goals go_wp2_with fail
  all_goals refine mo h.out λw4 h=>?_
  all_goals replace h:=hid h
  all_goals go_wp2
  all_goals go_end0
  all_goals obtain rfl:=hR.out
  all_goals exact⟨rfl,h.out.tail.tail⟩
theorem ctl_loops(op arg lit cells:Int)(q:Rn->Mt->Rs)(h1:6<=op)(h2:op<=15)(hf0: ∀x s,(q x s).f=0)(hq:PartOk 227 ⟨op,arg,lit,cells⟩ q):PartOk 212 ⟨op,arg,lit,cells⟩ q:=by
 intro c g x src s ba w F hs hx hv1 hv2 hask hb
 obtain⟨hon,b0,b1,b2,b3⟩:=p_box hb op arg lit cells
 have hl:=hon.callTail λF' hb' _ _=>hq c g x src s ba _ F' hs hx hv1 hv2 hask hb'
 rw[hf0]at hl⊢
 have e1: (op==1)=false:=by rw[beq_eq_false_iff_ne];omega
 have e2: (op==2)=false:=by rw[beq_eq_false_iff_ne];omega
 have e3: (op==3)=false:=by rw[beq_eq_false_iff_ne];omega
 have e4: (op==4)=false:=by rw[beq_eq_false_iff_ne];omega
 have e5: (op==5)=false:=by rw[beq_eq_false_iff_ne];omega
 have e16: (op==16)=false:=by rw[beq_eq_false_iff_ne];omega
 have e17: (op==17)=false:=by rw[beq_eq_false_iff_ne];omega
 have e18: (op==18)=false:=by rw[beq_eq_false_iff_ne];omega
 have e19: (op==19)=false:=by rw[beq_eq_false_iff_ne];omega
 have e20: (op==20)=false:=by rw[beq_eq_false_iff_ne];omega
 generalize q x s=R at *
 simp only[Inst.v]at hl
 show Calls prog 212 #[g,.agg #[op,arg,lit,cells],.slice ba (Code.wants op).1.toNat (Code.wants op).1.toNat] w (Got (.returned (.tuple #[])) (AllA (BlkA ba 3 (intsC (s.args (Code.wants op).1.toNat))::vL c g R.x src R.s)) F w)
 generalize intsC (s.args (Code.wants op).1.toNat)=ac at *
 generalize (Code.wants op).1.toNat=n at *
 replace hl:=hid hl
 clear hb hs hx hv1 hv2 hask hf0 hq hon h1 h2
 go_enter func212,ntmps212
 go_wp2_with fail
 refine mo hl.out λw1 h=>?_
 replace h:=hid h
 go_wp2
 go_end0
 exact⟨rfl,h.out.tail⟩
def clip(fuel:Int):Int:=max 0 (min fuel 1000000)
def Rn.start(mode fuel:Int):Rn:=⟨mode,clip fuel,0,0,false,false,0⟩
theorem start_ok(mode fuel:Int): (Rn.start mode fuel).Ok:=by
 have h:0<=clip fuel∧clip fuel<=1000000:=by unfold clip;omega
 exact⟨by show(0:Int)<=0;omega,by show(0:Int)<=512;omega,by show V64 0;unfold V64;omega,by show V64 0;unfold V64;omega,h.1,h.2⟩
def OldA(w0:World):Asr where
 holds w F:=(∀k,F k↔k<w0.heap.size)∧Below w0.heap.size w0 w
 lt h hk:=by
  have h1:=(h.1 _).1 hk
  have h2:=h.2.size
  omega
 kept h hk hT:=⟨h.1,Below.andKept h.2 hk (λk ht=>by
  rcases Nat.lt_or_ge k _ with h1|h1
  ·exact absurd ht (hT k ((h.1 k).2 h1))
  ·exact h1) (Nat.le_refl _)⟩
def OldF(w0:World):Nat->Prop:=λk=>k<w0.heap.size
theorem old_start(w0:World):On (OldF w0) w0 (AllA [OldA w0]) w0:=On.refl ⟨λk=>k<w0.heap.size,λ_=>False,⟨λ_=>Iff.rfl,Below.refl _ _⟩,λ_ h=>h,λ_ _ h=>h,λk=>⟨λh=> .inl h,λh=>h.elim id (λh=>h.elim)⟩⟩
theorem On.old{w0 W w:World}{F:Nat->Prop}{L:List Asr}(i:Nat)(h:On F w (AllA L) W)(hi:L[i]? = some (OldA w0)):Below w0.heap.size w0 W:=by
 obtain⟨F',hF⟩:=h.at_ i hi
 exact hF.2
def Vc.plus(c:Vc)(A:Asr):Vc:={ c with rest:=λe=>c.rest e ++ [A] }
end Vm
end Go.Proofs.YteaijdgnagkllaaGreatDoor
