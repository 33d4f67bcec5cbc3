/- Chapter 11. No condition. -/
import Derived.Test.YtilaogbkdbbdkaaGreatDoorOm
import Derived.Test.YtilaogbkdbbdkaaGreatDoorZ18
open Go.Proofs.Tryz
namespace Go.Proofs.YtilaogbkdbbdkaaGreatDoor
set_option linter.unusedVariables false
set_option maxHeartbeats 8000000
open Go.RowKit Go.Lib Go.Deep
namespace Vm
def mL(c:Vc)(s:Mt):List Asr:=jQb c s::av c.gI s.S::cS c.gI c.gD s.pd s.d::cS c.gI c.gR s.pr s.r::dF c.gT s.T::kD c.gI c.gS c.sfr c.sto s.hs s.ls::kD c.gI c.gK c.kfr c.kto s.hk s.lk::c.tl s.seen::c.rest s.ext
theorem L6(l:List UInt8):V64 (ofB l):=by unfold ofB V64 wrap64;omega
theorem lX(S:Img)(m a:Int):V64 (S.aP m a):=by
 unfold Img.aP
 split
 ·exact L6 _
 ·unfold V64;omega
theorem fO(S:Img)(fr d:Nat)(n:Int):V64 (lc S fr d n):=by
 unfold lc
 split
 ·exact lX _ _ _
 ·unfold V64;omega
theorem aU(n:Int):V64 (wrap64 n):=by unfold V64 wrap64;omega
end Vm
set_option maxRecDepth 100000
namespace Vm
section
variable {w w':World}{F:Nat->Prop}{gI gb:Nat}{S:Img}
def Ll(S:Img):Pl:=⟨S.beg 4,S.d/8,1,2⟩
def LQ(S:Img):Pl:=⟨S.beg 5,S.r/8,3,4⟩
def CD(gI:Nat)(p:Pl)(e:Ending)(B:Asr):Prop:= ∃g,e = .returned (.tuple #[.pointer (some ⟨g,0,none⟩),.int .i64 0])∧B=cS gI g p 0
theorem JL(hi:b9 w gI gb S)(hd:S.d<=4096):Calls prog 56 #[.pointer (some ⟨gI,0,none⟩),.int .i64 4] w (cz (CD gI (Ll S)) Nob w):=by
 have Re:=(On.refl (A:=aa []) (F:=Nob) (w:=w) (λ_ h=>h)).box (ix gI ⟨0,0,1,2⟩ 0) 112
 have Sj:=j5 (w:=w.alloc (.cells (ix gI ⟨0,0,1,2⟩ 0) 112)) ⟨hi.blk.alloc _,hi.row.alloc _,hi.ok⟩ 4 oM oM
 have e5:S.beg (4+1)=S.beg 4+S.d:=by simp[Img.beg]
 have Zs:S.beg 4<=143360:=Nat.le_trans (S.bN oM oM oM) hi.ok.small
 rw[e5]at Sj
 have hp:Ll S= ⟨S.beg 4,S.d/8,1,2⟩:=rfl
 rw[hp]
 generalize S.beg 4=b at *
 generalize S.d=d at *
 have Rj:ix gI ⟨0,0,1,2⟩ 0=#[.pointer (some ⟨gI,0,none⟩),.int .i64 0,.int .i64 0,.int .i64 0,.int .i64 1,.int .i64 2]:=rfl
 rw[Rj]at Sj Re
 replace⟨Sj,Re⟩:=iB Sj Re
 clear hi hp Rj e5
 go_enter func56,ntmps56
 go_wp2_with fail
 refine Sj.out.mono ?_
 rintro e w1 ⟨rfl,n,rfl⟩
 have so:=Re.out.drewN n
 have f1:=(so.ab 0 rfl).frozen 1
 have f2:=(so.ab 0 rfl).frozen 2
 have c1: ((w.alloc (.cells #[.pointer (some ⟨gI,0,none⟩),.int .i64 0,.int .i64 0,.int .i64 0,.int .i64 1,.int .i64 2] 112)).drewN n).cell? ⟨w.heap.size,1,none⟩=some (.int .i64 0):=(so.ab 0 rfl).cell 1
 have c2: ((w.alloc (.cells #[.pointer (some ⟨gI,0,none⟩),.int .i64 0,.int .i64 0,.int .i64 0,.int .i64 1,.int .i64 2] 112)).drewN n).cell? ⟨w.heap.size,2,none⟩=some (.int .i64 0):=(so.ab 0 rfl).cell 2
 have hq: ((b:Int) + (d:Int) - (b:Int)) /8= ((d/8:Nat):Int):=by omega
 have Sb: ((#[.pointer (some ⟨gI,0,none⟩),.int .i64 0,.int .i64 0,.int .i64 0,.int .i64 1,.int .i64 2]:Array Value).setIfInBounds 1 (.int .i64 (b:Int))).setIfInBounds 2 (.int .i64 (((b:Int) + (d:Int) - (b:Int)) /8))=ix gI ⟨b,d/8,1,2⟩ 0:=by rw[hq];rfl
 have RL:On Nob w (aa [ae w.heap.size 112 (((#[.pointer (some ⟨gI,0,none⟩),.int .i64 0,.int .i64 0,.int .i64 0,.int .i64 1,.int .i64 2]:Array Value).setIfInBounds 1 (.int .i64 (b:Int))).setIfInBounds 2 (.int .i64 (((b:Int) + (d:Int) - (b:Int)) /8)))]) _:=(so.setAt 0 rfl 1 (.int .i64 (b:Int))).setAt 0 rfl 2 (.int .i64 (((b:Int) + (d:Int) - (b:Int)) /8))
 rw[Sb]at RL
 replace RL:=hid RL
 clear so hq Sb
 go_wp2
 go_ret2
 exact⟨_,⟨w.heap.size,rfl,rfl⟩,RL.out.nX⟩
theorem Kb(hi:b9 w gI gb S)(hd:S.r<=4096):Calls prog 56 #[.pointer (some ⟨gI,0,none⟩),.int .i64 5] w (cz (CD gI (LQ S)) Nob w):=by
 have Re:=(On.refl (A:=aa []) (F:=Nob) (w:=w) (λ_ h=>h)).box (ix gI ⟨0,0,3,4⟩ 0) 112
 have Sj:=j5 (w:=w.alloc (.cells (ix gI ⟨0,0,3,4⟩ 0) 112)) ⟨hi.blk.alloc _,hi.row.alloc _,hi.ok⟩ 5 oM oM
 have e5:S.beg (5+1)=S.beg 5+S.r:=by simp[Img.beg]
 have Zs:S.beg 5<=143360:=Nat.le_trans (S.bN oM oM oM) hi.ok.small
 rw[e5]at Sj
 have hp:LQ S= ⟨S.beg 5,S.r/8,3,4⟩:=rfl
 rw[hp]
 generalize S.beg 5=b at *
 generalize S.r=d at *
 have Rj:ix gI ⟨0,0,3,4⟩ 0=#[.pointer (some ⟨gI,0,none⟩),.int .i64 0,.int .i64 0,.int .i64 0,.int .i64 3,.int .i64 4]:=rfl
 rw[Rj]at Sj Re
 replace⟨Sj,Re⟩:=iB Sj Re
 clear hi hp Rj e5
 go_enter func56,ntmps56
 go_wp2_with fail
 refine Sj.out.mono ?_
 rintro e w1 ⟨rfl,n,rfl⟩
 have so:=Re.out.drewN n
 have f1:=(so.ab 0 rfl).frozen 1
 have f2:=(so.ab 0 rfl).frozen 2
 have c1: ((w.alloc (.cells #[.pointer (some ⟨gI,0,none⟩),.int .i64 0,.int .i64 0,.int .i64 0,.int .i64 3,.int .i64 4] 112)).drewN n).cell? ⟨w.heap.size,1,none⟩=some (.int .i64 0):=(so.ab 0 rfl).cell 1
 have c2: ((w.alloc (.cells #[.pointer (some ⟨gI,0,none⟩),.int .i64 0,.int .i64 0,.int .i64 0,.int .i64 3,.int .i64 4] 112)).drewN n).cell? ⟨w.heap.size,2,none⟩=some (.int .i64 0):=(so.ab 0 rfl).cell 2
 have hq: ((b:Int) + (d:Int) - (b:Int)) /8= ((d/8:Nat):Int):=by omega
 have Sb: ((#[.pointer (some ⟨gI,0,none⟩),.int .i64 0,.int .i64 0,.int .i64 0,.int .i64 3,.int .i64 4]:Array Value).setIfInBounds 1 (.int .i64 (b:Int))).setIfInBounds 2 (.int .i64 (((b:Int) + (d:Int) - (b:Int)) /8))=ix gI ⟨b,d/8,3,4⟩ 0:=by rw[hq];rfl
 have RL:On Nob w (aa [ae w.heap.size 112 (((#[.pointer (some ⟨gI,0,none⟩),.int .i64 0,.int .i64 0,.int .i64 0,.int .i64 3,.int .i64 4]:Array Value).setIfInBounds 1 (.int .i64 (b:Int))).setIfInBounds 2 (.int .i64 (((b:Int) + (d:Int) - (b:Int)) /8)))]) _:=(so.setAt 0 rfl 1 (.int .i64 (b:Int))).setAt 0 rfl 2 (.int .i64 (((b:Int) + (d:Int) - (b:Int)) /8))
 rw[Sb]at RL
 replace RL:=hid RL
 clear so hq Sb
 go_wp2
 go_ret2
 exact⟨_,⟨w.heap.size,rfl,rfl⟩,RL.out.nX⟩
end
theorem IA(s:Mt)(n:Nat): ∀v∈s.args n,V64 v:=by
 intro v hv
 unfold Mt.args at hv
 obtain⟨j,_,rfl⟩:=List.mem_map.1 hv
 exact fO _ _ _ _
theorem aN(s:Mt)(n j:Nat):V64 (ar s n j):=by
 unfold ar
 by_cases h:j<n
 ·have h2: (s.args n).getD j 0=s.top ((n-1-j:Nat):Int):=by simp[Mt.args,h]
  rw[h2]
  exact fO _ _ _ _
 ·have h2: (s.args n).getD j 0=0:=by simp[Mt.args,h]
  rw[h2]
  unfold V64;omega
section
variable {w w':World}{F:Nat->Prop}{c:Vc}{g:Nat}{x:Rn}{src:Value}{s:Mt}
theorem kZ(m:Nat){L:List Asr}(hm:m<=L.length)(hL:L.drop m=vL c g x src s)(h:On F w (aa L) w')(hs:s.Ok)(l:List Int)(hl: ∀v∈l,V64 v)
 (j:Nat) (hj:j<m) (rb:Nat) (An:L[j]? = some (ae rb 3 (ag l))) (n:Nat) (hn:n=l.length) (OF:l.length<=s.pr.rm-s.r):
 Calls prog 60 #[c.gR,.slice rb n n] w' (Got (.returned (.int .i64 0)) (aa (L.take m++vL c g x src (s.az l))) F w):=by
 subst hn
 refine h.bj m hm λF' hb Wf _=> ?_
 rw[hL]at hb
 obtain⟨F3,hB,SF⟩:=Wf j _ hj An
 obtain⟨h1,h2⟩:=aA rb l _ _ hB
 exact C3 (On.refl hb) hs l hl (some ⟨rb,0,none⟩) l.length h1 (λa ha=>⟨λhk=>SF _ (h2 a ha) hk,by
  obtain rfl:a= ⟨rb,0,none⟩:=by injection ha with ha;exact ha.symm
  exact hB.1.lt⟩) OF
end
theorem oe{w:World}{F:Nat->Prop}{c:Vc}{g:Nat}{x:Rn}{src:Value}{s:Mt}{ba:Nat}{r:Array Value}(hb: (aa (ae ba 3 r::vL c g x src s)).holds w F)(op arg lit cells:Int):
 On F w (aa (ae w.heap.size 164 #[op,arg,lit,cells]::ae ba 3 r::vL c g x src s)) (w.alloc (.cells #[op,arg,lit,cells] 164))∧(w.alloc (.cells #[op,arg,lit,cells] 164)).cell? (w.heap.size,0)=some (op:Vl)∧(w.alloc (.cells #[op,arg,lit,cells] 164)).cell? (w.heap.size,1)=some (arg:Vl)∧(w.alloc (.cells #[op,arg,lit,cells] 164)).cell? (w.heap.size,2)=some (lit:Vl)∧(w.alloc (.cells #[op,arg,lit,cells] 164)).cell? (w.heap.size,3)=some (cells:Vl):=by
 have so:=(On.refl hb).box #[op,arg,lit,cells] 164
 have h:=so.ab 0 rfl
 exact⟨so,h.cell 0,h.cell 1,h.cell 2,h.cell 3⟩
theorem Ih(arg lit cells:Int):dj 102 ⟨4,arg,lit,cells⟩ (λx s=>⟨0,{ x with next:=arg },s⟩):=by
 intro c g x src s ba w F hs hx RM Ry IT hb
 obtain⟨Q8,hn⟩:=IT.wn 0
 simp only[Q8]at hb⊢
 obtain⟨so,b0,b1,-⟩:=oe hb 4 arg lit cells
 show Calls prog 102 #[g,.agg #[(4:Int),arg,lit,cells],.slice ba 0 0] w (Got (.returned (.tuple #[])) (aa (ae ba 3 (ag (s.args 0))::vL c g ({ x with next:=arg }) src (s))) F w)
 have c4:=so.tail.tail.r4
 have f4:=so.tail.tail.rf 4
 have ON:=so.setAt 2 rfl 4 (.int .i64 arg)
 replace ON:=hid ON
 generalize ag (s.args 0)=ac at *
 clear hb hs hx IT so Q8 hn
 go_enter func102,ntmps102
 go_wp2
 go_end0
 exact⟨rfl,ON.out.tail⟩
theorem H4(arg lit cells:Int):dj 102 ⟨3,arg,lit,cells⟩ (λx s=>⟨0,{ x with next:=arg },s.az [x.next]⟩):=by
 intro c g x src s ba w F hs hx RM Ry IT hb
 obtain⟨Q8,hn⟩:=IT.wn 0
 simp only[Q8]at hb⊢
 obtain⟨so,b0,b1,-⟩:=oe hb 3 arg lit cells
 show Calls prog 102 #[g,.agg #[(3:Int),arg,lit,cells],.slice ba 0 0] w (Got (.returned (.tuple #[])) (aa (ae ba 3 (ag (s.args 0))::vL c g ({ x with next:=arg }) src (s.az [x.next]))) F w)
 have OF:1<=s.pr.rm-s.r:=by
  have h:=IT.CA
  have e:returns 3 arg s.same= (0,1):=rfl
  simp only[e]at h
  omega
 have d0:=so.tail.tail.r0
 have d4:=so.tail.tail.r4
 have d6:=so.tail.tail.m6
 have Re:=(so.box #[x.next] 3).drew
 have hz: (w.alloc (.cells #[(3:Int),arg,lit,cells] 164)).heap.size=w.heap.size+1:=by simp
 rw[hz]at Re
 have RE:=kZ (c:=c) (g:=g) (x:=x) (src:=src) (s:=s) 3 (by simp) rfl Re hs [x.next] (λv hv=>by rw[List.mem_singleton.1 hv];exact hx.next) 0 oM (w.heap.size+1) rfl 1 rfl OF
 have R1:=eU hs [x.next] OF
 have Zp:0<=(s.az [x.next]).d:=hn
 generalize s.az [x.next]=s1 at *
 generalize ag (s.args 0)=ac at *
 have Rj: ∀W,On F w (aa (ae w.heap.size 164 #[(3:Int),arg,lit,cells]::ae ba 3 ac::vL c g (x) src (s1))) W->W.cell? (g,4)=some (x.next:Vl)∧W.frozen? (g,4)=false∧W.cell? (w.heap.size,0)=some (.int .i64 3)∧W.cell? (w.heap.size,1)=some (arg:Vl)∧w.heap.size≠g∧W.cell? (g,0)=some (c.gM:Vl)∧W.cell? (c.gM,6)=some (c.gR:Vl):=λW h=>⟨h.tail.tail.r4,h.tail.tail.rf 4,(h.ab 0 rfl).cell 0,(h.ab 0 rfl).cell 1,h.rY 0 2 (by decide) rfl rfl,h.tail.tail.r0,h.tail.tail.m6⟩
 replace⟨RE,Rj⟩:=iB RE Rj
 clear hb hs hx IT Q8 hn hz Re OF R1 Zp so
 go_enter func102,ntmps102
 go_wp2_with fail
 go_region_held (λw'=>w'.cell? (g,0)=some (c.gM:Vl)∧w'.cell? (c.gM,6)=some (c.gR:Vl)∧w'.cell? (g,4)=some (x.next:Vl)) (go_keep)
  ((go_at_call 60;refine mo RE.out λw1 h=>?_;have h5:On F w (aa (ae w.heap.size 164 #[(3:Int),arg,lit,cells]::ae ba 3 ac::vL c g (x) src (s1))) w1:=On.tail h;obtain⟨k4,z4,k0,k1,RP,n0,n6⟩:=Rj.out _ h5;have h6:=h5.setAt 2 rfl 4 (.int .i64 arg);clear h;replace h5:=hid h5;replace h6:=hid h6;replace RP:=hid RP))
 go_wp2
 go_end0
 exact⟨rfl,h6.out.tail⟩
theorem xX(arg lit cells:Int):dj 102 ⟨16,arg,lit,cells⟩ (λx s=>⟨0,{ x with next:=ar s 1 0 },((s.az [x.next]).ak 1 []).2⟩):=by
 intro c g x src s ba w F hs hx RM Ry IT hb
 obtain⟨Q8,hn⟩:=IT.wn 1
 simp only[Q8]at hb⊢
 obtain⟨so,b0,b1,-⟩:=oe hb 16 arg lit cells
 show Calls prog 102 #[g,.agg #[(16:Int),arg,lit,cells],.slice ba 1 1] w (Got (.returned (.tuple #[])) (aa (ae ba 3 (ag (s.args 1))::vL c g ({ x with next:=ar s 1 0 }) src (((s.az [x.next]).ak 1 []).2))) F w)
 have OF:1<=s.pr.rm-s.r:=by
  have h:=IT.CA
  have e:returns 16 arg s.same= (0,1):=rfl
  simp only[e]at h
  omega
 have WJ: ∀W,Blk W ba 3 (ag (s.args 1))->W.cell? (ba,0)=some ((ar s 1 0):Vl):=λW hW=>aj hW oM
 have d0:=so.tail.tail.r0
 have d4:=so.tail.tail.r4
 have d6:=so.tail.tail.m6
 have Re:=(so.box #[x.next] 3).drew
 have hz: (w.alloc (.cells #[(16:Int),arg,lit,cells] 164)).heap.size=w.heap.size+1:=by simp
 rw[hz]at Re
 have RE:=kZ (c:=c) (g:=g) (x:=x) (src:=src) (s:=s) 3 (by simp) rfl Re hs [x.next] (λv hv=>by rw[List.mem_singleton.1 hv];exact hx.next) 0 oM (w.heap.size+1) rfl 1 rfl OF
 have R1:=eU hs [x.next] OF
 have Zp:1<=(s.az [x.next]).d:=hn
 generalize s.az [x.next]=s1 at *
 generalize ar s 1 0=A0 at *
 generalize ag (s.args 1)=ac at *
 have Rj: ∀W,On F w (aa (ae w.heap.size 164 #[(16:Int),arg,lit,cells]::ae ba 3 ac::vL c g (x) src (s1))) W->W.cell? (g,4)=some (x.next:Vl)∧W.frozen? (g,4)=false∧W.cell? (w.heap.size,0)=some (.int .i64 16)∧W.cell? (w.heap.size,1)=some (arg:Vl)∧w.heap.size≠g∧W.cell? (g,0)=some (c.gM:Vl)∧W.cell? (c.gM,6)=some (c.gR:Vl):=λW h=>⟨h.tail.tail.r4,h.tail.tail.rf 4,(h.ab 0 rfl).cell 0,(h.ab 0 rfl).cell 1,h.rY 0 2 (by decide) rfl rfl,h.tail.tail.r0,h.tail.tail.m6⟩
 have Ro:=λW (h:On F w (aa (ae w.heap.size 164 #[(16:Int),arg,lit,cells]::ae ba 3 ac::vL c g ({ x with next:=arg }) src (s1))) W)=>jS (c:=c) (g:=g) (x:={ x with next:=arg }) (src:=src) (s:=s1) 2 (by simp) rfl h R1 1 Zp
 generalize (s1.ak 1 []).2=s2 at *
 replace⟨RE,Rj,Ro,WJ⟩:=iD RE Rj Ro WJ
 clear hb hs hx IT Q8 hn hz Re OF R1 Zp so
 go_enter func102,ntmps102
 go_wp2_with fail
 go_region_held (λw'=>w'.cell? (g,0)=some (c.gM:Vl)∧w'.cell? (c.gM,6)=some (c.gR:Vl)∧w'.cell? (g,4)=some (x.next:Vl)) (go_keep)
  ((go_at_call 60;refine mo RE.out λw1 h=>?_;have h5:On F w (aa (ae w.heap.size 164 #[(16:Int),arg,lit,cells]::ae ba 3 ac::vL c g (x) src (s1))) w1:=On.tail h;obtain⟨k4,z4,k0,k1,RP,n0,n6⟩:=Rj.out _ h5;have h6:=h5.setAt 2 rfl 4 (.int .i64 arg);clear h;replace h5:=hid h5;replace h6:=hid h6;replace RP:=hid RP))
 replace Ro:=hid (Ro.out _ h6.out)
 have hfK:=RP.out
 go_wp2_with fail
 refine mo Ro.out λw2 h=>?_
 have h7:On F w (aa (ae w.heap.size 164 #[(16:Int),arg,lit,cells]::ae ba 3 ac::vL c g ({ x with next:=arg }) src (s2))) w2:=h
 have p4:=h7.tail.tail.r4
 have q4:=h7.tail.tail.rf 4
 have a0:=WJ.out _ (h7.ab 1 rfl)
 have h8:=h7.setAt 2 rfl 4 (.int .i64 A0)
 replace h8:=hid h8
 clear h h7
 go_wp2
 go_end0
 exact⟨rfl,h8.out.tail⟩
theorem Ji(arg lit cells:Int):dj 102 ⟨5,arg,lit,cells⟩ (λx s=>⟨0,if ar s 1 0=0 then { x with next:=arg } else x,(s.ak 1 []).2⟩):=by
 intro c g x src s ba w F hs hx RM Ry IT hb
 obtain⟨Q8,hn⟩:=IT.wn 1
 simp only[Q8]at hb⊢
 obtain⟨so,b0,b1,-⟩:=oe hb 5 arg lit cells
 show Calls prog 102 #[g,.agg #[(5:Int),arg,lit,cells],.slice ba 1 1] w (Got (.returned (.tuple #[])) (aa (ae ba 3 (ag (s.args 1))::vL c g (if ar s 1 0=0 then { x with next:=arg } else x) src ((s.ak 1 []).2))) F w)
 have WJ: ∀W,Blk W ba 3 (ag (s.args 1))->W.cell? (ba,0)=some ((ar s 1 0):Vl):=λW hW=>aj hW oM
 have Ro:=jS (c:=c) (g:=g) (x:=x) (src:=src) (s:=s) 2 (by simp) rfl so hs 1 hn
 generalize (s.ak 1 []).2=s1 at *
 generalize ar s 1 0=A0 at *
 generalize ag (s.args 1)=ac at *
 have Rj: ∀W,On F w (aa (ae w.heap.size 164 #[(5:Int),arg,lit,cells]::ae ba 3 ac::vL c g (x) src (s1))) W->W.cell? (g,4)=some (x.next:Vl)∧W.frozen? (g,4)=false∧W.cell? (ba,0)=some (A0:Vl)∧W.cell? (w.heap.size,1)=some (arg:Vl):=λW h=>⟨h.tail.tail.r4,h.tail.tail.rf 4,WJ _ (h.ab 1 rfl),(h.ab 0 rfl).cell 1⟩
 replace⟨Ro,Rj⟩:=iB Ro Rj
 clear hb hs hx IT Q8 hn WJ so
 by_cases hz:A0=0
 ·have ez: (A0==0)=true:=by simpa using hz
  rw[if_pos hz]
  clear hz
  go_enter func102,ntmps102
  go_wp2_with fail
  refine mo Ro.out λw1 h=>?_
  have h5:On F w (aa (ae w.heap.size 164 #[(5:Int),arg,lit,cells]::ae ba 3 ac::vL c g (x) src (s1))) w1:=h
  obtain⟨k4,z4,k0,k1⟩:=Rj.out _ h5
  have h6:=h5.setAt 2 rfl 4 (.int .i64 arg)
  clear h h5
  replace h6:=hid h6
  go_wp2
  go_end0
  exact⟨rfl,h6.out.tail⟩
 ·have ez: (A0==0)=false:=by simpa using hz
  rw[if_neg hz]
  clear hz
  go_enter func102,ntmps102
  go_wp2_with fail
  refine mo Ro.out λw1 h=>?_
  have h5:On F w (aa (ae w.heap.size 164 #[(5:Int),arg,lit,cells]::ae ba 3 ac::vL c g (x) src (s1))) w1:=h
  obtain⟨k4,z4,k0,k1⟩:=Rj.out _ h5
  replace h5:=hid h5
  clear h
  go_wp2
  go_end0
  exact⟨rfl,h5.out.tail⟩
theorem zu(arg lit cells:Int):dj 102 ⟨17,arg,lit,cells⟩ (λx s=>if arg=0 then back { x with next:=arg } (s.ak 0 [wrap64 (x.pc+16)]).2 else⟨0,{ x with next:=arg },(s.ak 0 [wrap64 (x.pc+16)]).2⟩):=by
 intro c g x src s ba w F hs hx RM Ry IT hb
 obtain⟨Q8,hn⟩:=IT.wn 0
 simp only[Q8]at hb⊢
 obtain⟨so,b0,b1,-⟩:=oe hb 17 arg lit cells
 have OF:1<=s.pd.rm- (s.d-0):=by
  have h1:=IT.room
  have e1: (Code.ai 17).1=0:=by decide
  have e2: (Code.ai 17).2=1:=by decide
  simp[e1,e2]at h1
  omega
 have d3:=so.tail.tail.r3
 have Re:=so.box #[(wrap64 (x.pc+16))] 3
 have hz: (w.alloc (.cells #[(17:Int),arg,lit,cells] 164)).heap.size=w.heap.size+1:=by simp
 rw[hz]at Re
 have Ro:=ir (c:=c) (g:=g) (x:=x) (src:=src) (s:=s) 3 (by simp) rfl Re hs 0 (Nat.zero_le _) [wrap64 (x.pc+16)] (λv hv=>by rw[List.mem_singleton.1 hv];exact aU _) 0 oM (w.heap.size+1) rfl OF
 have R1: (s.ak 0 [wrap64 (x.pc+16)]).2.Ok:=by
  unfold Mt.ak
  rw[if_neg (by simp;omega)]
  exact nO (nF hs (s.d-0) oM) _ OF
 have Ue: (s.ak 0 [wrap64 (x.pc+16)]).2.r=s.r:=by unfold Mt.ak;split<;>rfl
 have h0:arg=0->0<s.r:=λh=>by
  have h1:=IT.off
  have h2:=hx.base
  subst h
  have e: (returns 17 0 s.same).1=1:=rfl
  simp only[e]at h1
  omega
 rw[<-Ue]at h0
 generalize (s.ak 0 [wrap64 (x.pc+16)]).2=s1 at *
 show Calls prog 102 #[g,.agg #[(17:Int),arg,lit,cells],.slice ba 0 0] w (Got (bp (if arg=0 then back { x with next:=arg } s1 else⟨0,{ x with next:=arg },s1⟩).f) (aa (ae ba 3 (ag (s.args 0))::vL c g (if arg=0 then back { x with next:=arg } s1 else⟨0,{ x with next:=arg },s1⟩).x src (if arg=0 then back { x with next:=arg } s1 else⟨0,{ x with next:=arg },s1⟩).s)) F w)
 generalize ag (s.args 0)=ac at *
 have Rj: ∀W,On F w (aa (ae w.heap.size 164 #[(17:Int),arg,lit,cells]::ae ba 3 ac::vL c g (x) src (s1))) W->W.cell? (g,4)=some (x.next:Vl)∧W.frozen? (g,4)=false∧W.cell? (w.heap.size,1)=some (arg:Vl)∧w.heap.size≠g:=λW h=>⟨h.tail.tail.r4,h.tail.tail.rf 4,(h.ab 0 rfl).cell 1,h.rY 0 2 (by decide) rfl rfl⟩
 have Vu:=λ(h:arg=0) W (hW:On F w (aa (ae w.heap.size 164 #[(17:Int),arg,lit,cells]::ae ba 3 ac::vL c g ({ x with next:=arg }) src (s1))) W)=>hW.bj 2 (by simp) λF'' SG _ _=>BJ SG R1 (h0 h)
 replace⟨Ro,Rj,Vu⟩:=iC Ro Rj Vu
 clear hb hx IT Q8 hn so Re hz OF R1 Ue hs
 by_cases hz:arg=0
 ·have ez: (arg==0)=true:=by simpa using hz
  rw[if_pos hz]
  have hbf: (back { x with next:=arg } s1).f=0:=by unfold back;rw[if_neg (by have:=h0 hz;omega)]
  rw[hbf]
  have Vu:=Vu.out hz
  show Calls _ _ _ _ (Got (.returned (.tuple #[])) _ _ _)
  generalize back { x with next:=arg } s1=R at *
  replace Vu:=hid Vu
  clear hz h0 hbf
  go_enter func102,ntmps102
  go_wp2_with fail
  refine mo Ro.out λw1 h=>?_
  have h5:On F w (aa (ae w.heap.size 164 #[(17:Int),arg,lit,cells]::ae ba 3 ac::vL c g (x) src (s1))) w1:=h.tail
  obtain⟨k4,z4,k1,RP⟩:=Rj.out _ h5
  have h6:=h5.setAt 2 rfl 4 (.int .i64 arg)
  replace Vu:=hid (Vu.out _ h6)
  clear h h5
  replace h6:=hid h6
  go_wp2_with fail
  refine mo Vu.out λw2 h=>?_
  replace h:=hid h
  go_wp2
  go_end0
  exact⟨rfl,h.out.tail⟩
 ·have ez: (arg==0)=false:=by simpa using hz
  rw[if_neg hz]
  clear hz h0 Vu
  show Calls _ _ _ _ (Got (.returned (.tuple #[])) _ _ _)
  go_enter func102,ntmps102
  go_wp2_with fail
  refine mo Ro.out λw1 h=>?_
  have h5:On F w (aa (ae w.heap.size 164 #[(17:Int),arg,lit,cells]::ae ba 3 ac::vL c g (x) src (s1))) w1:=h.tail
  obtain⟨k4,z4,k1,RP⟩:=Rj.out _ h5
  have h6:=h5.setAt 2 rfl 4 (.int .i64 arg)
  clear h h5
  replace h6:=hid h6
  go_wp2
  go_end0
  exact⟨rfl,h6.out.tail⟩
theorem Iq(arg lit cells:Int):dj 102 ⟨19,arg,lit,cells⟩ (λx s=>aJ 0 [wrap64 (x.pc+8),arg] x s):=by
 intro c g x src s ba w F hs hx RM Ry IT hb
 obtain⟨Q8,hn⟩:=IT.wn 0
 simp only[Q8]at hb⊢
 obtain⟨so,b0,b1,-⟩:=oe hb 19 arg lit cells
 have OF:2<=s.pd.rm- (s.d-0):=by
  have h1:=IT.room
  have e1: (Code.ai 19).1=0:=by decide
  have e2: (Code.ai 19).2=2:=by decide
  simp[e1,e2]at h1
  omega
 have d3:=so.tail.tail.r3
 have Re:=(so.box #[(wrap64 (x.pc+8)),arg] 3).drew
 have hz: (w.alloc (.cells #[(19:Int),arg,lit,cells] 164)).heap.size=w.heap.size+1:=by simp
 rw[hz]at Re
 have Ro:=ir (c:=c) (g:=g) (x:=x) (src:=src) (s:=s) 3 (by simp) rfl Re hs 0 (Nat.zero_le _) [wrap64 (x.pc+8),arg] (λv hv=>by
  simp only[List.mem_cons,List.mem_nil_iff,or_false]at hv
  rcases hv with rfl|rfl
  ·exact aU _
  ·exact RM) 0 oM (w.heap.size+1) rfl OF
 have hf: (aJ 0 [wrap64 (x.pc+8),arg] x s).f=0:=sM OF
 rw[hf]
 show Calls prog 102 #[g,.agg #[(19:Int),arg,lit,cells],.slice ba 0 0] w (Got (.returned (.tuple #[])) (aa (ae ba 3 (ag (s.args 0))::vL c g (x) src ((s.ak 0 [wrap64 (x.pc+8),arg]).2))) F w)
 generalize (s.ak 0 [wrap64 (x.pc+8),arg]).2=s1 at *
 generalize ag (s.args 0)=ac at *
 have Ro:Calls prog 103 #[g,(0:Int),.slice (some ⟨w.heap.size+1,0,none⟩) 2 2] ((w.alloc (.cells #[(19:Int),arg,lit,cells] 164)).alloc (.cells #[(IntKind.i64.wrap (x.pc+8)),arg] 3)).drew (Got (.returned (.tuple #[])) (aa (ae (w.heap.size+1) 3 #[(wrap64 (x.pc+8)),arg]::ae w.heap.size 164 #[(19:Int),arg,lit,cells]::ae ba 3 ac::vL c g x src s1)) F w):=by
  rw[IntWalk.i64_left]
  exact Ro
 replace Ro:=hid Ro
 clear hb hs hx IT Q8 hn hz Re OF hf so
 go_enter func102,ntmps102
 go_wp2_with fail
 go_region_held (λw'=>w'.cell? (g,3)=some (x.pc:Vl)∧w'.cell? (w.heap.size,1)=some (arg:Vl)) (go_keep)
  ((go_at_call 103;refine mo Ro.out λw1 h=>?_;have h5:On F w (aa (ae (w.heap.size+1) 3 #[(wrap64 (x.pc+8)),arg]::ae w.heap.size 164 #[(19:Int),arg,lit,cells]::ae ba 3 ac::vL c g x src s1)) w1:=h;have n3:=h5.tail.tail.tail.r3;have n1:w1.cell? (w.heap.size,1)=some (arg:Vl):=(h5.ab 1 rfl).cell 1;replace h5:=hid h5;clear h))
 go_wp2
 go_end0
 exact⟨rfl,h5.out.tail.tail⟩
theorem yj(arg lit cells:Int):dj 102 ⟨20,arg,lit,cells⟩ (λx s=>⟨16,x,s⟩):=by
 intro c g x src s ba w F hs hx RM Ry IT hb
 obtain⟨Q8,hn⟩:=IT.wn 0
 simp only[Q8]at hb⊢
 obtain⟨so,b0,b1,-⟩:=oe hb 20 arg lit cells
 show Calls prog 102 #[g,.agg #[(20:Int),arg,lit,cells],.slice ba 0 0] w (Got (.panicked [flt 16]) (aa (ae ba 3 (ag (s.args 0))::vL c g (x) src (s))) F w)
 generalize ag (s.args 0)=ac at *
 replace so:=hid so
 clear hb hs hx IT Q8 hn
 go_enter func102,ntmps102
 go_wp2
 exact⟨rfl,rfl,so.out.tail⟩
def dS(s:Mt):Dc:=⟨3,s.hs.toNat,s.ls.toNat⟩
structure Dcs(c:Vc)(src:Value)(s:Mt):Prop where
 h:0<=s.hs
 l:0<=s.ls
 at8:At8 s.S (dS s) c.sfr c.sto
def Mt.bq(s:Mt)(S':Img)(D':Dc):Mt:={ s with S:=S',hs:=(D'.h:Int),ls:=(D'.l:Int) }
section
variable {w w':World}{F:Nat->Prop}{c:Vc}{g:Nat}{x:Rn}{src:Value}{s:Mt}{B:Asr}{gI fr en:Nat}{D:Dc}{S:Img}
theorem Dcs.dc(h:Dcs c src s):kD c.gI c.gS c.sfr c.sto s.hs s.ls=Rk c.gI c.gS c.sfr c.sto (dS s):=by
 unfold Rk dS
 rw[Int.toNat_of_nonneg h.h,Int.toNat_of_nonneg h.l]
theorem Dcs.call{f:FuncId}{args:Array Value}{e0:Ending}{S':Img}{D':Dc}(hp:Dcs c src s)(h:On F w (aa (B::vL c g x src s)) w')
 (hc: ∀F',(aa [Rk c.gI c.gS c.sfr c.sto (dS s),av c.gI s.S]).holds w' F'->Calls prog f args w' (Got e0 (aa [Rk c.gI c.gS c.sfr c.sto D',av c.gI S']) F' w')):
 Calls prog f args w' (Got e0 (aa (B::vL c g x src (s.bq S' D'))) F w):=
 h.cn 7 3 (by decide) (congrArg some hp.dc) rfl hc
theorem Qe(X:Int):IntKind.u8.wrap X= ((UInt8.ofNat (X % 256).toNat).toNat:Int):=by
 have h1:IntKind.u8.wrap X=X % 256:=by simp[IntKind.wrap,IntKind.bits,IntKind.signed]
 rw[h1,UInt8.toNat_ofNat']
 omega
def byteOf(X:Int):UInt8:=UInt8.ofNat (X % 256).toNat
theorem l6(X:Int): ((byteOf X).toNat:Int)=IntKind.u8.wrap X:=(Qe X).symm
theorem Ly(hb: (aa [Rk gI g fr en D,av gI S]).holds w F)(h8:At8 S D fr en)(n:Int)(hn:V64 n):
 Calls prog 154 #[g,n] w (Got (.returned (D.hU S n)) (aa [Rk gI g fr en (D.jQf S n),av gI S]) F w):=by
 have so:=On.refl hb
 have hs:Blk w g 123 (cm gI fr en (D.h:Int) (D.l:Int)):=so.ab 0 rfl
 have c1:w.cell? (g,1)=some ((fr:Int):Vl):=hs.cell 1
 have c2:w.cell? (g,2)=some ((en:Int):Vl):=hs.cell 2
 have c3:w.cell? (g,3)=some ((D.h:Int):Vl):=hs.cell 3
 have h1:=h8.le
 have h2:=h8.lo
 have e:D.hU S n=if n< (fr:Int) -D.h∨(en:Int) -D.h<n then 9 else 0:=by unfold Dc.hU;rw[h8.fr,h8.lim]
 unfold Dc.jQf
 by_cases Rh:n< (fr:Int) -D.h
 ·rw[e,if_pos (.inl Rh),if_neg (by decide)]
  have ht:decide (n< (fr:Int) -D.h)=true:=decide_eq_true Rh
  replace so:=hid so
  clear hs hb h8 e
  go_enter func154,ntmps154
  go_wp2
  go_quiet (fail)
  go_wp2
  go_ret
  exact⟨rfl,so.out.drewN _⟩
 have ht:decide (n< (fr:Int) -D.h)=false:=decide_eq_false Rh
 by_cases Rm: (en:Int) -D.h<n
 ·rw[e,if_pos (.inr Rm),if_neg (by decide)]
  have ht2:decide ((en:Int) -D.h<n)=true:=decide_eq_true Rm
  replace so:=hid so
  clear hs hb h8 e
  go_enter func154,ntmps154
  go_wp2
  go_quiet (fail)
  go_wp2
  go_ret
  exact⟨rfl,so.out.drewN _⟩
 ·rw[e,if_neg oM,if_pos rfl]
  have ht2:decide ((en:Int) -D.h<n)=false:=decide_eq_false Rm
  obtain⟨m,hm⟩: ∃m:Nat,(D.h:Int) +n= (m:Int):=⟨((D.h:Int) +n).toNat,by omega⟩
  have hm2: ((D.h:Int) +n).toNat=m:=by omega
  rw[hm2]
  have f3:w.frozen? (g,3)=false:=hs.frozen 3
  replace so:=hid so
  clear hs hb h8 e
  go_enter func154,ntmps154
  go_wp2
  go_quiet (fail)
  go_wp2
  go_ret
  have IS:=(so.out.drewN nq).setAt 0 rfl 3 (.int .i64 (m:Int))
  rw[mJ]at IS
  exact⟨rfl,IS⟩
end
theorem Lm(arg lit cells:Int):cO Dcs 107 (λg=>#[.pointer (some ⟨g,0,none⟩)]) ⟨74,arg,lit,cells⟩ (λx s=>(⟨(dS s).bm s.S,x,s.bq ((dS s).bi s.S (ar s 1 0)) ((dS s).bw s.S)⟩,[])):=by
 intro c g x src s ba w F hp hs hx IT hb
 have Q8: (Code.ai 74).1.toNat=1:=by decide
 simp only[Q8]at hb⊢
 have so:=(On.refl hb).drew
 have r0:=(On.refl hb).tail.r0
 have m0:=(On.refl hb).tail.m1
 have a0:=aj ((On.refl hb).ab 0 rfl) (j:=0) oM
 have th: ∀s2 W,On F w (aa (ae ba 3 (ag (s.args 1))::vL c g x src s2)) W->W.cell? (g,0)=some (c.gM:Vl)∧W.cell? (c.gM,1)=some (c.gS:Vl)∧W.cell? (ba,0)=some ((ar s 1 0):Vl):=λs2 W h=>⟨h.tail.r0,h.tail.m1,aj (h.ab 0 rfl) oM⟩
 have hc:Calls prog 83 _ w.drew (Got (.returned ((dS s).bm s.S)) (aa (ae ba 3 (ag (s.args 1))::vL c g x src (s.bq ((dS s).bi s.S (ar s 1 0)) ((dS s).bw s.S)))) F w):=hp.call so λF' ha=>vx ha hp.at8 (ar s 1 0) (aN s 1 0)
 generalize Sw: (s.bq ((dS s).bi s.S (ar s 1 0)) ((dS s).bw s.S))=s2 at *
 clear Sw
 generalize (dS s).bm s.S=f at *
 generalize ar s 1 0=X at *
 show Calls _ _ #[g,(74:Int),.slice ba 1 1] _ _
 generalize ag (s.args 1)=ac at *
 replace⟨th,hc,so⟩:=iC th hc so
 clear hp hb Q8 IT hs hx
 by_cases hf:f=0
 ·simp only[if_pos hf]
  subst hf
  go_enter func107,ntmps107
  go_wp2_with fail
  go_region_held (λw'=>w'.cell? (g,0)=some (c.gM:Vl)∧w'.cell? (c.gM,1)=some (c.gS:Vl)∧w'.cell? (ba,0)=some (X:Vl)) (go_keep)
   ((first
     | (go_at_call 83;refine mo hc.out λw5 Q7=>?_;have⟨n0,n1,n2⟩:=th.out _ _ Q7;replace Q7:=hid Q7)
     | (go_at_call 69;refine(bL _).mono ?_;rintro e w6 ⟨rfl,rfl⟩)))
  all_goals go_wp2
  all_goals go_ret
  all_goals exact⟨none,0,_,rfl,bA _,Q7.out⟩
 ·simp only[if_neg hf]
  have ht:=hid (λw=>cJ f hf w)
  replace hf:=hid hf
  go_enter func107,ntmps107
  go_wp2_with fail
  go_region_held (λw'=>w'.cell? (g,0)=some (c.gM:Vl)∧w'.cell? (c.gM,1)=some (c.gS:Vl)∧w'.cell? (ba,0)=some (X:Vl)) (go_keep)
   ((first
     | (go_at_call 83;refine mo hc.out λw5 Q7=>?_;have⟨n0,n1,n2⟩:=th.out _ _ Q7;replace Q7:=hid Q7)
     | (go_at_call 69;refine dead (ht.out _) ⟨rfl,rfl,Q7.out.tail⟩ ?_;intro hF e w6 he hw;subst he;subst hw;replace hF:=hid hF)))
  all_goals exact hF.out.elim
theorem KN(arg lit cells:Int):cO Dcs 107 (λg=>#[.pointer (some ⟨g,0,none⟩)]) ⟨76,arg,lit,cells⟩ (λx s=>(⟨(dS s).fF s.S,x,s.bq ((dS s).fj s.S) ((dS s).iP s.S)⟩,[])):=by
 intro c g x src s ba w F hp hs hx IT hb
 have Q8: (Code.ai 76).1.toNat=0:=by decide
 simp only[Q8]at hb⊢
 have so:=On.refl hb
 have r0:=so.tail.r0
 have m0:=so.tail.m1
 have hc:Calls prog 123 _ w (Got (.returned ((dS s).fF s.S)) (aa (ae ba 3 (ag (s.args 0))::vL c g x src (s.bq ((dS s).fj s.S) ((dS s).iP s.S)))) F w):=hp.call so λF' ha=>Lf ha hp.at8
 generalize Sw: (s.bq ((dS s).fj s.S) ((dS s).iP s.S))=s2 at *
 clear Sw
 generalize (dS s).fF s.S=f at *
 show Calls _ _ #[g,(76:Int),.slice ba 0 0] _ _
 generalize ag (s.args 0)=ac at *
 replace hc:=hid hc
 clear hp hb Q8 IT hs hx so
 by_cases hf:f=0
 ·simp only[if_pos hf]
  subst hf
  go_enter func107,ntmps107
  go_wp2_with fail
  refine mo hc.out λw5 Q7=>?_
  simp only[]
  replace Q7:=hid Q7
  go_wp2_with fail
  refine(bL _).mono ?_
  rintro e w6 ⟨rfl,rfl⟩
  simp only[]
  go_wp2
  go_ret
  exact⟨none,0,_,rfl,bA _,Q7.out⟩
 ·simp only[if_neg hf]
  have ht:=hid (λw=>cJ f hf w)
  replace hf:=hid hf
  go_enter func107,ntmps107
  go_wp2_with fail
  refine mo hc.out λw5 Q7=>?_
  simp only[]
  replace Q7:=hid Q7
  go_wp2_with fail
  refine(ht.out _).mono ?_
  rintro e w6 ⟨rfl,rfl⟩
  exact⟨rfl,rfl,Q7.out.tail⟩
theorem Px(arg lit cells:Int):cO Dcs 107 (λg=>#[.pointer (some ⟨g,0,none⟩)]) ⟨72,arg,lit,cells⟩ (λx s=>(⟨0,x,s⟩,[s.hs])):=by
 intro c g x src s ba w F hp hs hx IT hb
 have Q8: (Code.ai 72).1.toNat=0:=by decide
 simp only[Q8]at hb⊢
 simp only[if_pos]
 have so:=On.refl hb
 have r0:=so.tail.r0
 have m0:=so.tail.m1
 have e1:s.hs= ((dS s).h:Int):=(Int.toNat_of_nonneg hp.h).symm
 have e2:s.ls= ((dS s).l:Int):=(Int.toNat_of_nonneg hp.l).symm
 have hd:=so.ab 7 rfl
 rw[e1,e2]at hd
 have hc:=O7 hd
 rw[<-e1]at hc
 generalize ag (s.args 0)=ac at *
 generalize s.hs=v at *
 replace⟨so,hc⟩:=iB so hc
 clear hp hb Q8 IT hs hx hd e1 e2
 show Calls _ _ #[g,(72:Int),.slice ba 0 0] _ _
 go_enter func107,ntmps107
 go_wp2_with fail
 refine hc.out.mono ?_
 rintro e w1 ⟨rfl,rfl⟩
 simp only[]
 have h6:=hid (so.out.tail.box #[v] 3)
 go_wp2
 go_ret
 exact⟨some ⟨w1.heap.size,0,none⟩,1,ae w1.heap.size 3 (ag [v]),rfl,aA _ _,h6.out⟩
theorem K2(arg lit cells:Int):cO Dcs 107 (λg=>#[.pointer (some ⟨g,0,none⟩)]) ⟨73,arg,lit,cells⟩ (λx s=>(⟨(dS s).hU s.S (ar s 1 0),x,s.bq s.S ((dS s).jQf s.S (ar s 1 0))⟩,[])):=by
 intro c g x src s ba w F hp hs hx IT hb
 have Q8: (Code.ai 73).1.toNat=1:=by decide
 simp only[Q8]at hb⊢
 have so:=(On.refl hb).drew
 have r0:=(On.refl hb).tail.r0
 have m0:=(On.refl hb).tail.m1
 have a0:=aj ((On.refl hb).ab 0 rfl) (j:=0) oM
 have th: ∀s2 W,On F w (aa (ae ba 3 (ag (s.args 1))::vL c g x src s2)) W->W.cell? (g,0)=some (c.gM:Vl)∧W.cell? (c.gM,1)=some (c.gS:Vl)∧W.cell? (ba,0)=some ((ar s 1 0):Vl):=λs2 W h=>⟨h.tail.r0,h.tail.m1,aj (h.ab 0 rfl) oM⟩
 have hc:Calls prog 154 _ w.drew (Got (.returned ((dS s).hU s.S (ar s 1 0))) (aa (ae ba 3 (ag (s.args 1))::vL c g x src (s.bq s.S ((dS s).jQf s.S (ar s 1 0))))) F w):=hp.call so λF' ha=>Ly ha hp.at8 (ar s 1 0) (aN s 1 0)
 generalize Sw: (s.bq s.S ((dS s).jQf s.S (ar s 1 0)))=s2 at *
 clear Sw
 generalize (dS s).hU s.S (ar s 1 0)=f at *
 generalize ar s 1 0=X at *
 show Calls _ _ #[g,(73:Int),.slice ba 1 1] _ _
 generalize ag (s.args 1)=ac at *
 replace⟨th,hc,so⟩:=iC th hc so
 clear hp hb Q8 IT hs hx
 by_cases hf:f=0
 ·simp only[if_pos hf]
  subst hf
  go_enter func107,ntmps107
  go_wp2_with fail
  go_region_held (λw'=>w'.cell? (g,0)=some (c.gM:Vl)∧w'.cell? (c.gM,1)=some (c.gS:Vl)∧w'.cell? (ba,0)=some (X:Vl)) (go_keep)
   ((first
     | (go_at_call 154;refine mo hc.out λw5 Q7=>?_;have⟨n0,n1,n2⟩:=th.out _ _ Q7;replace Q7:=hid Q7)
     | (go_at_call 69;refine(bL _).mono ?_;rintro e w6 ⟨rfl,rfl⟩)))
  all_goals go_wp2
  all_goals go_ret
  all_goals exact⟨none,0,_,rfl,bA _,Q7.out⟩
 ·simp only[if_neg hf]
  have ht:=hid (λw=>cJ f hf w)
  replace hf:=hid hf
  go_enter func107,ntmps107
  go_wp2_with fail
  go_region_held (λw'=>w'.cell? (g,0)=some (c.gM:Vl)∧w'.cell? (c.gM,1)=some (c.gS:Vl)∧w'.cell? (ba,0)=some (X:Vl)) (go_keep)
   ((first
     | (go_at_call 154;refine mo hc.out λw5 Q7=>?_;have⟨n0,n1,n2⟩:=th.out _ _ Q7;replace Q7:=hid Q7)
     | (go_at_call 69;refine dead (ht.out _) ⟨rfl,rfl,Q7.out.tail⟩ ?_;intro hF e w6 he hw;subst he;subst hw;replace hF:=hid hF)))
  all_goals exact hF.out.elim
theorem Hz(arg lit cells:Int):cO Dcs 107 (λg=>#[.pointer (some ⟨g,0,none⟩)]) ⟨75,arg,lit,cells⟩ (λx s=>(⟨(dS s).cA s.S,x,s.bq ((dS s).de s.S (byteOf (ar s 1 0))) ((dS s).eA s.S)⟩,[])):=by
 intro c g x src s ba w F hp hs hx IT hb
 have Q8: (Code.ai 75).1.toNat=1:=by decide
 simp only[Q8]at hb⊢
 have so:=(On.refl hb).drew
 have r0:=(On.refl hb).tail.r0
 have m0:=(On.refl hb).tail.m1
 have a0:=aj ((On.refl hb).ab 0 rfl) (j:=0) oM
 have th: ∀s2 W,On F w (aa (ae ba 3 (ag (s.args 1))::vL c g x src s2)) W->W.cell? (g,0)=some (c.gM:Vl)∧W.cell? (c.gM,1)=some (c.gS:Vl)∧W.cell? (ba,0)=some ((ar s 1 0):Vl):=λs2 W h=>⟨h.tail.r0,h.tail.m1,aj (h.ab 0 rfl) oM⟩
 have hc:Calls prog 124 #[c.gS,.int .u8 (IntKind.u8.wrap (ar s 1 0))] w.drew (Got (.returned ((dS s).cA s.S)) (aa (ae ba 3 (ag (s.args 1))::vL c g x src (s.bq ((dS s).de s.S (byteOf (ar s 1 0))) ((dS s).eA s.S)))) F w):=l6 (ar s 1 0)▸hp.call so λF' ha=>rV ha hp.at8 (byteOf (ar s 1 0))
 generalize Sw: (s.bq ((dS s).de s.S (byteOf (ar s 1 0))) ((dS s).eA s.S))=s2 at *
 clear Sw
 generalize (dS s).cA s.S=f at *
 generalize ar s 1 0=X at *
 show Calls _ _ #[g,(75:Int),.slice ba 1 1] _ _
 generalize ag (s.args 1)=ac at *
 replace⟨th,hc,so⟩:=iC th hc so
 clear hp hb Q8 IT hs hx
 by_cases hf:f=0
 ·simp only[if_pos hf]
  subst hf
  go_enter func107,ntmps107
  go_wp2_with fail
  go_region_held (λw'=>w'.cell? (g,0)=some (c.gM:Vl)∧w'.cell? (c.gM,1)=some (c.gS:Vl)∧w'.cell? (ba,0)=some (X:Vl)) (go_keep)
   ((first
     | (go_at_call 124;refine mo hc.out λw5 Q7=>?_;have⟨n0,n1,n2⟩:=th.out _ _ Q7;replace Q7:=hid Q7)
     | (go_at_call 69;refine(bL _).mono ?_;rintro e w6 ⟨rfl,rfl⟩)))
  all_goals go_wp2
  all_goals go_ret
  all_goals exact⟨none,0,_,rfl,bA _,Q7.out⟩
 ·simp only[if_neg hf]
  have ht:=hid (λw=>cJ f hf w)
  replace hf:=hid hf
  go_enter func107,ntmps107
  go_wp2_with fail
  go_region_held (λw'=>w'.cell? (g,0)=some (c.gM:Vl)∧w'.cell? (c.gM,1)=some (c.gS:Vl)∧w'.cell? (ba,0)=some (X:Vl)) (go_keep)
   ((first
     | (go_at_call 124;refine mo hc.out λw5 Q7=>?_;have⟨n0,n1,n2⟩:=th.out _ _ Q7;replace Q7:=hid Q7)
     | (go_at_call 69;refine dead (ht.out _) ⟨rfl,rfl,Q7.out.tail⟩ ?_;intro hF e w6 he hw;subst he;subst hw;replace hF:=hid hF)))
  all_goals exact hF.out.elim
def aX(x:Rn)(n:Int):Int:=if n<0 then 19 else if x.left<n/8 then 13 else 0
def Rn.pay(x:Rn)(n:Int):Rn:=if aX x n=0 then { x with left:=x.left-n/8 } else x
def tv(x:Rn):Int:=if x.asked=true then 0 else x.mode
def i6(x:Rn)(s:Mt)(t:ByteArray):Int:=af.io s.T (tv x) t
def Mt.eT(s:Mt)(x:Rn)(t:ByteArray):Mt:={ s with T:=af.gE s.T (tv x) t }
def cP(x:Rn)(s:Mt)(a n:Int):Int:=if aX x n=0 then s.S.cD x.mode a n else aX x n
def gO(f:Int)(t:ByteArray):Ending:=if f=0 then .returned (.string t)else .panicked [flt f]
theorem cB{f:Int}(h:f≠0):bp f = .panicked [flt f]:=by unfold bp;rw[if_neg h]
theorem ld{f:Int}{t:ByteArray}(h:f≠0):gO f t = .panicked [flt f]:=by unfold gO;rw[if_neg h]
theorem ie{x:Rn}(hx:x.Ok)(n:Int): (x.pay n).Ok:=by
 unfold Rn.pay
 split
 ·rename_i h
  unfold aX at h
  have h1:=hx.left
  have h2:=hx.cG
  split at h
  ·cases h
  split at h
  ·cases h
  ·refine⟨hx.base,hx.dh,hx.next,hx.pc,?_,?_⟩
   ·show 0<=x.left-n/8;omega
   ·show x.left-n/8<=1000000;omega
 ·exact hx
section
variable {w w':World}{F:Nat->Prop}{c:Vc}{g:Nat}{x:Rn}{src:Value}{s:Mt}
theorem wu(hb: (VA c g x src s).holds w F)(hx:x.Ok)(n:Int)(hn:V64 n):
 Calls prog 150 #[g,n] w (Got (bp (aX x n)) (VA c g (x.pay n) src s) F w):=by
 have so:=On.refl hb
 have r2:=so.r2
 have f2:=so.rf 2
 by_cases h0:n<0
 ·have e1:aX x n=19:=by unfold aX;rw[if_pos h0]
  have e2:x.pay n=x:=by unfold Rn.pay;rw[e1];rfl
  rw[e1,e2]
  have t1:decide (0<=n)=false:=decide_eq_false oM
  replace so:=hid so
  clear hb e1 e2 h0
  go_enter func150,ntmps150
  go_wp2_with fail
  refine(bR _ _).mono ?_
  rintro e w1 ⟨rfl,rfl⟩
  exact⟨rfl,rfl,so.out⟩
 have t1:decide (0<=n)=true:=decide_eq_true oM
 obtain⟨k,hk⟩: ∃k:Nat,n= (k:Int):=⟨n.toNat,by omega⟩
 subst hk
 have hd: ((k:Int)).tdiv 8= ((k/8:Nat):Int):=by rw[Int.tdiv_eq_ediv_of_nonneg oM];rfl
 have Wm: (k:Int) /8= ((k/8:Nat):Int):=by omega
 have Ui:IntKind.i64.wrap ((k/8:Nat):Int)= ((k/8:Nat):Int):=IntWalk.i64_in _ (by unfold V64 at hn;omega)
 by_cases h1:x.left< ((k/8:Nat):Int)
 ·have e1:aX x k=13:=by unfold aX;rw[if_neg h0,Wm,if_pos h1]
  have e2:x.pay k=x:=by unfold Rn.pay;rw[e1];rfl
  rw[e1,e2]
  have t2:decide (((k/8:Nat):Int)<=x.left)=false:=decide_eq_false oM
  generalize k/8=q at *
  replace⟨so,hn⟩:=iB so hn
  clear hb e1 e2 h0 Wm h1
  go_enter func150,ntmps150
  go_wp2_with fail
  refine(bz _ _).mono ?_
  rintro e w1 ⟨rfl,rfl⟩
  simp only[]
  go_wp2_with fail
  refine(bR _ _).mono ?_
  rintro e w2 ⟨rfl,rfl⟩
  exact⟨rfl,rfl,so.out⟩
 ·have e1:aX x k=0:=by unfold aX;rw[if_neg h0,Wm,if_neg h1]
  have e2:x.pay k = { x with left:=x.left- ((k/8:Nat):Int) }:=by unfold Rn.pay;rw[if_pos e1,Wm]
  rw[e1,e2]
  have t2:decide (((k/8:Nat):Int)<=x.left)=true:=decide_eq_true oM
  have ZM:=hx.left
  have Ug:=hx.cG
  have ON: ∀W,On F w (VA c g x src s) W->On F w (VA c g { x with left:=x.left- ((k/8:Nat):Int) } src s) (W.setCell (g,2) (.int .i64 (x.left- ((k/8:Nat):Int)))):=λW h=>h.setAt 0 rfl 2 (.int .i64 (x.left- ((k/8:Nat):Int)))
  have Q8:IntKind.i64.wrap (x.left- ((k/8:Nat):Int))=x.left- ((k/8:Nat):Int):=IntWalk.i64_in _ oM
  generalize k/8=q at *
  replace⟨so,ON,hn⟩:=iC so ON hn
  clear hb e1 e2 h0 Wm h1
  go_enter func150,ntmps150
  go_wp2_with fail
  refine(bz _ _).mono ?_
  rintro e w1 ⟨rfl,rfl⟩
  simp only[]
  go_wp2_with fail
  refine(bz _ _).mono ?_
  rintro e w2 ⟨rfl,rfl⟩
  simp only[]
  go_wp2
  go_end0
  exact⟨rfl,ON.out _ so.out⟩
theorem CL(hb: (VA c g x src s).holds w F)(t:ByteArray)(ht:t.size<=maxLen):
 Calls prog 155 #[g,.string t] w (Got (bp (i6 x s t)) (VA c g x src (s.eT x t)) F w):=by
 have so:=On.refl hb
 have r0:=so.r0
 have r1:=so.r1
 have r6:=so.r6
 have m3:=so.m3
 have th: ∀s2 W,On F w (VA c g x src s2) W->W.cell? (g,0)=some (c.gM:Vl)∧W.cell? (c.gM,3)=some (c.gT:Vl):=λs2 W h=>⟨h.r0,h.m3⟩
 have hc: ∀W,On F w (VA c g x src s) W->Calls prog 200 #[c.gT,(tv x),.string t] W (Got (.returned (i6 x s t)) (VA c g x src (s.eT x t)) F w):=λW h=>h.bG 5 rfl (λF' ha=>fT ha λw0 L h=>QE h (tv x) t ht)
 obtain⟨f,hf⟩: ∃f,i6 x s t=f:=⟨_,rfl⟩
 obtain⟨s2,Sw⟩: ∃s2,s.eT x t=s2:=⟨_,rfl⟩
 rw[hf,Sw]at hc⊢
 clear hf Sw hb
 replace⟨th,so⟩:=iB th so
 rcases ha:x.asked with _|_
 ·have hm:tv x=x.mode:=by unfold tv;rw[ha];rfl
  rw[hm]at hc
  rw[ha]at r6
  replace hc:=hid hc
  clear hm ha
  by_cases hf:f=0
  ·subst hf
   go_enter func155,ntmps155
   go_wp2_with fail
   refine mo (hc.out _ so.out) λw5 Q7=>?_
   simp only[]
   replace Q7:=hid Q7
   go_wp2_with fail
   refine(bL _).mono ?_
   rintro e w6 ⟨rfl,rfl⟩
   simp only[]
   go_wp2
   go_end0
   exact⟨rfl,Q7.out⟩
  ·rw[cB hf]
   have hn:=hid (λw=>cJ f hf w)
   replace hf:=hid hf
   go_enter func155,ntmps155
   go_wp2_with fail
   refine mo (hc.out _ so.out) λw5 Q7=>?_
   simp only[]
   replace Q7:=hid Q7
   go_wp2_with fail
   refine(hn.out _).mono ?_
   rintro e w6 ⟨rfl,rfl⟩
   exact⟨rfl,rfl,Q7.out⟩
 ·have hm:tv x=0:=by unfold tv;rw[ha];rfl
  rw[hm]at hc
  rw[ha]at r6
  replace hc:=hid hc
  clear hm ha
  by_cases hf:f=0
  ·subst hf
   go_enter func155,ntmps155
   go_wp2_with fail
   refine mo (hc.out _ so.out) λw5 Q7=>?_
   simp only[]
   replace Q7:=hid Q7
   go_wp2_with fail
   refine(bL _).mono ?_
   rintro e w6 ⟨rfl,rfl⟩
   simp only[]
   go_wp2
   go_end0
   exact⟨rfl,Q7.out⟩
  ·rw[cB hf]
   have hn:=hid (λw=>cJ f hf w)
   replace hf:=hid hf
   go_enter func155,ntmps155
   go_wp2_with fail
   refine mo (hc.out _ so.out) λw5 Q7=>?_
   simp only[]
   replace Q7:=hid Q7
   go_wp2_with fail
   refine(hn.out _).mono ?_
   rintro e w6 ⟨rfl,rfl⟩
   exact⟨rfl,rfl,Q7.out⟩
theorem mS(hb: (VA c g x src s).holds w F)(hx:x.Ok)(a n:Int)(hn:V64 n):
 Calls prog 156 #[g,a,n] w (Got (gO (cP x s a n) (s.S.text x.mode a n)) (VA c g (x.pay n) src s) F w):=by
 have hm:=wu hb hx n hn
 have hc: ∀x2 W,On F w (VA c g x2 src s) W->Calls prog 93 #[c.gI,x.mode,a,n] W (ax (.tuple #[.string (s.S.text x.mode a n),(s.S.cD x.mode a n)]) W):=λx2 W h=>by
  obtain⟨gb,hi⟩:=h.im
  exact BR hi x.mode a n hn.2
 have th: ∀x2 s2 W,x2.mode=x.mode->On F w (VA c g x2 src s2) W->W.cell? (g,0)=some (c.gM:Vl)∧W.cell? (c.gM,0)=some (c.gI:Vl)∧W.cell? (g,1)=some (x.mode:Vl):=λx2 s2 W e h=>⟨h.r0,h.m0,by rw[<-e];exact h.r1⟩
 have hpm: (x.pay n).mode=x.mode:=by unfold Rn.pay;split<;>rfl
 unfold cP
 generalize s.S.text x.mode a n=t at *
 generalize s.S.cD x.mode a n=f2 at *
 generalize x.pay n=x2 at *
 generalize aX x n=f at *
 replace th:=hid (λs2 W=>th x2 s2 W hpm)
 replace hc:=hid (hc x2)
 replace⟨hm,hn⟩:=iB hm hn
 clear hb hx hpm
 by_cases hf:f=0
 ·have e1:bp f = .returned (.tuple #[]):=by unfold bp;rw[if_pos hf]
  rw[e1]at hm
  simp only[if_pos hf]
  clear hf e1
  by_cases RG:f2=0
  ·have e2:gO f2 t = .returned (.string t):=by unfold gO;rw[if_pos RG]
   rw[e2]
   clear e2
   subst RG
   go_enter func156,ntmps156
   go_wp2_with fail
   refine mo hm.out λw1 h1=>?_
   simp only[]
   have⟨n0,n1,n2⟩:=th.out _ _ h1
   replace h1:=hid h1
   go_wp2_with fail
   go_region_held (λw'=>w'.cell? (g,0)=some (c.gM:Vl)∧w'.cell? (c.gM,0)=some (c.gI:Vl)∧w'.cell? (g,1)=some (x.mode:Vl)) (go_keep)
    ((go_at_call 93;refine(hc.out _ h1.out.drew).mono ?_;rintro e w5 ⟨rfl,rfl⟩))
   all_goals go_wp2_with fail
   refine(bL _).mono ?_
   rintro e w6 ⟨rfl,rfl⟩
   simp only[]
   go_wp2
   go_ret
   exact⟨rfl,h1.out.drew⟩
  ·rw[ld RG]
   have ht:=hid (λw=>cJ f2 RG w)
   replace RG:=hid RG
   go_enter func156,ntmps156
   go_wp2_with fail
   refine mo hm.out λw1 h1=>?_
   simp only[]
   have⟨n0,n1,n2⟩:=th.out _ _ h1
   replace h1:=hid h1
   go_wp2_with fail
   go_region_held (λw'=>w'.cell? (g,0)=some (c.gM:Vl)∧w'.cell? (c.gM,0)=some (c.gI:Vl)∧w'.cell? (g,1)=some (x.mode:Vl)) (go_keep)
    ((go_at_call 93;refine(hc.out _ h1.out.drew).mono ?_;rintro e w5 ⟨rfl,rfl⟩))
   all_goals go_wp2_with fail
   refine(ht.out _).mono ?_
   rintro e w6 ⟨rfl,rfl⟩
   exact⟨rfl,rfl,h1.out.drew⟩
 ·rw[cB hf]at hm
  simp only[if_neg hf]
  rw[ld hf]
  replace hf:=hid hf
  go_enter func156,ntmps156
  go_wp2_with fail
  refine mo hm.out λw1 h1=>?_
  exact⟨rfl,rfl,h1⟩
end
variable {w:World}{c:Vc}{s:Mt}{gb:Nat}
theorem Mj(arg lit cells:Int):br 106 (λg=>#[.pointer (some ⟨g,0,none⟩)]) ⟨65,arg,lit,cells⟩ (λx s=>(⟨s.S.ay x.mode (ar s 1 0) false,x,s⟩,[s.S.aP x.mode (ar s 1 0)])):=by
 intro c g x src s ba w F hs hx IT hb
 have Q8: (Code.ai 65).1.toNat=1:=by decide
 simp only[Q8]at hb⊢
 have so:=(On.refl hb).drew
 have r0:=(On.refl hb).tail.r0
 have r1:=(On.refl hb).tail.r1
 have m0:=(On.refl hb).tail.m0
 have a0:=aj ((On.refl hb).ab 0 rfl) (j:=0) oM
 obtain⟨gb,hi⟩:=so.img 3 rfl
 have hc:=jT hi x.mode (ar s 1 0)
 have th: ∀W,On F w (aa (ae ba 3 (ag (s.args 1))::vL c g x src s)) W->W.cell? (g,0)=some (c.gM:Vl)∧W.cell? (c.gM,0)=some (c.gI:Vl)∧W.cell? (g,1)=some (x.mode:Vl)∧W.cell? (ba,0)=some ((ar s 1 0):Vl):=λW h=>⟨h.tail.r0,h.tail.m0,h.tail.r1,aj (h.ab 0 rfl) oM⟩
 generalize ar s 1 0=X at *
 show Calls _ _ #[g,(65:Int),.slice ba 1 1] _ _
 generalize s.S.aP x.mode X=v at *
 generalize s.S.ay x.mode X false=f at *
 generalize ag (s.args 1)=ac at *
 replace⟨th,hc,so⟩:=iC th hc so
 clear hb hi Q8 IT hs hx
 by_cases hf:f=0
 ·simp only[if_pos hf]
  subst hf
  go_enter func106,ntmps106
  go_wp2_with fail
  go_region_held (λw'=>w'.cell? (g,0)=some (c.gM:Vl)∧w'.cell? (c.gM,0)=some (c.gI:Vl)∧w'.cell? (g,1)=some (x.mode:Vl)∧w'.cell? (ba,0)=some (X:Vl)) (go_keep)
   ((go_at_call 73;refine mo hc.out λw5 hb=>?_;simp only[];have Q7:=On.below so.out hb;have⟨n0,n1,n2,n3⟩:=th.out _ Q7;clear hb;replace Q7:=hid Q7))
  all_goals go_wp2_with fail
  refine(bL _).mono ?_
  rintro e w6 ⟨rfl,rfl⟩
  simp only[]
  have h6:=hid (Q7.out.tail.box #[v] 3)
  go_wp2
  go_ret
  exact⟨some ⟨w6.heap.size,0,none⟩,1,ae w6.heap.size 3 (ag [v]),rfl,aA _ _,h6.out⟩
 ·simp only[if_neg hf]
  have ht:=hid (λw=>cJ f hf w)
  replace hf:=hid hf
  go_enter func106,ntmps106
  go_wp2_with fail
  go_region_held (λw'=>w'.cell? (g,0)=some (c.gM:Vl)∧w'.cell? (c.gM,0)=some (c.gI:Vl)∧w'.cell? (g,1)=some (x.mode:Vl)∧w'.cell? (ba,0)=some (X:Vl)) (go_keep)
   ((go_at_call 73;refine mo hc.out λw5 hb=>?_;simp only[];have Q7:=On.below so.out hb;have⟨n0,n1,n2,n3⟩:=th.out _ Q7;clear hb;replace Q7:=hid Q7))
  all_goals go_wp2_with fail
  refine(ht.out _).mono ?_
  rintro e w6 ⟨rfl,rfl⟩
  exact⟨rfl,rfl,Q7.out.tail⟩
theorem KK(arg lit cells:Int):br 106 (λg=>#[.pointer (some ⟨g,0,none⟩)]) ⟨66,arg,lit,cells⟩ (λx s=>(⟨s.S.ay x.mode (ar s 2 1) true,x,{ s with S:=s.S.setCell x.mode (ar s 2 1) (ar s 2 0) }⟩,[])):=by
 intro c g x src s ba w F hs hx IT hb
 have Q8: (Code.ai 66).1.toNat=2:=by decide
 simp only[Q8]at hb⊢
 have so:=(On.refl hb).drew
 have r0:=(On.refl hb).tail.r0
 have m0:=(On.refl hb).tail.m0
 have r1:=(On.refl hb).tail.r1
 have a0:=aj ((On.refl hb).ab 0 rfl) (j:=0) oM
 have a1:=aj ((On.refl hb).ab 0 rfl) (j:=1) oM
 have th: ∀s2 W,On F w (aa (ae ba 3 (ag (s.args 2))::vL c g x src s2)) W->W.cell? (g,0)=some (c.gM:Vl)∧W.cell? (c.gM,0)=some (c.gI:Vl)∧W.cell? (g,1)=some (x.mode:Vl)∧W.cell? (ba,0)=some ((ar s 2 0):Vl)∧W.cell? (ba,1)=some ((ar s 2 1):Vl):=λs2 W h=>⟨h.tail.r0,h.tail.m0,h.tail.r1,aj (h.ab 0 rfl) oM,aj (h.ab 0 rfl) oM⟩
 have hc:Calls prog 62 _ w.drew (Got (.returned (s.S.ay x.mode (ar s 2 1) true)) (aa (ae ba 3 (ag (s.args 2))::vL c g x src ({ s with S:=s.S.setCell x.mode (ar s 2 1) (ar s 2 0) }))) F w):=so.bG 3 rfl (λF' ha=>fY ha x.mode (ar s 2 1) (ar s 2 0) (aN s 2 0))
 generalize Sw: ({ s with S:=s.S.setCell x.mode (ar s 2 1) (ar s 2 0) })=s2 at *
 clear Sw
 generalize s.S.ay x.mode (ar s 2 1) true=f at *
 generalize ar s 2 0=X at *
 generalize ar s 2 1=Y at *
 show Calls _ _ #[g,(66:Int),.slice ba 2 2] _ _
 generalize ag (s.args 2)=ac at *
 replace⟨th,hc,so⟩:=iC th hc so
 clear hb Q8 IT hs hx
 by_cases hf:f=0
 ·simp only[if_pos hf]
  subst hf
  go_enter func106,ntmps106
  go_wp2_with fail
  go_region_held (λw'=>w'.cell? (g,0)=some (c.gM:Vl)∧w'.cell? (c.gM,0)=some (c.gI:Vl)∧w'.cell? (g,1)=some (x.mode:Vl)∧w'.cell? (ba,0)=some (X:Vl)∧w'.cell? (ba,1)=some (Y:Vl)) (go_keep)
   ((first
     | (go_at_call 62;refine mo hc.out λw5 Q7=>?_;have⟨n0,n1,n2,n3,n4⟩:=th.out _ _ Q7;replace Q7:=hid Q7)
     | (go_at_call 69;refine(bL _).mono ?_;rintro e w6 ⟨rfl,rfl⟩)))
  all_goals go_wp2
  all_goals go_ret
  all_goals exact⟨none,0,_,rfl,bA _,Q7.out⟩
 ·simp only[if_neg hf]
  have ht:=hid (λw=>cJ f hf w)
  replace hf:=hid hf
  go_enter func106,ntmps106
  go_wp2_with fail
  go_region_held (λw'=>w'.cell? (g,0)=some (c.gM:Vl)∧w'.cell? (c.gM,0)=some (c.gI:Vl)∧w'.cell? (g,1)=some (x.mode:Vl)∧w'.cell? (ba,0)=some (X:Vl)∧w'.cell? (ba,1)=some (Y:Vl)) (go_keep)
   ((first
     | (go_at_call 62;refine mo hc.out λw5 Q7=>?_;have⟨n0,n1,n2,n3,n4⟩:=th.out _ _ Q7;replace Q7:=hid Q7)
     | (go_at_call 69;refine dead (ht.out _) ⟨rfl,rfl,Q7.out.tail⟩ ?_;intro hF e w6 he hw;subst he;subst hw;replace hF:=hid hF)))
  all_goals exact hF.out.elim
theorem Aq(h:Blk w c.gM 109 (pN c s))(hi:b9 w c.gI gb s.S):Calls prog 63 #[c.gM] w (Quiet (s.S.beg 3:Int) w):=by
 have c0:w.cell? (c.gM,0)=some (c.gI:Vl):=h.cell 0
 have Sj:=j5 hi 3 oM oM
 replace Sj:=hid Sj
 clear h hi
 go_enter func63,ntmps63
 go_wp2_with fail
 refine Sj.out.mono ?_
 rintro e w1 ⟨rfl,n,rfl⟩
 go_wp2
 go_ret
 exact⟨rfl,Below.dN (Below.refl _ _) n⟩
theorem OJ(arg lit cells:Int):cH 107 (λg=>#[.pointer (some ⟨g,0,none⟩)]) ⟨77,arg,lit,cells⟩ (λs=>[wrap64 (s.S.beg 3:Int)]):=by
 intro c g x src s ba w F hs IT hb
 have Q8: (Code.ai 77).1.toNat=0:=by decide
 simp only[Q8]at hb⊢
 have so:=On.refl hb
 have r0:=so.tail.r0
 obtain⟨gb,hi⟩:=so.img 3 rfl
 have Wh:=Aq (so.ab 2 rfl) hi
 have Zs:wrap64 (s.S.beg 3:Int)= (s.S.beg 3:Int):=by
  have h1:=hi.ok.small
  have h2:s.S.beg 3<=s.S.beg 6:=s.S.bN oM oM oM
  unfold wrap64
  omega
 rw[Zs]
 clear Zs
 generalize ag (s.args 0)=ac at *
 generalize ((s.S.beg 3:Nat):Int)=v at *
 replace⟨so,Wh⟩:=iB so Wh
 clear hb Q8 IT hs hi
 show Calls _ _ #[g,(77:Int),.slice ba 0 0] _ _
 go_enter func107,ntmps107
 go_wp2_with fail
 refine mo Wh.out λw1 Rh=>?_
 simp only[]
 have h6:=hid ((so.out.below Rh).tail.box #[v] 3)
 clear Rh
 go_wp2
 go_ret
 exact⟨some ⟨w1.heap.size,0,none⟩,1,ae w1.heap.size 3 (ag [v]),rfl,aA _ _,h6.out⟩
def cy(b:Bool):Int:=if b then -1 else 0
def yb(x:Int):Int:=if x<0 then wrap64 (-x)else x
def xy(x:Int):Int:=x/9223372036854775808
def yO(x y:Int):Int:=if y<0 then 0 else wrap64 (x*2 ^ min y.toNat 64)
def xU(x y:Int):Int:=if y<0 then 0 else wrap64 (IntKind.u64.wrap x/2 ^ min y.toNat 64)
theorem Hh(b:Bool):V64 (cy b):=by unfold cy V64;split<;>omega
theorem MO{x:Int}(h:V64 x):V64 (yb x):=by unfold yb;split;exact aU _;exact h
theorem Mq(x y:Int):V64 (yO x y):=by unfold yO;split;(unfold V64;omega);exact aU _
theorem KT(x y:Int):V64 (xU x y):=by unfold xU;split;(unfold V64;omega);exact aU _
theorem GY{x:Int}(h:V64 x):V64 (x/2):=by unfold V64 at *;omega
theorem Ig{x:Int}(h:V64 x):V64 (x/9223372036854775808):=by unfold V64 at *;omega
theorem FT{x:Int}(h:V64 x):V64 (xy x):=Ig h
theorem K3{x y:Int}(h:V64 x)(g:V64 y):V64 (min x y):=by unfold V64 at *;omega
theorem LN{x y:Int}(h:V64 x)(g:V64 y):V64 (max x y):=by unfold V64 at *;omega
theorem oZ(n:Int):V64 (IntKind.i64.wrap n):=by rw[IntKind.wrap_i64];unfold V64;omega
theorem Lh(x y:Int):V64 (bits .and .i64 x y):=oZ _
theorem OE(x y:Int):V64 (bits .or .i64 x y):=oZ _
theorem Kz(x y:Int):V64 (bits .xor .i64 x y):=oZ _
theorem EG(x:Int)(w:World):Calls prog 147 #[.int .i64 40,.int .i64 x] w (ax (.int .i64 (yb x)) w):=by
 by_cases h:x<0
 ·have e:yb x=wrap64 (-x):=if_pos h
  rw[e]
  have t:decide (x<0)=true:=decide_eq_true h
  replace h:=hid h
  clear e
  go_enter func147,ntmps147
  go_wp2
  go_ret
  exact⟨rfl,rfl⟩
 ·have e:yb x=x:=if_neg h
  rw[e]
  have t:decide (x<0)=false:=decide_eq_false h
  clear e
  go_enter func147,ntmps147
  go_wp2
  go_ret
  exact⟨rfl,rfl⟩
theorem yE(x:Int)(w:World):Calls prog 147 #[.int .i64 45,.int .i64 x] w (ax (.int .i64 (wrap64 (x*2))) w):=by
 go_enter func147,ntmps147
 go_wp2
 go_ret
 exact⟨rfl,rfl⟩
theorem BT(x:Int)(w:World):Calls prog 147 #[.int .i64 46,.int .i64 x] w (ax (.int .i64 (x/2)) w):=by
 go_enter func147,ntmps147
 go_wp2
 go_ret
 exact⟨rfl,rfl⟩
theorem vz(x:Int)(w:World):Calls prog 147 #[.int .i64 50,.int .i64 x] w (ax (.int .i64 (bits .xor .i64 (-1) x)) w):=by
 go_enter func147,ntmps147
 go_wp2
 go_ret
 exact⟨rfl,rfl⟩
theorem vI(x:Int)(w:World):Calls prog 147 #[.int .i64 63,.int .i64 x] w (ax (.int .i64 (cy (x==0))) w):=by
 rcases h: (x==0)with _|_
 ·show Calls _ _ _ _ (ax (.int .i64 0) w)
  go_enter func147,ntmps147
  go_wp2
  go_ret
  exact⟨rfl,rfl⟩
 ·show Calls _ _ _ _ (ax (.int .i64 (-1)) w)
  go_enter func147,ntmps147
  go_wp2
  go_ret
  exact⟨rfl,rfl⟩
theorem wA(x:Int)(w:World):Calls prog 147 #[.int .i64 64,.int .i64 x] w (ax (.int .i64 (xy x)) w):=by
 go_enter func147,ntmps147
 go_wp2
 go_ret
 exact⟨rfl,rfl⟩
theorem I2(x y:Int)(w:World):Calls prog 148 #[.int .i64 41,.int .i64 x,.int .i64 y] w (ax (.int .i64 (min x y)) w):=by
 go_enter func148,ntmps148
 go_wp2
 go_ret
 exact⟨rfl,rfl⟩
theorem GF(x y:Int)(w:World):Calls prog 148 #[.int .i64 42,.int .i64 x,.int .i64 y] w (ax (.int .i64 (max x y)) w):=by
 go_enter func148,ntmps148
 go_wp2
 go_ret
 exact⟨rfl,rfl⟩
theorem Hu(x y:Int)(w:World):Calls prog 148 #[.int .i64 47,.int .i64 x,.int .i64 y] w (ax (.int .i64 (bits .and .i64 x y)) w):=by
 go_enter func148,ntmps148
 go_wp2
 go_ret
 exact⟨rfl,rfl⟩
theorem Ln(x y:Int)(w:World):Calls prog 148 #[.int .i64 48,.int .i64 x,.int .i64 y] w (ax (.int .i64 (bits .or .i64 x y)) w):=by
 go_enter func148,ntmps148
 go_wp2
 go_ret
 exact⟨rfl,rfl⟩
theorem IV(x y:Int)(w:World):Calls prog 148 #[.int .i64 49,.int .i64 x,.int .i64 y] w (ax (.int .i64 (bits .xor .i64 x y)) w):=by
 go_enter func148,ntmps148
 go_wp2
 go_ret
 exact⟨rfl,rfl⟩
theorem Gv(x y:Int)(w:World):Calls prog 148 #[.int .i64 51,.int .i64 x,.int .i64 y] w (ax (.int .i64 (yO x y)) w):=by
 by_cases h:y<0
 ·have e:yO x y=0:=if_pos h
  rw[e]
  have t:decide (y<0)=true:=decide_eq_true h
  replace h:=hid h
  clear e
  go_enter func148,ntmps148
  go_wp2
  go_ret
  exact⟨rfl,rfl⟩
 ·have e:yO x y=wrap64 (x*2 ^ min y.toNat 64):=if_neg h
  rw[e]
  have t:decide (y<0)=false:=decide_eq_false h
  clear e
  go_enter func148,ntmps148
  go_wp2
  go_ret
  exact⟨by rw[<-IntWalk.i64_left];rfl,rfl⟩
theorem Io(x y:Int)(w:World):Calls prog 148 #[.int .i64 52,.int .i64 x,.int .i64 y] w (ax (.int .i64 (xU x y)) w):=by
 by_cases h:y<0
 ·have e:xU x y=0:=if_pos h
  rw[e]
  have t:decide (y<0)=true:=decide_eq_true h
  replace h:=hid h
  clear e
  go_enter func148,ntmps148
  go_wp2
  go_ret
  exact⟨rfl,rfl⟩
 ·have e:xU x y=wrap64 (IntKind.u64.wrap x/2 ^ min y.toNat 64):=if_neg h
  rw[e]
  have t:decide (y<0)=false:=decide_eq_false h
  clear e
  go_enter func148,ntmps148
  go_wp2
  go_ret
  exact⟨rfl,rfl⟩
theorem KW(x y:Int)(w:World):Calls prog 148 #[.int .i64 58,.int .i64 x,.int .i64 y] w (ax (.int .i64 (cy (x==y))) w):=by
 rcases h: (x==y)with _|_
 ·show Calls _ _ _ _ (ax (.int .i64 0) w)
  go_enter func148,ntmps148
  go_wp2
  go_ret
  exact⟨rfl,rfl⟩
 ·show Calls _ _ _ _ (ax (.int .i64 (-1)) w)
  go_enter func148,ntmps148
  go_wp2
  go_ret
  exact⟨rfl,rfl⟩
theorem Lb(x y:Int)(w:World):Calls prog 148 #[.int .i64 59,.int .i64 x,.int .i64 y] w (ax (.int .i64 (cy (x != y))) w):=by
 rcases h: (x != y)with _|_
 ·show Calls _ _ _ _ (ax (.int .i64 0) w)
  go_enter func148,ntmps148
  go_wp2
  go_ret
  exact⟨rfl,rfl⟩
 ·show Calls _ _ _ _ (ax (.int .i64 (-1)) w)
  go_enter func148,ntmps148
  go_wp2
  go_ret
  exact⟨rfl,rfl⟩
theorem Mb(x y:Int)(w:World):Calls prog 148 #[.int .i64 60,.int .i64 x,.int .i64 y] w (ax (.int .i64 (cy (decide (x<y)))) w):=by
 rcases h: (decide (x<y))with _|_
 ·show Calls _ _ _ _ (ax (.int .i64 0) w)
  go_enter func148,ntmps148
  go_wp2
  go_ret
  exact⟨rfl,rfl⟩
 ·show Calls _ _ _ _ (ax (.int .i64 (-1)) w)
  go_enter func148,ntmps148
  go_wp2
  go_ret
  exact⟨rfl,rfl⟩
theorem Lr(x y:Int)(w:World):Calls prog 148 #[.int .i64 61,.int .i64 x,.int .i64 y] w (ax (.int .i64 (cy (decide (y<x)))) w):=by
 rcases h: (decide (y<x))with _|_
 ·show Calls _ _ _ _ (ax (.int .i64 0) w)
  go_enter func148,ntmps148
  go_wp2
  go_ret
  exact⟨rfl,rfl⟩
 ·show Calls _ _ _ _ (ax (.int .i64 (-1)) w)
  go_enter func148,ntmps148
  go_wp2
  go_ret
  exact⟨rfl,rfl⟩
theorem Gh(x y:Int)(w:World):Calls prog 148 #[.int .i64 62,.int .i64 x,.int .i64 y] w (ax (.int .i64 (cy (decide (IntKind.u64.wrap x<IntKind.u64.wrap y)))) w):=by
 rcases h: (decide (IntKind.u64.wrap x<IntKind.u64.wrap y))with _|_
 ·show Calls _ _ _ _ (ax (.int .i64 0) w)
  go_enter func148,ntmps148
  go_wp2
  go_ret
  exact⟨rfl,rfl⟩
 ·show Calls _ _ _ _ (ax (.int .i64 (-1)) w)
  go_enter func148,ntmps148
  go_wp2
  go_ret
  exact⟨rfl,rfl⟩
end Vm
set_option linter.unusedSimpArgs false
namespace Vm
section
variable {w w':World}{F:Nat->Prop}{c:Vc}{g:Nat}{x:Rn}{src:Value}{s:Mt}
theorem KY(h:On F w (VA c g x src s) w')(hs:s.Ok)(h0:0<s.r)(v:Int)(hv:V64 v):Calls prog 235 #[c.gR,(0:Int),v] w' (Got (.returned (.int .i64 0)) (VA c g x src (s.nS 0 v)) F w):=
 h.cn 4 2 (by decide) rfl rfl λF' ha=>OX ha hs.pr 0 h0 hs.r v hv
theorem H7(hs:s.Ok)(n:Nat)(v:Int): (s.nS n v).Ok:=⟨hs.pd,hs.pr,hs.d,hs.r,hs.du,hs.dv,hs.ru,hs.rv⟩
theorem JH(n:Nat)(k:Nat)(hk:k<=n)(hn:n<=17920):IntKind.i64.wrap ((n:Int) - (k:Int))= ((n-k:Nat):Int):=by rw[IntWalk.i64_in _ oM];omega
theorem OY(hb: (VA c g x src s).holds w F)(hs:s.Ok)(h0:2<=s.r)(n at_:Int)(hv:V64 n)(ends:Bool):Calls prog 189 #[g,n,.bool ends,at_] w (Got (.returned (.tuple #[])) (VA c g (dx n ends at_ x s).x src (dx n ends at_ x s).s) F w):=by
 have so:=On.refl hb
 have r0:=so.r0
 have m6:=so.m6
 cases ends with
 | true=>
   have R2:=dG so.drew.sr
   have hcut:=J0 so.drew hs (s.r-2) oM
   rw[<-JH s.r 2 h0 hs.rle]at hcut
   show Calls _ _ _ _ (Got _ (VA c g x src (s.eu (s.r-2))) _ _)
   generalize s.eu (s.r-2)=s1 at *
   generalize s.r=d at *
   replace⟨R2,hcut⟩:=iB R2 hcut
   clear hb hs so h0
   go_enter func189,ntmps189
   go_wp2_with fail
   go_region_held (λw'=>w'.cell? (g,0)=some (c.gM:Vl)∧w'.cell? (c.gM,6)=some (c.gR:Vl)) (go_keep)
    ((first
      | (go_at_call 16;refine R2.out.mono ?_;rintro e w1 ⟨rfl,rfl⟩)
      | (go_at_call 139;refine mo hcut.out λw1 h=>?_;have k0:=h.r0;have k5:=h.m6;replace h:=hid h)))
   all_goals go_wp2
   all_goals go_end0
   all_goals exact⟨rfl,h.out⟩
 | false=>
   have hbj:=KY so hs oM n hv
   show Calls _ _ _ _ (Got _ (VA c g { x with next:=at_ } src (s.nS 0 n)) _ _)
   generalize s.nS 0 n=s1 at *
   replace hbj:=hid hbj
   clear hb hs so h0 hv
   go_enter func189,ntmps189
   go_wp2_with fail
   refine mo hbj.out λw1 h=>?_
   have k4:=h.r4
   have f4:=h.rf 4
   have h2:=h.C9 at_
   replace h2:=hid h2
   clear h
   go_wp2
   go_end0
   exact⟨rfl,h2.out⟩
theorem Mo(s:Mt):ar s 2 0=s.top 1∧ar s 2 1=s.top 0:=by
 unfold ar Mt.args
 exact⟨rfl,rfl⟩
end
theorem Ke{c:Vc}{g:Nat}{x:Rn}{src:Value}{s:Mt}{ba b:Nat}{w w0:World}{F:Nat->Prop}{op arg lit cells f0 f1:Int}{r:Array Value}
 (so:On F w (aa (ae b 164 #[op,arg,lit,cells]::ae ba 3 r::vL c g x src s)) w0) (hs:s.Ok)
 (SJ: (if hasB s.r 0 then(0:Int)else s.pr.un)=f0) (Zu: (if hasB s.r 1 then(0:Int)else s.pr.un)=f1):
 (∀W,On F w (aa (ae b 164 #[op,arg,lit,cells]::ae ba 3 r::vL c g x src s)) W->Calls prog 14 #[c.gR,(0:Int)] W (Quiet (.tuple #[(s.bu 0),f0]) W))∧
 (∀W,On F w (aa (ae b 164 #[op,arg,lit,cells]::ae ba 3 r::vL c g x src s)) W->Calls prog 14 #[c.gR,(1:Int)] W (Quiet (.tuple #[(s.bu 1),f1]) W))∧
 (∀W,On F w (aa (ae b 164 #[op,arg,lit,cells]::ae ba 3 r::vL c g x src s)) W->W.cell? (g,0)=some (c.gM:Vl)∧W.cell? (c.gM,6)=some (c.gR:Vl)∧W.cell? (b,0)=some (op:Vl)∧W.cell? (b,1)=some (arg:Vl)):=by
 refine⟨λW h=> ?_,λW h=> ?_,λW h=>⟨h.tail.tail.r0,h.tail.tail.m6,(h.ab 0 rfl).cell 0,(h.ab 0 rfl).cell 1⟩⟩
 ·obtain⟨gb,hi⟩:=h.tail.tail.im
  have h1:=oD h.tail.tail.sr hi hs.pr hs.rle 0
  unfold qb at h1
  rw[SJ]at h1
  exact h1
 ·obtain⟨gb,hi⟩:=h.tail.tail.im
  have h1:=oD h.tail.tail.sr hi hs.pr hs.rle 1
  unfold qb at h1
  rw[Zu]at h1
  exact h1
section
variable {w w':World}{F:Nat->Prop}{c:Vc}{g:Nat}{x:Rn}{src:Value}{s:Mt}{A B:Asr}
theorem cQ(n:Nat)(hs:s.Ok): (s.ak n []).2.Ok:=by
 unfold Mt.ak
 rw[if_neg (by simp)]
 exact nO (nF hs (s.d-n) oM) [] (by simp)
theorem BQ(h:On F w (aa (A::B::vL c g x src s)) w')(hs:s.Ok)(n:Nat)(hn:n<=s.d):Calls prog 103 #[g,(n:Int),.slice none 0 0] w' (Got (.returned (.tuple #[])) (aa (A::B::vL c g x src (s.ak n []).2)) F w):=
 jS 2 (by simp) rfl h hs n hn
theorem BF(s:Mt)(n:Nat): (s.ak n []).2.r=s.r∧(s.ak n []).2.pr=s.pr:=by unfold Mt.ak;split<;>exact⟨rfl,rfl⟩
theorem C7{ba:Nat}{n:Nat}(h:On F w (aa (A::ae ba 3 (ag (s.args n))::vL c g x src (s.ak n []).2)) w')(hs:s.Ok)(OF: (s.r:Int) -0+n<=s.pr.rm):Calls prog 60 #[c.gR,.slice ba n n] w' (Got (.returned (.int .i64 0)) (aa (A::ae ba 3 (ag (s.args n))::vL c g x src ((s.ak n []).2.az (s.args n)))) F w):=
 kZ 2 (by simp) rfl h (cQ n hs) (s.args n) (IA s n) 1 oM ba rfl n (og s n).symm (by rw[og,(BF s n).1,(BF s n).2];omega)
theorem wN(h:On F w (aa (A::B::vL c g x src s)) w')(hs:s.Ok){v:Int}(hv:V64 v)(OF:1<=s.pd.rm- (s.d-0)):Calls prog 103 #[g,((0:Nat):Int),.slice w'.heap.size 1 1] (w'.alloc (.cells #[v] 3)) (Got (.returned (.tuple #[])) (aa (ae w'.heap.size 3 #[v]::A::B::vL c g x src (s.ak 0 [v]).2)) F w):=
 ir 3 (by simp) rfl (h.box #[v] 3) hs 0 (Nat.zero_le _) [v] (λu hu=>by rw[List.mem_singleton.1 hu];exact hv) 0 oM _ rfl OF
theorem GV(h:On F w (aa (A::B::vL c g x src s)) w')(hs:s.Ok)(k:Nat)(hk:k<=s.r):Calls prog 16 #[c.gR] w'.drew (ax (s.r:Int) w'.drew)∧Calls prog 139 #[c.gR,(IntKind.i64.wrap ((s.r:Int) - (k:Int)))] w'.drew (Got (.returned (.bool true)) (aa (A::B::vL c g x src (s.eu (s.r-k)))) F w):=by
 rw[JH s.r k hk hs.rle]
 exact⟨dG h.drew.tail.tail.sr,h.drew.bj 2 (by simp) λF' hb _ _=>J0 (On.refl hb) hs (s.r-k) oM⟩
theorem Cu(h:On F w (aa (A::B::vL c g x src s)) w')(hs:s.Ok)(h0:2<=s.r)(n at_:Int)(hv:V64 n)(ends:Bool):Calls prog 189 #[g,n,.bool ends,at_] w' (Got (.returned (.tuple #[])) (aa (A::B::vL c g (dx n ends at_ x s).x src (dx n ends at_ x s).s)) F w):=
 h.bj 2 (by simp) λF' hb _ _=>OY hb hs h0 n at_ hv ends
end
def mY(n m a:Int):Bool:=decide (bits .xor .i64 (IntKind.i64.wrap (n-m)) (IntKind.i64.wrap (IntKind.i64.wrap (n-m) +a)) <0) &&decide (bits .xor .i64 (IntKind.i64.wrap (n-m)) a<0)
theorem jw(op arg lit cells:Int)(q:Rn->Mt->Rs)(hq :
 ((op=6∨op=13)∧q=λx s=>⟨0,x,((s.ak (Code.ai op).1.toNat []).2).az (s.args (Code.ai op).1.toNat)⟩)∨
 (op=7∧q=λx s=>if ar s 2 0=ar s 2 1 then⟨0,{ x with next:=arg },(s.ak 2 []).2⟩else⟨0,x,((s.ak 2 []).2).az (s.args 2)⟩)∨
 (op=8∧q=λx s=>dx (wrap64 (s.bu 0+1)) (wrap64 (s.bu 0+1) ==s.bu 1) arg x s)∨
 (op=9∧q=λx s=>dx (wrap64 (s.bu 0+ar s 1 0)) (mY (s.bu 0) (s.bu 1) (ar s 1 0)) arg x (s.ak 1 []).2)∨
 (op=10∧q=λx s=>⟨0,x,s.eu (s.r-2)⟩)∨
 ((op=11∨op=15)∧q=λx s=>aJ 0 [s.bu 0] x s)∨
 (op=12∧q=λx s=>aJ 0 [s.bu 2] x s)∨
 (op=14∧q=λx s=>aJ 0 [s.bu 0] x (s.eu (s.r-1)))):dj 138 ⟨op,arg,lit,cells⟩ q:=by
 intro c g x src s ba w F hs hx RM Ry IT hb
 obtain⟨n,hw⟩: ∃n,(Code.ai op).1.toNat=n:=⟨_,rfl⟩
 have hn:n<=s.d:=by have h:=IT.tk;dsimp only at h;omega
 simp only[hw]at hb⊢
 obtain⟨so,b0,b1,-⟩:=oe hb op arg lit cells
 obtain⟨f0,SJ⟩: ∃f:Int,(if hasB s.r 0 then(0:Int)else s.pr.un)=f:=⟨_,rfl⟩
 obtain⟨f1,Zu⟩: ∃f:Int,(if hasB s.r 1 then(0:Int)else s.pr.un)=f:=⟨_,rfl⟩
 obtain⟨hcy,hck,RX⟩:=Ke so hs SJ Zu
 have OF: (op=11∨op=15∨op=12∨op=14)->1<=s.pd.rm- (s.d-0):=λh=>by
  have h1:=IT.room
  rcases h with rfl|rfl|rfl|rfl
  all_goals
   dsimp only at h1
   rw[if_neg oM,show(Code.ai _)= ((0:Int),(1:Int))from rfl]at h1
   dsimp only at h1
   omega
 obtain⟨R,hR⟩: ∃R,q x s=R:=⟨_,rfl⟩
 have hf:R.f=0:=by
  subst hR
  rcases hq with⟨_,rfl⟩ | ⟨_,rfl⟩ | ⟨_,rfl⟩ | ⟨_,rfl⟩ | ⟨_,rfl⟩ | ⟨h,rfl⟩ | ⟨h,rfl⟩ | ⟨h,rfl⟩
  all_goals first|rfl| (dsimp only;unfold dx;split<;>rfl) | (dsimp only;split<;>rfl) |exact sM (OF oM)
 have Ws:=IT.off
 have YK:=IT.CA
 dsimp only at Ws YK
 rw[hR,hf]
 show Calls prog 138 #[g,.agg #[op,arg,lit,cells],.slice ba n n] w (Got (.returned (.tuple #[])) (aa (ae ba 3 (ag (s.args n))::vL c g R.x src R.s)) F w)
 have hrv:=λn=>(fO _ _ _ _:V64 (s.bu n))
 have Wh:=hx.base
 clear hb hx RM Ry IT SJ Zu hf
 replace⟨hq,hw,hn,hs,hR,hrv⟩:=iF hq hw hn hs hR hrv
 replace Ws:=hid (And.intro Wh Ws)
 replace⟨YK,OF,hcy,hck,RX,so⟩:=iF YK OF hcy hck RX so
 clear Wh
 go_enter func138,ntmps138
 obtain⟨d0,d6,d1,d2⟩:=RX.out _ so.out
 go_wp2_with fail
 refine mo (hcy.out _ so.out) λw1 hB=>?_
 have M0:=so.out.below hB
 obtain⟨d01,d61,d11,d21⟩:=RX.out _ M0
 clear d0 d6 d1 d2 b0 b1 hB
 replace M0:=hid M0
 go_wp2_with fail
 refine mo (hck.out _ M0.out) λw2 hB=>?_
 have BY:=M0.out.below hB
 obtain⟨d02,d62,d12,d22⟩:=RX.out _ BY
 clear d01 d61 d11 d21 hB M0 hcy hck so
 replace BY:=hid BY
 rcases hq.out with⟨ho,rfl⟩ | ⟨rfl,rfl⟩ | ⟨rfl,rfl⟩ | ⟨rfl,rfl⟩ | ⟨rfl,rfl⟩ | ⟨ho,rfl⟩ | ⟨rfl,rfl⟩ | ⟨rfl,rfl⟩
 all_goals clear hq
 ·rcases ho with rfl|rfl
  all_goals
   first
    | (obtain rfl:2=n:=hw.out;have hrm: (s.r:Int) -0+ (2:Nat)<=s.pr.rm:=YK.out)
    | (obtain rfl:1=n:=hw.out;have hrm: (s.r:Int) -0+ (1:Nat)<=s.pr.rm:=YK.out)
   replace hrm:=hid hrm
   have Ro:=hid (BQ BY.out hs.out _ hn.out)
   go_wp2_with fail
   refine mo Ro.out λw3 h=>?_
   have k0:=h.tail.tail.r0
   have k6:=h.tail.tail.m6
   replace h:=hid (C7 h hs.out hrm.out)
   clear d02 d62 d12 d22
   go_wp2_with fail
   refine mo h.out λw4 h=>?_
   replace h:=hid h
   go_wp2
   go_end0
   obtain rfl:=hR.out
   exact⟨rfl,h.out.tail⟩
 ·obtain rfl:2=n:=hw.out
  have Ro:=hid (BQ BY.out hs.out _ hn.out)
  go_wp2_with fail
  refine mo Ro.out λw3 h=>?_
  have k0:=h.tail.tail.r0
  have k6:=h.tail.tail.m6
  have k4:=h.tail.tail.r4
  have z4:=h.tail.tail.rf 4
  have ka:w3.cell? (ba,0)=some ((ar s 2 0):Vl):=aj (h.ab 1 rfl) oM
  have kb:w3.cell? (ba,1)=some ((ar s 2 1):Vl):=aj (h.ab 1 rfl) oM
  have k1:w3.cell? (w.heap.size,1)=some (arg:Vl):=(h.ab 0 rfl).cell 1
  replace h:=hid h
  clear d02 d62 d12 d22
  have SA:=hR.out
  try dsimp only at SA
  by_cases hz:ar s 2 0=ar s 2 1
  ·have ez: (ar s 2 0==ar s 2 1)=true:=by simpa using hz
   rw[if_pos hz]at SA
   replace SA:=hid SA
   replace h:=hid λn=>(h.out.drewN n).setAt 2 rfl 4 (.int .i64 arg)
   clear hz
   go_wp2_with fail
   go_quiet (fail)
   go_wp2
   go_end0
   obtain rfl:=SA.out
   exact⟨rfl,(h.out _).tail⟩
  ·have ez: (ar s 2 0==ar s 2 1)=false:=by simpa using hz
   rw[if_neg hz]at SA
   replace SA:=hid SA
   have hrm:=YK.out
   rw[show s.same=false by
    unfold Mt.same
    rw[(Mo s).1,(Mo s).2]at hz
    simpa using λh=>hz h.symm]at hrm
   replace h:=hid λn=>C7 (h.out.drewN n) hs.out hrm
   clear hz hrm
   go_wp2_with fail
   go_quiet (fail)
   go_wp2_with fail
   refine mo (h.out _) λw4 h=>?_
   replace h:=hid h
   go_wp2
   go_end0
   obtain rfl:=SA.out
   exact⟨rfl,h.out.tail⟩
 ·have h0: (2:Int)<=s.r-x.base:=Ws.out.2
  have h:=hid (Cu BY.out hs.out (by have:=Ws.out.1;omega) (wrap64 (s.bu 0+1)) arg (aU _) (wrap64 (s.bu 0+1) ==s.bu 1))
  clear h0
  go_wp2_with fail
  refine mo h.out λw3 h=>?_
  replace h:=hid h
  go_wp2
  go_end0
  obtain rfl:=hR.out
  exact⟨rfl,h.out.tail⟩
 ·obtain rfl:1=n:=hw.out
  have Ro:=hid (BQ BY.out hs.out _ hn.out)
  go_wp2_with fail
  refine mo Ro.out λw3 h=>?_
  have WJ: ∀W,Blk W ba 3 (ag (s.args 1))->W.cell? (ba,0)=some ((ar s 1 0):Vl):=λW hW=>aj hW oM
  have ka:=WJ _ (h.ab 1 rfl)
  have k1:w3.cell? (w.heap.size,1)=some (arg:Vl):=(h.ab 0 rfl).cell 1
  have h0: (2:Int)<=s.r-x.base:=Ws.out.2
  have htu:=Cu h.drew (cQ 1 hs.out) (by have:=Ws.out.1;rw[(BF s 1).1];omega) (wrap64 (s.bu 0+ar s 1 0)) arg (aU _) (mY (s.bu 0) (s.bu 1) (ar s 1 0))
  have SA:dx (wrap64 (s.bu 0+ar s 1 0)) (mY (s.bu 0) (s.bu 1) (ar s 1 0)) arg x (s.ak 1 []).2=R:=hR.out
  rw[SA]at htu
  clear h h0 hR SA d02 d62 d12 d22 OF YK Ws hrv hw BY Ro
  generalize s.bu 0=N0 at *
  generalize s.bu 1=N1 at *
  generalize ar s 1 0=A0 at *
  replace WJ:=hid WJ
  unfold mY at htu
  rw[<-IntWalk.i64_left]at htu
  rcases hE1:decide (bits .xor .i64 (IntKind.i64.wrap (N0-N1)) (IntKind.i64.wrap (IntKind.i64.wrap (N0-N1) +A0)) <0)with _|_
  all_goals
   rw[hE1]at htu
   simp only[Bool.false_and,Bool.true_and]at htu
   replace⟨htu,hE1⟩:=iB htu hE1
   go_wp2_with fail
   have Zz:=hE1.out
   refine wp_region_held_drew (S:=λw'=>w'.cell? (ba,0)=some (A0:Vl)∧w'.cell? (w.heap.size,1)=some (arg:Vl)) kR ?_ (λhaN=> ?_)
   · ((try dsimp only);go_keep)
   refine tkL 0 ?_
   refine pt ?_
   refine tkL 1 ?_
   refine pt ?_
   refine tkL 2 ?_
   refine pt ?_
   refine tkL 3 ?_
   refine pt ?_
   refine tkL 4 ?_
   refine pt ?_
   refine tkL 5 ?_
   refine pt ?_
   refine tkL 6 ?_
   refine pt ?_
   refine tkL 7 ?_
   refine pt ?_
   refine tkL 8 ?_
   refine pt ?_
  all_goals
   first
    | (refine tkL 9 (v:= .bool false) ?_ (hy:=Or.inl ⟨by kernel_rfl,by intro w Y8;(try dsimp only at Y8);go_simp;(have hE4:=Zz;simp only[IntWalk.i64_left,decide_eq_false_iff_not,decide_eq_true_eq,Int.not_lt]at hE4;exact hE4)⟩)
       refine pt ?_
       refine tkL 10 ?_
       refine pt ?_
       refine tkU 11 ?_
       refine tkU 12 ?_
       refine tkU 13 ?_
       refine tkU 14 ?_
       refine tkU 15 ?_
       refine tkU 16 ?_
       refine pt ?_
       refine tkL 17 ?_)
    | (refine tkL 9 (v:= .bool true) ?_ (hy:=Or.inl ⟨by kernel_rfl,by intro w Y8;(try dsimp only at Y8);go_simp;(have hE4:=Zz;simp only[IntWalk.i64_left,decide_eq_false_iff_not,decide_eq_true_eq,Int.not_lt]at hE4;exact hE4)⟩)
       refine pt ?_
       refine tkL 10 ?_
       refine pt ?_
       refine tkL 11 ?_
       refine pt ?_
       refine tkL 12 ?_
       refine pt ?_
       refine tkL 13 ?_
       refine pt ?_
       refine tkL 14 ?_
       refine pt ?_
       refine tkL 15 ?_
       refine pt ?_
       refine tkL 16 (v:= .bool (decide (bits .xor .i64 (IntKind.i64.wrap (N0-N1)) A0<0))) ?_ (hy:=Or.inl ⟨by kernel_rfl,by intro w Y8;(try dsimp only at Y8);go_simp;try (first|with_reducible rfl|simp only[IntWalk.i64_left])⟩)
       refine pt ?_
       refine tkL 17 (v:= .bool (decide (bits .xor .i64 (IntKind.i64.wrap (N0-N1)) A0<0))) ?_ (hy:=Or.inl ⟨by kernel_rfl,by intro w Y8;(try dsimp only at Y8);go_simp;try (first|with_reducible rfl|simp only[IntWalk.i64_left])⟩))
   refine pt ?_
   refine tkL 18 ?_
   refine pt ?_
   refine tkL 19 ?_
   refine pt ?_
   refine wpAnyH_ready (rs:=[20]) kR (by simp) ?_
   refine AllReadyH.cons rfl (λK hK=> ?_) AllReadyH.nil
   go_simp
   go_wp2_with ((go_at_call 189;refine mo htu.out λw4 h=>?_;have n0:w4.cell? (ba,0)=some (A0:Vl):=WJ.out _ (h.ab 1 rfl);have n1:w4.cell? (w.heap.size,1)=some (arg:Vl):=(h.ab 0 rfl).cell 1;replace h:=hid h))
   refine hK.out _ _ ⟨n0,n1⟩ (λhaN=> ?_)
   clear hK K
   refine wpAnyH_done kR ?_ _
   go_wp2
   go_end0
   exact⟨rfl,h.out.tail⟩
 ·have h0: (2:Int)<=s.r-x.base:=Ws.out.2
  obtain⟨R2,hcut⟩:=GV BY.out hs.out 2 (by have:=Ws.out.1;omega)
  replace⟨R2,hcut⟩:=iB R2 hcut
  go_wp2_with fail
  go_region_held (λw'=>w'.cell? (g,0)=some (c.gM:Vl)∧w'.cell? (c.gM,6)=some (c.gR:Vl)) (go_keep)
   ((first
     | (go_at_call 16;refine R2.out.mono ?_;rintro e w5 ⟨rfl,rfl⟩)
     | (go_at_call 139;refine mo hcut.out λw5 h=>?_;have k0:=h.tail.tail.r0;have k6:=h.tail.tail.m6;replace h:=hid h)))
  all_goals go_wp2
  all_goals go_end0
  all_goals obtain rfl:=hR.out
  all_goals exact⟨rfl,h.out.tail⟩
 ·have h:=hid (wN BY.out hs.out (hrv.out 0) (OF.out oM))
  rcases ho with rfl|rfl
  all_goals
   go_wp2_with fail
   refine mo h.out λw3 h=>?_
   replace h:=hid h
   go_wp2
   go_end0
   obtain rfl:=hR.out
   exact⟨rfl,h.out.tail.tail⟩
 ·obtain⟨f2,RG⟩: ∃f:Int,(if hasB s.r 2 then(0:Int)else s.pr.un)=f:=⟨_,rfl⟩
  have heh:Calls prog 14 #[c.gR,(2:Int)] w2 (Quiet (.tuple #[(s.bu 2),f2]) w2):=by
   obtain⟨gb,hi⟩:=BY.out.tail.tail.im
   have h1:=oD BY.out.tail.tail.sr hi hs.out.pr hs.out.rle 2
   unfold qb at h1
   rw[RG]at h1
   exact h1
  replace heh:=hid heh
  clear RG
  go_wp2_with fail
  refine mo heh.out λw3 hB=>?_
  have h:=hid (wN (BY.out.below hB) hs.out (hrv.out 2) (OF.out (by simp)))
  clear hB BY d02 d62 d12 d22
  go_wp2_with fail
  refine mo h.out λw4 h=>?_
  replace h:=hid h
  go_wp2
  go_end0
  obtain rfl:=hR.out
  exact⟨rfl,h.out.tail.tail⟩
 ·have h0: (1:Int)<=s.r-x.base:=Ws.out.2
  have hk:1<=s.r:=by have:=Ws.out.1;omega
  obtain⟨R2,hcut⟩:=GV BY.out hs.out 1 hk
  replace⟨R2,hcut⟩:=iB R2 hcut
  go_wp2_with fail
  go_region_held (λw'=>w'.cell? (g,0)=some (c.gM:Vl)∧w'.cell? (c.gM,6)=some (c.gR:Vl)) (go_keep)
   ((first
     | (go_at_call 16;refine R2.out.mono ?_;rintro e w5 ⟨rfl,rfl⟩)
     | (go_at_call 139;refine mo hcut.out λw5 h=>?_;have k0:=h.tail.tail.r0;have k6:=h.tail.tail.m6;replace h:=hid h)))
  all_goals replace h:=hid (wN h.out (qJ hs.out (s.r-1) oM) (hrv.out 0) (OF.out (by simp)))
  all_goals go_wp2_with fail
  all_goals refine mo h.out λw4 h=>?_
  all_goals replace h:=hid h
  all_goals go_wp2
  all_goals go_end0
  all_goals obtain rfl:=hR.out
  all_goals exact⟨rfl,h.out.tail.tail⟩
theorem el(op arg lit cells:Int)(q:Rn->Mt->Rs)(h1:6<=op)(h2:op<=15)(SJ: ∀x s,(q x s).f=0)(hq:dj 138 ⟨op,arg,lit,cells⟩ q):dj 102 ⟨op,arg,lit,cells⟩ q:=by
 intro c g x src s ba w F hs hx RM Ry IT hb
 obtain⟨so,b0,b1,b2,b3⟩:=oe hb op arg lit cells
 have hl:=so.aM λF' RJ _ _=>hq c g x src s ba _ F' hs hx RM Ry IT RJ
 rw[SJ]at hl⊢
 have e1: (op==1)=false:=by rw[beq_eq_false_iff_ne];omega
 have e2: (op==2)=false:=by rw[beq_eq_false_iff_ne];omega
 have e3: (op==3)=false:=by rw[beq_eq_false_iff_ne];omega
 have e4: (op==4)=false:=by rw[beq_eq_false_iff_ne];omega
 have e5: (op==5)=false:=by rw[beq_eq_false_iff_ne];omega
 have e16: (op==16)=false:=by rw[beq_eq_false_iff_ne];omega
 have e17: (op==17)=false:=by rw[beq_eq_false_iff_ne];omega
 have e18: (op==18)=false:=by rw[beq_eq_false_iff_ne];omega
 have e19: (op==19)=false:=by rw[beq_eq_false_iff_ne];omega
 have e20: (op==20)=false:=by rw[beq_eq_false_iff_ne];omega
 generalize q x s=R at *
 simp only[aq.v]at hl
 show Calls prog 102 #[g,.agg #[op,arg,lit,cells],.slice ba (Code.ai op).1.toNat (Code.ai op).1.toNat] w (Got (.returned (.tuple #[])) (aa (ae ba 3 (ag (s.args (Code.ai op).1.toNat))::vL c g R.x src R.s)) F w)
 generalize ag (s.args (Code.ai op).1.toNat)=ac at *
 generalize (Code.ai op).1.toNat=n at *
 replace hl:=hid hl
 clear hb hs hx RM Ry IT SJ hq so h1 h2
 go_enter func102,ntmps102
 go_wp2_with fail
 refine mo hl.out λw1 h=>?_
 replace h:=hid h
 go_wp2
 go_end0
 exact⟨rfl,h.out.tail⟩
def je(x:Rn)(s:Mt):Rs×List Int:=
 if s.S.ay x.mode (ar s 2 1) false=0 then(⟨s.S.ay x.mode (ar s 2 1) true,x,{ s with S:=s.S.setCell x.mode (ar s 2 1) (wrap64 (s.S.aP x.mode (ar s 2 1) +ar s 2 0)) }⟩,[])else(⟨s.S.ay x.mode (ar s 2 1) false,x,s⟩,[])
theorem Og(arg lit cells:Int):br 106 (λg=>#[.pointer (some ⟨g,0,none⟩)]) ⟨69,arg,lit,cells⟩ je:=by
 intro c g x src s ba w F hs hx IT hb
 have Q8: (Code.ai 69).1.toNat=2:=by decide
 simp only[Q8]at hb⊢
 have so:=(On.refl hb).drew
 have r0:=(On.refl hb).tail.r0
 have r1:=(On.refl hb).tail.r1
 have m0:=(On.refl hb).tail.m0
 have a1:=aj ((On.refl hb).ab 0 rfl) (j:=1) oM
 obtain⟨gb,hi⟩:=so.img 3 rfl
 have hc:=jT hi x.mode (ar s 2 1)
 have th: ∀s2 W,On F w (aa (ae ba 3 (ag (s.args 2))::vL c g x src s2)) W->W.cell? (g,0)=some (c.gM:Vl)∧W.cell? (c.gM,0)=some (c.gI:Vl)∧W.cell? (g,1)=some (x.mode:Vl)∧W.cell? (ba,1)=some ((ar s 2 1):Vl)∧W.cell? (ba,0)=some ((ar s 2 0):Vl):=λs2 W h=>⟨h.tail.r0,h.tail.m0,h.tail.r1,aj (h.ab 0 rfl) oM,aj (h.ab 0 rfl) oM⟩
 have RZ: ∀W,On F w (aa (ae ba 3 (ag (s.args 2))::vL c g x src s)) W->Calls prog 62 #[c.gI,x.mode,(ar s 2 1),(IntKind.i64.wrap (s.S.aP x.mode (ar s 2 1) +ar s 2 0))] W.drew (Got (.returned (s.S.ay x.mode (ar s 2 1) true)) (aa (ae ba 3 (ag (s.args 2))::vL c g x src ({ s with S:=s.S.setCell x.mode (ar s 2 1) (wrap64 (s.S.aP x.mode (ar s 2 1) +ar s 2 0)) }))) F w):=λW h=>by
  rw[show IntKind.i64.wrap (s.S.aP x.mode (ar s 2 1) +ar s 2 0)=wrap64 (s.S.aP x.mode (ar s 2 1) +ar s 2 0)by rw[IntKind.wrap_i64];unfold wrap64;omega]
  exact h.drew.bG 3 rfl (λF' ha=>fY ha x.mode (ar s 2 1) _ (aU _))
 unfold je
 generalize Sw: ({ s with S:=s.S.setCell x.mode (ar s 2 1) (wrap64 (s.S.aP x.mode (ar s 2 1) +ar s 2 0)) }:Mt)=s2 at *
 clear Sw
 generalize s.S.ay x.mode (ar s 2 1) true=f2 at *
 generalize s.S.aP x.mode (ar s 2 1)=v at *
 generalize s.S.ay x.mode (ar s 2 1) false=f at *
 generalize ar s 2 0=X at *
 generalize ar s 2 1=Y at *
 show Calls _ _ #[g,(69:Int),.slice ba 2 2] _ _
 generalize ag (s.args 2)=ac at *
 replace⟨th,hc,RZ,so⟩:=iD th hc RZ so
 clear hb hi Q8 IT hs hx
 by_cases hf:f=0
 ·simp only[if_pos hf]
  subst hf
  by_cases RG:f2=0
  ·simp only[if_pos RG]
   subst RG
   go_enter func106,ntmps106
   go_wp2_with fail
   go_region_held (λw'=>w'.cell? (g,0)=some (c.gM:Vl)∧w'.cell? (c.gM,0)=some (c.gI:Vl)∧w'.cell? (g,1)=some (x.mode:Vl)∧w'.cell? (ba,1)=some (Y:Vl)) (go_keep)
    ((go_at_call 73;refine mo hc.out λw5 hb=>?_;simp only[];have Q7:=On.below so.out hb;have⟨n0,n1,n2,n3,n4⟩:=th.out _ _ Q7;clear hb;replace Q7:=hid Q7))
   all_goals go_wp2_with fail
   refine(bL _).mono ?_
   rintro e w6 ⟨rfl,rfl⟩
   simp only[]
   clear r0 r1 m0 a1
   go_wp2_with fail
   go_region_held (λw'=>w'.cell? (g,0)=some (c.gM:Vl)∧w'.cell? (c.gM,0)=some (c.gI:Vl)∧w'.cell? (g,1)=some (x.mode:Vl)∧w'.cell? (ba,1)=some (Y:Vl)∧w'.cell? (ba,0)=some (X:Vl)) (go_keep)
    ((first
      | (go_at_call 62;refine mo (RZ.out _ Q7.out) λw7 SL=>?_;simp only[];have⟨o0,o1,o2,o3,o4⟩:=th.out _ _ SL;replace SL:=hid SL)
      | (go_at_call 69;refine(bL _).mono ?_;rintro e w8 ⟨rfl,rfl⟩;simp only[])))
   all_goals go_wp2
   all_goals go_ret
   all_goals exact⟨none,0,_,rfl,bA _,SL.out⟩
  ·simp only[if_neg RG]
   have ht:=hid (λw=>cJ f2 RG w)
   replace RG:=hid RG
   go_enter func106,ntmps106
   go_wp2_with fail
   go_region_held (λw'=>w'.cell? (g,0)=some (c.gM:Vl)∧w'.cell? (c.gM,0)=some (c.gI:Vl)∧w'.cell? (g,1)=some (x.mode:Vl)∧w'.cell? (ba,1)=some (Y:Vl)) (go_keep)
    ((go_at_call 73;refine mo hc.out λw5 hb=>?_;simp only[];have Q7:=On.below so.out hb;have⟨n0,n1,n2,n3,n4⟩:=th.out _ _ Q7;clear hb;replace Q7:=hid Q7))
   all_goals go_wp2_with fail
   refine(bL _).mono ?_
   rintro e w6 ⟨rfl,rfl⟩
   simp only[]
   clear r0 r1 m0 a1
   go_wp2_with fail
   go_region_held (λw'=>w'.cell? (g,0)=some (c.gM:Vl)∧w'.cell? (c.gM,0)=some (c.gI:Vl)∧w'.cell? (g,1)=some (x.mode:Vl)∧w'.cell? (ba,1)=some (Y:Vl)∧w'.cell? (ba,0)=some (X:Vl)) (go_keep)
    ((first
      | (go_at_call 62;refine mo (RZ.out _ Q7.out) λw7 SL=>?_;simp only[];have⟨o0,o1,o2,o3,o4⟩:=th.out _ _ SL;replace SL:=hid SL)
      | (go_at_call 69;refine dead (ht.out _) ⟨rfl,rfl,SL.out.tail⟩ ?_;intro hF e w6 he hw;subst he;subst hw;replace hF:=hid hF)))
   all_goals exact hF.out.elim
 ·simp only[if_neg hf]
  have ht:=hid (λw=>cJ f hf w)
  replace hf:=hid hf
  go_enter func106,ntmps106
  go_wp2_with fail
  go_region_held (λw'=>w'.cell? (g,0)=some (c.gM:Vl)∧w'.cell? (c.gM,0)=some (c.gI:Vl)∧w'.cell? (g,1)=some (x.mode:Vl)∧w'.cell? (ba,1)=some (Y:Vl)) (go_keep)
   ((go_at_call 73;refine mo hc.out λw5 hb=>?_;simp only[];have Q7:=On.below so.out hb;have⟨n0,n1,n2,n3,n4⟩:=th.out _ _ Q7;clear hb;replace Q7:=hid Q7))
  all_goals go_wp2_with fail
  refine(ht.out _).mono ?_
  rintro e w6 ⟨rfl,rfl⟩
  exact⟨rfl,rfl,Q7.out.tail⟩
theorem Iw(arg lit cells:Int):cH 111 (λg=>#[.pointer (some ⟨g,0,none⟩)]) ⟨87,arg,lit,cells⟩ (λs=>[(s.S.beg 2:Int),s.hidden]):=by
 intro c g x src s ba w F hs IT hb
 have Q8: (Code.ai 87).1.toNat=0:=by decide
 simp only[Q8]at hb⊢
 have so:=On.refl hb
 have r0:=so.tail.r0
 have m0:=so.tail.m0
 obtain⟨gb,hi⟩:=so.img 3 rfl
 have Sj:=j5 hi 2 oM oM
 have hmv: ∀W,On F w (aa (ae ba 3 (ag (s.args 0))::vL c g x src s)) W->W.cell? (c.gM,10)=some (s.hidden:Vl)∧W.cell? (g,0)=some (c.gM:Vl):=λW h=>⟨(h.ab 2 rfl).cell 10,h.tail.r0⟩
 generalize ag (s.args 0)=ac at *
 generalize ((s.S.beg 2:Nat):Int)=u at *
 generalize s.hidden=v at *
 replace⟨Sj,so,hmv⟩:=iC Sj so hmv
 clear hb Q8 IT hs hi
 show Calls _ _ #[g,(87:Int),.slice ba 0 0] _ _
 go_enter func111,ntmps111
 go_wp2_with fail
 refine Sj.out.mono ?_
 rintro e w1 ⟨rfl,n,rfl⟩
 simp only[]
 have h1:=so.out.drewN n
 have⟨n0,n1⟩:=hmv.out _ h1
 generalize w.drewN n=w1 at *
 have h6:=hid (h1.tail.box #[u,v] 3)
 replace h1:=hid h1
 go_wp2
 go_ret
 exact⟨some ⟨w1.heap.size,0,none⟩,2,ae w1.heap.size 3 (ag [u,v]),rfl,aA _ _,h6.out⟩
theorem Iu(arg lit cells:Int):br 106 (λg=>#[.pointer (some ⟨g,0,none⟩)]) ⟨67,arg,lit,cells⟩ (λx s=>(⟨s.S.bV x.mode (ar s 1 0) false,x,s⟩,[((s.S.iN x.mode (ar s 1 0)).toNat:Int)])):=by
 intro c g x src s ba w F hs hx IT hb
 have Q8: (Code.ai 67).1.toNat=1:=by decide
 simp only[Q8]at hb⊢
 have so:=(On.refl hb).drew
 have r0:=(On.refl hb).tail.r0
 have r1:=(On.refl hb).tail.r1
 have m0:=(On.refl hb).tail.m0
 have a0:=aj ((On.refl hb).ab 0 rfl) (j:=0) oM
 obtain⟨gb,hi⟩:=so.img 3 rfl
 have hc:=Cf hi x.mode (ar s 1 0)
 have th: ∀W,On F w (aa (ae ba 3 (ag (s.args 1))::vL c g x src s)) W->W.cell? (g,0)=some (c.gM:Vl)∧W.cell? (c.gM,0)=some (c.gI:Vl)∧W.cell? (g,1)=some (x.mode:Vl)∧W.cell? (ba,0)=some ((ar s 1 0):Vl):=λW h=>⟨h.tail.r0,h.tail.m0,h.tail.r1,aj (h.ab 0 rfl) oM⟩
 generalize ar s 1 0=X at *
 show Calls _ _ #[g,(67:Int),.slice ba 1 1] _ _
 have hv0: (s.S.iN x.mode X).toNat<256:=(s.S.iN x.mode X).toNat_lt
 generalize (s.S.iN x.mode X).toNat=v at *
 generalize s.S.bV x.mode X false=f at *
 generalize ag (s.args 1)=ac at *
 replace⟨th,hc,so⟩:=iC th hc so
 clear hb hi Q8 IT hs hx
 by_cases hf:f=0
 ·simp only[if_pos hf]
  subst hf
  go_enter func106,ntmps106
  go_wp2_with fail
  go_region_held (λw'=>w'.cell? (g,0)=some (c.gM:Vl)∧w'.cell? (c.gM,0)=some (c.gI:Vl)∧w'.cell? (g,1)=some (x.mode:Vl)∧w'.cell? (ba,0)=some (X:Vl)) (go_keep)
   ((go_at_call 134;refine hc.out.mono ?_;rintro e w5 ⟨rfl,rfl⟩;simp only[];have Q7:=so.out;have⟨n0,n1,n2,n3⟩:=th.out _ Q7;replace Q7:=hid Q7))
  all_goals go_wp2_with fail
  refine(bL _).mono ?_
  rintro e w6 ⟨rfl,rfl⟩
  simp only[]
  have h6:=hid (Q7.out.tail.box #[(v:Int)] 3)
  go_wp2
  go_ret
  exact⟨some ⟨_,0,none⟩,1,ae _ 3 (ag [(v:Int)]),rfl,aA _ _,h6.out⟩
 ·simp only[if_neg hf]
  have ht:=hid (λw=>cJ f hf w)
  replace hf:=hid hf
  go_enter func106,ntmps106
  go_wp2_with fail
  go_region_held (λw'=>w'.cell? (g,0)=some (c.gM:Vl)∧w'.cell? (c.gM,0)=some (c.gI:Vl)∧w'.cell? (g,1)=some (x.mode:Vl)∧w'.cell? (ba,0)=some (X:Vl)) (go_keep)
   ((go_at_call 134;refine hc.out.mono ?_;rintro e w5 ⟨rfl,rfl⟩;simp only[];have Q7:=so.out;have⟨n0,n1,n2,n3⟩:=th.out _ Q7;replace Q7:=hid Q7))
  all_goals go_wp2_with fail
  refine(ht.out _).mono ?_
  rintro e w6 ⟨rfl,rfl⟩
  exact⟨rfl,rfl,Q7.out.tail⟩
theorem Gw(arg lit cells:Int):br 106 (λg=>#[.pointer (some ⟨g,0,none⟩)]) ⟨68,arg,lit,cells⟩ (λx s=>(⟨s.S.bV x.mode (ar s 2 1) true,x,{ s with S:=s.S.aS x.mode (ar s 2 1) (byteOf (ar s 2 0)) }⟩,[])):=by
 intro c g x src s ba w F hs hx IT hb
 have Q8: (Code.ai 68).1.toNat=2:=by decide
 simp only[Q8]at hb⊢
 have so:=(On.refl hb).drew
 have r0:=(On.refl hb).tail.r0
 have m0:=(On.refl hb).tail.m0
 have r1:=(On.refl hb).tail.r1
 have a0:=aj ((On.refl hb).ab 0 rfl) (j:=0) oM
 have a1:=aj ((On.refl hb).ab 0 rfl) (j:=1) oM
 have th: ∀s2 W,On F w (aa (ae ba 3 (ag (s.args 2))::vL c g x src s2)) W->W.cell? (g,0)=some (c.gM:Vl)∧W.cell? (c.gM,0)=some (c.gI:Vl)∧W.cell? (g,1)=some (x.mode:Vl)∧W.cell? (ba,0)=some ((ar s 2 0):Vl)∧W.cell? (ba,1)=some ((ar s 2 1):Vl):=λs2 W h=>⟨h.tail.r0,h.tail.m0,h.tail.r1,aj (h.ab 0 rfl) oM,aj (h.ab 0 rfl) oM⟩
 have hc:Calls prog 149 #[c.gI,x.mode,(ar s 2 1),.int .u8 (IntKind.u8.wrap (ar s 2 0))] w.drew (Got (.returned (s.S.bV x.mode (ar s 2 1) true)) (aa (ae ba 3 (ag (s.args 2))::vL c g x src ({ s with S:=s.S.aS x.mode (ar s 2 1) (byteOf (ar s 2 0)) }))) F w):=l6 (ar s 2 0)▸so.bG 3 rfl (λF' ha=>jQ ha x.mode (ar s 2 1) (byteOf (ar s 2 0)))
 generalize Sw: ({ s with S:=s.S.aS x.mode (ar s 2 1) (byteOf (ar s 2 0)) })=s2 at *
 clear Sw
 generalize s.S.bV x.mode (ar s 2 1) true=f at *
 generalize ar s 2 0=X at *
 generalize ar s 2 1=Y at *
 show Calls _ _ #[g,(68:Int),.slice ba 2 2] _ _
 generalize ag (s.args 2)=ac at *
 replace⟨th,hc,so⟩:=iC th hc so
 clear hb Q8 IT hs hx
 by_cases hf:f=0
 ·simp only[if_pos hf]
  subst hf
  go_enter func106,ntmps106
  go_wp2_with fail
  go_region_held (λw'=>w'.cell? (g,0)=some (c.gM:Vl)∧w'.cell? (c.gM,0)=some (c.gI:Vl)∧w'.cell? (g,1)=some (x.mode:Vl)∧w'.cell? (ba,0)=some (X:Vl)∧w'.cell? (ba,1)=some (Y:Vl)) (go_keep)
   ((first
     | (go_at_call 149;refine mo hc.out λw5 Q7=>?_;have⟨n0,n1,n2,n3,n4⟩:=th.out _ _ Q7;replace Q7:=hid Q7)
     | (go_at_call 69;refine(bL _).mono ?_;rintro e w6 ⟨rfl,rfl⟩)))
  all_goals go_wp2
  all_goals go_ret
  all_goals exact⟨none,0,_,rfl,bA _,Q7.out⟩
 ·simp only[if_neg hf]
  have ht:=hid (λw=>cJ f hf w)
  replace hf:=hid hf
  go_enter func106,ntmps106
  go_wp2_with fail
  go_region_held (λw'=>w'.cell? (g,0)=some (c.gM:Vl)∧w'.cell? (c.gM,0)=some (c.gI:Vl)∧w'.cell? (g,1)=some (x.mode:Vl)∧w'.cell? (ba,0)=some (X:Vl)∧w'.cell? (ba,1)=some (Y:Vl)) (go_keep)
   ((first
     | (go_at_call 149;refine mo hc.out λw5 Q7=>?_;have⟨n0,n1,n2,n3,n4⟩:=th.out _ _ Q7;replace Q7:=hid Q7)
     | (go_at_call 69;refine dead (ht.out _) ⟨rfl,rfl,Q7.out.tail⟩ ?_;intro hF e w6 he hw;subst he;subst hw;replace hF:=hid hF)))
  all_goals exact hF.out.elim
def clip(aZ:Int):Int:=max 0 (min aZ 1000000)
def Rn.start(mode aZ:Int):Rn:=⟨mode,clip aZ,0,0,false,false,0⟩
theorem rH(mode aZ:Int): (Rn.start mode aZ).Ok:=by
 have h:0<=clip aZ∧clip aZ<=1000000:=by unfold clip;omega
 exact⟨by show(0:Int)<=0;omega,by show(0:Int)<=512;omega,by show V64 0;unfold V64;omega,by show V64 0;unfold V64;omega,h.1,h.2⟩
