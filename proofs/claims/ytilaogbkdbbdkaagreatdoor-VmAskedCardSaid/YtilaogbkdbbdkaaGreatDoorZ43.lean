/- Chapter 11. Conditions: as written. -/
import Derived.Test.YtilaogbkdbbdkaaGreatDoorOm
import Derived.Test.YtilaogbkdbbdkaaGreatDoorZ42
import Derived.Test.YtilaogbkdbbdkaaGreatDoorZ41
open Go.Proofs.Tryz
namespace Go.Proofs.YtilaogbkdbbdkaaGreatDoor
set_option linter.unusedVariables false
set_option linter.unusedSimpArgs false
set_option maxHeartbeats 8000000
set_option maxRecDepth 100000
open Go.RowKit Go.Lib Go.Deep
namespace Vm
section
variable {w w':World}{F:Nat->Prop}{c:Vc}{g ba:Nat}{x:Rn}{src:Value}{s:Mt}
theorem Qt{W:World}{A1 A2 A3 A4:Asr}{L:List Asr}(h:On F w (aa (A1::A2::A3::A4::L)) W):On F w (aa (A2::A3::A4::A1::L)) W:=by
 replace h:On F w (aa (A4::A1::A2::A3::L)) W:=h.front 3 rfl
 replace h:On F w (aa (A3::A4::A1::A2::L)) W:=h.front 3 rfl
 replace h:On F w (aa (A2::A3::A4::A1::L)) W:=h.front 3 rfl
 exact h
theorem jz(m:Nat){L:List Asr}(hm:m<=L.length)(hL:L.drop m=vL c g x src s)(h:On F w (aa L) w')(hs:s.Ok)(n:Nat)(hn:n<=s.d)(l:List Int)(hl: ∀v∈l,V64 v)(hll:l.length<=100000)
 (j:Nat) (hj:j<m) (rb:Nat) (An:L[j]? = some (ae rb 3 (ag l))):
 Calls prog 103 #[g,(n:Int),.slice rb l.length l.length] w' (Got (bp (s.ak n l).1) (aa (L.take m++vL c g x src (s.ak n l).2)) F w):=by
 refine h.bj m hm λF' hb Wf _=> ?_
 rw[hL]at hb
 obtain⟨F3,hB,SF⟩:=Wf j _ hj An
 obtain⟨h1,h2⟩:=aA rb l _ _ hB
 exact K5 hb hs n hn l hl hll (some ⟨rb,0,none⟩) l.length h1 (λa ha=>⟨λhk=>SF _ (h2 a ha) hk,by
  obtain rfl:a= ⟨rb,0,none⟩:=by injection ha with ha;exact ha.symm
  exact hB.1.lt⟩)
theorem tV(hb: (aa (ae ba 3 (ag (s.args 3))::vL c g x src s)).holds w F)(hp:Dcs c src s)(hw:WkN c (.pointer none) s)(h0:0<=s.T.aC)(h8:s.T.aC<8)(RW:fX c s.au)(Sy:s.seen.length+1000000<1000000000){nm1:List UInt8}{hd1 xt1:Nat}{im1 hh1 il1 ok1:Bool}{R:Rs}(hs:s.Ok)(hx:x.Ok)(h3:3<=s.d)(h1:0<=ar s 3 1)(h2:0<=ar s 3 2)(hf:cP x s (ar s 3 0) (ar s 3 1)=0)
 (hfp: ∀W e w',ef (gV s.S (dS s) (s.S.text x.mode (ar s 3 0) (ar s 3 1)).data.toList) W e w'->e = .returned (.tuple #[.agg #[.string ⟨nm1.toArray⟩,(hd1:Int),(xt1:Int),.bool im1,.bool hh1,.bool il1],.bool ok1])∧Below W.heap.size W w')
 (hR: (ok1=false∧aJ 3 [-1] (x.pay (ar s 3 1)) s=R)∨(ok1=true∧V64 (xt1:Int)∧Inn { jC (x.pay (ar s 3 1)) s with base:=((s.ak 3 []).2.r:Int) } (s.ak 3 []).2∧AJ (x.pay (ar s 3 1)) (s.ak 3 []).2 (jC (x.pay (ar s 3 1)) s).left (cR (xt1:Int) { jC (x.pay (ar s 3 1)) s with base:=((s.ak 3 []).2.r:Int) } (s.ak 3 []).2)=R)):
 Calls prog 110 #[g,.slice ba 3 3] w (Got (bp R.f) (aa (ae ba 3 (ag (s.args 3))::vL c g R.x src R.s)) F w):=by
 have so:=On.refl hb
 have th: ∀x2 s2 W,On F w (aa (ae ba 3 (ag (s.args 3))::vL c g x2 src s2)) W->W.cell? (ba,0)=some ((ar s 3 0):Vl)∧W.cell? (ba,1)=some ((ar s 3 1):Vl)∧W.cell? (g,0)=some (c.gM:Vl)∧W.cell? (c.gM,1)=some (c.gS:Vl):=λx2 s2 W h=>⟨aj (h.ab 0 rfl) oM,aj (h.ab 0 rfl) oM,h.tail.r0,(h.ab 2 rfl).cell 1⟩
 have a2: ∀x2 s2 W,On F w (aa (ae ba 3 (ag (s.args 3))::vL c g x2 src s2)) W->W.cell? (ba,2)=some ((ar s 3 2):Vl):=λx2 s2 W h=>aj (h.ab 0 rfl) oM
 have hsz: (s.S.text x.mode (ar s 3 0) (ar s 3 1)).size<=140737488355327:=by
  obtain⟨gb,hi⟩:=so.img 3 rfl
  have:=pi s.S hi.ok x.mode (ar s 3 0) (ar s 3 1)
  omega
 have SE:=ie hx (ar s 3 1)
 have Si: ∀W,On F w (aa (ae ba 3 (ag (s.args 3))::vL c g x src s)) W->Calls prog 156 #[g,(ar s 3 0),(ar s 3 1)] W (Got (gO (cP x s (ar s 3 0) (ar s 3 1)) (s.S.text x.mode (ar s 3 0) (ar s 3 1))) (aa (ae ba 3 (ag (s.args 3))::vL c g (x.pay (ar s 3 1)) src s)) F w):=λW h=>h.aM λF' RJ _ _=>mS RJ hx _ _ (aN s 3 1)
 have R3: ∀(B:Asr) W,On F w (aa (B::ae ba 3 (ag (s.args 3))::vL c g x src s)) W->Calls prog 156 #[g,(ar s 3 0),(ar s 3 1)] W (Got (gO (cP x s (ar s 3 0) (ar s 3 1)) (s.S.text x.mode (ar s 3 0) (ar s 3 1))) (aa (B::ae ba 3 (ag (s.args 3))::vL c g (x.pay (ar s 3 1)) src s)) F w):=λB W h=>h.aM λF' RJ _ _=>(On.refl RJ).aM λF'' SG _ _=>mS SG hx _ _ (aN s 3 1)
 have WZ: ∀(B:Asr) W,On F w (aa (B::ae ba 3 (ag (s.args 3))::vL c g (x.pay (ar s 3 1)) src s)) W->Calls prog 9 #[c.gS,.string (s.S.text x.mode (ar s 3 0) (ar s 3 1))] W (λe w'=>e = .returned (.tuple #[.agg #[.string ⟨nm1.toArray⟩,(hd1:Int),(xt1:Int),.bool im1,.bool hh1,.bool il1],.bool ok1])∧Below W.heap.size W w'):=λB W h=>(hp.Nl [B,ae ba 3 (ag (s.args 3))] h _ hsz).mono (hfp W)
 have VQ: ∀W,On F w (aa (ae ba 3 (ag (s.args 3))::vL c g (x.pay (ar s 3 1)) src s)) W->Calls prog 9 #[c.gS,.string (s.S.text x.mode (ar s 3 0) (ar s 3 1))] W (λe w'=>e = .returned (.tuple #[.agg #[.string ⟨nm1.toArray⟩,(hd1:Int),(xt1:Int),.bool im1,.bool hh1,.bool il1],.bool ok1])∧Below W.heap.size W w'):=λW h=>(hp.Nl [ae ba 3 (ag (s.args 3))] h _ hsz).mono (hfp W)
 rw[hf]at Si R3
 clear hfp
 generalize s.S.text x.mode (ar s 3 0) (ar s 3 1)=t at *
 generalize hg0:x.pay (ar s 3 1)=x2 at *
 generalize hac:ag (s.args 3)=ac at *
 generalize ar s 3 0=X at *
 generalize ar s 3 1=Y at *
 generalize hZe:ar s 3 2=Z at *
 have hxb:=SE.base
 have hxl:=SE.left
 have hgc:=SE.cG
 replace⟨h8,h0,RW,Sy,hw,hac,hZe,hg0⟩:=iH h8 h0 RW Sy hw hac hZe hg0
 have e1: ∀t,gO 0 t = .returned (.string t):=λt=>rfl
 rw[e1]at Si R3
 have hY2:decide (0<=Y)=true:=decide_eq_true h1
 have hZ2:decide (0<=Z)=true:=decide_eq_true h2
 have⟨a0,a1,r0,m2⟩:=th _ _ _ so
 have a2':=a2 _ _ _ so
 replace⟨th,a2,Si,R3,WZ,VQ,so,hR⟩:=iH th a2 Si R3 WZ VQ so hR
 clear hb hsz hp hx hf e1
 go_enter func110,ntmps110
 go_wp2_with fail
 refine(bz _ _).mono ?_
 rintro e w1 ⟨rfl,rfl⟩
 simp only[]
 go_upto_region 1 with fail
 go_cut [4,5] (λt4 t5 wx=> ∃gw,t4 = .pointer (some ⟨gw,0,none⟩)∧t5 = .bool ok1∧On F w1 (aa (ae gw 43 #[(.string ⟨nm1.toArray⟩),(.int .i64 (hd1:Int)),(.int .i64 (xt1:Int)),(.bool im1),(.bool hh1),(.bool il1)]::ae ba 3 ac::vL c g x2 src s)) wx)
 case first=>
  go_region_held (λw'=>w'.cell? (ba,0)=some (X:Vl)∧w'.cell? (ba,1)=some (Y:Vl)∧w'.cell? (g,0)=some (c.gM:Vl)∧w'.cell? (c.gM,1)=some (c.gS:Vl)) (go_keep)
   ((first
     | (go_at_call 156;refine mo (Si.out _ so.out.drew) λw5 Q7=>?_;simp only[];have⟨n0,n1,n2,n3⟩:=th.out _ _ _ Q7;replace Q7:=hid Q7)
     | (go_at_call 9;refine mo (VQ.out _ Q7.out) λw6 Sq=>?_;have R8:=Q7.out.below Sq;have⟨o0,o1,o2,o3⟩:=th.out _ _ _ R8;replace R8:=hid R8;clear Sq;have z0:=World.new_ne w6 _ o0;have z2:=World.new_ne w6 _ o2;have z3:=World.new_ne w6 _ o3;simp only[])
     | (go_at_call 9;have y0:=World.new_ne w5 _ n0;have y2:=World.new_ne w5 _ n2;have y3:=World.new_ne w5 _ n3;have Y5:=hid (Q7.out.box eS 43);refine mo (WZ.out _ _ Y5.out) λw6 Sq=>?_;have V4:=Y5.out.below Sq;have⟨o0,o1,o2,o3⟩:=th.out _ _ _ V4.tail;have d2:Blk w6 w5.heap.size 43 #[.string ⟨#[]⟩,(0:Int),(0:Int),.bool false,.bool false,.bool false]:=V4.ab 0 rfl;have e0:=d2.cell 0;have e1:=d2.cell 1;have e2:=d2.cell 2;have e3:=d2.cell 3;have e4:=d2.cell 4;have e5:=d2.cell 5;have f0:=d2.frozen 0;have f1:=d2.frozen 1;have f2:=d2.frozen 2;have f3:=d2.frozen 3;have f4:=d2.frozen 4;have f5:=d2.frozen 5;replace d2:=hid d2;replace V4:=hid V4;simp only[])
     | (go_at_call 156;have hx0:=hid (so.out.drew.box eS 43);refine mo (R3.out _ _ hx0.out) λw5 Y5=>?_;simp only[];have⟨n0,n1,n2,n3⟩:=th.out _ _ _ Y5.tail;have z0:=World.new_ne w1 _ a0;have z2:=World.new_ne w1 _ r0;have z3:=World.new_ne w1 _ m2;replace Y5:=hid Y5)
     | (go_at_call 9;refine mo (WZ.out _ _ Y5.out) λw6 Sq=>?_;have V4:On F w1 (aa (ae w1.heap.size 43 eS::ae ba 3 ac::vL c g x2 src s)) w6:=Y5.out.below Sq;have⟨o0,o1,o2,o3⟩:=th.out _ _ _ V4.tail;have d2:Blk w6 w1.heap.size 43 #[.string ⟨#[]⟩,(0:Int),(0:Int),.bool false,.bool false,.bool false]:=V4.ab 0 rfl;have e0:=d2.cell 0;have e1:=d2.cell 1;have e2:=d2.cell 2;have e3:=d2.cell 3;have e4:=d2.cell 4;have e5:=d2.cell 5;have f0:=d2.frozen 0;have f1:=d2.frozen 1;have f2:=d2.frozen 2;have f3:=d2.frozen 3;have f4:=d2.frozen 4;have f5:=d2.frozen 5;replace d2:=hid d2;replace V4:=hid V4;simp only[])))
  all_goals first
   | (have hz:=hid (R8.out.box #[(.string ⟨nm1.toArray⟩),(.int .i64 (hd1:Int)),(.int .i64 (xt1:Int)),(.bool im1),(.bool hh1),(.bool il1)] 43)
      generalize w6.alloc (.cells #[(.string ⟨nm1.toArray⟩),(.int .i64 (hd1:Int)),(.int .i64 (xt1:Int)),(.bool im1),(.bool hh1),(.bool il1)] 43)=W7 at *)
   | (have hg:=hx0
      have hz:=hid (((((((V4.out.setAt 0 rfl 0 (.string ⟨nm1.toArray⟩)).setAt 0 rfl 1 (.int .i64 (hd1:Int))).setAt 0 rfl 2 (.int .i64 (xt1:Int))).setAt 0 rfl 3 (.bool im1)).setAt 0 rfl 4 (.bool hh1)).setAt 0 rfl 5 (.bool il1)))
      clear hg e0 e1 e2 e3 e4 e5 f0 f1 f2 f3 f4 f5 V4 d2
      generalize ((((((w6.setCell (w1.heap.size,0) (.string ⟨nm1.toArray⟩)).setCell (w1.heap.size,1) (.int .i64 (hd1:Int))).setCell (w1.heap.size,2) (.int .i64 (xt1:Int))).setCell (w1.heap.size,3) (.bool im1)).setCell (w1.heap.size,4) (.bool hh1)).setCell (w1.heap.size,5) (.bool il1))=W7 at *)
   | (have hz:=hid (((((((V4.out.setAt 0 rfl 0 (.string ⟨nm1.toArray⟩)).setAt 0 rfl 1 (.int .i64 (hd1:Int))).setAt 0 rfl 2 (.int .i64 (xt1:Int))).setAt 0 rfl 3 (.bool im1)).setAt 0 rfl 4 (.bool hh1)).setAt 0 rfl 5 (.bool il1)))
      clear e0 e1 e2 e3 e4 e5 f0 f1 f2 f3 f4 f5 V4 d2
      generalize ((((((w6.setCell (w5.heap.size,0) (.string ⟨nm1.toArray⟩)).setCell (w5.heap.size,1) (.int .i64 (hd1:Int))).setCell (w5.heap.size,2) (.int .i64 (xt1:Int))).setCell (w5.heap.size,3) (.bool im1)).setCell (w5.heap.size,4) (.bool hh1)).setCell (w5.heap.size,5) (.bool il1))=W7 at *)
  all_goals go_wp2_with fail
  all_goals go_meet
  all_goals exact⟨_,rfl,rfl,hz.out⟩
 case rest=>
  obtain⟨gw,rfl,rfl,M0⟩:=hcut
  rcases hR.out with⟨rfl,SA⟩ | ⟨rfl,Ua,Se,hR⟩
  ·have BY:=M0.box #[(-1:Int)] 3
   have WD:=jz (w':=wc.alloc (.cells #[(-1:Int)] 3)) 3 (by simp) rfl BY hs 3 h3 [-1] (λv hv=>by rw[List.mem_singleton.1 hv];unfold V64;omega) (by simp) 0 oM wc.heap.size rfl
   simp only[List.take_succ_cons,List.take_zero,List.cons_append,List.nil_append,List.length_cons,List.length_nil,Nat.zero_add]at WD
   have SA: (⟨(s.ak 3 [-1]).1,x2,(s.ak 3 [-1]).2⟩:Rs)=R:=SA
   generalize s.ak 3 [-1]=P at *
   obtain⟨f,s2⟩:=P
   simp only at WD SA
   subst SA
   replace WD:=hid WD
   clear so M0 BY Si R3 WZ VQ th a2
   clear a0 a1 a2' r0 m2
   go_wp2_with fail
   refine WD.out.mono ?_
   rintro e w3 ⟨he,Rb⟩
   have Ra:=hid Rb.tail.tail
   clear Rb
   by_cases SJ:f=0
   ·rw[SJ,show bp 0 = .returned (.tuple #[])from rfl]at he
    subst he
    have Zu:=hid SJ
    clear SJ
    simp only[]
    go_wp2
    go_end0
    exact⟨by rw[Zu.out];rfl,Ra.out⟩
   ·rw[cB SJ]at he
    subst he
    have Zu:=hid SJ
    clear SJ
    simp only[]
    go_wp2
    exact⟨rfl,(cB Zu.out).symm,Ra.out⟩
  ·have WD:=jS (w':=wc) 2 (by simp) rfl M0 hs 3 h3
   simp only[List.take_succ_cons,List.take_zero,List.cons_append,List.nil_append]at WD
   have R1: (s.ak 3 []).2.Ok:=cQ 3 hs
   have haZ:WkN c (.pointer none) (s.ak 3 []).2:=hw.out.dH (aW s 3 [])
   have Wj: (s.ak 3 []).2.T=s.T:=wb s 3 []
   obtain⟨ht1,hbT,Ue,_⟩:=aB s 3 []
   generalize (s.ak 3 []).2=s1 at *
   clear so Si R3 WZ VQ th
   clear a0 a1 a2' r0 m2
   have he1:=R1.r
   have hfX:=R1.d
   have hprm:=R1.pr.rm
   have hpdm:=R1.pd.rm
   obtain⟨dD,VW⟩: ∃m,(jC x2 s).left=m:=⟨_,rfl⟩
   have hmm:min (ar s 3 2) x2.left=dD:=VW
   rw[hZe.out]at hmm
   have RU:0<=dD∧dD<=x2.left:=by omega
   obtain⟨hbH,heW⟩:=RU
   have hyR: ({ jC x2 s with base:=(s1.r:Int) }:Rn)= ⟨1,dD,0,0,false,true,(s1.r:Int)⟩:=by rw[<-VW];rfl
   have hR:AJ x2 s1 dD (cR (xt1:Int) ⟨1,dD,0,0,false,true,(s1.r:Int)⟩ s1)=R:=by rw[<-VW];exact hR
   have Se:Inn ⟨1,dD,0,0,false,true,(s1.r:Int)⟩ s1:=by rw[<-VW];exact Se
   have VS: (⟨1,dD,0,0,false,true,(s1.r:Int)⟩:Rn).Ok:=by
    refine⟨?_,?_,?_,?_,?_,?_⟩
    all_goals first
     | (show 0<=(s1.r:Int);omega)
     | (show(s1.r:Int)<=_;omega)
     | (show V64 0;unfold V64;omega)
     | (show 0<=dD;omega)
     | (show dD<=1000000;omega)
   have haB:=qM (xt:=(xt1:Int)) haZ R1 VS rfl (by rw[Wj];exact h0.out) (by rw[Wj];exact h8.out) Ua
   have Zm:=λgq W F' (hb: (VA c gq ⟨1,dD,0,0,false,true,(s1.r:Int)⟩ (.pointer none) s1).holds W F')=>MK hb haZ R1 VS rfl (by rw[Wj];exact h0.out) (by rw[Wj];exact h8.out) Ua (by rw[ht1];exact RW.out) (by rw[hbT];have h:=Sy.out;show s.seen.length+dD.toNat<_;omega)
   have hcG: ∀W,On F w1 (aa (ae gw 43 #[.string ⟨nm1.toArray⟩,(hd1:Int),(xt1:Int),.bool im1,.bool hh1,.bool il1]::ae ba 3 ac::vL c g x2 src s1)) W->W.cell? (g,0)=some (c.gM:Vl)∧W.cell? (c.gM,5)=some (c.gD:Vl)∧W.cell? (c.gM,6)=some (c.gR:Vl)∧W.cell? (g,2)=some (x2.left:Vl)∧W.cell? (gw,2)=some ((xt1:Int):Vl)∧W.cell? (ba,2)=some (Z:Vl):=λW h=>⟨h.tail.tail.r0,h.tail.tail.m5,h.tail.tail.m6,h.tail.tail.r2,(h.ab 0 rfl).cell 2,by have h1:=a2.out _ _ _ h.tail;exact h1⟩
   have hdD: ∀W,On F w1 (aa (ae gw 43 #[.string ⟨nm1.toArray⟩,(hd1:Int),(xt1:Int),.bool im1,.bool hh1,.bool il1]::ae ba 3 ac::vL c g x2 src s1)) W->Calls prog 16 #[c.gD] W (ax (s1.d:Int) W):=λW h=>dG (h.stk 5 rfl)
   have hdR: ∀W,On F w1 (aa (ae gw 43 #[.string ⟨nm1.toArray⟩,(hd1:Int),(xt1:Int),.bool im1,.bool hh1,.bool il1]::ae ba 3 ac::vL c g x2 src s1)) W->Calls prog 16 #[c.gR] W (ax (s1.r:Int) W):=λW h=>dG (h.stk 6 rfl)
   have hhZ:c.gD≠c.gR:=λe=>by
    have h1:=M0.rY 5 6 (by decide) rfl rfl
    exact h1 e
   obtain⟨hsf,SS⟩:=mU (xt:=(xt1:Int)) haZ R1 VS rfl (by rw[Wj];exact h0.out) (by rw[Wj];exact h8.out) Ua Se
   have heL:=rT (xt:=(xt1:Int)) haZ R1 VS rfl (by rw[Wj];exact h0.out) (by rw[Wj];exact h8.out) Ua
   unfold AJ at hR
   generalize hq:cR (xt1:Int) ⟨1,dD,0,0,false,true,(s1.r:Int)⟩ s1=q at *
   obtain⟨qf,qx,qs⟩:=q
   simp only at haB Zm hR hsf SS heL
   obtain⟨hqs,⟨hfA,hfL⟩,hqt,hqw⟩:=haB
   have hgX:s1.r<=qs.pr.rm:=by rw[hsf.pr];exact he1
   have hiN:s1.d<=qs.pd.rm:=by rw[hsf.pd];exact hfX
   replace hR:=hid hR
   have hqv:V64 qf:=heL.v64
   clear heL
   replace⟨WD,Zm,hcG,hdD,hdR,hmm,hqs⟩:=iG WD Zm hcG hdD hdR hmm hqs
   clear Ue hsf SS Se M0 haZ Wj ht1 hbT VS hyR VW hqt hqw R1 h0 h8 RW Sy hw Ua SE
   go_wp2_with fail
   refine mo WD.out λw3 Rb=>?_
   simp only[]
   have⟨g0,g5,g6,g2,gx,gz⟩:=hcG.out _ Rb
   replace Rb:=hid Rb
   clear WD
   go_upto_region 5 with fail
   go_cut [6,7] (λt6 t7 wx=>t6 = .int .i64 (s1.d:Int)∧t7 = .int .i64 (s1.r:Int)∧On F w1 (aa (ae gw 43 #[.string ⟨nm1.toArray⟩,(hd1:Int),(xt1:Int),.bool im1,.bool hh1,.bool il1]::ae ba 3 ac::vL c g x2 src s1)) wx)
   case first=>
    have haT:=hid Rb.out.drew
    go_region_held (λw'=>w'.cell? (g,0)=some (c.gM:Vl)∧w'.cell? (c.gM,5)=some (c.gD:Vl)∧w'.cell? (c.gM,6)=some (c.gR:Vl)) (go_keep)
     ((first
       | (go_at_call_of 16 (Value.pointer c.gD);refine(hdD.out _ haT.out).mono ?_;rintro e w4 ⟨rfl,rfl⟩;simp only[])
       | (go_at_call_of 16 (Value.pointer c.gR);refine(hdR.out _ haT.out).mono ?_;rintro e w4 ⟨rfl,rfl⟩;simp only[])))
    all_goals go_wp2_with fail
    all_goals go_meet
    all_goals exact⟨rfl,rfl,haT.out⟩
   case rest=>
    obtain⟨rfl,rfl,Ra⟩:=hcut
    clear Rb hdD hdR g0 g5 g6 g2 gx gz
    have⟨g0,g5,g6,g2,gx,gz⟩:=hcG.out _ Ra
    replace Ra:=hid Ra
    go_upto_region 6 with fail
    go_cut [8] (λt8 wx=>t8 = .int .i64 dD∧On F w1 (aa (ae gw 43 #[.string ⟨nm1.toArray⟩,(hd1:Int),(xt1:Int),.bool im1,.bool hh1,.bool il1]::ae ba 3 ac::vL c g x2 src s1)) wx)
    case first=>
     have hmm2:=hmm.out
     have hfP:=hid (λn=>Ra.out.drewN n)
     first
      | go_quiet (fail)
      | go_region
     all_goals go_wp2_with fail
     all_goals go_meet
     all_goals exact⟨by first|rfl| (rw[hmm.out]),by first|exact hfP.out _|exact Ra.out.drew⟩
    case rest=>
     obtain⟨rfl,Rf⟩:=hcut
     clear Ra g0 g5 g6 g2 gx gz
     have g0:=Rf.tail.tail.r0
     have h6:On F w1 (aa (ae gw 43 #[.string ⟨nm1.toArray⟩,(hd1:Int),(xt1:Int),.bool im1,.bool hh1,.bool il1]::ae ba 3 ac::nc c g x2 src::vL c wc.heap.size ⟨1,dD,0,0,false,true,(s1.r:Int)⟩ (.pointer none) s1)) (wc.alloc (.cells (GX c ⟨1,dD,0,0,false,true,(s1.r:Int)⟩ (.pointer none)) 102)):=Qt (Rf.box (GX c ⟨1,dD,0,0,false,true,(s1.r:Int)⟩ (.pointer none)) 102)
     replace⟨h6,Rf⟩:=iB h6 Rf
     go_upto_region 7 with fail
     go_cut [9] (λt9 wx=> ∃gq:Nat,t9 = .pointer gq∧On F w1 (aa (ae gw 43 #[.string ⟨nm1.toArray⟩,(hd1:Int),(xt1:Int),.bool im1,.bool hh1,.bool il1]::ae ba 3 ac::nc c g x2 src::vL c gq ⟨1,dD,0,0,false,true,(s1.r:Int)⟩ (.pointer none) s1)) wx)
     case first=>
      go_wp2_with fail
      go_meet
      exact⟨_,rfl,h6.out⟩
     case rest=>
      obtain⟨gq,rfl,Rz⟩:=hcut
      clear h6 Rf g0
      have gx:wc.cell? (gw,2)=some ((xt1:Int):Vl):=(Rz.ab 0 rfl).cell 2
      have hdO:=hid (Rz.bj 3 (by simp) λF' hb _ _=>Zm.out gq _ F' hb)
      replace Rz:=hid Rz
      clear Zm
      go_wp2_with fail
      refine mo hdO.out λw7 h7=>?_
      simp only[]
      have h7:On F w1 (aa (ae gw 43 #[.string ⟨nm1.toArray⟩,(hd1:Int),(xt1:Int),.bool im1,.bool hh1,.bool il1]::ae ba 3 ac::nc c g x2 src::vL c gq qx (.pointer none) qs)) w7:=h7
      have gl:w7.cell? (g,2)=some (x2.left:Vl):=(h7.ab 2 rfl).cell 2
      have gz:w7.frozen? (g,2)=false:=(h7.ab 2 rfl).frozen 2
      have gl2:w7.cell? (gq,2)=some (qx.left:Vl):=(h7.ab 3 rfl).cell 2
      have e9:wrap64 (x2.left-wrap64 (dD-qx.left))=x2.left- (dD-qx.left):=by
       have a: ∀v:Int,-9223372036854775808<=v->v<=9223372036854775807->wrap64 v=v:=λv _ _=>by unfold wrap64;omega
       rw[a (dD-qx.left) oM oM,a _ oM oM]
      have h8:On F w1 (aa (ae gw 43 #[.string ⟨nm1.toArray⟩,(hd1:Int),(xt1:Int),.bool im1,.bool hh1,.bool il1]::ae ba 3 ac::nc c g { x2 with left:=x2.left- (dD-qx.left) } src::vL c gq qx (.pointer none) qs)) (w7.setCell (g,2) (.int .i64 (x2.left- (dD-qx.left)))).drew:=(h7.setAt 2 rfl 2 (.int .i64 (x2.left- (dD-qx.left)))).drew
      have hlf:=And.intro hbH (And.intro heW (And.intro hfA (And.intro hfL (And.intro hxl hgc))))
      replace⟨hlf,h7,h8,e9⟩:=iD hlf h7 h8 e9
      clear hdO Rz gx hbH heW hfA hfL hxl hgc hxb
      generalize SO: ({ x2 with left:=x2.left- (dD-qx.left) }:Rn)=x3 at *
      go_upto_region 9 with fail
      go_cut [] (λwx=>On F w1 (aa (ae gw 43 #[.string ⟨nm1.toArray⟩,(hd1:Int),(xt1:Int),.bool im1,.bool hh1,.bool il1]::ae ba 3 ac::nc c g x3 src::vL c gq qx (.pointer none) qs)) wx)
      case first=>
       go_region
       all_goals go_wp2_with fail
       all_goals go_meet
       all_goals(rw[e9.out];exact h8.out)
      case rest=>
       have h9:On F w1 (aa (nc c gq qx (.pointer none)::ae gw 43 #[.string ⟨nm1.toArray⟩,(hd1:Int),(xt1:Int),.bool im1,.bool hh1,.bool il1]::ae ba 3 ac::vL c g x3 src qs)) wc:=hcut.front 3 rfl
       clear hcut h7 h8 gl gl2 gz
       have hrc:=hid (h9.bj 3 (by simp) λF' hb _ _=>MB (On.refl hb) hqs.out s1.r hgX)
       have g0:=h9.tail.tail.tail.r0
       have g6:=h9.tail.tail.tail.m6
       replace h9:=hid h9
       go_wp2_with fail
       refine mo hrc.out λw10 TK=>?_
       simp only[]
       have TK:On F w1 (aa (nc c gq qx (.pointer none)::ae gw 43 #[.string ⟨nm1.toArray⟩,(hd1:Int),(xt1:Int),.bool im1,.bool hh1,.bool il1]::ae ba 3 ac::vL c g x3 src (qs.cZ s1.r))) w10:=TK
       have hbS:=rr hqs.out s1.r hgX
       have hdh:s1.d<=(qs.cZ s1.r).pd.rm:=hiN
       have Ze:=hR.out
       replace hbS:=hid hbS
       clear h9 hrc g0 g6 hR hhZ hlf e9 hqs
       by_cases hqf:qf=0
       ·rw[if_pos hqf]at Ze
        have t1: (qf != 0)=false:=by simpa using hqf
        generalize qs.cZ s1.r=s3 at *
        have WD:=hid (jz 4 (by simp) rfl (TK.box #[qf] 3) hbS.out 0 (Nat.zero_le _) [qf] (λv hv=>by rw[List.mem_singleton.1 hv];exact hqv) (by simp) 0 oM _ rfl)
        replace⟨TK,Ze,hqf⟩:=iC TK Ze hqf
        clear hqv
        go_wp2_with fail
        refine WD.out.mono ?_
        rintro e w12 ⟨he,YQ⟩
        have YL:=hid YQ.tail.tail.tail
        clear YQ
        have hR3:=Ze.out
        unfold aJ at hR3
        obtain rfl:=hR3
        by_cases SJ: (s3.ak 0 [qf]).1=0
        ·rw[SJ,show bp 0 = .returned (.tuple #[])from rfl]at he
         subst he
         have Zu:=hid SJ
         clear SJ
         simp only[]
         go_wp2
         go_end0
         exact⟨by rw[Zu.out];rfl,YL.out⟩
        ·rw[cB SJ]at he
         subst he
         have Zu:=hid SJ
         clear SJ
         simp only[]
         go_wp2
         exact⟨rfl,(cB Zu.out).symm,YL.out⟩
       ·rw[if_neg hqf]at Ze
        have t1: (qf != 0)=true:=by simpa using hqf
        have hdc:=hid (TK.bj 3 (by simp) λF' hb _ _=>Lv (On.refl hb) hbS.out s1.d hdh)
        have hh7:=hid (sy hbS.out s1.d hdh)
        generalize (qs.cZ s1.r).ik s1.d=s3 at *
        have g0:=TK.tail.tail.tail.r0
        have g5:=TK.tail.tail.tail.m5
        replace⟨TK,Ze,hqf⟩:=iC TK Ze hqf
        go_wp2_with fail
        refine mo hdc.out λw11 h11=>?_
        simp only[]
        have h11:On F w1 (aa (nc c gq qx (.pointer none)::ae gw 43 #[.string ⟨nm1.toArray⟩,(hd1:Int),(xt1:Int),.bool im1,.bool hh1,.bool il1]::ae ba 3 ac::vL c g x3 src s3)) w11:=h11
        have WD:=hid (jz 4 (by simp) rfl (h11.box #[qf] 3) hh7.out 0 (Nat.zero_le _) [qf] (λv hv=>by rw[List.mem_singleton.1 hv];exact hqv) (by simp) 0 oM _ rfl)
        replace h11:=hid h11
        clear hqv
        go_wp2_with fail
        refine WD.out.mono ?_
        rintro e w12 ⟨he,YQ⟩
        have YL:=hid YQ.tail.tail.tail
        clear YQ
        have hR3:=Ze.out
        unfold aJ at hR3
        obtain rfl:=hR3
        by_cases SJ: (s3.ak 0 [qf]).1=0
        ·rw[SJ,show bp 0 = .returned (.tuple #[])from rfl]at he
         subst he
         have Zu:=hid SJ
         clear SJ
         simp only[]
         go_wp2
         go_end0
         exact⟨by rw[Zu.out];rfl,YL.out⟩
        ·rw[cB SJ]at he
         subst he
         have Zu:=hid SJ
         clear SJ
         simp only[]
         go_wp2
         exact⟨rfl,(cB Zu.out).symm,YL.out⟩
end
structure xE(s:Mt):Prop where
 img:s.S.Ok
 df:s.pd.fr=s.S.beg 4
 dm:s.S.beg 4+8*s.pd.rm<=s.S.beg 5
 rf:s.pr.fr=s.S.beg 5
theorem xE.dH{s s':Mt}(h:xE s)(n:dz s s')(hd:s'.pd=s.pd)(hr:s'.pr=s.pr):xE s':=
 ⟨n.ok h.img,by rw[hd,n.al.beg];exact h.df,by rw[hd,n.al.beg,n.al.beg];exact h.dm,by rw[hr,n.al.beg];exact h.rf⟩
theorem gg(s:Mt)(n:Nat)(l:List Int): (s.ak n l).2.pd=s.pd∧(s.ak n l).2.pr=s.pr:=by unfold Mt.ak;split<;>exact⟨rfl,rfl⟩
def FN:Kn:=λc src s=>WkN c src s∧0<=s.T.aC∧s.T.aC<8∧fX c s.au∧s.seen.length+1000000<1000000000∧xE s
section
variable {w w':World}{F:Nat->Prop}{c:Vc}{g ba:Nat}{x:Rn}{src:Value}{s:Mt}
theorem wL(hw:WkN c src s)(hl:xE s)(x2:Rn):Inn { jC x2 s with base:=((s.ak 3 []).2.r:Int) } (s.ak 3 []).2:=by
 have n:=aW s 3 []
 have h:=hl.dH n (gg s 3 []).1 (gg s 3 []).2
 exact⟨h.img,h.df,h.dm,h.rf,rfl,Int.natCast_nonneg _,Int.le_refl _,(hw.dH n).1.dcs.at8.ok⟩
theorem sP(hw:WkN c src s){n:List UInt8}{wd:Wd}(h:gV s.S (dS s) n=some wd):V64 (wd.xt:Int):=by
 have:=Nat.le_trans (lC _ _ _ (List.mem_of_find?_eq_some h)) (hw.1.dcs.at8.ok.le hw.1.dcs.at8.img)
 unfold V64
 omega
theorem PK(hb: (aa (ae ba 3 (ag (s.args 3))::vL c g x src s)).holds w F)(hp:FN c src s)(hs:s.Ok)(hx:x.Ok)(h3:3<=s.d):
 Calls prog 110 #[g,.slice ba 3 3] w (Got (bp (dt x s).f) (aa (ae ba 3 (ag (s.args 3))::vL c g (dt x s).x src (dt x s).s)) F w):=by
 obtain⟨hw,h0,h8,RW,Sy,hl⟩:=hp
 have hip:=hw.2
 subst hip
 by_cases YQ:0<=ar s 3 1∧0<=ar s 3 2
 ·by_cases hf:cP x s (ar s 3 0) (ar s 3 1)=0
  ·rcases hr:gV s.S (dS s) (s.S.text x.mode (ar s 3 0) (ar s 3 1)).data.toList with _|wd
   ·have e:dt x s=aJ 3 [-1] (x.pay (ar s 3 1)) s:=by
     unfold dt
     rw[if_pos YQ,if_pos hf,hr]
    rw[e]
    exact tV (nm1:=[]) (hd1:=0) (xt1:=0) (im1:=false) (hh1:=false) (il1:=false) (ok1:=false) hb hw.1.dcs hw h0 h8 RW Sy hs hx h3 YQ.1 YQ.2 hf (λW e w' h=>by rw[hr]at h;exact h) (.inl ⟨rfl,rfl⟩)
   ·have e:dt x s=AJ (x.pay (ar s 3 1)) (s.ak 3 []).2 (jC (x.pay (ar s 3 1)) s).left (cR wd.xt { jC (x.pay (ar s 3 1)) s with base:=((s.ak 3 []).2.r:Int) } (s.ak 3 []).2):=by
     unfold dt
     rw[if_pos YQ,if_pos hf,hr]
    rw[e]
    obtain⟨nm1,hd1,xt1,im1,hh1,il1⟩:=wd
    exact tV (ok1:=true) hb hw.1.dcs hw h0 h8 RW Sy hs hx h3 YQ.1 YQ.2 hf (λW e w' h=>by rw[hr]at h;exact h) (.inr ⟨rfl,sP hw hr,wL hw hl _,rfl⟩)
  ·have e:dt x s= ⟨cP x s (ar s 3 0) (ar s 3 1),x.pay (ar s 3 1),s⟩:=by
    unfold dt
    rw[if_pos YQ,if_neg hf]
   rw[e,cB hf]
   exact JG hb hx YQ.1 YQ.2 hf
 ·have e:dt x s= ⟨19,x,s⟩:=by
   unfold dt
   rw[if_neg YQ]
  rw[e,cB (by show(19:Int)≠0;decide)]
  exact K7 hb YQ
end
theorem I5(arg lit cells:Int):ej FN ⟨93,arg,lit,cells⟩ dt:=by
 intro c g x src s w F hp hs hx RM Ry IT hb
 show Calls _ _ #[_,.agg #[(93:Int),arg,lit,cells]] _ _
 have so:=(On.refl hb).box #[(93:Int),arg,lit,cells] 164
 have Sh:=λw=>jn 93 w
 have hwe:Code.ai 93= (3,1):=by decide
 have h3:3<=s.d:=(IT.wn 3).2
 rw[hwe]at Sh
 have hargs:=λw1 (h1:On F w (aa (ae w.heap.size 164 #[(93:Int),arg,lit,cells]::vL c g x src s)) w1)=>h1.aM λF' RJ _ _=>j6 RJ hs 3 oM
 have VP:=λ(B1:Asr) ba w2 (h:On F w (aa (B1::ae ba 3 (ag (s.args 3))::vL c g x src s)) w2)=>h.aM (L':=ae ba 3 (ag (s.args 3))::vL c g (dt x s).x src (dt x s).s) (e0:=bp (dt x s).f) λF' RJ _ _=>PK RJ hp hs hx h3
 generalize dt x s=Q at *
 obtain⟨f,x',s'⟩:=Q
 simp only at VP⊢
 replace⟨VP,Sh,hargs,so⟩:=iD VP Sh hargs so
 clear hp hb hs hx IT RM Ry hwe h3
 go_enter func72,ntmps72
 go_wp2_with fail
 refine mo (Sh.out _) λw1 Rh=>?_
 have M0:=so.out.below Rh
 replace hargs:=hid (hargs.out _ M0)
 clear Rh
 simp only[]
 go_wp2_with fail
 refine mo hargs.out λw2 BY=>?_
 simp only[]
 have b0:w2.cell? (w.heap.size,0)=some (.int .i64 93):=(BY.ab 0 rfl).cell 0
 replace VP:=hid (VP.out _ _ _ BY)
 clear M0 BY
 go_wp2_with fail
 refine VP.out.mono ?_
 rintro e w3 ⟨he,Rb⟩
 have Ra:=hid Rb.tail.tail
 clear Rb
 by_cases hf:f=0
 ·have SH:bp f = .returned (.tuple #[]):=by unfold bp;rw[if_pos hf]
  rw[SH]at he
  subst he
  replace SH:=hid SH
  clear hf
  simp only[]
  go_wp2
  go_end0
  exact⟨SH.out.symm,Ra.out⟩
 ·have SH:bp f = .panicked [flt f]:=by unfold bp;rw[if_neg hf]
  rw[SH]at he
  subst he
  replace SH:=hid SH
  clear hf
  simp only[]
  go_wp2
  exact⟨rfl,SH.out.symm,Ra.out⟩
theorem J2(B:Nat)(hB:B<=1000000000):sN bZ (λn c src s=>WkN c src s∧s.seen.length+n<=B) (λn c src s=>WkN c src s∧s.seen.length+n+1<=B) (λc src s=>WkN c src s∧s.seen.length<=B) where
 ok:=λn i q h=>⟨λc g x src s w F hp=>(fP i q h).1 c g x src s w F hp.1,λc src x s hp hs hx h1 h2 ha=>by
  have k:=(fP i q h).2 c src x s hp.1 hs hx h1 h2 ha
  exact⟨k.1,k.2.1,k.2.2.1,k.2.2.2.1,k.2.2.2.2.2,by rw[k.2.2.2.2.1];exact hp.2⟩⟩
 push:=λn c src s l h=>⟨h.1.dH (dW s l),h.2⟩
 told:=λn c src s x op h=>⟨h.1.told x op,by
  have h1:=l9 s x op
  have h2:=h.2
  omega⟩
 len:=λn c src s h=>by
  have h2:=h.2
  omega
 pr:=λ_ _ _ _ h=>⟨h.1,by have:=h.2;omega⟩
 qr:=λ_ _ _ _ h=>⟨h.1,by have:=h.2;omega⟩
theorem FE{c:Vc}{src:Value}{n:Nat}{x:Rn}{s:Mt}{q:Rs}(hw:WkN c src s)(hs:s.Ok)(hx:x.Ok)(h:jl n x s=some q)(hn:s.seen.length+n<=1000000000):q.s.seen.length<=s.seen.length+n:=by
 rw[qw]at h
 exact(nQ (J2 (s.seen.length+n) hn) c src n x s q ⟨hw,Nat.le_refl _⟩ hs hx h).2.2.2.2
theorem qc: ∀(n:Nat) (x:Rn) (s:Mt) (q:Rs),jl n x s=some q->q.s.T.aC=s.T.aC
 | 0,_,_,_,h=>by cases h
 | n+1,x,s,q,h=>by
   unfold jl at h
   rcases hr:kC x s with _|r
   ·rw[hr]at h;cases h
   rw[hr]at h
   have h1:=(mN hr).2.2.2
   simp only at h
   split at h
   ·obtain rfl:=Option.some.inj h;exact h1
   split at h
   ·obtain rfl:=Option.some.inj h;exact h1
   ·exact(qc n _ _ _ h).trans h1
section
variable {w w':World}{F:Nat->Prop}{c:Vc}{g ba:Nat}{x y:Rn}{src:Value}{s:Mt}{xt:Int}
theorem DU(hw:WkN c src s)(hs:s.Ok)(hy:y.Ok)(hm:y.mode=1)(h0:0<=s.T.aC)(h8:s.T.aC<8)(Ua:V64 xt)(hn:s.seen.length+1000001<=1000000000):
 (cR xt y s).s.seen.length<=s.seen.length+1000001∧(cR xt y s).s.T.aC=s.T.aC:=by
 by_cases OF:s.pr.rm-s.r<1
 ·have e:cR xt y s= ⟨4,y,s⟩:=by unfold cR;rw[if_pos OF]
  rw[e]
  exact⟨by show s.seen.length<=_;omega,rfl⟩
 ·obtain⟨g1,g2,g3,g4⟩:=iR hw hs hy hm h0 h8 Ua OF
  have h1:=hy.left
  have h2:=hy.cG
  have hl: (s.az [0]).seen.length=s.seen.length:=rfl
  have h3:=FE g3 g2 g4 g1 (by rw[hl];omega)
  rw[hl]at h3
  have h4:=qc _ _ _ _ g1
  exact⟨by omega,h4⟩
theorem wV(hs:s.Ok){n:Nat}(hn:n<=s.d)(l:List Int): (s.ak n l).2.Ok:=by
 by_cases h:s.pd.rm- (s.d-n) <l.length
 ·have e: (s.ak n l).2=s.jJ (s.d-n):=by unfold Mt.ak;rw[if_pos h]
  rw[e]
  exact nF hs _ oM
 ·exact gj hs hn oM
theorem EY(hp:FN c src s)(hs:s.Ok)(hx:x.Ok)(h3:3<=s.d)(hn:s.seen.length+1000001<=1000000000):
 (dt x s).s.Ok∧(dt x s).x.Ok∧(dt x s).s.au=s.au∧(dt x s).x.left<=x.left∧WkN c src (dt x s).s∧(dt x s).s.T.aC=s.T.aC∧xE (dt x s).s∧(dt x s).s.seen.length<=s.seen.length+1000001:=by
 obtain⟨hw,h0,h8,RW,Sy,hl⟩:=hp
 have SE:=ie hx (ar s 3 1)
 have hle:=jv x (ar s 3 1)
 unfold dt
 split
 ·split
  ·split
   ·have n:=aW s 3 [-1]
    exact⟨wV hs h3 _,SE,(aB s 3 [-1]).1,hle,hw.dH n,by show(s.ak 3 [-1]).2.T.aC=_;rw[n.T],hl.dH n (gg _ _ _).1 (gg _ _ _).2,by show(s.ak 3 [-1]).2.seen.length<=_;rw[(aB s 3 [-1]).2.1];omega⟩
   ·rename_i wd hr
    have Ua:=sP hw hr
    have n:=aW s 3 []
    have R1: (s.ak 3 []).2.Ok:=cQ 3 hs
    have Ui:=hw.dH n
    have ZM:=hl.dH n (gg s 3 []).1 (gg s 3 []).2
    have Se:=wL hw hl (x.pay (ar s 3 1))
    have ht1:=(aB s 3 []).1
    have hbT:=(aB s 3 []).2.1
    have Wj: (s.ak 3 []).2.T=s.T:=n.T
    generalize (s.ak 3 []).2=s1 at *
    generalize x.pay (ar s 3 1)=x2 at *
    have VS: ({ jC x2 s with base:=(s1.r:Int) }:Rn).Ok:=by
     have Rm:=R1.r
     have So:=R1.pr.rm
     have a1:=SE.left
     have a2:=SE.cG
     have hm:0<=ar s 3 2:=(‹0<=ar s 3 1∧0<=ar s 3 2›).2
     refine⟨?_,?_,?_,?_,?_,?_⟩
     ·show 0<=(s1.r:Int);omega
     ·show(s1.r:Int)<=_;omega
     ·show V64 0;unfold V64;omega
     ·show V64 0;unfold V64;omega
     ·show 0<=min (ar s 3 2) x2.left;omega
     ·show min (ar s 3 2) x2.left<=1000000;omega
    have q1:=qM Ui R1 VS rfl (by rw[Wj];exact h0) (by rw[Wj];exact h8) Ua
    have q2:=mU Ui R1 VS rfl (by rw[Wj];exact h0) (by rw[Wj];exact h8) Ua Se
    have q3:=DU Ui R1 VS rfl (by rw[Wj];exact h0) (by rw[Wj];exact h8) Ua (by rw[hbT];exact hn)
    have q4:=rT Ui R1 VS rfl (by rw[Wj];exact h0) (by rw[Wj];exact h8) Ua
    generalize cR (wd.xt:Int) { jC x2 s with base:=(s1.r:Int) } s1=q at *
    obtain⟨f,qx,qs⟩:=q
    simp only at q1 q2 q3 q4
    obtain⟨o1,⟨o2,o3⟩,o4,o5⟩:=q1
    have YK:s1.r<=qs.pr.rm:=by rw[q2.1.pr];exact R1.r
    have hdd:s1.d<=qs.pd.rm:=by rw[q2.1.pd];exact R1.d
    have hlq:xE qs:=⟨q2.1.wr.ok,by rw[q2.1.pd,q2.1.wr.al.beg];exact ZM.df,by rw[q2.1.pd,q2.1.wr.al.beg,q2.1.wr.al.beg];exact ZM.dm,by rw[q2.1.pr,q2.1.wr.al.beg];exact ZM.rf⟩
    have n1:=BN qs s1.r
    have k1:=rr o1 s1.r YK
    have e3: (if f=0 then qs.cZ s1.r else(qs.cZ s1.r).ik s1.d).Ok∧dz qs (if f=0 then qs.cZ s1.r else(qs.cZ s1.r).ik s1.d)∧(if f=0 then qs.cZ s1.r else(qs.cZ s1.r).ik s1.d).pd=qs.pd∧(if f=0 then qs.cZ s1.r else(qs.cZ s1.r).ik s1.d).pr=qs.pr∧(if f=0 then qs.cZ s1.r else(qs.cZ s1.r).ik s1.d).seen=qs.seen∧(if f=0 then qs.cZ s1.r else(qs.cZ s1.r).ik s1.d).au=qs.au:=by
     split
     ·exact⟨k1,n1,rfl,rfl,rfl,rfl⟩
     ·exact⟨sy k1 s1.d hdd,n1.trans (Ab _ _),rfl,rfl,rfl,rfl⟩
    unfold AJ
    simp only
    generalize (if f=0 then qs.cZ s1.r else(qs.cZ s1.r).ik s1.d)=s3 at *
    obtain⟨k3,n3,e1,e2,e4,e5⟩:=e3
    have n4:=aW s3 0 [f]
    have RU: (jC x2 s).left=min (ar s 3 2) x2.left:=rfl
    have o3':qx.left<=(jC x2 s).left:=o3
    have a1:=SE.left
    have a2:=SE.cG
    have n5:=n3.trans n4
    refine⟨wV k3 (Nat.zero_le _) _,⟨SE.base,SE.dh,SE.next,SE.pc,?_,?_⟩,?_,?_,o5.dH n5,?_,hlq.dH n5 ((gg _ _ _).1.trans e1) ((gg _ _ _).2.trans e2),?_⟩
    ·show 0<=x2.left- ((jC x2 s).left-qx.left);omega
    ·show x2.left- ((jC x2 s).left-qx.left)<=_;omega
    ·show(s3.ak 0 [f]).2.au=s.au
     rw[(aB s3 0 [f]).1,e5,o4,ht1]
    ·show x2.left- ((jC x2 s).left-qx.left)<=x.left;omega
    ·show(s3.ak 0 [f]).2.T.aC=_
     rw[n5.T,q3.2,Wj]
    ·show(s3.ak 0 [f]).2.seen.length<=_
     rw[(aB s3 0 [f]).2.1,e4]
     have:=q3.1
     rw[hbT]at this
     exact this
  ·exact⟨hs,SE,rfl,hle,hw,rfl,hl,by show s.seen.length<=_;omega⟩
 ·exact⟨hs,hx,rfl,Int.le_refl _,hw,rfl,hl,by show s.seen.length<=_;omega⟩
end
def Hi(k:Nat):Prop:=16448<=k
structure jQd(s0 s:Mt):Prop where
 wr:Wr Hi s0.S s.S
 pts:s.T.points=s0.T.points
 said:s.T.said=s0.T.said
 out:s.T.out=s0.T.out
theorem jQd.trans{a b c:Mt}(h:jQd a b)(k:jQd b c):jQd a c:=⟨h.wr.trans k.wr,k.pts.trans h.pts,k.said.trans h.said,k.out.trans h.out⟩
theorem jQd.refl{s:Mt}(h:s.S.Ok):jQd s s:=⟨Wr.refl h,rfl,rfl,rfl⟩
section
variable {s:Mt}{a:Nat}{cs ds rs:List Int}{c:Vc}{src:Value}{x:Rn}
theorem eP(h:Rep s a cs ds rs)(n:Nat)(l:List Int):jQd s (s.ak n l).2:=by
 have hT:=(aW s n l).T
 refine⟨?_,by rw[hT],by rw[hT],by rw[hT]⟩
 unfold Mt.ak
 split
 ·exact Wr.refl h.img
 ·show Wr Hi s.S (aY s.S s.pd.fr (s.d-n) l)
  rw[h.pd]
  exact Wr.aY 16960 l s.S _ h.img λk ka _=>by show 16448<=k;omega
theorem rU(h:Rep s a cs ds rs)(l:List Int):jQd s (s.az l):=by
 refine⟨?_,rfl,rfl,rfl⟩
 show Wr Hi s.S (aY s.S s.pr.fr s.r l)
 rw[h.pr]
 exact Wr.aY 17088 l s.S _ h.img λk ka _=>by show 16448<=k;omega
theorem oh(h:Rep s a cs ds rs)(n:Nat)(hn:n<=ds.length)(l:List Int)(hl: ∀v∈l,V64 v): ((s.ak n l).1=0∨(s.ak n l).1=2)∧∃ds',Rep (s.ak n l).2 a cs ds' rs:=by
 by_cases hr:ds.length-n+l.length<=16
 ·obtain⟨h1,h2,_⟩:=h.ak n hn l hl hr
  exact⟨.inl h1,_,h2⟩
 ·have h1:=h.d
  have h0:=h.dle
  have h2:s.pd.rm=16:=by rw[h.pd]
  have e:s.ak n l= (2,s.jJ (s.d-n)):=by unfold Mt.ak;rw[if_pos oM]
  rw[e]
  exact⟨.inr rfl,_,h.jJ _ oM⟩
theorem wI(hs:s.Ok)(hi:s.S.Ok)(hL:bH s.S)(hc:di s.S a cs)(hd:s.pd= ⟨16960,16,1,2⟩)(hr:s.pr= ⟨17088,8,3,4⟩)(hrl:s.r=rs.length)(hrv: ∀i v,rs[i]? = some v->gv s.S 17088 i=v): ∃ds,Rep s a cs ds rs∧ds.length=s.d:=by
 have d1:=hs.d
 have r1:=hs.r
 rw[hd]at d1
 rw[hr]at r1
 refine⟨(List.range s.d).map λi=>gv s.S 16960 i,⟨hi,hL,hd,hr,hc,by simp,hrl,?_,by rw[<-hrl];exact r1,λi v hv=> ?_,hrv⟩,by simp⟩
 ·rw[List.length_map,List.length_range]
  exact d1
 ·obtain⟨j,hj,e⟩:=List.mem_map.1 (List.mem_of_getElem? hv)
  rw[List.getElem?_map]at hv
  rcases hq: (List.range s.d)[i]? with _|k
  ·rw[hq]at hv;cases hv
  ·rw[hq]at hv
   have YN:i< (List.range s.d).length:=(List.getElem?_eq_some_iff.1 hq).1
   have:k=i:=by
    rw[List.getElem?_eq_getElem YN,List.getElem_range]at hq
    exact(Option.some.inj hq).symm
   subst this
   exact Option.some.inj hv
theorem Ck{P:Nat->Prop}{S S':Img}(h:Wr P S S')(hS:S.Ok)(hL:bH S){fr i:Nat}(hk:gU fr i)(hP: ∀k,fr+8*i<=k->k<fr+8*i+8->¬P k):gv S' fr i=gv S fr i:=by
 have hL':=hL.alike h.al
 have b:=hL.dU.2.2.2.2
 have b':=hL'.dU.2.2.2.2
 have SS:=hk
 unfold gU at SS
 unfold gv Img.aP
 rw[show(fr:Int) +8* (i:Int)= ((fr+8*i:Nat):Int)by omega,if_pos (Lx hL _ oM oM oM false),if_pos (Lx hL' _ oM oM oM false)]
 have e:S'.bytes ((fr+8*i:Nat):Int) 8=S.bytes ((fr+8*i:Nat):Int) 8:=by
  unfold Img.bytes
  rw[Int.toNat_natCast]
  exact jR _ _ _ _ _ (by rw[h.ok.len,b'];omega) (by rw[hS.len,b];omega) λk hk=>by
   rw[List.getD_eq_getElem?_getD,List.getD_eq_getElem?_getD,h.eq _ (hP _ oM oM)]
 rw[e]
theorem rL{S:Img}(hL:bH S):di S 16456 []:=by
 obtain⟨b2,b3,b4,b5,b6⟩:=hL.dU
 exact⟨by decide,by omega,by simp;omega,λi v hv=>by simp at hv⟩
theorem Is(x:Rn)(n:Int): (x.pay n).mode=x.mode∧(x.pay n).base=x.base∧(x.pay n).next=x.next∧(x.pay n).pc=x.pc∧(x.pay n).over=x.over∧(x.pay n).asked=x.asked:=by
 unfold Rn.pay
 split<;>exact⟨rfl,rfl,rfl,rfl,rfl,rfl⟩
structure Gr(y x:Rn):Prop where
 mode:y.mode=x.mode
 base:y.base=x.base
 next:y.next=x.next
 pc:y.pc=x.pc
 over:y.over=x.over
theorem Kr(hp:FN c src s)(hr:Rep s 16456 [] ds rs)(hx:x.Ok)(h3:3<=ds.length)(h1:0<=ar s 3 1)(h2:0<=ar s 3 2)(ht:s.S.cD x.mode (ar s 3 0) (ar s 3 1)=0):
 ((dt x s).f=0∨(dt x s).f=2∨(dt x s).f=13)∧jQd s (dt x s).s∧(∃ds',Rep (dt x s).s 16456 [] ds' rs)∧Gr (dt x s).x x:=by
 have hs:=hr.ok
 have hd:=hr.d
 obtain⟨hw,h0,h8,RW,Sy,hl⟩:=hp
 obtain⟨p1,p2,p3,p4,p5,p6⟩:=Is x (ar s 3 1)
 have SE:=ie hx (ar s 3 1)
 have hsx:Gr (x.pay (ar s 3 1)) x:=⟨p1,p2,p3,p4,p5⟩
 unfold dt
 rw[if_pos ⟨h1,h2⟩]
 by_cases hm:aX x (ar s 3 1)=0
 ·have htx:cP x s (ar s 3 0) (ar s 3 1)=0:=by unfold cP;rw[if_pos hm];exact ht
  rw[if_pos htx]
  split
  ·have k:=oh hr 3 h3 [-1] (λv hv=>by rw[List.mem_singleton.1 hv];unfold V64;omega)
   refine⟨?_,eP hr 3 [-1],k.2,hsx⟩
   rcases k.1 with h|h
   ·exact .inl h
   ·exact .inr (.inl h)
  ·rename_i wd hwd
   have Ua:=sP hw hwd
   have n:=aW s 3 []
   have R1: (s.ak 3 []).2.Ok:=cQ 3 hs
   have Ui:=hw.dH n
   have Se:=wL hw hl (x.pay (ar s 3 1))
   have Wj: (s.ak 3 []).2.T=s.T:=n.T
   have Rj:=eP hr 3 []
   have Ue:=(hr.ak 3 h3 [] (λv hv=>by cases hv) (by simp;have:=hr.dle;omega)).2.1
   generalize (s.ak 3 []).2=s1 at *
   generalize x.pay (ar s 3 1)=x2 at *
   have VS: ({ jC x2 s with base:=(s1.r:Int) }:Rn).Ok:=by
    have Rm:=R1.r
    have So:=R1.pr.rm
    have a1:=SE.left
    have a2:=SE.cG
    refine⟨?_,?_,?_,?_,?_,?_⟩
    ·show 0<=(s1.r:Int);omega
    ·show(s1.r:Int)<=_;omega
    ·show V64 0;unfold V64;omega
    ·show V64 0;unfold V64;omega
    ·show 0<=min (ar s 3 2) x2.left;omega
    ·show min (ar s 3 2) x2.left<=1000000;omega
   have q1:=qM Ui R1 VS rfl (by rw[Wj];exact h0) (by rw[Wj];exact h8) Ua
   have q2:=mU Ui R1 VS rfl (by rw[Wj];exact h0) (by rw[Wj];exact h8) Ua Se
   have q4:=rT Ui R1 VS rfl (by rw[Wj];exact h0) (by rw[Wj];exact h8) Ua
   generalize cR (wd.xt:Int) { jC x2 s with base:=(s1.r:Int) } s1=q at *
   obtain⟨f,qx,qs⟩:=q
   simp only at q1 q2 q4
   obtain⟨o1,⟨o2,o3⟩,o4,o5⟩:=q1
   obtain⟨q2,q3⟩:=q2
   obtain⟨b2,b3,b4,b5,b6⟩:=Ue.lay.dU
   have hLq:bH qs.S:=Ue.lay.alike q2.wr.al
   have hgY: ({ jC x2 s with base:=(s1.r:Int) }:Rn).base.toNat=rs.length:=by show((s1.r:Nat):Int).toNat=_;rw[Int.toNat_natCast];exact Ue.r
   have hwr:=q2.wr
   rw[hgY]at hwr
   have hrq:s1.r<=qs.r:=by have h:=q2.rb;have h: (s1.r:Int)<=qs.r:=h;omega
   have hrv: ∀i v,rs[i]? = some v->gv qs.S 17088 i=v:=λi v hv=>by
    have hi:i<rs.length:=(List.getElem?_eq_some_iff.1 hv).1
    have:=Ue.rle
    rw[Ck hwr Ue.img Ue.lay (.inr ⟨rfl,by omega⟩) (λk ka kb hf=>by
     obtain⟨f1,f2⟩:=hf
     omega)]
    exact Ue.rv i v hv
   have hpd:qs.pd= ⟨16960,16,1,2⟩:=q2.pd.trans Ue.pd
   have hpr:qs.pr= ⟨17088,8,3,4⟩:=q2.pr.trans Ue.pr
   have st1:jQd s1 qs:=⟨q2.wr.mono λk hk=>by have:=hk.1;show 16448<=k;omega,q2.pts,q2.said,q2.out rfl⟩
   have e1:qs.cZ s1.r = { qs with r:=s1.r }:=by
    show({ qs with S:=ta qs.S qs.pr.fr qs.r s1.r,r:=s1.r }:Mt)=_
    rw[C8 hrq]
   have hdd:s1.d<=qs.pd.rm:=by rw[q2.pd];exact R1.d
   have YK:s1.r<=qs.pr.rm:=by rw[q2.pr];exact R1.r
   have k1:=rr o1 s1.r YK
   have e3: ∃ds3,Rep (if f=0 then qs.cZ s1.r else(qs.cZ s1.r).ik s1.d) 16456 [] ds3 rs∧jQd s1 (if f=0 then qs.cZ s1.r else(qs.cZ s1.r).ik s1.d):=by
    split
    ·rw[e1]at k1⊢
     obtain⟨ds3,g1,g2⟩:=wI (a:=16456) (cs:=[]) (rs:=rs) k1 st1.wr.ok hLq (rL hLq) hpd hpr Ue.r hrv
     exact⟨ds3,g1,st1.wr,st1.pts,st1.said,st1.out⟩
    ·have k2:=sy k1 s1.d hdd
     have hwc:Wr (λk=>16960<=k∧k<17088) qs.S ((qs.cZ s1.r).ik s1.d).S:=by
      rw[e1]
      show Wr _ qs.S (ta qs.S qs.pd.fr qs.d s1.d)
      unfold ta
      rw[hpd]
      refine Wr.aY 16960 _ qs.S _ st1.wr.ok λk ka kb=> ?_
      rw[List.length_replicate]at kb
      have hds:=R1.d
      rw[Ue.pd]at hds
      have hds:s1.d<=16:=hds
      have hqd:=o1.d
      rw[hpd]at hqd
      have hqd:qs.d<=16:=hqd
      omega
     have hL2:=hLq.alike hwc.al
     obtain⟨ds3,g1,g2⟩:=wI (a:=16456) (cs:=[]) (rs:=rs) k2 hwc.ok hL2 (rL hL2) hpd hpr Ue.r (λi v hv=>by
      have hi:i<rs.length:=(List.getElem?_eq_some_iff.1 hv).1
      have:=Ue.rle
      rw[Ck hwc st1.wr.ok hLq (.inr ⟨rfl,by omega⟩) (λk ka kb hf=>by omega)]
      exact hrv i v hv)
     exact⟨ds3,g1,st1.wr.trans (hwc.mono λk hk=>by show 16448<=k;omega),st1.pts,st1.said,st1.out⟩
   unfold AJ
   simp only
   generalize (if f=0 then qs.cZ s1.r else(qs.cZ s1.r).ik s1.d)=s3 at *
   obtain⟨ds3,g1,g2⟩:=e3
   have k:=oh g1 0 (Nat.zero_le _) [f] (λv hv=>by rw[List.mem_singleton.1 hv];exact q4.v64)
   refine⟨?_,(Rj.trans g2).trans (eP g1 0 [f]),k.2,⟨hsx.mode,hsx.base,hsx.next,hsx.pc,hsx.over⟩⟩
   rcases k.1 with h|h
   ·exact .inl h
   ·exact .inr (.inl h)
 ·have htx:cP x s (ar s 3 0) (ar s 3 1)=13:=by
   unfold cP
   rw[if_neg hm]
   unfold aX at hm⊢
   rw[if_neg oM]at hm⊢
   split
   ·rfl
   ·rename_i h
    rw[if_neg h]at hm
    exact absurd rfl hm
  rw[if_neg (by rw[htx];decide)]
  exact⟨.inr (.inr htx),jQd.refl hr.img,⟨ds,hr⟩,hsx⟩
end
def sh(i:aq):Option (Rn->Mt->Rs):=if i.op=93 then some dt else if i.op=1∨i.op=2∨i.op=13∨i.op=14∨i.op=19 then bZ i else none
structure Nr(s s':Mt):Prop where
 dH:dz s s'
 pd:s'.pd=s.pd
 pr:s'.pr=s.pr
 seen:s'.seen=s.seen
theorem Nr.trans{a b c:Mt}(h:Nr a b)(k:Nr b c):Nr a c:=⟨h.dH.trans k.dH,k.pd.trans h.pd,k.pr.trans h.pr,k.seen.trans h.seen⟩
theorem Nr.ak(s:Mt)(n:Nat)(l:List Int):Nr s (s.ak n l).2:=⟨aW s n l,(gg s n l).1,(gg s n l).2,(aB s n l).2.1⟩
theorem Nr.az(s:Mt)(l:List Int):Nr s (s.az l):=⟨dW s l,rfl,rfl,rfl⟩
theorem Nr.eu(s:Mt)(n:Nat):Nr s (s.eu n):=⟨lN s n,rfl,rfl,rfl⟩
theorem Nr.refl(s:Mt):Nr s s:=⟨dz.refl s,rfl,rfl,rfl⟩
theorem LO(i:aq)(h:i.op=1∨i.op=2∨i.op=13∨i.op=14∨i.op=19)(q:Rn->Mt->Rs)(hq:bZ i=some q)(x:Rn)(s:Mt):Nr s (q x s).s:=by
 obtain⟨op,arg,lit,cells⟩:=i
 dsimp only at h
 rcases h with rfl|rfl|rfl|rfl|rfl
 ·obtain rfl:back=q:=Option.some.inj hq
  unfold back
  split
  ·exact Nr.refl s
  ·exact⟨⟨Alike.refl _,id,rfl,rfl,rfl,rfl,rfl,rfl,rfl,rfl,rfl⟩,rfl,rfl,rfl⟩
 ·obtain rfl:aJ 0 [lit]=q:=Option.some.inj hq
  exact Nr.ak s _ _
 ·obtain rfl: (λx s=>(⟨0,x,((s.ak 1 []).2).az (s.args 1)⟩:Rs))=q:=Option.some.inj hq
  exact(Nr.ak s 1 []).trans (Nr.az _ _)
 ·obtain rfl: (λx s=>(⟨0,x,((s.eu (s.r-1)).ak 0 [s.bu 0]).2⟩:Rs))=q:=Option.some.inj hq
  exact(Nr.eu s _).trans (Nr.ak _ _ _)
 ·obtain rfl: (λx s=>aJ 0 [wrap64 (x.pc+8),arg] x s)=q:=Option.some.inj hq
  exact Nr.ak s _ _
def mi(k n:Nat):Kn:=λc src s=>WkN c src s∧0<=s.T.aC∧s.T.aC<8∧fX c s.au∧s.seen.length+1000002*n+k<=999000000-1000003∧xE s
theorem mi.nr{k n:Nat}{c:Vc}{src:Value}{s s':Mt}(h:mi k n c src s)(r:Nr s s')(ht:s'.au=s.au):mi k n c src s':=
 ⟨h.1.dH r.dH,by rw[r.dH.T];exact h.2.1,by rw[r.dH.T];exact h.2.2.1,by rw[ht];exact h.2.2.2.1,by rw[r.seen];exact h.2.2.2.2.1,h.2.2.2.2.2.dH r.dH r.pd r.pr⟩
theorem mi.le{k n k' n':Nat}{c:Vc}{src:Value}{s:Mt}(h:mi k n c src s)(hl:1000002*n'+k'<=1000002*n+k):mi k' n' c src s:=
 ⟨h.1,h.2.1,h.2.2.1,h.2.2.2.1,by have:=h.2.2.2.2.1;omega,h.2.2.2.2.2⟩
theorem mi.ask{k n:Nat}{c:Vc}{src:Value}{s:Mt}(h:mi k n c src s):FN c src s∧s.seen.length+1000001<=1000000000:=by
 obtain⟨h1,h2,h3,h4,h5,h6⟩:=h
 exact⟨⟨h1,h2,h3,h4,by omega,h6⟩,by omega⟩
theorem oa:sN sh (mi 0) (mi 1) (mi 0 0) where
 ok:=λn i q h=>by
  obtain⟨op,arg,lit,cells⟩:=i
  by_cases h93:op=93
  ·subst h93
   obtain rfl:dt=q:=by unfold sh at h;rw[if_pos rfl]at h;exact Option.some.inj h
   refine⟨λc g x src s w F hp=>I5 arg lit cells c g x src s w F hp.ask.1,λc src x s hp hs hx h1 h2 ha=> ?_⟩
   obtain⟨k1,k2,k3,k4,k5,k6,k7,k8⟩:=EY hp.ask.1 hs hx (ha.wn 3).2 hp.ask.2
   refine⟨k1,k2,k3,k4,k5,by rw[k6];exact hp.2.1,by rw[k6];exact hp.2.2.1,by rw[k3];exact hp.2.2.2.1,?_,k7⟩
   have:=hp.2.2.2.2.1
   omega
  ·unfold sh at h
   rw[if_neg (by exact h93)]at h
   split at h
   ·rename_i RH
    have ho:=fP _ q h
    refine⟨λc g x src s w F hp=>ho.1 c g x src s w F hp.1,λc src x s hp hs hx h1 h2 ha=> ?_⟩
    have k:=ho.2 c src x s hp.1 hs hx h1 h2 ha
    exact⟨k.1,k.2.1,k.2.2.1,k.2.2.2.1,(hp.nr (LO _ RH q h x s) k.2.2.1).le oM⟩
   ·cases h
 push:=λn c src s l h=>h.nr (Nr.az s l) rfl
 told:=λn c src s x op h=>by
  have h1:=l9 s x op
  have e:=gY x s op
  refine⟨h.1.told x op,?_,?_,?_,by have:=h.2.2.2.2.1;omega,?_⟩
  ·rw[e];exact h.2.1
  ·rw[e];exact h.2.2.1
  ·rw[e];exact h.2.2.2.1
  ·rw[e];exact⟨h.2.2.2.2.2.img,h.2.2.2.2.2.df,h.2.2.2.2.2.dm,h.2.2.2.2.2.rf⟩
 len:=λn c src s h=>by
  have h2:=h.2.2.2.2.1
  omega
 pr:=λ_ _ _ _ h=>h.le oM
 qr:=λ_ _ _ _ h=>h.le oM
