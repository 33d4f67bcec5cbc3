/- Chapter 11. Conditions: as written. -/
import Derived.Test.YtilaogbkdbbdkaaGreatDoorOm
import Derived.Test.YtilaogbkdbbdkaaGreatDoorZ32
import Derived.Test.YtilaogbkdbbdkaaGreatDoorZVNear
open Go.Proofs.Tryz
namespace Go.Proofs.YtilaogbkdbbdkaaGreatDoor
set_option linter.unusedVariables false
set_option linter.unusedSimpArgs false
set_option maxHeartbeats 8000000
set_option maxRecDepth 100000
open Go.RowKit Go.Lib Go.Deep
namespace Vm
def my(s:Mt)(nm:List UInt8):Option Wd:=(gV s.S (dS s) nm).or (gV s.S (dK s) nm)
def jx:Option Wd->List Int
 | none=>[0,0]
 | some x=>[(x.xt:Int),if x.imm=true then 1 else -1]
def kH(x:Rn)(s:Mt):Rs×List Int:=
 if cP x s (ar s 2 0) (ar s 2 1)=0 then(⟨0,x.pay (ar s 2 1),s⟩,jx (my s (s.S.text x.mode (ar s 2 0) (ar s 2 1)).data.toList))else(⟨cP x s (ar s 2 0) (ar s 2 1),x.pay (ar s 2 1),s⟩,[])
theorem Nd{P:Program}{f:FuncId}{args:Array Value}{w:World}(h:False)(v:Value):Calls P f args w (ax v w):=h.elim
theorem Wk.find{c:Vc}{g:Nat}{x:Rn}{src:Value}{s:Mt}(hp:Wk c src s)(L:List Asr){w W:World}{F:Nat->Prop}(h:On F w (aa (L++vL c g x src s)) W)(nm:ByteArray)(hn:nm.size<=140737488355327):
 Calls prog 164 #[.string nm,c.ws] W (ef (my s nm.data.toList) W):=by
 obtain⟨i,hi⟩:=hp.ws
 obtain⟨F',hF⟩:=h.at_ _ (Ct (c:=c) (g:=g) (x:=x) (src:=src) (s2:=s) hi L)
 obtain⟨gw,cap,hv,h0,h1⟩:=KZ hF.1
 have ZT: ∀j,(L++vL c g x src s)[L.length+j]? = (vL c g x src s)[j]? :=λj=>by rw[List.getElem?_append_right oM];congr 1;omega
 have b6:=h.ab (L.length+6) (ZT 6)
 have b7:=h.ab (L.length+7) (ZT 7)
 obtain⟨gb,hI⟩:=h.img (L.length+2) (ZT 2)
 have b6':Blk W c.gS 123 (cm c.gI c.sfr c.sto ((dS s).h:Int) ((dS s).l:Int)):=by
  show Blk W c.gS 123 (cm c.gI c.sfr c.sto ((s.hs.toNat:Nat):Int) ((s.ls.toNat:Nat):Int))
  rw[Int.toNat_of_nonneg hp.dcs.h,Int.toNat_of_nonneg hp.dcs.l]
  exact b6
 have b7':Blk W c.gK 123 (cm c.gI c.kfr c.kto ((dK s).h:Int) ((dK s).l:Int)):=by
  show Blk W c.gK 123 (cm c.gI c.kfr c.kto ((s.hk.toNat:Nat):Int) ((s.lk.toNat:Nat):Int))
  rw[Int.toNat_of_nonneg hp.hk,Int.toNat_of_nonneg hp.lk]
  exact b7
 rw[hv]
 refine Bs W gw cap c.gS c.gK nm _ _ h0 h1 (λW' hb=> ?_) (λW' hb=> ?_)
 ·exact rW W' (b6'.below hb b6'.lt) ⟨hI.blk.below hb hI.blk.lt,hI.row.below hb hI.row.lt,hI.ok⟩ hp.dcs.at8 nm hn
 ·exact rW W' (b7'.below hb b7'.lt) ⟨hI.blk.below hb hI.blk.lt,hI.row.below hb hI.row.lt,hI.ok⟩ hp.kat nm hn
theorem N7(arg lit cells:Int):cO Wk 111 (λg=>#[.pointer (some ⟨g,0,none⟩)]) ⟨86,arg,lit,cells⟩ kH:=by
 intro c g x src s ba w F hp hs hx IT hb
 have Q8: (Code.ai 86).1.toNat=2:=by decide
 simp only[Q8]at hb⊢
 have so:=On.refl hb
 have th: ∀x2 W,On F w (aa (ae ba 3 (ag (s.args 2))::vL c g x2 src s)) W->W.cell? (ba,0)=some ((ar s 2 0):Vl)∧W.cell? (ba,1)=some ((ar s 2 1):Vl)∧W.cell? (g,0)=some (c.gM:Vl)∧W.cell? (c.gM,2)=some c.ws:=λx2 W h=>⟨aj (h.ab 0 rfl) oM,aj (h.ab 0 rfl) oM,h.tail.r0,(h.ab 2 rfl).cell 2⟩
 have hsz: (s.S.text x.mode (ar s 2 0) (ar s 2 1)).size<=140737488355327:=by
  obtain⟨gb,hi⟩:=so.img 3 rfl
  have:=pi s.S hi.ok x.mode (ar s 2 0) (ar s 2 1)
  omega
 have Si: ∀W,On F w (aa (ae ba 3 (ag (s.args 2))::vL c g x src s)) W->Calls prog 156 #[g,(ar s 2 0),(ar s 2 1)] W (Got (gO (cP x s (ar s 2 0) (ar s 2 1)) (s.S.text x.mode (ar s 2 0) (ar s 2 1))) (aa (ae ba 3 (ag (s.args 2))::vL c g (x.pay (ar s 2 1)) src s)) F w):=λW h=>h.aM λF' RJ _ _=>mS RJ hx _ _ (aN s 2 1)
 have R3: ∀(B:Asr) W,On F w (aa (B::ae ba 3 (ag (s.args 2))::vL c g x src s)) W->Calls prog 156 #[g,(ar s 2 0),(ar s 2 1)] W (Got (gO (cP x s (ar s 2 0) (ar s 2 1)) (s.S.text x.mode (ar s 2 0) (ar s 2 1))) (aa (B::ae ba 3 (ag (s.args 2))::vL c g (x.pay (ar s 2 1)) src s)) F w):=λB W h=>h.aM λF' RJ _ _=>(On.refl RJ).aM λF'' SG _ _=>mS SG hx _ _ (aN s 2 1)
 have RZ: ∀(B:Asr) W,On F w (aa (B::ae ba 3 (ag (s.args 2))::vL c g (x.pay (ar s 2 1)) src s)) W->Calls prog 164 #[.string (s.S.text x.mode (ar s 2 0) (ar s 2 1)),c.ws] W (ef (my s (s.S.text x.mode (ar s 2 0) (ar s 2 1)).data.toList) W):=λB W h=>hp.find [B,ae ba 3 (ag (s.args 2))] h _ hsz
 have hcW: ∀W,On F w (aa (ae ba 3 (ag (s.args 2))::vL c g (x.pay (ar s 2 1)) src s)) W->Calls prog 164 #[.string (s.S.text x.mode (ar s 2 0) (ar s 2 1)),c.ws] W (ef (my s (s.S.text x.mode (ar s 2 0) (ar s 2 1)).data.toList) W):=λW h=>hp.find [ae ba 3 (ag (s.args 2))] h _ hsz
 unfold kH
 generalize my s (s.S.text x.mode (ar s 2 0) (ar s 2 1)).data.toList=r at *
 generalize cP x s (ar s 2 0) (ar s 2 1)=f1 at *
 generalize s.S.text x.mode (ar s 2 0) (ar s 2 1)=t at *
 generalize x.pay (ar s 2 1)=x2 at *
 generalize ar s 2 0=X at *
 generalize ar s 2 1=Y at *
 show Calls _ _ #[g,(86:Int),.slice ba 2 2] _ _
 generalize ag (s.args 2)=ac at *
 have⟨a0,a1,r0,m2⟩:=th _ _ so
 replace⟨th,Si,R3,RZ,hcW,so⟩:=iF th Si R3 RZ hcW so
 clear hb Q8 IT hs hx hp hsz
 by_cases hf:f1=0
 ·simp only[if_pos hf]
  have e1:gO f1 t = .returned (.string t):=by unfold gO;rw[if_pos hf]
  rw[e1]at Si R3
  clear e1 hf
  obtain⟨nm1,hd1,xt1,im1,hh1,il1,ok1,hfp,R0⟩: ∃(nm1:List UInt8) (hd1 xt1:Nat) (im1 hh1 il1 ok1:Bool),(∀W e w',ef r W e w'->e = .returned (.tuple #[.agg #[.string ⟨nm1.toArray⟩,(hd1:Int),(xt1:Int),.bool im1,.bool hh1,.bool il1],.bool ok1])∧Below W.heap.size W w')∧((ok1=false∧jx r = [0,0])∨(ok1=true∧im1=false∧jx r = [(xt1:Int),-1])∨(ok1=true∧im1=true∧jx r = [(xt1:Int),1])):=by
   rcases r with _| ⟨nm1,hd1,xt1,im1,hh1,il1⟩
   ·exact⟨[],0,0,false,false,false,false,λW e w' h=>h,.inl ⟨rfl,rfl⟩⟩
   ·refine⟨nm1,hd1,xt1,im1,hh1,il1,true,λW e w' h=>h,?_⟩
    cases im1
    ·exact .inr (.inl ⟨rfl,rfl,rfl⟩)
    ·exact .inr (.inr ⟨rfl,rfl,rfl⟩)
  have WZ:=λB W h=>(RZ B W h).mono (hfp W)
  have VQ:=λW h=>(hcW W h).mono (hfp W)
  generalize jx r=L at *
  clear RZ hcW hfp
  replace⟨R0,VQ,WZ⟩:=iC R0 VQ WZ
  simp only[if_true]
  go_enter func111,ntmps111
  go_wp2_with fail
  go_region_held (λw'=>w'.cell? (ba,0)=some (X:Vl)∧w'.cell? (ba,1)=some (Y:Vl)∧w'.cell? (g,0)=some (c.gM:Vl)∧w'.cell? (c.gM,2)=some c.ws) (go_keep)
   ((first
     | (go_at_call 156;refine mo (Si.out _ so.out.drew) λw5 Q7=>?_;simp only[];have⟨n0,n1,n2,n3⟩:=th.out _ _ Q7;replace Q7:=hid Q7)
     | (go_at_call 164;refine mo (VQ.out _ Q7.out) λw6 Sq=>?_;have R8:=Q7.out.below Sq;have⟨o0,o1,o2,o3⟩:=th.out _ _ R8;replace R8:=hid R8;clear Sq;have z0:=World.new_ne w6 _ o0;have z2:=World.new_ne w6 _ o2;have z3:=World.new_ne w6 _ o3;simp only[])
     | (go_at_call 164;have Y5:=hid (Q7.out.box eS 43);refine mo (WZ.out _ _ Y5.out) λw6 Sq=>?_;have V4:=Y5.out.below Sq;have⟨o0,o1,o2,o3⟩:=th.out _ _ V4.tail;have d2:Blk w6 w5.heap.size 43 #[.string ⟨#[]⟩,(0:Int),(0:Int),.bool false,.bool false,.bool false]:=V4.ab 0 rfl;have e0:=d2.cell 0;have e1:=d2.cell 1;have e2:=d2.cell 2;have e3:=d2.cell 3;have e4:=d2.cell 4;have e5:=d2.cell 5;have f0:=d2.frozen 0;have f1:=d2.frozen 1;have f2:=d2.frozen 2;have f3:=d2.frozen 3;have f4:=d2.frozen 4;have f5:=d2.frozen 5;replace d2:=hid d2;replace V4:=hid V4;clear Sq;have z0:=World.new_ne w5 _ n0;have z2:=World.new_ne w5 _ n2;have z3:=World.new_ne w5 _ n3;simp only[])
     | (go_at_call 156;have hx0:=hid (so.out.drew.box eS 43);refine mo (R3.out _ _ hx0.out) λw5 Y5=>?_;simp only[];have⟨n0,n1,n2,n3⟩:=th.out _ _ Y5.tail;have z0:=World.new_ne w _ a0;have z2:=World.new_ne w _ r0;have z3:=World.new_ne w _ m2;replace Y5:=hid Y5)
     | (go_at_call 164;refine mo (WZ.out _ _ Y5.out) λw6 Sq=>?_;have V4:On F w (aa (ae w.heap.size 43 eS::ae ba 3 ac::vL c g x2 src s)) w6:=Y5.out.below Sq;have⟨o0,o1,o2,o3⟩:=th.out _ _ V4.tail;have d2:Blk w6 w.heap.size 43 #[.string ⟨#[]⟩,(0:Int),(0:Int),.bool false,.bool false,.bool false]:=V4.ab 0 rfl;have e0:=d2.cell 0;have e1:=d2.cell 1;have e2:=d2.cell 2;have e3:=d2.cell 3;have e4:=d2.cell 4;have e5:=d2.cell 5;have f0:=d2.frozen 0;have f1:=d2.frozen 1;have f2:=d2.frozen 2;have f3:=d2.frozen 3;have f4:=d2.frozen 4;have f5:=d2.frozen 5;replace d2:=hid d2;replace V4:=hid V4;clear Sq;simp only[])))
  all_goals first
   | (have Z6:=R8.out.box #[.string ⟨nm1.toArray⟩,(hd1:Int),(xt1:Int),.bool im1,.bool hh1,.bool il1] 43
      have q2: (w6.alloc (.cells #[.string ⟨nm1.toArray⟩,(hd1:Int),(xt1:Int),.bool im1,.bool hh1,.bool il1] 43)).cell? (w6.heap.size,2)=some ((xt1:Int):Vl):=(Z6.ab 0 rfl).cell 2
      have q3: (w6.alloc (.cells #[.string ⟨nm1.toArray⟩,(hd1:Int),(xt1:Int),.bool im1,.bool hh1,.bool il1] 43)).cell? (w6.heap.size,3)=some (.bool im1):=(Z6.ab 0 rfl).cell 3
      have hz:=hid Z6.tail.tail
      clear Z6
      generalize w6.alloc (.cells #[.string ⟨nm1.toArray⟩,(hd1:Int),(xt1:Int),.bool im1,.bool hh1,.bool il1] 43)=W7 at *)
   | (have hg:=hx0
      have Z6:=(((((V4.out.setAt 0 rfl 0 (.string ⟨nm1.toArray⟩)).setAt 0 rfl 1 (.int .i64 (hd1:Int))).setAt 0 rfl 2 (.int .i64 (xt1:Int))).setAt 0 rfl 3 (.bool im1)).setAt 0 rfl 4 (.bool hh1)).setAt 0 rfl 5 (.bool il1)
      have q2: ((((((w6.setCell (w.heap.size,0) (.string ⟨nm1.toArray⟩)).setCell (w.heap.size,1) (.int .i64 (hd1:Int))).setCell (w.heap.size,2) (.int .i64 (xt1:Int))).setCell (w.heap.size,3) (.bool im1)).setCell (w.heap.size,4) (.bool hh1)).setCell (w.heap.size,5) (.bool il1)).cell? (w.heap.size,2)=some ((xt1:Int):Vl):=(Z6.ab 0 rfl).cell 2
      have q3: ((((((w6.setCell (w.heap.size,0) (.string ⟨nm1.toArray⟩)).setCell (w.heap.size,1) (.int .i64 (hd1:Int))).setCell (w.heap.size,2) (.int .i64 (xt1:Int))).setCell (w.heap.size,3) (.bool im1)).setCell (w.heap.size,4) (.bool hh1)).setCell (w.heap.size,5) (.bool il1)).cell? (w.heap.size,3)=some (.bool im1):=(Z6.ab 0 rfl).cell 3
      have hz:=hid Z6.tail.tail
      clear hg Z6 e0 e1 e2 e3 e4 e5 f0 f1 f2 f3 f4 f5 V4 d2
      generalize (((((w6.setCell (w.heap.size,0) (.string ⟨nm1.toArray⟩)).setCell (w.heap.size,1) (.int .i64 (hd1:Int))).setCell (w.heap.size,2) (.int .i64 (xt1:Int))).setCell (w.heap.size,3) (.bool im1)).setCell (w.heap.size,4) (.bool hh1)).setCell (w.heap.size,5) (.bool il1)=W7 at *)
   | (have Z6:=(((((V4.out.setAt 0 rfl 0 (.string ⟨nm1.toArray⟩)).setAt 0 rfl 1 (.int .i64 (hd1:Int))).setAt 0 rfl 2 (.int .i64 (xt1:Int))).setAt 0 rfl 3 (.bool im1)).setAt 0 rfl 4 (.bool hh1)).setAt 0 rfl 5 (.bool il1)
      have q2: ((((((w6.setCell (w5.heap.size,0) (.string ⟨nm1.toArray⟩)).setCell (w5.heap.size,1) (.int .i64 (hd1:Int))).setCell (w5.heap.size,2) (.int .i64 (xt1:Int))).setCell (w5.heap.size,3) (.bool im1)).setCell (w5.heap.size,4) (.bool hh1)).setCell (w5.heap.size,5) (.bool il1)).cell? (w5.heap.size,2)=some ((xt1:Int):Vl):=(Z6.ab 0 rfl).cell 2
      have q3: ((((((w6.setCell (w5.heap.size,0) (.string ⟨nm1.toArray⟩)).setCell (w5.heap.size,1) (.int .i64 (hd1:Int))).setCell (w5.heap.size,2) (.int .i64 (xt1:Int))).setCell (w5.heap.size,3) (.bool im1)).setCell (w5.heap.size,4) (.bool hh1)).setCell (w5.heap.size,5) (.bool il1)).cell? (w5.heap.size,3)=some (.bool im1):=(Z6.ab 0 rfl).cell 3
      have hz:=hid Z6.tail.tail
      clear Z6 e0 e1 e2 e3 e4 e5 f0 f1 f2 f3 f4 f5 V4 d2
      generalize (((((w6.setCell (w5.heap.size,0) (.string ⟨nm1.toArray⟩)).setCell (w5.heap.size,1) (.int .i64 (hd1:Int))).setCell (w5.heap.size,2) (.int .i64 (xt1:Int))).setCell (w5.heap.size,3) (.bool im1)).setCell (w5.heap.size,4) (.bool hh1)).setCell (w5.heap.size,5) (.bool il1)=W7 at *)
  all_goals rcases R0.out with⟨rfl,rfl⟩ | ⟨rfl,rfl,rfl⟩ | ⟨rfl,rfl,rfl⟩
  all_goals clear R0
  all_goals go_wp2
  all_goals go_ret
  all_goals exact⟨some ⟨_,0,none⟩,2,ae _ 3 (ag _),rfl,aA _ _,hz.out.box (ag _) 3⟩
 ·simp only[if_neg hf]
  rw[ld hf]at Si R3
  replace hf:=hid hf
  have z0:=World.new_ne w _ a0
  have z2:=World.new_ne w _ r0
  have z3:=World.new_ne w _ m2
  go_enter func111,ntmps111
  go_wp2_with fail
  go_region_held (λw'=>w'.cell? (ba,0)=some (X:Vl)∧w'.cell? (ba,1)=some (Y:Vl)∧w'.cell? (g,0)=some (c.gM:Vl)∧w'.cell? (c.gM,2)=some c.ws) (go_keep)
   ((first
     | (go_at_call 156;refine qi (Si.out _ so.out.drew) (λw' h=>⟨rfl,rfl,h.tail⟩) (.string t) ?_;intro hF e w5 he hw;subst he;subst hw;replace hF:=hid hF;simp only[])
     | (go_at_call 156;refine qi (R3.out _ _ (so.out.drew.box eS 43)) (λw' h=>⟨rfl,rfl,h.tail.tail⟩) (.string t) ?_;intro hF e w5 he hw;subst he;subst hw;replace hF:=hid hF;simp only[])
     | (go_at_call 164;refine(Nd hF.out (.tuple #[.agg #[.string ⟨#[]⟩,(0:Int),(0:Int),.bool false,.bool false,.bool false],.bool false])).mono ?_;rintro e w6 ⟨rfl,rfl⟩;simp only[])))
  all_goals exact hF.out.elim
section
variable {w w':World}{F:Nat->Prop}{c:Vc}{g:Nat}{x:Rn}{src:Value}{s:Mt}
theorem FR(hb: (VA c g x src s).holds w F)(hs:s.Ok)(n:Nat)(hn:n<=s.d)(A:Option Addr)(k cap:Nat)(hk:k<=100000)(OF:s.pd.rm- (s.d-n) <k):
 Calls prog 103 #[g,(n:Int),.slice A k cap] w (Got (.panicked [flt 2]) (VA c g x src (s.jJ (s.d-n))) F w):=by
 have so:=On.refl hb
 have r0:=so.r0
 have m5:=so.m5
 have R2:=dG (so.drew).sd
 have hcut:=Ir so.drew hs (s.d-n) oM
 have hdw:=IntWalk.i64_in ((s.d:Int) - (n:Int)) (by have:=hs.dle;omega)
 rw[show((s.d-n:Nat):Int)=IntKind.i64.wrap ((s.d:Int) - (n:Int))by rw[hdw];omega]at hcut
 have RE:=λw1 (h1:On F w (VA c g x src (s.jJ (s.d-n))) w1)=>tK (h1.stk 3 rfl) A k cap (by show s.d-n<=s.pd.rm;have:=hs.d;omega) hs.pd hk OF
 have WA: (s.jJ (s.d-n)).pd.ov=2:=hs.dv
 have htr:=λw=>cJ 2 (by decide) w
 generalize s.jJ (s.d-n)=s1 at *
 rw[WA]at RE
 generalize s.d=d at *
 replace⟨R2,hcut,RE,htr⟩:=iD R2 hcut RE htr
 clear hb hs hdw so OF WA
 go_enter func103,ntmps103
 go_wp2_with fail
 go_region_held (λw'=>w'.cell? (g,0)=some (c.gM:Vl)∧w'.cell? (c.gM,5)=some (c.gD:Vl)) (go_keep)
  ((first
    | (go_at_call 16;refine R2.out.mono ?_;rintro e w1 ⟨rfl,rfl⟩)
    | (go_at_call 139;refine mo hcut.out λw1 h=>?_;have k0:=h.r0;have k5:=h.m5;replace h:=hid h)))
 go_wp2_with fail
 refine mo (RE.out _ h.out) λw2 h2=>?_
 have h3:=h.out.below h2
 replace h3:=hid h3
 clear h2
 simp only[]
 go_wp2_with fail
 refine(htr.out _).mono ?_
 rintro e w3 ⟨rfl,rfl⟩
 simp only[]
 go_wp2
 exact⟨rfl,rfl,h3.out⟩
theorem K5(hb: (VA c g x src s).holds w F)(hs:s.Ok)(n:Nat)(hn:n<=s.d)(l:List Int)(hl: ∀v∈l,V64 v)(hll:l.length<=100000)(A:Option Addr)(cap:Nat)(hi:ln w A l)(hf: ∀a,A=some a->¬F a.block∧a.block<w.heap.size):
 Calls prog 103 #[g,(n:Int),.slice A l.length cap] w (Got (bp (s.ak n l).1) (VA c g x src (s.ak n l).2) F w):=by
 by_cases OF:s.pd.rm- (s.d-n) <l.length
 ·have h1:=FR hb hs n hn A l.length cap hll OF
  have e:s.ak n l= (2,s.jJ (s.d-n)):=by unfold Mt.ak;rw[if_pos OF]
  rw[e,cB (by show(2:Int)≠0;decide)]
  exact h1
 ·have h1:=vA hb hs n hn l hl A cap hi hf oM
  have e: (s.ak n l).1=0:=by unfold Mt.ak;rw[if_neg OF]
  rw[e]
  exact h1
def _root_.Go.Proofs.YtilaogbkdbbdkaaGreatDoor.Vm.Mt.cZ(s:Mt)(n:Nat):Mt:={ s with S:=ta s.S s.pr.fr s.r n,r:=n }
def _root_.Go.Proofs.YtilaogbkdbbdkaaGreatDoor.Vm.Mt.ik(s:Mt)(n:Nat):Mt:={ s with S:=ta s.S s.pd.fr s.d n,d:=n }
theorem MB(h:On F w (VA c g x src s) w')(hs:s.Ok)(n:Nat)(hn:n<=s.pr.rm):Calls prog 139 #[c.gR,(n:Int)] w' (Got (.returned (.bool true)) (VA c g x src (s.cZ n)) F w):=
 h.cn 4 2 (by decide) rfl rfl λF' ha=>Iv ha hs.pr n hn hs.r
theorem Lv(h:On F w (VA c g x src s) w')(hs:s.Ok)(n:Nat)(hn:n<=s.pd.rm):Calls prog 139 #[c.gD,(n:Int)] w' (Got (.returned (.bool true)) (VA c g x src (s.ik n)) F w):=
 h.cn 3 2 (by decide) rfl rfl λF' ha=>Iv ha hs.pd n hn hs.d
theorem rr(hs:s.Ok)(n:Nat)(hn:n<=s.pr.rm): (s.cZ n).Ok:=⟨hs.pd,hs.pr,hs.d,hn,hs.du,hs.dv,hs.ru,hs.rv⟩
theorem sy(hs:s.Ok)(n:Nat)(hn:n<=s.pd.rm): (s.ik n).Ok:=⟨hs.pd,hs.pr,hn,hs.r,hs.du,hs.dv,hs.ru,hs.rv⟩
theorem lO(S:Img)(fr d n:Nat):Alike S (ta S fr d n)∧(S.Ok->(ta S fr d n).Ok):=⟨Alike.aY _ _ _ _,λh=>eN _ _ _ _ h⟩
theorem BN(s:Mt)(n:Nat):dz s (s.cZ n):=⟨(lO _ _ _ _).1,(lO _ _ _ _).2,rfl,rfl,rfl,rfl,rfl,rfl,rfl,rfl,rfl⟩
theorem Ab(s:Mt)(n:Nat):dz s (s.ik n):=⟨(lO _ _ _ _).1,(lO _ _ _ _).2,rfl,rfl,rfl,rfl,rfl,rfl,rfl,rfl,rfl⟩
end
end Vm
open Go.RowKit Go.Lib
namespace Vm
def WkN:Kn:=λc src s=>Wk c src s∧src = .pointer none
theorem WkN.dH{c:Vc}{src:Value}{s s':Mt}(h:WkN c src s)(n:dz s s'):WkN c src s':=⟨h.1.dH n,h.2⟩
theorem Wk.Fz{c:Vc}{src:Value}{s:Mt}(h:Wk c src s)(T:af.Tab):Wk c src { s with T:=T }:=by
 refine⟨⟨h.dcs.h,h.dcs.l,h.dcs.at8⟩,h.hk,h.lk,h.kat,h.ws,h.tab,?_,h.v1,h.v2,h.v3⟩
 rcases h.src with h| ⟨gs,L,h⟩
 ·exact .inl h
 ·exact .inr ⟨gs,L,h.at_,h.rest,h.sz,h.le⟩
theorem WkN.Fz{c:Vc}{src:Value}{s:Mt}(h:WkN c src s)(T:af.Tab):WkN c src { s with T:=T }:=⟨h.1.Fz T,h.2⟩
theorem WkN.eT{c:Vc}{src:Value}{s:Mt}(h:WkN c src s)(x:Rn)(t:ByteArray):WkN c src (s.eT x t):=h.Fz _
theorem lM{s:Mt}(hs:s.Ok)(T:af.Tab): ({ s with T:=T }:Mt).Ok:=⟨hs.pd,hs.pr,hs.d,hs.r,hs.du,hs.dv,hs.ru,hs.rv⟩
theorem qF{s:Mt}(hs:s.Ok)(S:Img): ({ s with S:=S }:Mt).Ok:=⟨hs.pd,hs.pr,hs.d,hs.r,hs.du,hs.dv,hs.ru,hs.rv⟩
theorem jv(x:Rn)(n:Int): (x.pay n).left<=x.left:=by
 unfold Rn.pay
 split
 ·rename_i h
  unfold aX at h
  show x.left-n/8<=x.left
  split at h
  ·cases h
  ·omega
 ·exact Int.le_refl _
def bd(P:Kn)(q:Rn->Mt->Rs×List Int)(m:Nat):Prop:= ∀c src x s,P c src s->s.Ok->x.Ok->(q x s).1.s.Ok∧(q x s).1.s.d=s.d∧(q x s).1.s.pd=s.pd∧(q x s).2.length<=m∧(∀v∈(q x s).2,V64 v)∧(q x s).1.x.Ok∧(q x s).1.x.left<=x.left∧(q x s).1.s.au=s.au∧(q x s).1.s.seen=s.seen∧P c src (q x s).1.s
def jy(P:Kn)(i:aq)(q:Rn->Mt->Rs):Prop:= ∀c src x s,P c src s->s.Ok->x.Ok->V64 i.arg->V64 i.lit->cw i x s->(q x s).s.Ok∧(q x s).x.Ok∧(q x s).s.au=s.au∧(q x s).x.left<=x.left∧(q x s).s.seen=s.seen∧P c src (q x s).s
theorem aD{P:Kn}{i:aq}{q:Rn->Mt->Rs×List Int}{m:Nat}(n:Nat)(hn: (Code.ai i.op).1=n)(hm: (Code.ai i.op).2=m)(Zw:i.op≠26)(h:bd P q m):gy P i q:=by
 intro c src x s hp hs hx ha hf
 obtain⟨h1,h2,h3,h4,h5,_⟩:=h c src x s hp hs hx
 refine⟨h1,h2,?_,h5⟩
 have h6:=ha.room
 have h7:=ha.tk
 rw[if_neg (by rintro⟨h,_⟩;exact Zw h)]at h6
 rw[h3]
 omega
theorem aH{P:Kn}(hP: ∀c src s s',P c src s->dz s s'->P c src s'){i:aq}{q:Rn->Mt->Rs×List Int}{n m:Nat}(hn: (Code.ai i.op).1=n)(hl:gy P i q)(hm:bd P q m):jy P i (λx s=>Rs.laid n (q x s)):=by
 intro c src x s hp hs hx RM Ry ha
 obtain⟨h1,h2,h3,h4,h5,h6,h7,h8,h9,TK⟩:=hm c src x s hp hs hx
 have h11:=ha.tk
 have hl':=hl c src x s hp hs hx ha
 unfold Rs.laid
 by_cases hf: (q x s).1.f=0
 ·simp only[if_pos hf]
  obtain⟨_,_,k3,_⟩:=hl' hf
  have e: (Code.ai i.op).1.toNat=n:=by omega
  rw[e]at k3
  refine⟨gj h1 (by rw[h2];omega) (by rw[h2];exact k3),h6,?_,h7,?_,hP _ _ _ _ TK (aW _ _ _)⟩
  ·show(((q x s).1.s).ak n _).2.au=_
   rw[(aB _ n _).1,h8]
  ·show(((q x s).1.s).ak n _).2.seen=_
   rw[(aB _ n _).2.1,h9]
 ·simp only[if_neg hf]
  exact⟨h1,h6,h8,h7,h9,TK⟩
theorem F7(P:Kn)(hP: ∀c src s s',P c src s->dz s s'->P c src s')(i:aq)(q:Rn->Mt->Rs)(hq:parts i=some q):ej P i q∧jy P i q:=by
 obtain⟨h1,h2⟩:=su i q hq
 refine⟨h1.toG P,λc src x s hp hs hx RM Ry ha=> ?_⟩
 obtain⟨k1,k2,k3,k4,k5⟩:=h2 x s hs hx RM Ry ha
 exact⟨k1,k2,k3,by rw[k4];exact Int.le_refl _,k5,hP _ _ _ _ hp (rj i q hq x s)⟩
theorem nI(S:Img)(D:Dc): ∀(k:Nat) (a:Int),∀x∈eI S D k a,x.xt<=D.lim S
 | 0,_,x,h=>by cases h
 | k+1,a,x,h=>by
   unfold eI at h
   split at h
   ·cases h
   ·rename_i w next hw
    have h1:w.xt<=D.lim S:=by
     unfold eB at hw
     split at hw
     ·cases hw
     ·simp only at hw
      split at hw
      ·cases hw
      ·rename_i h2
       simp only[Option.some.injEq,Prod.mk.injEq]at hw
       obtain⟨rfl,_⟩:=hw
       show up _<=D.lim S
       omega
    split at h
    ·rw[List.mem_singleton.1 h];exact h1
    ·rcases List.mem_cons.1 h with h|h
     ·rw[h];exact h1
     ·exact nI S D k next x h
theorem lC(S:Img)(D:Dc)(x:Wd)(h:x∈words S D):x.xt<=D.lim S:=nI S D _ _ x h
theorem D3:bd WkN (λx s=>(⟨i6 x s ⟨#[byteOf (ar s 1 0)]⟩,x,s.eT x ⟨#[byteOf (ar s 1 0)]⟩⟩,[])) 0:=λc src x s hp hs hx=>⟨lM hs _,rfl,rfl,Nat.le_refl _,(λv hv=>by cases hv),hx,Int.le_refl _,rfl,rfl,hp.eT _ _⟩
theorem DQ:bd WkN kG 0:=by
 intro c src x s hp hs hx
 unfold kG
 split
 ·exact⟨lM hs _,rfl,rfl,Nat.le_refl _,(λv hv=>by cases hv),ie hx _,jv _ _,rfl,rfl,hp.eT _ _⟩
 ·exact⟨hs,rfl,rfl,Nat.le_refl _,(λv hv=>by cases hv),ie hx _,jv _ _,rfl,rfl,hp⟩
theorem xW(t:Mt->List UInt8):bd WkN (jA t) 0:=by
 intro c src x s hp hs hx
 unfold jA
 split
 ·exact⟨lM hs _,rfl,rfl,Nat.le_refl _,(λv hv=>by cases hv),hx,Int.le_refl _,rfl,rfl,hp.eT _ _⟩
 ·exact⟨hs,rfl,rfl,Nat.le_refl _,(λv hv=>by cases hv),hx,Int.le_refl _,rfl,rfl,hp⟩
theorem FQ:bd WkN ig 0:=by
 intro c src x s hp hs hx
 unfold ig
 split
 ·exact⟨lM hs _,rfl,rfl,Nat.le_refl _,(λv hv=>by cases hv),hx,Int.le_refl _,rfl,rfl,hp.eT _ _⟩
 ·exact⟨hs,rfl,rfl,Nat.le_refl _,(λv hv=>by cases hv),hx,Int.le_refl _,rfl,rfl,hp⟩
theorem IU:bd WkN yw 1:=λc src x s hp hs hx=>⟨lM hs _,rfl,rfl,Nat.le_refl _,(λv hv=>by
 rw[List.mem_singleton.1 hv]
 have:=Cn s.T x.mode
 unfold V64
 omega),hx,Int.le_refl _,rfl,rfl,hp.Fz _⟩
theorem El:bd WkN kH 2:=by
 intro c src x s hp hs hx
 have hl: ∀r,(jx r).length<=2:=λr=>by cases r<;>exact Nat.le_refl 2
 unfold kH
 split
 ·refine⟨hs,rfl,rfl,hl _,?_,ie hx _,jv _ _,rfl,rfl,hp⟩
  intro v hv
  have Ry:v∈jx (my s (s.S.text x.mode (ar s 2 0) (ar s 2 1)).data.toList):=hv
  have hle: ∀w,my s (s.S.text x.mode (ar s 2 0) (ar s 2 1)).data.toList=some w->w.xt<=143360:=by
   intro w hw
   unfold my at hw
   rw[Option.or_eq_some_iff]at hw
   rcases hw with hw| ⟨_,hw⟩
   ·exact Nat.le_trans (lC _ _ _ (List.mem_of_find?_eq_some hw)) (hp.1.dcs.at8.ok.le hp.1.dcs.at8.img)
   ·exact Nat.le_trans (lC _ _ _ (List.mem_of_find?_eq_some hw)) (hp.1.kat.ok.le hp.1.kat.img)
  rcases hr:my s (s.S.text x.mode (ar s 2 0) (ar s 2 1)).data.toList with _|w
  ·rw[hr]at Ry
   simp only[jx,List.mem_cons,List.mem_nil_iff,or_false,or_self]at Ry
   subst Ry
   unfold V64;omega
  ·rw[hr]at Ry
   have:=hle w hr
   simp only[jx,List.mem_cons,List.mem_nil_iff,or_false]at Ry
   rcases Ry with rfl|rfl
   ·unfold V64;omega
   ·split<;> (unfold V64;omega)
 ·exact⟨hs,rfl,rfl,Nat.zero_le _,(λv hv=>by cases hv),ie hx _,jv _ _,rfl,rfl,hp⟩
def N5(P Q:Kn)(i:aq)(q:Rn->Mt->Rs):Prop:= ∀c src x s,P c src s->s.Ok->x.Ok->V64 i.arg->V64 i.lit->cw i x s->(q x s).s.Ok∧(q x s).x.Ok∧(q x s).s.au=s.au∧(q x s).x.left<=x.left∧Q c src (q x s).s
structure sN(tab:aq->Option (Rn->Mt->Rs))(P Q:Nat->Kn)(R:Kn):Prop where
 ok: ∀n i q,tab i=some q->ej (P (n+1)) i q∧N5 (P (n+1)) (Q n) i q
 push: ∀n c src s l,P n c src s->P n c src (s.az l)
 told: ∀n c src s x op,Q n c src s->P n c src (s.told x op)
 len: ∀n c src s,Q n c src s->s.seen.length<1000000000
 pr: ∀n c src s,P n c src s->R c src s
 qr: ∀n c src s,Q n c src s->R c src s
def stepT(tab:aq->Option (Rn->Mt->Rs))(x:Rn)(s:Mt):Option Rs:=
 if x.left=0 then some ⟨13,x,s⟩
 else if(s.S.aE x.mode x.pc).2≠0 then some ⟨(s.S.aE x.mode x.pc).2,{ x with left:=x.left-1 },s⟩
 else
  let i:=(s.S.aE x.mode x.pc).1
  let x2:={ x with left:=x.left-1,next:=wrap64 (x.pc+8*i.cells) }
  if asks i x2 s≠0 then some ⟨asks i x2 s,x2,s⟩
  else(tab i).map λq=>if(q x2 s).f≠0 then q x2 s else⟨0,{ (q x2 s).x with pc:=(q x2 s).x.next },(q x2 s).s.told (q x2 s).x i.op⟩
def fo(tab:aq->Option (Rn->Mt->Rs)):Nat->Rn->Mt->Option Rs
 | 0,_,_=>none
 | n+1,x,s=>
   match stepT tab x s with
   | none=>none
   | some q=>if q.f≠0 then some q else if q.x.over then some q else fo tab n q.x q.s
section
variable {tab:aq->Option (Rn->Mt->Rs)}{P Q:Nat->Kn}{R:Kn}
theorem nQ(ht:sN tab P Q R)(c:Vc)(src:Value): ∀(n:Nat) (x:Rn) (s:Mt) (q:Rs),P n c src s->s.Ok->x.Ok->fo tab n x s=some q->q.s.Ok∧(0<=q.x.left∧q.x.left<=x.left)∧q.s.au=s.au∧R c src q.s
 | 0,_,_,_,_,_,_,h=>by cases h
 | n+1,x,s,q,Un,hs,hx,h=>by
   unfold fo at h
   have h1:=hx.left
   have h2:=hx.cG
   have Rj: ∀r,stepT tab x s=some r->r.s.Ok∧(0<=r.x.left∧r.x.left<=x.left)∧r.s.au=s.au∧R c src r.s∧(r.f=0->r.x.Ok∧P n c src r.s):=by
    intro r hr
    unfold stepT at hr
    by_cases hl:x.left=0
    ·rw[if_pos hl]at hr
     obtain rfl:=Option.some.inj hr
     exact⟨hs,⟨h1,Int.le_refl _⟩,rfl,ht.pr _ _ _ _ Un,λh=>by cases h⟩
    rw[if_neg hl]at hr
    by_cases hf: (s.S.aE x.mode x.pc).2≠0
    ·rw[if_pos hf]at hr
     obtain rfl:=Option.some.inj hr
     exact⟨hs,⟨by show 0<=x.left-1;omega,by show x.left-1<=x.left;omega⟩,rfl,ht.pr _ _ _ _ Un,λh=>absurd h hf⟩
    rw[if_neg hf]at hr
    have SE: ({ x with left:=x.left-1,next:=wrap64 (x.pc+8* (s.S.aE x.mode x.pc).1.cells) }:Rn).Ok:=
     ⟨hx.base,hx.dh,aU _,hx.pc,by show 0<=x.left-1;omega,by show x.left-1<=1000000;omega⟩
    simp only at hr
    have hfv:=lL s.S x.mode x.pc
    generalize (s.S.aE x.mode x.pc).1=i at *
    have Ug: ({ x with left:=x.left-1,next:=wrap64 (x.pc+8*i.cells) }:Rn).left=x.left-1:=rfl
    generalize ({ x with left:=x.left-1,next:=wrap64 (x.pc+8*i.cells) }:Rn)=x2 at *
    by_cases ha:asks i x2 s≠0
    ·rw[if_pos ha]at hr
     obtain rfl:=Option.some.inj hr
     exact⟨hs,⟨by show 0<=x2.left;omega,by show x2.left<=x.left;omega⟩,rfl,ht.pr _ _ _ _ Un,λh=>absurd h ha⟩
    rw[if_neg ha]at hr
    rcases hp:tab i with _|T
    ·rw[hp]at hr;cases hr
    rw[hp]at hr
    obtain⟨_,hke⟩:=ht.ok n i T hp
    obtain⟨Yq,SO,ht3,hl3,Sx⟩:=hke c src x2 s Un hs SE hfv.1 hfv.2.1 (cw.of (by simpa using ha))
    simp only[Option.map_some]at hr
    generalize T x2 s=Z at *
    by_cases hZ:Z.f≠0
    ·rw[if_pos hZ]at hr
     obtain rfl:=Option.some.inj hr
     exact⟨Yq,⟨by have:=SO.left;omega,by omega⟩,ht3,ht.qr _ _ _ _ Sx,λh=>absurd h hZ⟩
    rw[if_neg hZ]at hr
    obtain rfl:=Option.some.inj hr
    have Zq:=ht.told _ _ _ _ Z.x i.op Sx
    refine⟨qL Yq _ _,⟨by have:=SO.left;show 0<=Z.x.left;omega,by show Z.x.left<=x.left;omega⟩,?_,ht.pr _ _ _ _ Zq,λ_=>⟨⟨SO.base,SO.dh,SO.next,SO.next,SO.left,SO.cG⟩,Zq⟩⟩
    show(Z.s.told Z.x i.op).au=s.au
    unfold Mt.told
    split<;>exact ht3
   rcases hr:stepT tab x s with _|r
   ·rw[hr]at h;cases h
   rw[hr]at h
   obtain⟨a1,a2,a3,aw,a4⟩:=Rj r hr
   simp only at h
   by_cases hf:r.f≠0
   ·rw[if_pos hf]at h
    obtain rfl:=Option.some.inj h
    exact⟨a1,a2,a3,aw⟩
   rw[if_neg hf]at h
   by_cases ho:r.x.over=true
   ·rw[if_pos ho]at h
    obtain rfl:=Option.some.inj h
    exact⟨a1,a2,a3,aw⟩
   rw[if_neg ho]at h
   obtain⟨b1,b2⟩:=a4 (by simpa using hf)
   obtain⟨c1,c2,c3,c4⟩:=nQ ht c src n r.x r.s q b2 a1 b1 h
   exact⟨c1,⟨c2.1,by omega⟩,c3.trans a3,c4⟩
end
def vc(tab:aq->Option (Rn->Mt->Rs))(P:Nat->Kn)(w:World)(F:Nat->Prop)(c:Vc)(g fb:Nat)(xt:Int)(src:Value)(q:Rs)(au:Bool)(n:Nat)(a:Act)(wr:World):Prop:=
 ∃u:Nat->Value,a = { tmps:=#[.pointer g,.int .i64 xt,u 2,u 3,.pointer fb,.pointer (some ⟨fb+1,0,none⟩),u 6,u 7,u 8,u 9,u 10,u 11,u 12,u 13,u 14,u 15,u 16,u 17,u 18,u 19,u 20,u 21,u 22,u 23,u 24,u 25,u 26,u 27,u 28,u 29,u 30,u 31,u 32,u 33,u 34,u 35,u 36,u 37,u 38,u 39,u 40,u 41,u 42,u 43,u 44,u 45,u 46,u 47,u 48,u 49,u 50,u 51,u 52,u 53,u 54,u 55,u 56,u 57,u 58,u 59,u 60,u 61,u 62,u 63,u 64,u 65,u 66,u 67,u 68,u 69,u 70,u 71,u 72,u 73,u 74,u 75,u 76,u 77,u 78,u 79,u 80,u 81,u 82,u 83,u 84,u 85,u 86,u 87,u 88,u 89,u 90,u 91,u 92,u 93,u 94,u 95,u 96,u 97,u 98,u 99,u 100,u 101,u 102,u 103,u 104,u 105,u 106,u 107,u 108,u 109,u 110,u 111,u 112,u 113,u 114,u 115,u 116,u 117,u 118,u 119,u 120,u 121,u 122,u 123,u 124,u 125,u 126,u 127,u 128,u 129,u 130,u 131],defers:=[{ target:= .fn (.func 68) #[fb],args:=#[] }] }∧
  ∃(i:aq) (f:Int) (x:Rn) (s:Mt),On F w (aa (plL c g fb i f x src s)) wr∧s.Ok∧x.Ok∧s.au=au∧fo tab n x s=some q∧P n c src s
theorem vc.mk{tab:aq->Option (Rn->Mt->Rs)}{P:Nat->Kn}{w:World}{F:Nat->Prop}{c:Vc}{g fb:Nat}{xt:Int}{src:Value}{q:Rs}{au:Bool}{n:Nat}{tm:Array Value}{wr:World}(u:Nat->Value)(hu:u=λk=>tm.toList.getD k undef)(h:tm=#[.pointer g,.int .i64 xt,u 2,u 3,.pointer fb,.pointer (some ⟨fb+1,0,none⟩),u 6,u 7,u 8,u 9,u 10,u 11,u 12,u 13,u 14,u 15,u 16,u 17,u 18,u 19,u 20,u 21,u 22,u 23,u 24,u 25,u 26,u 27,u 28,u 29,u 30,u 31,u 32,u 33,u 34,u 35,u 36,u 37,u 38,u 39,u 40,u 41,u 42,u 43,u 44,u 45,u 46,u 47,u 48,u 49,u 50,u 51,u 52,u 53,u 54,u 55,u 56,u 57,u 58,u 59,u 60,u 61,u 62,u 63,u 64,u 65,u 66,u 67,u 68,u 69,u 70,u 71,u 72,u 73,u 74,u 75,u 76,u 77,u 78,u 79,u 80,u 81,u 82,u 83,u 84,u 85,u 86,u 87,u 88,u 89,u 90,u 91,u 92,u 93,u 94,u 95,u 96,u 97,u 98,u 99,u 100,u 101,u 102,u 103,u 104,u 105,u 106,u 107,u 108,u 109,u 110,u 111,u 112,u 113,u 114,u 115,u 116,u 117,u 118,u 119,u 120,u 121,u 122,u 123,u 124,u 125,u 126,u 127,u 128,u 129,u 130,u 131])(i:aq)(f:Int)(x:Rn)(s:Mt)(h1:On F w (aa (plL c g fb i f x src s)) wr)(h2:s.Ok)(h3:x.Ok)(h4:s.au=au)(h5:fo tab n x s=some q)(h7:P n c src s):
 vc tab P w F c g fb xt src q au n { tmps:=tm,defers:=[{ target:= .fn (.func 68) #[fb],args:=#[] }] } wr:=⟨u,by rw[<-h],i,f,x,s,h1,h2,h3,h4,h5,h7⟩
section
variable {w w':World}{F:Nat->Prop}{c:Vc}{g:Nat}{x:Rn}{src:Value}{s:Mt}
theorem CV{tab:aq->Option (Rn->Mt->Rs)}{P Q:Nat->Kn}{R:Kn}(ht:sN tab P Q R)(N:Nat)(hb: (VA c g x src s).holds w F)(Un:P N c src s)(hs:s.Ok)(hx:x.Ok)(xt:Int)(Ua:V64 xt)(q:Rs)(hq:fo tab N { x with pc:=xt } (s.az [0])=some q)(OF:1<=s.pr.rm-s.r)(RW:fX c s.au):
 Calls prog 41 #[g,xt] w (Got (.returned q.f) (VA c g q.x src q.s) F w):=by
 have so:=(((On.refl hb).box #[(0:Int)] 46).box #[(0:Int),(0:Int),(0:Int),(0:Int)] 164).box #[(0:Int)] 3
 have hz: (w.alloc (.cells #[(0:Int)] 46)).heap.size=w.heap.size+1:=by simp
 have SQ: ((w.alloc (.cells #[(0:Int)] 46)).alloc (.cells #[(0:Int),(0:Int),(0:Int),(0:Int)] 164)).heap.size=w.heap.size+2:=by simp
 rw[hz,SQ]at so
 have r0:=(On.refl hb).r0
 have m6:=(On.refl hb).m6
 have Rd:=(On.refl hb).rlt
 have hfT:=(On.refl hb).mlt
 have RE:=ti (c:=c) (g:=g) (x:=x) (src:=src) (s:=s) 3 (by simp) rfl so hs [0] (λv hv=>by rw[List.mem_singleton.1 hv];unfold V64;omega) 0 oM (w.heap.size+2) rfl OF
 have hmf: ∀(fn:Fn) (first cap:Array Value) (w:World),(Instr.makeFunc fn first cap).run prog w = .ok (.func fn first cap) w:=λ_ _ _ _=>rfl
 replace⟨RE,so,hq,RW⟩:=iD RE so hq RW
 clear hb hz SQ
 go_enter_defers func41,ntmps41
 go_wp2_with fail
 refine lg 0 (vc tab P w F c g w.heap.size xt src q s.au) rfl ?pass ?first
 case first=>
  intro Zl
  replace Zl:=hid Zl
  go_wp2_with fail
  refine mo RE.out λw1 M0=>?_
  have M0:=M0.tail
  have f3:=M0.tail.tail.rf 3
  have c3:=M0.tail.tail.r3
  have ON:=M0.setAt 2 rfl 3 (.int .i64 xt)
  replace⟨ON,M0⟩:=iB ON M0
  go_wp2_with fail
  refine(bL _).mono ?_
  rintro e w2 ⟨rfl,rfl⟩
  go_wp2_with fail
  go_step3
  rename_i hK
  refine hK _ _ ?_
  exact Zl.out N _ _ (vc.mk _ rfl rfl aq.none 0 { x with pc:=xt } (s.az [0]) ON.out (eU hs [0] OF) ⟨hx.base,hx.dh,hx.next,Ua,hx.left,hx.cG⟩ rfl hq.out (ht.push _ _ _ _ _ Un))
 case pass=>
  intro n a wr hI
  obtain⟨u,ha,i0,f0,x1,s1,M0,R1,YI,ht1,Uk,Ui⟩:=hI
  replace Ui:=hid Ui
  subst ha
  clear RE hq so r0 m6 Rd hfT
  cases n with
  | zero=>cases Uk
  | succ n=>
    have q00:=M0.tail.tail.r0
    have q2:=M0.tail.tail.r2
    have q3:=M0.tail.tail.r3
    have q1:=M0.tail.tail.r1
    have qm0:=M0.tail.tail.m0
    have fr:=M0.tail.tail.rf
    have ff:=(M0.ab 1 rfl).frozen 0
    unfold fo at Uk
    by_cases hl:x1.left=0
    ·have Rj:stepT tab x1 s1=some ⟨13,x1,s1⟩:=by unfold stepT;rw[if_pos hl]
     rw[Rj]at Uk
     have Sk:q= ⟨13,x1,s1⟩:=by
      have h:=Uk
      simp at h
      exact h.symm
     subst Sk
     have e1: (x1.left==0)=true:=by simpa using hl
     have ON:=M0.setAt 1 rfl 0 (.int .i64 13)
     have qf:wr.cell? (w.heap.size,0)=some (f0:Vl):=(M0.ab 1 rfl).cell 0
     replace⟨ON,M0⟩:=iB ON M0
     clear hl Uk Rj R1 YI ht1 hs hx Ua OF
     go_wp2_with fail
     exact rM w.heap.size 13 w _ F c g x1 src s1 i0 ON.out _ rfl
    ·have e1: (x1.left==0)=false:=by simpa using hl
     have e0:=hid e1
     have hl0:=YI.left
     have Ug:=YI.cG
     have Rj:stepT tab x1 s1=if(s1.S.aE x1.mode x1.pc).2≠0 then some ⟨(s1.S.aE x1.mode x1.pc).2,{ x1 with left:=x1.left-1 },s1⟩
      else
       let i:=(s1.S.aE x1.mode x1.pc).1
       let x2:={ x1 with left:=x1.left-1,next:=wrap64 (x1.pc+8*i.cells) }
       if asks i x2 s1≠0 then some ⟨asks i x2 s1,x2,s1⟩
       else(tab i).map λq=>if(q x2 s1).f≠0 then q x2 s1 else⟨0,{ (q x2 s1).x with pc:=(q x2 s1).x.next },(q x2 s1).s.told (q x2 s1).x i.op⟩:=by unfold stepT;rw[if_neg hl]
     rw[Rj]at Uk
     clear Rj
     have BY:On F w (aa (plL c g w.heap.size i0 f0 { x1 with left:=x1.left-1 } src s1)) (wr.setCell (g,2) (.int .i64 (x1.left-1))):=M0.setAt 2 rfl 2 (.int .i64 (x1.left-1))
     have hfe:=λw1 (h1:On F w (aa (plL c g w.heap.size i0 f0 { x1 with left:=x1.left-1 } src s1)) w1)=>h1.bG 4 rfl (λF' ha=>fT ha λw0 L h=>BX h x1.mode x1.pc)
     have hv:=lL s1.S x1.mode x1.pc
     obtain⟨I,hI⟩: ∃I,s1.S.aE x1.mode x1.pc=I:=⟨_,rfl⟩
     rw[hI]at hfe Uk hv
     obtain⟨i,f⟩:=I
     simp only[aq.v]at hfe Uk hv
     clear hI
     replace⟨hfe,Uk,M0,BY,hv⟩:=iE hfe Uk M0 BY hv
     clear hl
     go_wp2_with fail
     generalize wr.setCell (g,2) (.int .i64 (x1.left-1))=wr2 at *
     have p0:=BY.out.tail.tail.r0
     have p1:=BY.out.tail.tail.r1
     have p3:=BY.out.tail.tail.r3
     have pm:=BY.out.tail.tail.m0
     have n1:=BY.out.rY 0 2 (by decide) rfl rfl
     have n2:=BY.out.rY 1 2 (by decide) rfl rfl
     have n3:=BY.out.rY 0 3 (by decide) rfl rfl
     have n4:=BY.out.rY 1 3 (by decide) rfl rfl
     have n5:=BY.out.rY 0 1 (by decide) rfl rfl
     replace hfe:=hid (hfe.out wr2.drew BY.out.drew)
     clear q00 q2 q3 q1 qm0 fr ff M0 e1
     refine eX ?_
     go_region_held (λw'=>w'.cell? (g,0)=some (c.gM:Vl)∧w'.cell? (c.gM,0)=some (c.gI:Vl)∧w'.cell? (g,1)=some (x1.mode:Vl)∧w'.cell? (g,3)=some (x1.pc:Vl)) (go_keep)
      ((go_at_call 70;refine mo hfe.out λw3 Rb=>?_;have z0:=Rb.tail.tail.r0;have z1:=Rb.tail.tail.r1;have z3:=Rb.tail.tail.r3;have zm:=Rb.tail.tail.m0;have y0:w3.cell? ⟨w.heap.size+1,0,none⟩=some (i0.op:Vl):=(Rb.ab 0 rfl).cell 0;have y1:w3.cell? ⟨w.heap.size+1,1,none⟩=some (i0.arg:Vl):=(Rb.ab 0 rfl).cell 1;have y2:w3.cell? ⟨w.heap.size+1,2,none⟩=some (i0.lit:Vl):=(Rb.ab 0 rfl).cell 2;have y3:w3.cell? ⟨w.heap.size+1,3,none⟩=some (i0.cells:Vl):=(Rb.ab 0 rfl).cell 3;have yf:w3.cell? (w.heap.size,0)=some (f0:Vl):=(Rb.ab 1 rfl).cell 0;have ff:=(Rb.ab 1 rfl).frozen 0;have fi0:=(Rb.ab 0 rfl).frozen 0;have fi1:=(Rb.ab 0 rfl).frozen 1;have fi2:=(Rb.ab 0 rfl).frozen 2;have fi3:=(Rb.ab 0 rfl).frozen 3;replace Rb:=hid Rb))
     refine ss.normal ?_
     have Ra:On F w (aa (plL c g w.heap.size i f { x1 with left:=x1.left-1 } src s1)) _:=((((Rb.out.setAt 0 rfl 0 (.int .i64 i.op)).setAt 0 rfl 1 (.int .i64 i.arg)).setAt 0 rfl 2 (.int .i64 i.lit)).setAt 0 rfl 3 (.int .i64 i.cells)).setAt 1 rfl 0 (.int .i64 f)
     replace Ra:=hid Ra
     clear z0 z1 z3 zm y0 y1 y2 y3 yf ff fi0 fi1 fi2 fi3 Rb p0 p1 p3 pm BY hfe
     generalize (((((w3.setCell ⟨w.heap.size+1,0,none⟩ (.int .i64 i.op)).setCell ⟨w.heap.size+1,1,none⟩ (.int .i64 i.arg)).setCell ⟨w.heap.size+1,2,none⟩ (.int .i64 i.lit)).setCell ⟨w.heap.size+1,3,none⟩ (.int .i64 i.cells)).setCell (w.heap.size,0) (.int .i64 f))=w4 at *
     have qf:w4.cell? (w.heap.size,0)=some (f:Vl):=(Ra.out.ab 1 rfl).cell 0
     by_cases hf:f=0
     rotate_left
     ·have Sk:q= ⟨f,{ x1 with left:=x1.left-1 },s1⟩:=by
       have h:=Uk.out
       rw[if_pos hf]at h
       simp only at h
       rw[if_pos hf]at h
       exact(Option.some.inj h).symm
      subst Sk
      have htr:=λw=>cJ f hf w
      replace htr:=hid htr
      clear hf Uk
      go_wp2_with fail
      refine(htr.out _).mono ?_
      rintro e w5 ⟨rfl,rfl⟩
      exact j1 w.heap.size f f w _ F c g _ src s1 i Ra.out _ rfl
     subst hf
     have q0:=Ra.out.tail.tail.r0
     have q3:=Ra.out.tail.tail.r3
     have q4:=Ra.out.tail.tail.r4
     have qf4:=Ra.out.tail.tail.rf 4
     have b3:w4.cell? ⟨w.heap.size+1,3,none⟩=some (i.cells:Vl):=(Ra.out.ab 0 rfl).cell 3
     have k3: ∀v,(w4.setCell (g,4) v).drew.cell? (g,3)=some (x1.pc:Vl):=λv=>((Ra.out.setAt 2 rfl 4 v).drew.ab 2 rfl).cell 3
     have kb: ∀v,(w4.setCell (g,4) v).drew.cell? ⟨w.heap.size+1,3,none⟩=some (i.cells:Vl):=λv=>((Ra.out.setAt 2 rfl 4 v).drew.ab 0 rfl).cell 3
     go_wp2_with fail
     refine(bL _).mono ?_
     rintro e w5 ⟨rfl,rfl⟩
     go_wp2_with fail
     refine eX ?_
     go_region_held (λw'=>w'.cell? (g,3)=some (x1.pc:Vl)∧w'.cell? ⟨w.heap.size+1,3,none⟩=some (i.cells:Vl)) (go_keep) (fail)
     refine ss.normal ?_
     have hnw:IntKind.i64.wrap (x1.pc+IntKind.i64.wrap (8*i.cells))=wrap64 (x1.pc+8*i.cells):=by
      have h:=hv.out.2.2
      rw[IntWalk.i64_in (8*i.cells) h,IntKind.wrap_i64]
      unfold wrap64
      omega
     rw[hnw]
     clear k3 kb hnw q0 q3 q4 qf4 b3 qf n1 n2 n3 n4 n5
     have Rf:On F w (aa (plL c g w.heap.size i 0 { x1 with left:=x1.left-1,next:=wrap64 (x1.pc+8*i.cells) } src s1)) _:=(Ra.out.setAt 2 rfl 4 (.int .i64 (wrap64 (x1.pc+8*i.cells)))).drew
     have SE: ({ x1 with left:=x1.left-1,next:=wrap64 (x1.pc+8*i.cells) }:Rn).Ok:=by
      have RP:x1.left≠0:=by simpa using e0.out
      have h1:0<=x1.left-1:=by omega
      have h2:x1.left-1<=1000000:=by omega
      exact⟨YI.base,YI.dh,aU _,YI.pc,h1,h2⟩
     replace Rf:=hid Rf
     have Sk:=Uk.out
     rw[if_neg (by simp)]at Sk
     try simp only at Sk
     have hdi: ({ x1 with left:=x1.left-1,next:=wrap64 (x1.pc+8*i.cells) }:Rn).left=x1.left-1:=rfl
     generalize ({ x1 with left:=x1.left-1,next:=wrap64 (x1.pc+8*i.cells) }:Rn)=x2 at *
     clear Uk Ra
     generalize (w5.setCell (g,4) (.int .i64 (wrap64 (x1.pc+8*i.cells)))).drew=w6 at *
     have b0:w6.cell? ⟨w.heap.size+1,0,none⟩=some (i.op:Vl):=(Rf.out.ab 0 rfl).cell 0
     have b1:w6.cell? ⟨w.heap.size+1,1,none⟩=some (i.arg:Vl):=(Rf.out.ab 0 rfl).cell 1
     have b2:w6.cell? ⟨w.heap.size+1,2,none⟩=some (i.lit:Vl):=(Rf.out.ab 0 rfl).cell 2
     have b3:w6.cell? ⟨w.heap.size+1,3,none⟩=some (i.cells:Vl):=(Rf.out.ab 0 rfl).cell 3
     have hak:Calls prog 71 #[g,.agg #[i.op,i.arg,i.lit,i.cells]] w6 (Got (bp (asks i x2 s1)) (aa (plL c g w.heap.size i 0 x2 src s1)) F w):=
      Rf.out.bj 2 (by simp[plL]) λF' RJ _ _=>NR RJ R1 SE i
     by_cases hA:asks i x2 s1=0
     rotate_left
     ·obtain⟨A,hAe⟩: ∃A,asks i x2 s1=A:=⟨_,rfl⟩
      rw[hAe]at hA hak Sk
      rw[if_pos hA]at Sk
      simp only at Sk
      rw[if_pos hA]at Sk
      obtain rfl:=Option.some.inj Sk
      clear Sk hAe
      have e2:bp A = .panicked [flt A]:=by unfold bp;rw[if_neg hA]
      rw[e2]at hak
      clear hA e2
      replace hak:=hid hak
      go_wp2_with fail
      refine mo hak.out λw7 Rz=>?_
      exact j1 w.heap.size A 0 w _ F c g _ src s1 i Rz _ rfl
     rw[hA]at hak
     rw[if_neg (by simp[hA])]at Sk
     have IT:=cw.of hA
     rcases hp:tab i with _|Q
     ·rw[hp]at Sk
      cases Sk
     rw[hp]at Sk
     obtain⟨hdo,hke⟩:=ht.ok n i Q hp
     obtain⟨Yq,SO,ht3,hdY,Sx⟩:=hke c src x2 s1 Ui.out R1 SE hv.out.1 hv.out.2.1 IT
     have VU: ∀w1,On F w (aa (plL c g w.heap.size i 0 x2 src s1)) w1->Calls prog 72 #[g,.agg #[i.op,i.arg,i.lit,i.cells]] w1 (Got (bp (Q x2 s1).f) (aa (plL c g w.heap.size i 0 (Q x2 s1).x src (Q x2 s1).s)) F w):=
      λw1 h1=>h1.bj 2 (by simp[plL]) λF' RJ _ _=>hdo c g x2 src s1 w1 F' Ui.out R1 SE hv.out.1 hv.out.2.1 IT RJ
     simp only[Option.map_some]at Sk
     generalize Q x2 s1=R at *
     obtain⟨rf,x3,s3⟩:=R
     simp only at Sk Yq SO ht3 hdY Sx VU
     have hgO:Calls prog 71 #[g,.agg #[i.op,i.arg,i.lit,i.cells]] w6 (Got (.returned (.tuple #[])) (aa (plL c g w.heap.size i 0 x2 src s1)) F w):=hak
     clear hak hA IT hke hdo hp
     replace hak:=hid hgO
     replace⟨VU,Sk⟩:=iB VU Sk
     clear hgO
     go_wp2_with fail
     refine mo hak.out λw7 Rz=>?_
     have d0:w7.cell? ⟨w.heap.size+1,0,none⟩=some (i.op:Vl):=(Rz.ab 0 rfl).cell 0
     have d1:w7.cell? ⟨w.heap.size+1,1,none⟩=some (i.arg:Vl):=(Rz.ab 0 rfl).cell 1
     have d2:w7.cell? ⟨w.heap.size+1,2,none⟩=some (i.lit:Vl):=(Rz.ab 0 rfl).cell 2
     have d3:w7.cell? ⟨w.heap.size+1,3,none⟩=some (i.cells:Vl):=(Rz.ab 0 rfl).cell 3
     replace VU:=hid (VU.out _ Rz)
     clear Rz b0 b1 b2 b3
     by_cases hrf:rf=0
     rotate_left
     ·have Ww:=Sk.out
      rw[if_pos hrf]at Ww
      simp only at Ww
      rw[if_pos hrf]at Ww
      obtain rfl:=Option.some.inj Ww
      have e2:bp rf = .panicked [flt rf]:=by unfold bp;rw[if_neg hrf]
      rw[e2]at VU
      clear hrf e2 Ww Sk
      go_wp2_with fail
      refine mo VU.out λw8 Ri=>?_
      exact j1 w.heap.size rf 0 w _ F c g _ src s3 i Ri _ rfl
     subst hrf
     have Xv:Calls prog 72 #[g,.agg #[i.op,i.arg,i.lit,i.cells]] w7 (Got (.returned (.tuple #[])) (aa (plL c g w.heap.size i 0 x3 src s3)) F w):=VU.out
     replace Xv:=hid Xv
     clear VU
     go_wp2_with fail
     refine mo Xv.out λw8 Ri=>?_
     have c0:=Ri.tail.tail.r0
     have c7:=Ri.tail.tail.m7
     have Ww:=Sk.out
     clear Xv hak d0 d1 d2 d3 Sk Rf
     obtain⟨s4,Zj⟩: ∃s4,s3.told x3 i.op=s4:=⟨_,rfl⟩
     simp only[ne_eq,not_true_eq_false,if_false,Zj]at Ww
     have hdx:s4.Ok:=by rw[<-Zj];exact qL Yq x3 i.op
     have ht4:s4.au=s.au:=by rw[<-Zj];unfold Mt.told;split<;> (show s3.au=s.au;rw[ht3,ht1])
     have hcP:s3.au=s.au:=by rw[ht3,ht1]
     have hn3:s3.seen.length<1000000000:=ht.len _ _ _ _ Sx
     have Zq:P n c src s4:=by rw[<-Zj];exact ht.told _ _ _ _ _ _ Sx
     replace⟨Zq,hn3,Ww,Zj,Ri,ht3,ht1,ht4,hcP,hdi,hdY⟩:=iK Zq hn3 Ww Zj Ri ht3 ht1 ht4 hcP hdi hdY
     rcases RW.out with⟨htf,htn⟩ | ⟨htf,gb,htn,htc⟩
     ·have e4:s4=s3:=by
       rw[<-Zj.out]
       unfold Mt.told
       rw[if_neg (by rw[hcP.out,htf];simp)]
      subst e4
      rw[htn]at c7
      replace⟨htn,htf⟩:=iB htn htf
      have hnn:=zB w8
      have g4:=Ri.out.tail.tail.r4
      have g3:=Ri.out.tail.tail.r3
      have gf3:=Ri.out.tail.tail.rf 3
      have ON:On F w (aa (plL c g w.heap.size i 0 { x3 with pc:=x3.next } src s4)) (w8.setCell (g,3) (.int .i64 x3.next)):=Ri.out.setAt 2 rfl 3 (.int .i64 x3.next)
      have h5:=ON.tail.tail.r5
      have SJ:=(ON.ab 1 rfl).cell 0
      have ZU:=(ON.ab 1 rfl).frozen 0
      have Rj:On F w (aa (plL c g w.heap.size i 0 { x3 with pc:=x3.next } src s4)) ((w8.setCell (g,3) (.int .i64 x3.next)).setCell (w.heap.size,0) (.int .i64 0)):=ON.setAt 1 rfl 0 (.int .i64 0)
      have hx4: ({ x3 with pc:=x3.next }:Rn).Ok:=⟨SO.base,SO.dh,SO.next,SO.next,SO.left,SO.cG⟩
      replace⟨ON,Rj,Ri⟩:=iC ON Rj Ri
      rcases Y7:x3.over with _|_
      ·have ZY:fo tab n { x3 with pc:=x3.next } s4=some q:=by
        have h:=Ww.out
        rw[if_neg (by rw[Y7];simp)]at h
        exact h
       rw[Y7]at h5
       replace⟨ZY,Y7⟩:=iB ZY Y7
       go_wp2_with fail
       go_step3
       refine⟨rfl,n,by omega,?_⟩
       exact vc.mk _ rfl rfl i 0 _ s4 ON.out hdx hx4 ht4.out ZY.out Zq.out
      ·have ZY: (⟨0,{ x3 with pc:=x3.next },s4⟩:Rs)=q:=by
        have h:=Ww.out
        rw[if_pos Y7]at h
        exact Option.some.inj h
       rw[Y7]at h5
       subst ZY
       replace Y7:=hid Y7
       go_wp2_with fail
       exact rM w.heap.size 0 w _ F c g _ src s4 i Rj.out _ rfl
     ·have e4:s4 = { s3 with seen:=s3.seen ++ [⟨x3.pc,i.op,s3.d,s3.top 0,x3.left⟩] }:=by
       rw[<-Zj.out]
       unfold Mt.told
       rw[if_pos (by rw[hcP.out,htf])]
      rw[htn]at c7
      have hnn:=H8 w8 (.func 37) #[gb] #[]
      replace⟨htn,htf,htc,e4⟩:=iD htn htf htc e4
      have g3:=Ri.out.tail.tail.r3
      have g2:=Ri.out.tail.tail.r2
      have b0:w8.cell? ⟨w.heap.size+1,0,none⟩=some (i.op:Vl):=(Ri.out.ab 0 rfl).cell 0
      have m5:=Ri.out.tail.tail.m5
      have l1:=Ri.out.tail.tail.rlt
      have l2:=Ri.out.tail.tail.mlt
      have l3:=(Ri.out.ab 0 rfl).lt
      have hsd:=Ri.out.tail.tail.sd
      replace hsd:=hid hsd
      go_wp2_with fail
      go_upto_region 14 with fail
      go_cut [6]from 80 to 98 (λa wx=>a = .pointer w8.heap.size∧On F w (aa (ae w8.heap.size 159 #[x3.pc,i.op,(s3.d:Int),(0:Int),x3.left]::plL c g w.heap.size i 0 x3 src s3)) wx)
      case first=>
       have Re:=(Ri.out.box #[x3.pc,i.op,(s3.d:Int),(0:Int),x3.left] 159).drew
       replace Re:=hid Re
       refine eX ?_
       go_region_held (λw'=>w'.cell? (g,0)=some (c.gM:Vl)∧w'.cell? (c.gM,5)=some (c.gD:Vl)∧w'.cell? (g,3)=some (x3.pc:Vl)∧w'.cell? (g,2)=some (x3.left:Vl)∧w'.cell? ⟨w.heap.size+1,0,none⟩=some (i.op:Vl)) (go_keep)
        ((go_at_call 16;refine(dG (wD (p:=Blk _ c.gD 112 (ix c.gI s3.pd s3.d)) (by first|exact hsd.out.drew|exact(hsd.out.alloc _).drew))).mono ?_;rintro e w9 ⟨rfl,rfl⟩))
       all_goals refine ss.normal ?_
       all_goals go_wp2_with fail
       all_goals go_meet
       all_goals exact⟨rfl,Re.out⟩
      case rest=>
       obtain⟨rfl,ZI⟩:=hcut
       clear hnn g3 g2 b0 m5 l1 l2 l3 hsd
       have r0:=ZI.tail.tail.tail.r0
       have m5:=ZI.tail.tail.tail.m5
       obtain⟨gb',him⟩:=ZI.tail.tail.tail.im
       have WX:=oD ZI.tail.tail.tail.sd him Yq.pd Yq.dle 0
       unfold qb at WX
       have hgJ:lc s3.S s3.pd.fr s3.d 0=s3.top 0:=rfl
       rw[hgJ]at WX
       generalize (if hasB s3.d 0=true then 0 else s3.pd.un)=pf at *
       clear him hgJ
       replace⟨WX,ZI⟩:=iB WX ZI
       go_wp2_with fail
       refine mo WX.out λwp Q9=>?_
       have V6:=ZI.out.below Q9
       have y3:wp.cell? (w8.heap.size,3)=some (.int .i64 0):=(V6.ab 0 rfl).cell 3
       have f3:=(V6.ab 0 rfl).frozen 3
       have WI:On F w (aa (ae w8.heap.size 159 #[x3.pc,i.op,(s3.d:Int),(s3.top 0),x3.left]::plL c g w.heap.size i 0 x3 src s3)) (wp.setCell (w8.heap.size,3) (.int .i64 (s3.top 0))):=V6.setAt 0 rfl 3 (.int .i64 (s3.top 0))
       have v0:=WI.tail.tail.tail.r0
       have v7:=WI.tail.tail.tail.m7
       rw[htn.out]at v7
       have x0: (wp.setCell (w8.heap.size,3) (.int .i64 (s3.top 0))).cell? (w8.heap.size,0)=some (x3.pc:Vl):=(WI.ab 0 rfl).cell 0
       have x1c: (wp.setCell (w8.heap.size,3) (.int .i64 (s3.top 0))).cell? (w8.heap.size,1)=some (i.op:Vl):=(WI.ab 0 rfl).cell 1
       have x2c: (wp.setCell (w8.heap.size,3) (.int .i64 (s3.top 0))).cell? (w8.heap.size,2)=some ((s3.d:Int):Vl):=(WI.ab 0 rfl).cell 2
       have x3c: (wp.setCell (w8.heap.size,3) (.int .i64 (s3.top 0))).cell? (w8.heap.size,3)=some ((s3.top 0):Vl):=(WI.ab 0 rfl).cell 3
       have x4c: (wp.setCell (w8.heap.size,3) (.int .i64 (s3.top 0))).cell? (w8.heap.size,4)=some (x3.left:Vl):=(WI.ab 0 rfl).cell 4
       have V8:Calls prog 37 #[gb,.agg #[x3.pc,i.op,(s3.d:Int),(s3.top 0),x3.left]] (wp.setCell (w8.heap.size,3) (.int .i64 (s3.top 0))).drew
        (Got (.returned (.tuple #[])) (aa (ae w8.heap.size 159 #[x3.pc,i.op,(s3.d:Int),(s3.top 0),x3.left]::plL c g w.heap.size i 0 x3 src s4)) F w):=by
        rw[e4.out]
        exact WI.drew.bG 11 rfl (λF' ha=>htc.out s3.seen ⟨x3.pc,i.op,s3.d,s3.top 0,x3.left⟩ _ F' hn3.out ha)
       generalize s3.top 0=tp at WX WI V8 x0 x1c x2c x3c x4c v0 v7⊢
       replace⟨V8,WI,V6⟩:=iC V8 WI V6
       clear Q9
       go_wp2_with fail
       generalize wp.setCell (w8.heap.size,3) (.int .i64 tp)=wq at *
       refine eX ?_
       go_region_held (λw'=>w'.cell? (g,0)=some (c.gM:Vl)∧w'.cell? (c.gM,7)=some (.func (.func 37) #[gb] #[])∧w'.cell? (w8.heap.size,0)=some (x3.pc:Vl)∧w'.cell? (w8.heap.size,1)=some (i.op:Vl)∧w'.cell? (w8.heap.size,2)=some ((s3.d:Int):Vl)∧w'.cell? (w8.heap.size,3)=some (tp:Vl)∧w'.cell? (w8.heap.size,4)=some (x3.left:Vl)) (go_keep)
        ((go_at_call 37;refine mo V8.out λw9 WV=>?_;have s0:=WV.tail.tail.tail.r0;have s7:=WV.tail.tail.tail.m7;rw[htn.out]at s7;have o0:w9.cell? (w8.heap.size,0)=some (x3.pc:Vl):=(WV.ab 0 rfl).cell 0;have o1:w9.cell? (w8.heap.size,1)=some (i.op:Vl):=(WV.ab 0 rfl).cell 1;have o2:w9.cell? (w8.heap.size,2)=some ((s3.d:Int):Vl):=(WV.ab 0 rfl).cell 2;have o3:w9.cell? (w8.heap.size,3)=some (tp:Vl):=(WV.ab 0 rfl).cell 3;have o4:w9.cell? (w8.heap.size,4)=some (x3.left:Vl):=(WV.ab 0 rfl).cell 4;replace WV:=hid WV))
       refine ss.normal ?_
       have Sa:On F w (aa (plL c g w.heap.size i 0 x3 src s4)) w9:=WV.out.tail
       replace Sa:=hid Sa
       clear s0 s7 o0 o1 o2 o3 o4 v0 v7 x0 x1c x2c x3c x4c y3 f3
       have g4:=Sa.out.tail.tail.r4
       have g3:=Sa.out.tail.tail.r3
       have gf3:=Sa.out.tail.tail.rf 3
       have ON:On F w (aa (plL c g w.heap.size i 0 { x3 with pc:=x3.next } src s4)) (w9.setCell (g,3) (.int .i64 x3.next)):=Sa.out.setAt 2 rfl 3 (.int .i64 x3.next)
       have h5:=ON.tail.tail.r5
       have SJ:=(ON.ab 1 rfl).cell 0
       have ZU:=(ON.ab 1 rfl).frozen 0
       have Rj:On F w (aa (plL c g w.heap.size i 0 { x3 with pc:=x3.next } src s4)) ((w9.setCell (g,3) (.int .i64 x3.next)).setCell (w.heap.size,0) (.int .i64 0)):=ON.setAt 1 rfl 0 (.int .i64 0)
       have hx4: ({ x3 with pc:=x3.next }:Rn).Ok:=⟨SO.base,SO.dh,SO.next,SO.next,SO.left,SO.cG⟩
       replace⟨ON,Rj,Sa⟩:=iC ON Rj Sa
       rcases Y7:x3.over with _|_
       ·have ZY:fo tab n { x3 with pc:=x3.next } s4=some q:=by
         have h:=Ww.out
         rw[if_neg (by rw[Y7];simp)]at h
         exact h
        rw[Y7]at h5
        replace⟨ZY,Y7⟩:=iB ZY Y7
        go_wp2_with fail
        go_step3
        refine⟨rfl,n,by omega,?_⟩
        exact vc.mk _ rfl rfl i 0 _ s4 ON.out hdx hx4 ht4.out ZY.out Zq.out
       ·have ZY: (⟨0,{ x3 with pc:=x3.next },s4⟩:Rs)=q:=by
         have h:=Ww.out
         rw[if_pos Y7]at h
         exact Option.some.inj h
        rw[Y7]at h5
        subst ZY
        replace Y7:=hid Y7
        go_wp2_with fail
        exact rM w.heap.size 0 w _ F c g _ src s4 i Rj.out _ rfl
end
section
variable {w w':World}{F:Nat->Prop}{c:Vc}{s:Mt}
theorem Hr{tab:aq->Option (Rn->Mt->Rs)}{P Q:Nat->Kn}{R:Kn}(ht:sN tab P Q R)(N:Nat)(sp:Option Addr)(hb: (aa (mL c s)).holds w F)(Un:P N c (.pointer sp) s)(hs:s.Ok)(RW:fX c s.au)(mode xt aZ:Int)(Ua:V64 xt)(OF:1<=s.pr.rm-s.r)(q:Rs)
 (hq:fo tab N { Rn.start mode aZ with pc:=xt } (s.az [0])=some q):
 Calls prog 10 #[c.gM,mode,xt,aZ,.pointer sp] w (Got (.returned (.tuple #[q.f,(clip aZ-q.x.left:Int)])) (aa (mL c q.s)) F w):=by
 have so:=(On.refl hb).box (GX c (Rn.start mode aZ) (.pointer sp)) 102
 have Rv: (Rn.start mode aZ).Ok:=rH mode aZ
 have WH:fo tab N { Rn.start mode aZ with pc:=xt } (s.az [0])=some q:=hq
 have hbd:=(nQ ht c (.pointer sp) _ { Rn.start mode aZ with pc:=xt } _ _ (ht.push _ _ _ _ _ Un) (eU hs [0] OF) ⟨Rv.base,Rv.dh,Rv.next,Ua,Rv.left,Rv.cG⟩ hq).2.1
 have RX:0<=clip aZ∧clip aZ<=1000000:=by unfold clip;omega
 have hbd2:q.x.left<=clip aZ:=hbd.2
 have hbd1:=hbd.1
 have Zm:=On.tP (A:=aa (nc c w.heap.size (Rn.start mode aZ) (.pointer sp)::mL c s)) so (λF' RJ=>CV ht N (c:=c) (g:=w.heap.size) (x:=Rn.start mode aZ) (src:=(.pointer sp)) (s:=s) RJ Un hs Rv xt Ua q WH OF RW)
 have hr:GX c (Rn.start mode aZ) (.pointer sp)=#[.pointer c.gM,.int .i64 mode,.int .i64 (clip aZ),.int .i64 0,.int .i64 0,.bool false,.bool false,.int .i64 0,.pointer sp]:=rfl
 rw[hr]at Zm
 have hmm:max 0 (min aZ 1000000)=clip aZ:=rfl
 replace Zm:=hid Zm
 clear hb so hbd hq WH hr Rv hs RW
 generalize clip aZ=L at *
 go_enter func10,ntmps10
 go_wp2_with fail
 refine mo Zm.out λw1 h=>?_
 have c2:w1.cell? (w.heap.size,2)=some (q.x.left:Vl):=(h.ab 0 rfl).cell 2
 replace h:=hid h
 go_wp2_with fail
 go_quiet (fail)
 go_wp2
 go_ret2
 exact⟨rfl,h.out.tail.drewN _⟩
end
theorem l9(s:Mt)(x:Rn)(op:Int): (s.told x op).seen.length<=s.seen.length+1:=by
 unfold Mt.told
 split
 ·show(s.seen ++ [_]).length<=_
  rw[List.length_append,List.length_singleton];exact Nat.le_refl _
 ·exact Nat.le_succ _
theorem CJ: ∀(n:Nat) (x:Rn) (s:Mt),ij n x s=fo parts n x s
 | 0,_,_=>rfl
 | n+1,x,s=>by
   unfold ij fo
   rw[show qe x s=stepT parts x s from rfl]
   cases stepT parts x s with
   | none=>rfl
   | some q=>simp only[CJ n]
theorem LR:sN parts (λn _ _ s=>s.seen.length+n<=1000000000) (λn _ _ s=>s.seen.length+n+1<=1000000000) (λ_ _ _=>True) where
 ok:=λn i q h=>⟨(su i q h).1.toG _,λc src x s hp hs hx h1 h2 ha=>by
  have k:=(su i q h).2 x s hs hx h1 h2 ha
  exact⟨k.1,k.2.1,k.2.2.1,Int.le_of_eq k.2.2.2.1,by show(q x s).s.seen.length+n+1<=_;rw[k.2.2.2.2];exact hp⟩⟩
 push:=λn c src s l h=>h
 told:=λn c src s x op h=>by
  have h1:=l9 s x op
  have h2:s.seen.length+n+1<=1000000000:=h
  show(s.told x op).seen.length+n<=_
  omega
 len:=λn c src s h=>by
  have h2:s.seen.length+n+1<=1000000000:=h
  omega
 pr:=λ_ _ _ _ _=>trivial
 qr:=λ_ _ _ _ _=>trivial
section
variable {w w':World}{F:Nat->Prop}{c:Vc}{s:Mt}
theorem QH(hb: (aa (mL c s)).holds w F)(hs:s.Ok)(RW:fX c s.au)(mode xt aZ:Int)(Ua:V64 xt)(sp:Option Addr)(OF:1<=s.pr.rm-s.r)(Sy:s.seen.length<=900000000)(q:Rs)
 (hq:ij ((clip aZ).toNat+1) { Rn.start mode aZ with pc:=xt } (s.az [0])=some q):
 Calls prog 10 #[c.gM,mode,xt,aZ,.pointer sp] w (Got (.returned (.tuple #[q.f,(clip aZ-q.x.left:Int)])) (aa (mL c q.s)) F w):=by
 exact Hr LR _ sp hb (show s.seen.length+ ((clip aZ).toNat+1)<=1000000000 by have h: (clip aZ).toNat<=1000000:=by { unfold clip;omega };omega) hs RW mode xt aZ Ua OF q (by rw[<-CJ];exact hq)
end
theorem jb(n:Int)(h:0<=n)(h2:n<=1000000):wrap64 n=n:=by unfold wrap64;omega
theorem zK{x:Rn}{s:Mt}{i:aq}{q:Rn->Mt->Rs}(hl:x.left≠0)(hf:s.S.aE x.mode x.pc= (i,0))(hp:parts i=some q)(n:Int)(hn:wrap64 (x.pc+8*i.cells)=n)
 (ha:asks i { x with left:=x.left-1,next:=n } s=0) (r:Rs) (hq:q { x with left:=x.left-1,next:=n } s=r) (hr:r.f=0):
 qe x s=some ⟨0,{ r.x with pc:=r.x.next },r.s.told r.x i.op⟩:=by
 unfold qe
 rw[if_neg hl,hf,if_neg (by simp)]
 simp only
 rw[hn,if_neg (by rw[ha];decide),hp,Option.map_some,hq,if_neg (by rw[hr];decide)]
theorem ry{n:Nat}{x:Rn}{s:Mt}{r:Rs}(h:qe x s=some r)(hf:r.f=0)(ho:r.x.over=false):ij (n+1) x s=ij n r.x r.s:=by
 rw[ij,h]
 simp only
 rw[if_neg (by rw[hf];decide),if_neg (by rw[ho];decide)]
theorem Ep{n:Nat}{x:Rn}{s:Mt}{r:Rs}(h:qe x s=some r)(ho:r.f≠0∨r.x.over=true):ij (n+1) x s=some r:=by
 rw[ij,h]
 simp only
 rcases ho with ho|ho
 ·rw[if_pos ho]
 ·rw[if_pos ho]
  split<;>rfl
structure Stepped(x:Rn)(s:Mt)(n:Int)(s':Mt)(a:Nat)(cs ds rs:List Int):Prop where
 step:qe x s=some ⟨0,{ x with left:=x.left-1,next:=n,pc:=n },s'⟩
 rep:Rep s' a cs ds rs
 au:s'.au=s.au
 seen:s'.seen.length=s.seen.length+ (if s.au then 1 else 0)
theorem Rep.Gc{x:Rn}{s:Mt}{a:Nat}{cs ds rs:List Int}(h:Rep s a cs ds rs)(i:aq)(n m:Nat)(l:Mt->List Int)(out:List Int)(pc:Int)(hl:x.left≠0)(hf:s.S.aE x.mode x.pc= (i,0))(hp:parts i=some (λx s=>aJ n (l s) x s))
 (hw:Code.ai i.op= ((n:Int),(m:Int))) (Zw:i.op≠26) (heP:dM i.op=0) (Su: ∀b,returns i.op i.arg b= (0,0)) (hn:n<=ds.length) (hm:ds.length-n+m<=16) (Zh:l s=out) (hlen:out.length=m) (hv: ∀v∈out,V64 v)
 (V2:pc=x.pc+8*i.cells) (hfO:0<=pc) (hfU:pc<=1000000) (hb:x.base=0): ∃s',Stepped x s pc s' a cs (ds.take (ds.length-n)++out) rs:=by
 have h1:=h.ak n hn out hv oM
 have ha:asks i { x with left:=x.left-1,next:=pc } s=0:=by
  refine h.asked i _ heP (by rw[hw];show(n:Int)<=_;omega) Zw (by rw[hw];show(ds.length:Int) - (n:Int) + (m:Int)<=16;omega) (by rw[Su];show(0:Int)<=(rs.length:Int) -x.base;omega) (by rw[Su];have:=h.rle;show(rs.length:Int) -0+0<=8;omega)
 have hq: (λx s=>aJ n (l s) x s) { x with left:=x.left-1,next:=pc } s= ⟨(s.ak n out).1,{ x with left:=x.left-1,next:=pc },(s.ak n out).2⟩:=by
  show aJ n (l s) _ s=_
  rw[Zh]
  rfl
 have hs:=zK hl hf hp pc (by rw[<-V2];exact jb pc hfO hfU) ha _ hq h1.1
 refine⟨_,hs,h1.2.1.told _ _,?_,?_⟩
 ·show((s.ak n out).2.told _ _).au=s.au
  have e: (s.ak n out).2.au=s.au:=by unfold Mt.ak;split<;>rfl
  unfold Mt.told
  split<;>exact e
 ·show((s.ak n out).2.told _ _).seen.length=_
  have e: (s.ak n out).2.au=s.au:=by unfold Mt.ak;split<;>rfl
  rw[yM,e,h1.2.2]
theorem Rep.Ga{x:Rn}{s:Mt}{a:Nat}{cs ds rs:List Int}{v:Int}(h:Rep s a cs ds (rs ++ [v]))(hl:x.left≠0)(hf:s.S.aE x.mode x.pc= (⟨1,0,0,1⟩,0))(hb:x.base=0)(hfO:0<=x.pc)(hfU:x.pc<=900000):
 ∃s',qe x s=some ⟨0,{ x with left:=x.left-1,next:=v,pc:=v,over:=v==0 },s'⟩ ∧Rep s' a cs ds rs∧s'.au=s.au∧s'.seen.length=s.seen.length+ (if s.au then 1 else 0):=by
 have hlr: (rs ++ [v]).length=rs.length+1:=by simp
 have hw:Code.ai 1= (0,0):=by decide
 have Su: ∀b,returns 1 0 b= (1,0):=λb=>rfl
 have ha:asks ⟨1,0,0,1⟩ { x with left:=x.left-1,next:=x.pc+8 } s=0:=by
  refine h.asked _ _ rfl (by show(Code.ai 1).1<=_;rw[hw];show(0:Int)<=_;omega) (by decide) (by show(ds.length:Int) - (Code.ai 1).1+ (Code.ai 1).2<=16;rw[hw];have:=h.dle;show(ds.length:Int) -0+0<=16;omega) (by show(returns 1 0 s.same).1<=_;rw[Su,hlr];show(1:Int)<=((rs.length+1:Nat):Int) -x.base;omega) (by show((rs ++ [v]).length:Int) - (returns 1 0 s.same).1+ (returns 1 0 s.same).2<=8;rw[Su,hlr];have:=h.rle;rw[hlr]at this;show((rs.length+1:Nat):Int) -1+0<=8;omega)
 have ht:s.bu 0=v:=h.bu 0 v (by rw[hlr];omega) (by rw[hlr];simp)
 have hq:back { x with left:=x.left-1,next:=x.pc+8 } s= ⟨0,{ x with left:=x.left-1,next:=v,over:=v==0 },{ s with r:=s.r-1 }⟩:=by
  unfold back
  rw[if_neg (by rw[h.r,hlr];omega),ht]
 have hs:=zK (i:=⟨1,0,0,1⟩) hl hf rfl (x.pc+8) (by show wrap64 (x.pc+8*1)=_;rw[jb _ oM oM];omega) ha _ hq rfl
 have RO:Rep { s with r:=s.r-1 } a cs ds rs:=by
  have h2:=h.eu rs.length (by rw[hlr];omega)
  rw[List.take_append_of_le_length (Nat.le_refl _),List.take_length]at h2
  have e:s.eu rs.length = { s with r:=s.r-1 }:=by unfold Mt.eu;rw[h.r,hlr];rfl
  rw[e]at h2
  exact h2
 refine⟨_,hs,RO.told _ _,?_,?_⟩
 ·show(Mt.told { s with r:=s.r-1 } _ _).au=s.au
  unfold Mt.told
  split<;>rfl
 ·rw[yM]
theorem wF(m aZ:Int)(pc:Int): ({ Rn.start m aZ with pc:=pc }:Rn)= ⟨m,clip aZ,pc,0,false,false,0⟩:=rfl
theorem pE(n:Int)(h:0<=n)(h2:n<=1000000):V64 n:=by unfold V64;omega
def cq:List Int:=[2,5,21,33,1]
theorem Fs{s:Mt}(h:Rep s 16472 cq [] [])(ht:s.au=true): ∃q,ij ((clip 100).toNat+1) { Rn.start 1 100 with pc:=16472 } (s.az [0])=some q∧q.f=0∧q.x.left=96∧Rep q.s 16472 cq [25] []∧q.s.seen.length=s.seen.length+4:=by
 have h0:Rep (s.az [0]) 16472 cq [] [0]:=h.wO 0 (by unfold V64;omega) (by simp)
 have e0: (s.az [0]).au=true:=ht
 have n0: (s.az [0]).seen.length=s.seen.length:=rfl
 generalize s.az [0]=s0 at *
 have hc:clip 100=100:=by decide
 rw[hc,wF,hc,show(100:Int).toNat+1=97+4 from rfl]
 have f1:=h0.code.sC 1 oM 0 5 rfl rfl
 obtain⟨s1,t1⟩:=h0.Gc (x:=⟨1,100,16472,0,false,false,0⟩) ⟨2,0,5,2⟩ 0 1 (λ_=>[5]) [5] 16488 (by decide) f1 rfl (by decide) (by decide) rfl (λ_=>rfl) (by simp) (by simp) rfl rfl (λv hv=>by rw[List.mem_singleton.1 hv];exact pE 5 oM oM) rfl oM oM rfl
 have h1:Rep s1 16472 cq [5] [0]:=t1.rep
 have f2:=h1.code.aE 1 oM 2 21 21 0 rfl (by decide) (by decide) (by decide)
 have a2:ar s1 1 0=5:=h1.arv 1 0 5 oM (by simp) rfl
 obtain⟨s2,t2⟩:=h1.Gc (x:=⟨1,99,16488,16488,false,false,0⟩) ⟨21,0,0,1⟩ 1 2 (λs=>[ar s 1 0,ar s 1 0]) [5,5] 16496 (by decide) f2 rfl (by decide) (by decide) rfl (λ_=>rfl) (by simp) (by simp) (by simp only[a2]) rfl (λv hv=>by
  simp only[List.mem_cons,List.mem_nil_iff,or_false,or_self]at hv
  rw[hv];exact pE 5 oM oM) rfl oM oM rfl
 have h2:Rep s2 16472 cq [5,5] [0]:=t2.rep
 have f3:=h2.code.aE 1 oM 3 33 33 0 rfl (by decide) (by decide) (by decide)
 have a3:ar s2 2 0=5:=h2.arv 2 0 5 oM (by simp) rfl
 have b3:ar s2 2 1=5:=h2.arv 2 1 5 oM (by simp) rfl
 obtain⟨s3,t3⟩:=h2.Gc (x:=⟨1,98,16496,16496,false,false,0⟩) ⟨33,0,0,1⟩ 2 1 (λs=>[wrap64 (ar s 2 0*ar s 2 1)]) [25] 16504 (by decide) f3 rfl (by decide) (by decide) rfl (λ_=>rfl) (by simp) (by simp) (by simp only[a3,b3];decide +kernel) rfl (λv hv=>by
  rw[List.mem_singleton.1 hv];exact pE 25 oM oM) rfl oM oM rfl
 have h3:Rep s3 16472 cq [25] ([]++ [0]):=t3.rep
 have f4:=h3.code.aE 1 oM 4 1 1 0 rfl (by decide) (by decide) (by decide)
 obtain⟨s4,t4,h4,e4,n4⟩:=h3.Ga (x:=⟨1,97,16504,16504,false,false,0⟩) (by decide) f4 rfl (by decide) (by decide)
 have g1:ij (97+4) ⟨1,100,16472,0,false,false,0⟩ s0=ij (97+3) ⟨1,99,16488,16488,false,false,0⟩ s1:=ry t1.step rfl rfl
 have g2:ij (97+3) ⟨1,99,16488,16488,false,false,0⟩ s1=ij (97+2) ⟨1,98,16496,16496,false,false,0⟩ s2:=ry t2.step rfl rfl
 have g3:ij (97+2) ⟨1,98,16496,16496,false,false,0⟩ s2=ij (97+1) ⟨1,97,16504,16504,false,false,0⟩ s3:=ry t3.step rfl rfl
 have g4:=Ep (n:=97) t4 (.inr rfl)
 rw[g1,g2,g3,g4]
 refine⟨_,rfl,rfl,rfl,h4,?_⟩
 show s4.seen.length=_
 rw[n4,t3.seen,t2.seen,t1.seen,t3.au,t2.au,t1.au,e0,n0]
 rfl
