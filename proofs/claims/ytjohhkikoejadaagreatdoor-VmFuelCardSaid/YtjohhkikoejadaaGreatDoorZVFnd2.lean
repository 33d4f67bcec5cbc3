/- Chapter 11: FIND. Conditions: all was asked; all lies where it should. Printed by gen_vfnd2.py. -/
import Derived.Test.YtjohhkikoejadaaGreatDoorZ02
import Derived.Test.YtjohhkikoejadaaGreatDoorZ35
import Derived.Test.YtjohhkikoejadaaGreatDoorZ33
namespace Go.Proofs.YtjohhkikoejadaaGreatDoor
set_option linter.unusedVariables false
set_option linter.unusedSimpArgs false
set_option maxHeartbeats 8000000
set_option maxRecDepth 100000
open Go.RowKit Go.Lib Go.Deep
namespace Vm
def lG(s:Mt)(nm:List UInt8) :Option Wd:=(nf s.S (dS s) nm).or (nf s.S (dK s) nm)
def foundL:Option Wd->List Int
 | none=>[0,0]
 | some x=>[(x.xt:Int),if x.imm=true then 1 else -1]
def oI(x:Rn)(s:Mt) :Rs×List Int:=
 if ig x s (ar s 2 0) (ar s 2 1) =0 then(⟨0,x.pay (ar s 2 1),s⟩,foundL (lG s (s.S.text x.mode (ar s 2 0) (ar s 2 1)).data.toList))else(⟨ig x s (ar s 2 0) (ar s 2 1),x.pay (ar s 2 1),s⟩,[])
theorem Nb{P:Program}{f:FuncId}{args:Array Value}{w:World}(h:False)(v:Value) :Calls P f args w (aA v w):=h.elim
theorem Wk.find{c:Vc}{g:Nat}{x:Rn}{src:Value}{s:Mt}(hp:Wk c src s)(L:List Asr){w W:World}{F:Nat->Prop}(h:On F w (aa (L++vL c g x src s)) W)(nm:ByteArray)(hn:nm.size<=140737488355327) :
 Calls Tryz.prog 155 #[.string nm,c.ws] W (eP (lG s nm.data.toList) W):=by
 obtain⟨i,hi⟩:=hp.ws
 obtain⟨F',hF⟩:=h.at_ _ (BQ (c:=c) (g:=g) (x:=x) (src:=src) (s2:=s) hi L)
 obtain⟨gw,cap,hv,h0,h1⟩:=KA hF.1
 have hvl : ∀j,(L++vL c g x src s)[L.length+j]? = (vL c g x src s)[j]? :=λj=>by rw[List.getElem?_append_right (by omega)];congr 1;omega
 have b6:=h.ab (L.length+6) (hvl 6)
 have b7:=h.ab (L.length+7) (hvl 7)
 obtain⟨gb,hI⟩:=h.img (L.length+2) (hvl 2)
 have b6':Blk W c.gS 136 (cu c.gI c.sfr c.sto ((dS s).h:Int) ((dS s).l:Int)):=by
  show Blk W c.gS 136 (cu c.gI c.sfr c.sto ((s.hs.toNat:Nat) :Int) ((s.ls.toNat:Nat) :Int))
  rw[Int.toNat_of_nonneg hp.dcs.h,Int.toNat_of_nonneg hp.dcs.l]
  exact b6
 have b7':Blk W c.gK 136 (cu c.gI c.kfr c.kto ((dK s).h:Int) ((dK s).l:Int)):=by
  show Blk W c.gK 136 (cu c.gI c.kfr c.kto ((s.hk.toNat:Nat) :Int) ((s.lk.toNat:Nat) :Int))
  rw[Int.toNat_of_nonneg hp.hk,Int.toNat_of_nonneg hp.lk]
  exact b7
 rw[hv]
 refine zx W gw cap c.gS c.gK nm _ _ h0 h1 (λW' hb=> ?_) (λW' hb=> ?_)
 ·exact ze W' (b6'.below hb b6'.lt) ⟨hI.blk.below hb hI.blk.lt,hI.row.below hb hI.row.lt,hI.ok⟩ hp.dcs.at8 nm hn
 ·exact ze W' (b7'.below hb b7'.lt) ⟨hI.blk.below hb hI.blk.lt,hI.row.below hb hI.row.lt,hI.ok⟩ hp.kat nm hn
theorem Lj(arg lit cells:Int) :cE Wk 105 (λg=> #[.pointer (some ⟨g,0,none⟩)]) ⟨86,arg,lit,cells⟩ oI:=by
 intro c g x src s ba w F hp hs hx hask hb
 have hw2: (Code.ah 86).1.toNat=2:=by decide
 simp only[hw2]at hb⊢
 have hon:=On.refl hb
 have hcell : ∀x2 W,On F w (aa (ae ba 3 (af (s.args 2)) ::vL c g x2 src s)) W->W.cell? (ba,0) =some ((ar s 2 0) :Vl)∧W.cell? (ba,1) =some ((ar s 2 1) :Vl)∧W.cell? (g,0) =some (c.gM:Vl)∧W.cell? (c.gM,2) =some c.ws:=λx2 W h=>⟨ai (h.ab 0 rfl) (by omega),ai (h.ab 0 rfl) (by omega),h.tail.r0,(h.ab 2 rfl).cell 2⟩
 have hsz: (s.S.text x.mode (ar s 2 0) (ar s 2 1)).size<=140737488355327:=by
  obtain⟨gb,hi⟩:=hon.img 3 rfl
  have:=uy s.S hi.ok x.mode (ar s 2 0) (ar s 2 1)
  omega
 have hc1 : ∀W,On F w (aa (ae ba 3 (af (s.args 2)) ::vL c g x src s)) W->Calls Tryz.prog 147 #[g,(ar s 2 0),(ar s 2 1)] W (Got (jH (ig x s (ar s 2 0) (ar s 2 1)) (s.S.text x.mode (ar s 2 0) (ar s 2 1))) (aa (ae ba 3 (af (s.args 2)) ::vL c g (x.pay (ar s 2 1)) src s)) F w):=λW h=>h.aW λF' hb' _ _=>AS hb' hx _ _ (aL s 2 1)
 have hc5 : ∀(B:Asr) W,On F w (aa (B::ae ba 3 (af (s.args 2)) ::vL c g x src s)) W->Calls Tryz.prog 147 #[g,(ar s 2 0),(ar s 2 1)] W (Got (jH (ig x s (ar s 2 0) (ar s 2 1)) (s.S.text x.mode (ar s 2 0) (ar s 2 1))) (aa (B::ae ba 3 (af (s.args 2)) ::vL c g (x.pay (ar s 2 1)) src s)) F w):=λB W h=>h.aW λF' hb' _ _=>(On.refl hb').aW λF'' hb'' _ _=>AS hb'' hx _ _ (aL s 2 1)
 have hc2 : ∀(B:Asr) W,On F w (aa (B::ae ba 3 (af (s.args 2)) ::vL c g (x.pay (ar s 2 1)) src s)) W->Calls Tryz.prog 155 #[.string (s.S.text x.mode (ar s 2 0) (ar s 2 1)),c.ws] W (eP (lG s (s.S.text x.mode (ar s 2 0) (ar s 2 1)).data.toList) W):=λB W h=>hp.find [B,ae ba 3 (af (s.args 2))] h _ hsz
 have hcW : ∀W,On F w (aa (ae ba 3 (af (s.args 2)) ::vL c g (x.pay (ar s 2 1)) src s)) W->Calls Tryz.prog 155 #[.string (s.S.text x.mode (ar s 2 0) (ar s 2 1)),c.ws] W (eP (lG s (s.S.text x.mode (ar s 2 0) (ar s 2 1)).data.toList) W):=λW h=>hp.find [ae ba 3 (af (s.args 2))] h _ hsz
 unfold oI
 generalize lG s (s.S.text x.mode (ar s 2 0) (ar s 2 1)).data.toList=r at *
 generalize ig x s (ar s 2 0) (ar s 2 1) =f1 at *
 generalize s.S.text x.mode (ar s 2 0) (ar s 2 1) =t at *
 generalize x.pay (ar s 2 1) =x2 at *
 generalize ar s 2 0=X at *
 generalize ar s 2 1=Y at *
 show Calls _ _ #[g,(86:Int),.slice ba 2 2] _ _
 generalize af (s.args 2) =ac at *
 have⟨a0,a1,r0,m2⟩:=hcell _ _ hon
 replace hcell:=hid hcell
 replace hc1:=hid hc1
 replace hc5:=hid hc5
 replace hc2:=hid hc2
 replace hcW:=hid hcW
 replace hon:=hid hon
 clear hb hw2 hask hs hx hp hsz
 by_cases hf:f1=0
 ·simp only[if_pos hf]
  have e1:jH f1 t = .returned (.string t):=by unfold jH;rw[if_pos hf]
  rw[e1]at hc1 hc5
  clear e1 hf
  rcases r with _| ⟨nm1,hd1,xt1,im1,hh1,il1⟩
  ·have hc4 : ∀(B:Asr) W,On F w (aa (B::ae ba 3 ac::vL c g x2 src s)) W->Calls Tryz.prog 155 #[.string t,c.ws] W (λe w'=>e = .returned (.tuple #[.agg #[.string ⟨#[]⟩,(0:Int),(0:Int),.bool false,.bool false,.bool false],.bool false])∧Below W.heap.size W w'):=λB W h=>hc2.out B W h
   have hc3 : ∀W,On F w (aa (ae ba 3 ac::vL c g x2 src s)) W->Calls Tryz.prog 155 #[.string t,c.ws] W (λe w'=>e = .returned (.tuple #[.agg #[.string ⟨#[]⟩,(0:Int),(0:Int),.bool false,.bool false,.bool false],.bool false])∧Below W.heap.size W w'):=λW h=>hcW.out W h
   clear hc2 hcW
   replace hc3:=hid hc3
   replace hc4:=hid hc4
   simp only[foundL,if_true,Bool.false_eq_true,if_false]
   go_enter Tryz.func105,Tryz.ntmps105
   go_wp2_with fail
   go_region_held (λw'=>w'.cell? (ba,0) =some (X:Vl)∧w'.cell? (ba,1) =some (Y:Vl)∧w'.cell? (g,0) =some (c.gM:Vl)∧w'.cell? (c.gM,2) =some c.ws) (go_keep)
    ((first
      | (go_at_call 147;refine(hc1.out _ hon.out.drew).mono ?_;rintro e w5 ⟨rfl,hn5⟩;simp only[];have⟨n0,n1,n2,n3⟩:=hcell.out _ _ hn5;replace hn5:=hid hn5)
      | (go_at_call 155;refine(hc3.out _ hn5.out).mono ?_;rintro e w6 ⟨rfl,hb6⟩;have hn6:=hn5.out.below hb6;have⟨o0,o1,o2,o3⟩:=hcell.out _ _ hn6;replace hn6:=hid hn6;clear hb6;have z0:=World.new_ne w6 _ o0;have z2:=World.new_ne w6 _ o2;have z3:=World.new_ne w6 _ o3;simp only[])
      | (go_at_call 155;have hx5:=hid (hn5.out.box cO 50);refine(hc4.out _ _ hx5.out).mono ?_;rintro e w6 ⟨rfl,hb6⟩;have hx6:=hx5.out.below hb6;have⟨o0,o1,o2,o3⟩:=hcell.out _ _ hx6.tail;have d2:Blk w6 w5.heap.size 50 #[.string ⟨#[]⟩,(0:Int),(0:Int),.bool false,.bool false,.bool false]:=hx6.ab 0 rfl;have e0:=d2.cell 0;have e1:=d2.cell 1;have e2:=d2.cell 2;have e3:=d2.cell 3;have e4:=d2.cell 4;have e5:=d2.cell 5;have f0:=d2.frozen 0;have f1:=d2.frozen 1;have f2:=d2.frozen 2;have f3:=d2.frozen 3;have f4:=d2.frozen 4;have f5:=d2.frozen 5;replace d2:=hid d2;replace hx6:=hid hx6;clear hb6;have z0:=World.new_ne w5 _ n0;have z2:=World.new_ne w5 _ n2;have z3:=World.new_ne w5 _ n3;simp only[])
      | (go_at_call 147;have hx0:=hid (hon.out.drew.box cO 50);refine(hc5.out _ _ hx0.out).mono ?_;rintro e w5 ⟨rfl,hx5⟩;simp only[];have⟨n0,n1,n2,n3⟩:=hcell.out _ _ hx5.tail;have z0:=World.new_ne w _ a0;have z2:=World.new_ne w _ r0;have z3:=World.new_ne w _ m2;replace hx5:=hid hx5)
      | (go_at_call 155;refine(hc4.out _ _ hx5.out).mono ?_;rintro e w6 ⟨rfl,hb6⟩;have hx6:On F w (aa (ae w.heap.size 50 cO::ae ba 3 ac::vL c g x2 src s)) w6:=hx5.out.below hb6;have⟨o0,o1,o2,o3⟩:=hcell.out _ _ hx6.tail;have d2:Blk w6 w.heap.size 50 #[.string ⟨#[]⟩,(0:Int),(0:Int),.bool false,.bool false,.bool false]:=hx6.ab 0 rfl;have e0:=d2.cell 0;have e1:=d2.cell 1;have e2:=d2.cell 2;have e3:=d2.cell 3;have e4:=d2.cell 4;have e5:=d2.cell 5;have f0:=d2.frozen 0;have f1:=d2.frozen 1;have f2:=d2.frozen 2;have f3:=d2.frozen 3;have f4:=d2.frozen 4;have f5:=d2.frozen 5;replace d2:=hid d2;replace hx6:=hid hx6;clear hb6;simp only[])))
   all_goals first
    | (have hx7:=hn6.out.box #[.string ⟨#[]⟩,(0:Int),(0:Int),.bool false,.bool false,.bool false] 50
       have q2: (w6.alloc (.cells #[.string ⟨#[]⟩,(0:Int),(0:Int),.bool false,.bool false,.bool false] 50)).cell? (w6.heap.size,2) =some (.int .i64 0):=(hx7.ab 0 rfl).cell 2
       have q3: (w6.alloc (.cells #[.string ⟨#[]⟩,(0:Int),(0:Int),.bool false,.bool false,.bool false] 50)).cell? (w6.heap.size,3) =some (.bool false):=(hx7.ab 0 rfl).cell 3
       have hz:=hid hx7.tail.tail
       clear hx7
       generalize w6.alloc (.cells #[.string ⟨#[]⟩,(0:Int),(0:Int),.bool false,.bool false,.bool false] 50) =W7 at *)
    | (have hg:=hx0
       have hx7:=(((((hx6.out.setAt 0 rfl 0 (.string ⟨#[]⟩)).setAt 0 rfl 1 (.int .i64 0)).setAt 0 rfl 2 (.int .i64 0)).setAt 0 rfl 3 (.bool false)).setAt 0 rfl 4 (.bool false)).setAt 0 rfl 5 (.bool false)
       have q2: ((((((w6.setCell (w.heap.size,0) (.string ⟨#[]⟩)).setCell (w.heap.size,1) (.int .i64 0)).setCell (w.heap.size,2) (.int .i64 0)).setCell (w.heap.size,3) (.bool false)).setCell (w.heap.size,4) (.bool false)).setCell (w.heap.size,5) (.bool false)).cell? (w.heap.size,2) =some (.int .i64 0):=(hx7.ab 0 rfl).cell 2
       have q3: ((((((w6.setCell (w.heap.size,0) (.string ⟨#[]⟩)).setCell (w.heap.size,1) (.int .i64 0)).setCell (w.heap.size,2) (.int .i64 0)).setCell (w.heap.size,3) (.bool false)).setCell (w.heap.size,4) (.bool false)).setCell (w.heap.size,5) (.bool false)).cell? (w.heap.size,3) =some (.bool false):=(hx7.ab 0 rfl).cell 3
       have hz:=hid hx7.tail.tail
       clear hg hx7 e0 e1 e2 e3 e4 e5 f0 f1 f2 f3 f4 f5 hx6 d2
       generalize (((((w6.setCell (w.heap.size,0) (.string ⟨#[]⟩)).setCell (w.heap.size,1) (.int .i64 0)).setCell (w.heap.size,2) (.int .i64 0)).setCell (w.heap.size,3) (.bool false)).setCell (w.heap.size,4) (.bool false)).setCell (w.heap.size,5) (.bool false) =W7 at *)
    | (have hx7:=(((((hx6.out.setAt 0 rfl 0 (.string ⟨#[]⟩)).setAt 0 rfl 1 (.int .i64 0)).setAt 0 rfl 2 (.int .i64 0)).setAt 0 rfl 3 (.bool false)).setAt 0 rfl 4 (.bool false)).setAt 0 rfl 5 (.bool false)
       have q2: ((((((w6.setCell (w5.heap.size,0) (.string ⟨#[]⟩)).setCell (w5.heap.size,1) (.int .i64 0)).setCell (w5.heap.size,2) (.int .i64 0)).setCell (w5.heap.size,3) (.bool false)).setCell (w5.heap.size,4) (.bool false)).setCell (w5.heap.size,5) (.bool false)).cell? (w5.heap.size,2) =some (.int .i64 0):=(hx7.ab 0 rfl).cell 2
       have q3: ((((((w6.setCell (w5.heap.size,0) (.string ⟨#[]⟩)).setCell (w5.heap.size,1) (.int .i64 0)).setCell (w5.heap.size,2) (.int .i64 0)).setCell (w5.heap.size,3) (.bool false)).setCell (w5.heap.size,4) (.bool false)).setCell (w5.heap.size,5) (.bool false)).cell? (w5.heap.size,3) =some (.bool false):=(hx7.ab 0 rfl).cell 3
       have hz:=hid hx7.tail.tail
       clear hx7 e0 e1 e2 e3 e4 e5 f0 f1 f2 f3 f4 f5 hx6 d2
       generalize (((((w6.setCell (w5.heap.size,0) (.string ⟨#[]⟩)).setCell (w5.heap.size,1) (.int .i64 0)).setCell (w5.heap.size,2) (.int .i64 0)).setCell (w5.heap.size,3) (.bool false)).setCell (w5.heap.size,4) (.bool false)).setCell (w5.heap.size,5) (.bool false) =W7 at *)
   all_goals have h6:=hid (hz.out.box #[(0:Int),(0:Int)] 3)
   all_goals go_wp2
   all_goals go_ret
   all_goals exact⟨some ⟨_,0,none⟩,2,ae _ 3 (af [0,0]),rfl,ay _ _,h6.out⟩
  ·rcases im1 with _|_
   ·have hc4 : ∀(B:Asr) W,On F w (aa (B::ae ba 3 ac::vL c g x2 src s)) W->Calls Tryz.prog 155 #[.string t,c.ws] W (λe w'=>e = .returned (.tuple #[.agg #[.string ⟨nm1.toArray⟩,(hd1:Int),(xt1:Int),.bool false,.bool hh1,.bool il1],.bool true])∧Below W.heap.size W w'):=λB W h=>hc2.out B W h
    have hc3 : ∀W,On F w (aa (ae ba 3 ac::vL c g x2 src s)) W->Calls Tryz.prog 155 #[.string t,c.ws] W (λe w'=>e = .returned (.tuple #[.agg #[.string ⟨nm1.toArray⟩,(hd1:Int),(xt1:Int),.bool false,.bool hh1,.bool il1],.bool true])∧Below W.heap.size W w'):=λW h=>hcW.out W h
    clear hc2 hcW
    replace hc3:=hid hc3
    replace hc4:=hid hc4
    simp only[foundL,if_true,Bool.false_eq_true,if_false]
    go_enter Tryz.func105,Tryz.ntmps105
    go_wp2_with fail
    go_region_held (λw'=>w'.cell? (ba,0) =some (X:Vl)∧w'.cell? (ba,1) =some (Y:Vl)∧w'.cell? (g,0) =some (c.gM:Vl)∧w'.cell? (c.gM,2) =some c.ws) (go_keep)
     ((first
       | (go_at_call 147;refine(hc1.out _ hon.out.drew).mono ?_;rintro e w5 ⟨rfl,hn5⟩;simp only[];have⟨n0,n1,n2,n3⟩:=hcell.out _ _ hn5;replace hn5:=hid hn5)
       | (go_at_call 155;refine(hc3.out _ hn5.out).mono ?_;rintro e w6 ⟨rfl,hb6⟩;have hn6:=hn5.out.below hb6;have⟨o0,o1,o2,o3⟩:=hcell.out _ _ hn6;replace hn6:=hid hn6;clear hb6;have z0:=World.new_ne w6 _ o0;have z2:=World.new_ne w6 _ o2;have z3:=World.new_ne w6 _ o3;simp only[])
       | (go_at_call 155;have hx5:=hid (hn5.out.box cO 50);refine(hc4.out _ _ hx5.out).mono ?_;rintro e w6 ⟨rfl,hb6⟩;have hx6:=hx5.out.below hb6;have⟨o0,o1,o2,o3⟩:=hcell.out _ _ hx6.tail;have d2:Blk w6 w5.heap.size 50 #[.string ⟨#[]⟩,(0:Int),(0:Int),.bool false,.bool false,.bool false]:=hx6.ab 0 rfl;have e0:=d2.cell 0;have e1:=d2.cell 1;have e2:=d2.cell 2;have e3:=d2.cell 3;have e4:=d2.cell 4;have e5:=d2.cell 5;have f0:=d2.frozen 0;have f1:=d2.frozen 1;have f2:=d2.frozen 2;have f3:=d2.frozen 3;have f4:=d2.frozen 4;have f5:=d2.frozen 5;replace d2:=hid d2;replace hx6:=hid hx6;clear hb6;have z0:=World.new_ne w5 _ n0;have z2:=World.new_ne w5 _ n2;have z3:=World.new_ne w5 _ n3;simp only[])
       | (go_at_call 147;have hx0:=hid (hon.out.drew.box cO 50);refine(hc5.out _ _ hx0.out).mono ?_;rintro e w5 ⟨rfl,hx5⟩;simp only[];have⟨n0,n1,n2,n3⟩:=hcell.out _ _ hx5.tail;have z0:=World.new_ne w _ a0;have z2:=World.new_ne w _ r0;have z3:=World.new_ne w _ m2;replace hx5:=hid hx5)
       | (go_at_call 155;refine(hc4.out _ _ hx5.out).mono ?_;rintro e w6 ⟨rfl,hb6⟩;have hx6:On F w (aa (ae w.heap.size 50 cO::ae ba 3 ac::vL c g x2 src s)) w6:=hx5.out.below hb6;have⟨o0,o1,o2,o3⟩:=hcell.out _ _ hx6.tail;have d2:Blk w6 w.heap.size 50 #[.string ⟨#[]⟩,(0:Int),(0:Int),.bool false,.bool false,.bool false]:=hx6.ab 0 rfl;have e0:=d2.cell 0;have e1:=d2.cell 1;have e2:=d2.cell 2;have e3:=d2.cell 3;have e4:=d2.cell 4;have e5:=d2.cell 5;have f0:=d2.frozen 0;have f1:=d2.frozen 1;have f2:=d2.frozen 2;have f3:=d2.frozen 3;have f4:=d2.frozen 4;have f5:=d2.frozen 5;replace d2:=hid d2;replace hx6:=hid hx6;clear hb6;simp only[])))
    all_goals first
     | (have hx7:=hn6.out.box #[.string ⟨nm1.toArray⟩,(hd1:Int),(xt1:Int),.bool false,.bool hh1,.bool il1] 50
        have q2: (w6.alloc (.cells #[.string ⟨nm1.toArray⟩,(hd1:Int),(xt1:Int),.bool false,.bool hh1,.bool il1] 50)).cell? (w6.heap.size,2) =some ((xt1:Int) :Vl):=(hx7.ab 0 rfl).cell 2
        have q3: (w6.alloc (.cells #[.string ⟨nm1.toArray⟩,(hd1:Int),(xt1:Int),.bool false,.bool hh1,.bool il1] 50)).cell? (w6.heap.size,3) =some (.bool false):=(hx7.ab 0 rfl).cell 3
        have hz:=hid hx7.tail.tail
        clear hx7
        generalize w6.alloc (.cells #[.string ⟨nm1.toArray⟩,(hd1:Int),(xt1:Int),.bool false,.bool hh1,.bool il1] 50) =W7 at *)
     | (have hg:=hx0
        have hx7:=(((((hx6.out.setAt 0 rfl 0 (.string ⟨nm1.toArray⟩)).setAt 0 rfl 1 (.int .i64 (hd1:Int))).setAt 0 rfl 2 (.int .i64 (xt1:Int))).setAt 0 rfl 3 (.bool false)).setAt 0 rfl 4 (.bool hh1)).setAt 0 rfl 5 (.bool il1)
        have q2: ((((((w6.setCell (w.heap.size,0) (.string ⟨nm1.toArray⟩)).setCell (w.heap.size,1) (.int .i64 (hd1:Int))).setCell (w.heap.size,2) (.int .i64 (xt1:Int))).setCell (w.heap.size,3) (.bool false)).setCell (w.heap.size,4) (.bool hh1)).setCell (w.heap.size,5) (.bool il1)).cell? (w.heap.size,2) =some ((xt1:Int) :Vl):=(hx7.ab 0 rfl).cell 2
        have q3: ((((((w6.setCell (w.heap.size,0) (.string ⟨nm1.toArray⟩)).setCell (w.heap.size,1) (.int .i64 (hd1:Int))).setCell (w.heap.size,2) (.int .i64 (xt1:Int))).setCell (w.heap.size,3) (.bool false)).setCell (w.heap.size,4) (.bool hh1)).setCell (w.heap.size,5) (.bool il1)).cell? (w.heap.size,3) =some (.bool false):=(hx7.ab 0 rfl).cell 3
        have hz:=hid hx7.tail.tail
        clear hg hx7 e0 e1 e2 e3 e4 e5 f0 f1 f2 f3 f4 f5 hx6 d2
        generalize (((((w6.setCell (w.heap.size,0) (.string ⟨nm1.toArray⟩)).setCell (w.heap.size,1) (.int .i64 (hd1:Int))).setCell (w.heap.size,2) (.int .i64 (xt1:Int))).setCell (w.heap.size,3) (.bool false)).setCell (w.heap.size,4) (.bool hh1)).setCell (w.heap.size,5) (.bool il1) =W7 at *)
     | (have hx7:=(((((hx6.out.setAt 0 rfl 0 (.string ⟨nm1.toArray⟩)).setAt 0 rfl 1 (.int .i64 (hd1:Int))).setAt 0 rfl 2 (.int .i64 (xt1:Int))).setAt 0 rfl 3 (.bool false)).setAt 0 rfl 4 (.bool hh1)).setAt 0 rfl 5 (.bool il1)
        have q2: ((((((w6.setCell (w5.heap.size,0) (.string ⟨nm1.toArray⟩)).setCell (w5.heap.size,1) (.int .i64 (hd1:Int))).setCell (w5.heap.size,2) (.int .i64 (xt1:Int))).setCell (w5.heap.size,3) (.bool false)).setCell (w5.heap.size,4) (.bool hh1)).setCell (w5.heap.size,5) (.bool il1)).cell? (w5.heap.size,2) =some ((xt1:Int) :Vl):=(hx7.ab 0 rfl).cell 2
        have q3: ((((((w6.setCell (w5.heap.size,0) (.string ⟨nm1.toArray⟩)).setCell (w5.heap.size,1) (.int .i64 (hd1:Int))).setCell (w5.heap.size,2) (.int .i64 (xt1:Int))).setCell (w5.heap.size,3) (.bool false)).setCell (w5.heap.size,4) (.bool hh1)).setCell (w5.heap.size,5) (.bool il1)).cell? (w5.heap.size,3) =some (.bool false):=(hx7.ab 0 rfl).cell 3
        have hz:=hid hx7.tail.tail
        clear hx7 e0 e1 e2 e3 e4 e5 f0 f1 f2 f3 f4 f5 hx6 d2
        generalize (((((w6.setCell (w5.heap.size,0) (.string ⟨nm1.toArray⟩)).setCell (w5.heap.size,1) (.int .i64 (hd1:Int))).setCell (w5.heap.size,2) (.int .i64 (xt1:Int))).setCell (w5.heap.size,3) (.bool false)).setCell (w5.heap.size,4) (.bool hh1)).setCell (w5.heap.size,5) (.bool il1) =W7 at *)
    all_goals have h6:=hid (hz.out.box #[(xt1:Int),(-1:Int)] 3)
    all_goals go_wp2
    all_goals go_ret
    all_goals exact⟨some ⟨_,0,none⟩,2,ae _ 3 (af [(xt1:Int),(-1)]),rfl,ay _ _,h6.out⟩
   ·have hc4 : ∀(B:Asr) W,On F w (aa (B::ae ba 3 ac::vL c g x2 src s)) W->Calls Tryz.prog 155 #[.string t,c.ws] W (λe w'=>e = .returned (.tuple #[.agg #[.string ⟨nm1.toArray⟩,(hd1:Int),(xt1:Int),.bool true,.bool hh1,.bool il1],.bool true])∧Below W.heap.size W w'):=λB W h=>hc2.out B W h
    have hc3 : ∀W,On F w (aa (ae ba 3 ac::vL c g x2 src s)) W->Calls Tryz.prog 155 #[.string t,c.ws] W (λe w'=>e = .returned (.tuple #[.agg #[.string ⟨nm1.toArray⟩,(hd1:Int),(xt1:Int),.bool true,.bool hh1,.bool il1],.bool true])∧Below W.heap.size W w'):=λW h=>hcW.out W h
    clear hc2 hcW
    replace hc3:=hid hc3
    replace hc4:=hid hc4
    simp only[foundL,if_true,Bool.false_eq_true,if_false]
    go_enter Tryz.func105,Tryz.ntmps105
    go_wp2_with fail
    go_region_held (λw'=>w'.cell? (ba,0) =some (X:Vl)∧w'.cell? (ba,1) =some (Y:Vl)∧w'.cell? (g,0) =some (c.gM:Vl)∧w'.cell? (c.gM,2) =some c.ws) (go_keep)
     ((first
       | (go_at_call 147;refine(hc1.out _ hon.out.drew).mono ?_;rintro e w5 ⟨rfl,hn5⟩;simp only[];have⟨n0,n1,n2,n3⟩:=hcell.out _ _ hn5;replace hn5:=hid hn5)
       | (go_at_call 155;refine(hc3.out _ hn5.out).mono ?_;rintro e w6 ⟨rfl,hb6⟩;have hn6:=hn5.out.below hb6;have⟨o0,o1,o2,o3⟩:=hcell.out _ _ hn6;replace hn6:=hid hn6;clear hb6;have z0:=World.new_ne w6 _ o0;have z2:=World.new_ne w6 _ o2;have z3:=World.new_ne w6 _ o3;simp only[])
       | (go_at_call 155;have hx5:=hid (hn5.out.box cO 50);refine(hc4.out _ _ hx5.out).mono ?_;rintro e w6 ⟨rfl,hb6⟩;have hx6:=hx5.out.below hb6;have⟨o0,o1,o2,o3⟩:=hcell.out _ _ hx6.tail;have d2:Blk w6 w5.heap.size 50 #[.string ⟨#[]⟩,(0:Int),(0:Int),.bool false,.bool false,.bool false]:=hx6.ab 0 rfl;have e0:=d2.cell 0;have e1:=d2.cell 1;have e2:=d2.cell 2;have e3:=d2.cell 3;have e4:=d2.cell 4;have e5:=d2.cell 5;have f0:=d2.frozen 0;have f1:=d2.frozen 1;have f2:=d2.frozen 2;have f3:=d2.frozen 3;have f4:=d2.frozen 4;have f5:=d2.frozen 5;replace d2:=hid d2;replace hx6:=hid hx6;clear hb6;have z0:=World.new_ne w5 _ n0;have z2:=World.new_ne w5 _ n2;have z3:=World.new_ne w5 _ n3;simp only[])
       | (go_at_call 147;have hx0:=hid (hon.out.drew.box cO 50);refine(hc5.out _ _ hx0.out).mono ?_;rintro e w5 ⟨rfl,hx5⟩;simp only[];have⟨n0,n1,n2,n3⟩:=hcell.out _ _ hx5.tail;have z0:=World.new_ne w _ a0;have z2:=World.new_ne w _ r0;have z3:=World.new_ne w _ m2;replace hx5:=hid hx5)
       | (go_at_call 155;refine(hc4.out _ _ hx5.out).mono ?_;rintro e w6 ⟨rfl,hb6⟩;have hx6:On F w (aa (ae w.heap.size 50 cO::ae ba 3 ac::vL c g x2 src s)) w6:=hx5.out.below hb6;have⟨o0,o1,o2,o3⟩:=hcell.out _ _ hx6.tail;have d2:Blk w6 w.heap.size 50 #[.string ⟨#[]⟩,(0:Int),(0:Int),.bool false,.bool false,.bool false]:=hx6.ab 0 rfl;have e0:=d2.cell 0;have e1:=d2.cell 1;have e2:=d2.cell 2;have e3:=d2.cell 3;have e4:=d2.cell 4;have e5:=d2.cell 5;have f0:=d2.frozen 0;have f1:=d2.frozen 1;have f2:=d2.frozen 2;have f3:=d2.frozen 3;have f4:=d2.frozen 4;have f5:=d2.frozen 5;replace d2:=hid d2;replace hx6:=hid hx6;clear hb6;simp only[])))
    all_goals first
     | (have hx7:=hn6.out.box #[.string ⟨nm1.toArray⟩,(hd1:Int),(xt1:Int),.bool true,.bool hh1,.bool il1] 50
        have q2: (w6.alloc (.cells #[.string ⟨nm1.toArray⟩,(hd1:Int),(xt1:Int),.bool true,.bool hh1,.bool il1] 50)).cell? (w6.heap.size,2) =some ((xt1:Int) :Vl):=(hx7.ab 0 rfl).cell 2
        have q3: (w6.alloc (.cells #[.string ⟨nm1.toArray⟩,(hd1:Int),(xt1:Int),.bool true,.bool hh1,.bool il1] 50)).cell? (w6.heap.size,3) =some (.bool true):=(hx7.ab 0 rfl).cell 3
        have hz:=hid hx7.tail.tail
        clear hx7
        generalize w6.alloc (.cells #[.string ⟨nm1.toArray⟩,(hd1:Int),(xt1:Int),.bool true,.bool hh1,.bool il1] 50) =W7 at *)
     | (have hg:=hx0
        have hx7:=(((((hx6.out.setAt 0 rfl 0 (.string ⟨nm1.toArray⟩)).setAt 0 rfl 1 (.int .i64 (hd1:Int))).setAt 0 rfl 2 (.int .i64 (xt1:Int))).setAt 0 rfl 3 (.bool true)).setAt 0 rfl 4 (.bool hh1)).setAt 0 rfl 5 (.bool il1)
        have q2: ((((((w6.setCell (w.heap.size,0) (.string ⟨nm1.toArray⟩)).setCell (w.heap.size,1) (.int .i64 (hd1:Int))).setCell (w.heap.size,2) (.int .i64 (xt1:Int))).setCell (w.heap.size,3) (.bool true)).setCell (w.heap.size,4) (.bool hh1)).setCell (w.heap.size,5) (.bool il1)).cell? (w.heap.size,2) =some ((xt1:Int) :Vl):=(hx7.ab 0 rfl).cell 2
        have q3: ((((((w6.setCell (w.heap.size,0) (.string ⟨nm1.toArray⟩)).setCell (w.heap.size,1) (.int .i64 (hd1:Int))).setCell (w.heap.size,2) (.int .i64 (xt1:Int))).setCell (w.heap.size,3) (.bool true)).setCell (w.heap.size,4) (.bool hh1)).setCell (w.heap.size,5) (.bool il1)).cell? (w.heap.size,3) =some (.bool true):=(hx7.ab 0 rfl).cell 3
        have hz:=hid hx7.tail.tail
        clear hg hx7 e0 e1 e2 e3 e4 e5 f0 f1 f2 f3 f4 f5 hx6 d2
        generalize (((((w6.setCell (w.heap.size,0) (.string ⟨nm1.toArray⟩)).setCell (w.heap.size,1) (.int .i64 (hd1:Int))).setCell (w.heap.size,2) (.int .i64 (xt1:Int))).setCell (w.heap.size,3) (.bool true)).setCell (w.heap.size,4) (.bool hh1)).setCell (w.heap.size,5) (.bool il1) =W7 at *)
     | (have hx7:=(((((hx6.out.setAt 0 rfl 0 (.string ⟨nm1.toArray⟩)).setAt 0 rfl 1 (.int .i64 (hd1:Int))).setAt 0 rfl 2 (.int .i64 (xt1:Int))).setAt 0 rfl 3 (.bool true)).setAt 0 rfl 4 (.bool hh1)).setAt 0 rfl 5 (.bool il1)
        have q2: ((((((w6.setCell (w5.heap.size,0) (.string ⟨nm1.toArray⟩)).setCell (w5.heap.size,1) (.int .i64 (hd1:Int))).setCell (w5.heap.size,2) (.int .i64 (xt1:Int))).setCell (w5.heap.size,3) (.bool true)).setCell (w5.heap.size,4) (.bool hh1)).setCell (w5.heap.size,5) (.bool il1)).cell? (w5.heap.size,2) =some ((xt1:Int) :Vl):=(hx7.ab 0 rfl).cell 2
        have q3: ((((((w6.setCell (w5.heap.size,0) (.string ⟨nm1.toArray⟩)).setCell (w5.heap.size,1) (.int .i64 (hd1:Int))).setCell (w5.heap.size,2) (.int .i64 (xt1:Int))).setCell (w5.heap.size,3) (.bool true)).setCell (w5.heap.size,4) (.bool hh1)).setCell (w5.heap.size,5) (.bool il1)).cell? (w5.heap.size,3) =some (.bool true):=(hx7.ab 0 rfl).cell 3
        have hz:=hid hx7.tail.tail
        clear hx7 e0 e1 e2 e3 e4 e5 f0 f1 f2 f3 f4 f5 hx6 d2
        generalize (((((w6.setCell (w5.heap.size,0) (.string ⟨nm1.toArray⟩)).setCell (w5.heap.size,1) (.int .i64 (hd1:Int))).setCell (w5.heap.size,2) (.int .i64 (xt1:Int))).setCell (w5.heap.size,3) (.bool true)).setCell (w5.heap.size,4) (.bool hh1)).setCell (w5.heap.size,5) (.bool il1) =W7 at *)
    all_goals have h6:=hid (hz.out.box #[(xt1:Int),(1:Int)] 3)
    all_goals go_wp2
    all_goals go_ret
    all_goals exact⟨some ⟨_,0,none⟩,2,ae _ 3 (af [(xt1:Int),1]),rfl,ay _ _,h6.out⟩
 ·simp only[if_neg hf]
  rw[mP hf]at hc1 hc5
  replace hf:=hid hf
  have z0:=World.new_ne w _ a0
  have z2:=World.new_ne w _ r0
  have z3:=World.new_ne w _ m2
  go_enter Tryz.func105,Tryz.ntmps105
  go_wp2_with fail
  go_region_held (λw'=>w'.cell? (ba,0) =some (X:Vl)∧w'.cell? (ba,1) =some (Y:Vl)∧w'.cell? (g,0) =some (c.gM:Vl)∧w'.cell? (c.gM,2) =some c.ws) (go_keep)
   ((first
     | (go_at_call 147;refine tt (hc1.out _ hon.out.drew) (λw' h=>⟨rfl,rfl,h.tail⟩) (.string t) ?_;intro hF e w5 he hw;subst he;subst hw;replace hF:=hid hF;simp only[])
     | (go_at_call 147;refine tt (hc5.out _ _ (hon.out.drew.box cO 50)) (λw' h=>⟨rfl,rfl,h.tail.tail⟩) (.string t) ?_;intro hF e w5 he hw;subst he;subst hw;replace hF:=hid hF;simp only[])
     | (go_at_call 155;refine(Nb hF.out (.tuple #[.agg #[.string ⟨#[]⟩,(0:Int),(0:Int),.bool false,.bool false,.bool false],.bool false])).mono ?_;rintro e w6 ⟨rfl,rfl⟩;simp only[])))
  all_goals exact hF.out.elim
end Vm
end Go.Proofs.YtjohhkikoejadaaGreatDoor
