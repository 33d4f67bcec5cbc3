/- Chapter 11: what goes out and comes in: EMIT TYPE . U. .R KEY. Conditions: all was asked; all lies where it should. Printed by gen_vgoes.py. -/
import Derived.Test.YteaijdgnagkllaaGreatDoorZd31
import Derived.Test.YteaijdgnagkllaaGreatDoorZd12
namespace Go.Proofs.YteaijdgnagkllaaGreatDoor
set_option linter.unusedVariables false
set_option linter.unusedSimpArgs false
set_option maxHeartbeats 8000000
set_option maxRecDepth 100000
open Go.RowKit Go.Lib Go.Deep
namespace Vm
def dK(s:Mt):Dc:=⟨1,s.hk.toNat,s.lk.toNat⟩
structure Wk(c:Vc)(src:Value)(s:Mt):Prop where
 dcs:Dcs c src s
 hk:0<=s.hk
 lk:0<=s.lk
 kat:At8 s.S (dK s) c.kfr c.kto
 ws: ∃i:Nat,∀e,(c.rest e)[i]? = some (RowP c.ws [c.gS,c.gK])
 tab: ∃(i:Nat) (A:Asr),(∀e,(c.rest e)[i]? = some A)∧∀w F,A.holds w F->Pows w∧Bruijn w
 src:src = .pointer none∨∃gs L,Srcd c src s gs L
 v1:V64 s.fault
 v2:V64 s.used
 v3:V64 s.hidden
theorem rest_at{c:Vc}{g:Nat}{x:Rn}{src:Value}{s2:Mt}{i:Nat}{A:Asr}(hA: ∀e,(c.rest e)[i]? = some A)(L:List Asr): (L++vL c g x src s2)[L.length+ (9+i)]? = some A:=by
 rw[List.getElem?_append_right oM,show L.length+ (9+i) -L.length=9+i by omega]
 have e:vL c g x src s2 = [RunA c g x src,MachA c s2,ImgA c.gI s2.S,StkA c.gI c.gD s2.pd s2.d,StkA c.gI c.gR s2.pr s2.r,TabA c.gT s2.T,DictA c.gI c.gS c.sfr c.sto s2.hs s2.ls,DictA c.gI c.gK c.kfr c.kto s2.hk s2.lk,c.tl s2.seen]++c.rest s2.ext:=rfl
 rw[e,List.getElem?_append_right (by simp)]
 have e2:9+i-List.length [RunA c g x src,MachA c s2,ImgA c.gI s2.S,StkA c.gI c.gD s2.pd s2.d,StkA c.gI c.gR s2.pr s2.r,TabA c.gT s2.T,DictA c.gI c.gS c.sfr c.sto s2.hs s2.ls,DictA c.gI c.gK c.kfr c.kto s2.hk s2.lk,c.tl s2.seen]=i:=by simp
 rw[e2]
 exact hA _
theorem Wk.tabs{w w':World}{F:Nat->Prop}{c:Vc}{g:Nat}{x:Rn}{src:Value}{s s2:Mt}(h:Wk c src s)(L:List Asr)(hon:On F w (AllA (L++vL c g x src s2)) w'):Pows w'∧Bruijn w':=by
 obtain⟨i,A,hA,ht⟩:=h.tab
 obtain⟨F',hF⟩:=hon.at_ _ (rest_at (c:=c) (g:=g) (x:=x) (src:=src) (s2:=s2) hA L)
 exact ht _ _ hF
theorem On.keptNew{w w' w2:World}{F:Nat->Prop}{A:Asr}(h:On F w A w')(hk:Kept Nob w' w2):On F w A w2:=h.keptNob hk
def baseV(s:Mt):Int:=s.S.cellV 0 (s.S.beg 3)
def baseOk(s:Mt):Bool:=decide (2<=baseV s) &&decide (baseV s<=36)
def numP(t:Mt->List UInt8)(x:Rn)(s:Mt):Rs×List Int:=
 if baseOk s=true then(⟨outF x s ⟨(t s).toArray⟩,x,s.outS x ⟨(t s).toArray⟩⟩,[])else(⟨19,x,s⟩,[])
def dotT(s:Mt):List UInt8:=printS (ar s 1 0) (baseV s)++ [32]
theorem y_num{op:Int}{fn:FuncId}{S:Int->Int->List UInt8}{T:Mt->List UInt8}(hsel: (op=80∧fn=15)∨(op=81∧fn=246))(hT: ∀s,T s=S (ar s 1 0) (baseV s)++ [32])(hS: ∀(n b:Int) (W:World),V64 n->Pows W->Bruijn W->Calls Tryz.prog fn #[.int .i64 n,b] W (Fresh' (.string ⟨(S n b).toArray⟩) W))(hSl: ∀n b,V64 n->(S n b).length<=66)(arg lit cells:Int):GivesG Wk 218 (λg=>#[.pointer (some ⟨g,0,none⟩)]) ⟨op,arg,lit,cells⟩ (numP T):=by
 intro c g x src s ba w F hp hs hx hask hb
 have hw2: (Code.wants op).1.toNat=1:=by rcases hsel with⟨rfl,rfl⟩ | ⟨rfl,rfl⟩<;>decide
 simp only[hw2]at hb⊢
 have hon:=On.refl hb
 have hcell: ∀s2 W,On F w (AllA (BlkA ba 3 (intsC (s.args 1))::vL c g x src s2)) W->W.cell? (g,0)=some (c.gM:Vl)∧W.cell? (c.gM,0)=some (c.gI:Vl)∧W.cell? (ba,0)=some ((ar s 1 0):Vl):=λs2 W h=>⟨h.tail.r0,h.tail.m0,row_get (h.blkAt 0 rfl) oM⟩
 have⟨r0,m0,a0⟩:=hcell _ _ hon
 obtain⟨gb,hi⟩:=hon.drew.img 3 rfl
 have hbs:=v_base (hon.drew.blkAt 2 rfl) hi
 have hce: ∀W,On F w (AllA (BlkA ba 3 (intsC (s.args 1))::vL c g x src s)) W->Calls Tryz.prog 79 #[c.gI,(0:Int),(s.S.beg 3:Int)] W (λe w'=>e = .returned (.tuple #[(baseV s),(s.S.cellF 0 (s.S.beg 3) false)])∧Below W.heap.size W w'):=λW h=>by
  obtain⟨gb,hi⟩:=h.img 3 rfl
  exact i_cell hi 0 (s.S.beg 3)
 have hbw:=λw=>base_walk (baseV s) w
 have hpr: ∀W,On F w (AllA (BlkA ba 3 (intsC (s.args 1))::vL c g x src s)) W->Calls Tryz.prog fn #[(ar s 1 0),(baseV s)] W (Fresh' (.string ⟨(S (ar s 1 0) (baseV s)).toArray⟩) W):=λW h=>by
  obtain⟨hP,hB⟩:=hp.tabs [BlkA ba 3 (intsC (s.args 1))] h
  exact hS _ _ W (ar_v64 s 1 0) hP hB
 have hlen: (S (ar s 1 0) (baseV s)).length<=66:=hSl _ _ (ar_v64 s 1 0)
 have hou: ∀W,On F w (AllA (BlkA ba 3 (intsC (s.args 1))::vL c g x src s)) W->Calls Tryz.prog 242 #[g,.string ⟨(T s).toArray⟩] W (Got (tryE (outF x s ⟨(T s).toArray⟩)) (AllA (BlkA ba 3 (intsC (s.args 1))::vL c g x src (s.outS x ⟨(T s).toArray⟩))) F w):=λW h=>h.callTail λF' hb' _ _=>v_out hb' _ (by
  show(T s).toArray.size<=maxLen
  rw[hT];unfold maxLen
  simp only[List.size_toArray,List.length_append,List.length_cons,List.length_nil]
  omega)
 have hcat: (⟨(S (ar s 1 0) (baseV s)).toArray⟩:ByteArray)++ ⟨#[32]⟩= ⟨(T s).toArray⟩:=by apply bytes_ext;simp[hT]
 have hbo:baseOk s= (decide (2<=baseV s) &&decide (baseV s<=36)):=rfl
 rw[<-hbo]at hbw
 unfold numP
 generalize outF x s ⟨(T s).toArray⟩=f at *
 generalize s.outS x ⟨(T s).toArray⟩=s2 at *
 generalize T s=R at *
 generalize S (ar s 1 0) (baseV s)=R' at *
 clear hbo
 generalize baseOk s=o at *
 generalize baseV s=bv at *
 generalize s.S.cellF 0 (s.S.beg 3) false=cf at *
 generalize ((s.S.beg 3:Nat):Int)=bg at *
 generalize ar s 1 0=X at *
 show Calls _ _ #[g,op,.slice ba 1 1] _ _
 clear hS hSl hT
 rcases hsel with⟨rfl,rfl⟩ | ⟨rfl,rfl⟩
 all_goals
  generalize intsC (s.args 1)=ac at *
  replace hcell:=hid hcell
  replace hbs:=hid hbs
  replace hce:=hid hce
  replace hbw:=hid hbw
  replace hpr:=hid hpr
  replace hou:=hid hou
  replace hcat:=hid hcat
  replace hon:=hid hon
  clear hb hw2 hask hs hx hp hi
  rcases o with _|_
  ·simp only[Bool.false_eq_true,if_false]
   simp only[show¬(19:Int)=0 by decide,if_false]
   go_enter Tryz.func218,Tryz.ntmps218
   go_wp2_with fail
   go_region_held (λw'=>w'.cell? (g,0)=some (c.gM:Vl)∧w'.cell? (c.gM,0)=some (c.gI:Vl)) (go_keep)
    ((first| (go_at_call 37;refine mo hbs.out λw5 hb5=>?_;simp only[];have hn5:=hon.out.drew.below hb5;have⟨n0,n1,n2⟩:=hcell.out _ _ hn5;clear hb5;replace hn5:=hid hn5) | (go_at_call 79;refine mo (hce.out _ hn5.out) λw6 hb6=>?_;simp only[];have hn6:=hn5.out.below hb6;have⟨o0,o1,o2⟩:=hcell.out _ _ hn6;clear hb6;replace hn6:=hid hn6)))
   all_goals go_wp2_with fail
   refine(hbw.out _).mono ?_
   rintro e w7 ⟨rfl,rfl⟩
   simp only[]
   go_wp2_with fail
   refine(must_no _ _).mono ?_
   rintro e w8 ⟨rfl,rfl⟩
   exact⟨rfl,rfl,hn6.out.tail⟩
  ·simp only[if_true]
   by_cases hf:f=0
   ·simp only[if_pos hf]
    have e2:tryE f = .returned (.tuple #[]):=by unfold tryE;rw[if_pos hf]
    rw[e2]at hou
    clear e2 hf
    go_enter Tryz.func218,Tryz.ntmps218
    go_wp2_with fail
    go_region_held (λw'=>w'.cell? (g,0)=some (c.gM:Vl)∧w'.cell? (c.gM,0)=some (c.gI:Vl)) (go_keep)
     ((first| (go_at_call 37;refine mo hbs.out λw5 hb5=>?_;simp only[];have hn5:=hon.out.drew.below hb5;have⟨n0,n1,n2⟩:=hcell.out _ _ hn5;clear hb5;replace hn5:=hid hn5) | (go_at_call 79;refine mo (hce.out _ hn5.out) λw6 hb6=>?_;simp only[];have hn6:=hn5.out.below hb6;have⟨o0,o1,o2⟩:=hcell.out _ _ hn6;clear hb6;replace hn6:=hid hn6)))
    all_goals go_wp2_with fail
    refine(hbw.out _).mono ?_
    rintro e w7 ⟨rfl,rfl⟩
    simp only[]
    go_wp2_with fail
    refine(must_ok _ _).mono ?_
    rintro e w8 ⟨rfl,rfl⟩
    simp only[]
    go_wp2_with fail
    refine mo (hpr.out _ hn6.out) λw9 hk9=>?_
    simp only[]
    have hn9:=hn6.out.keptNew hk9
    have hou9:=hou.out _ hn9
    rw[<-hcat.out]at hou9
    replace hn9:=hid hn9
    replace hou9:=hid hou9
    clear hk9
    go_wp2_with fail
    refine mo hou9.out λw10 h10=>?_
    replace h10:=hid h10
    simp only[]
    go_wp2
    go_ret
    exact⟨none,0,_,rfl,carries_nil _,h10.out⟩
   ·simp only[if_neg hf]
    rw[tryE_no hf]at hou
    replace hf:=hid hf
    go_enter Tryz.func218,Tryz.ntmps218
    go_wp2_with fail
    go_region_held (λw'=>w'.cell? (g,0)=some (c.gM:Vl)∧w'.cell? (c.gM,0)=some (c.gI:Vl)) (go_keep)
     ((first| (go_at_call 37;refine mo hbs.out λw5 hb5=>?_;simp only[];have hn5:=hon.out.drew.below hb5;have⟨n0,n1,n2⟩:=hcell.out _ _ hn5;clear hb5;replace hn5:=hid hn5) | (go_at_call 79;refine mo (hce.out _ hn5.out) λw6 hb6=>?_;simp only[];have hn6:=hn5.out.below hb6;have⟨o0,o1,o2⟩:=hcell.out _ _ hn6;clear hb6;replace hn6:=hid hn6)))
    all_goals go_wp2_with fail
    refine(hbw.out _).mono ?_
    rintro e w7 ⟨rfl,rfl⟩
    simp only[]
    go_wp2_with fail
    refine(must_ok _ _).mono ?_
    rintro e w8 ⟨rfl,rfl⟩
    simp only[]
    go_wp2_with fail
    refine mo (hpr.out _ hn6.out) λw9 hk9=>?_
    simp only[]
    have hn9:=hn6.out.keptNew hk9
    have hou9:=hou.out _ hn9
    rw[<-hcat.out]at hou9
    replace hn9:=hid hn9
    replace hou9:=hid hou9
    clear hk9
    go_wp2_with fail
    refine mo hou9.out λw10 h10=>?_
    exact⟨rfl,rfl,h10.tail⟩
theorem y_dot(arg lit cells:Int):GivesG Wk 218 (λg=>#[.pointer (some ⟨g,0,none⟩)]) ⟨80,arg,lit,cells⟩ (numP dotT):=y_num (by simp) (λ_=>rfl) (λn b W hn hP hB=>print_walk n hn b W hP hB) (λn b hn=>by have:=printS_len hn b;omega) arg lit cells
end Vm
end Go.Proofs.YteaijdgnagkllaaGreatDoor
