/- Chapter 11: what goes out and comes in: EMIT TYPE . U. .R KEY. Conditions: all was asked; all lies where it should. Printed by gen_vgoes.py. -/
import Derived.Test.YtjohhkikoejadaaGreatDoorOm
import Derived.Test.YtjohhkikoejadaaGreatDoorZ02
import Derived.Test.YtjohhkikoejadaaGreatDoorZ17
import Derived.Test.YtjohhkikoejadaaGreatDoorZ23
import Derived.Test.YtjohhkikoejadaaGreatDoorZ32
import Derived.Test.YtjohhkikoejadaaGreatDoorZ10
import Derived.Test.YtjohhkikoejadaaGreatDoorZ13
import Derived.Test.YtjohhkikoejadaaGreatDoorZ16
namespace Go.Proofs.YtjohhkikoejadaaGreatDoor
set_option linter.unusedVariables false
set_option linter.unusedSimpArgs false
set_option maxHeartbeats 8000000
set_option maxRecDepth 100000
open Go.RowKit Go.Lib Go.Deep
namespace Vm
def dK(s:Mt) :Dc:=⟨1,s.hk.toNat,s.lk.toNat⟩
structure Wk(c:Vc)(src:Value)(s:Mt) :Prop where
 dcs:Dcs c src s
 hk:0<=s.hk
 lk:0<=s.lk
 kat:At8 s.S (dK s) c.kfr c.kto
 ws : ∃i:Nat,∀e,(c.rest e)[i]? = some (jU c.ws [c.gS,c.gK])
 tab : ∃(i:Nat) (A:Asr),(∀e,(c.rest e)[i]? = some A)∧∀w F,A.holds w F->Pows w∧Bruijn w
 src:src = .pointer none∨∃gs L,ET c src s gs L
 v1:V64 s.fault
 v2:V64 s.used
 v3:V64 s.hidden
theorem BQ{c:Vc}{g:Nat}{x:Rn}{src:Value}{s2:Mt}{i:Nat}{A:Asr}(hA : ∀e,(c.rest e)[i]? = some A)(L:List Asr) : (L++vL c g x src s2)[L.length+ (9+i)]? = some A:=by
 rw[List.getElem?_append_right oM,show L.length+ (9+i) -L.length=9+i by omega]
 have e:vL c g x src s2 = [yI c g x src,gA c s2,au c.gI s2.S,cR c.gI c.gD s2.pd s2.d,cR c.gI c.gR s2.pr s2.r,de c.gT s2.T,jO c.gI c.gS c.sfr c.sto s2.hs s2.ls,jO c.gI c.gK c.kfr c.kto s2.hk s2.lk,c.tl s2.seen] ++c.rest s2.ext:=rfl
 rw[e,List.getElem?_append_right (by simp)]
 have e2:9+i-List.length [yI c g x src,gA c s2,au c.gI s2.S,cR c.gI c.gD s2.pd s2.d,cR c.gI c.gR s2.pr s2.r,de c.gT s2.T,jO c.gI c.gS c.sfr c.sto s2.hs s2.ls,jO c.gI c.gK c.kfr c.kto s2.hk s2.lk,c.tl s2.seen] =i:=by simp
 rw[e2]
 exact hA _
theorem Wk.NR{w w':World}{F:Nat->Prop}{c:Vc}{g:Nat}{x:Rn}{src:Value}{s s2:Mt}(h:Wk c src s)(L:List Asr)(hon:On F w (aa (L++vL c g x src s2)) w') :Pows w'∧Bruijn w':=by
 obtain⟨i,A,hA,ht⟩:=h.tab
 obtain⟨F',hF⟩:=hon.at_ _ (BQ (c:=c) (g:=g) (x:=x) (src:=src) (s2:=s2) hA L)
 exact ht _ _ hF
theorem tt{P:Program}{f:FuncId}{args:Array Value}{w w0:World}{Q:Ending->World->Prop}{n:Int}{A:Asr}{F:Nat->Prop}(hc:Calls P f args w (Got (.panicked [flt n]) A F w0))(hp : ∀w',On F w0 A w'->Q (.panicked [flt n]) w')
 (v:Value) (hk:False->∀e w',e = .returned v->w'=w->Q e w') :Calls P f args w Q:=hc.mono λe w' h=>by
 obtain⟨rfl,h⟩:=h
 exact hp w' h
theorem NU{P:Program}{f:FuncId}{args:Array Value}{w:World}(h:False) :Calls P f args w (aA (.tuple #[]) w):=h.elim
theorem On.pQ{w w' w2:World}{F:Nat->Prop}{A:Asr}(h:On F w A w')(hk:Kept Nob w' w2) :On F w A w2:=h.fO hk
theorem Ln(arg lit cells:Int) :cE Wk 102 (λg=> #[.pointer (some ⟨g,0,none⟩)]) ⟨78,arg,lit,cells⟩ (λx s=>(⟨iA x s ⟨#[byteOf (ar s 1 0)]⟩,x,s.fl x ⟨#[byteOf (ar s 1 0)]⟩⟩,[])):=by
 intro c g x src s ba w F hp hs hx hask hb
 have hw2: (Code.ah 78).1.toNat=1:=by decide
 simp only[hw2]at hb⊢
 have hon:=On.refl hb
 have a0:=ai ((On.refl hb).ab 0 rfl) (j:=0) oM
 have hc : ∀(B:Asr) W,On F w (aa (B::ae ba 3 (af (s.args 1)) ::vL c g x src s)) W->Calls Tryz.prog 146 #[g,.string ⟨#[byteOf (ar s 1 0)]⟩] W (Got (bO (iA x s ⟨#[byteOf (ar s 1 0)]⟩)) (aa (B::ae ba 3 (af (s.args 1)) ::vL c g x src (s.fl x ⟨#[byteOf (ar s 1 0)]⟩))) F w):=λB W h=>h.aW λF' hb' _ _=>(On.refl hb').aW λF'' hb'' _ _=>Cq hb'' _ (by show 1<=maxLen;unfold maxLen;omega)
 have hby:IntKind.u8.wrap (ar s 1 0) = ((byteOf (ar s 1 0)).toNat:Int):=(kN _).symm
 generalize iA x s ⟨#[byteOf (ar s 1 0)]⟩ =f at *
 generalize s.fl x ⟨#[byteOf (ar s 1 0)]⟩ =s2 at *
 generalize byteOf (ar s 1 0) =bt at *
 generalize ar s 1 0=X at *
 show Calls _ _ #[g,(78:Int),.slice ba 1 1] _ _
 generalize af (s.args 1) =ac at *
 have hbk:=λ(w:World)=>run_convert_bytes_arg (P:=Tryz.prog) (w.alloc (.cells #[.int .u8 (bt.toNat:Int)] 5)) 92 5 Tryz.underlying92 Tryz.underlying5 w.heap.size 0 1 1 [(bt.toNat:Int)] rfl
  (λi hi=>by obtain rfl:i=0:=by omega
             simp) 9 Tryz.underlying9
 have hs1:strOfNums [(bt.toNat:Int)] = ⟨#[bt]⟩:=by simp[strOfNums]
 rw[hs1]at hbk
 have hbx:=hon.box #[.int .u8 (bt.toNat:Int)] 5
 have hc:=hc _ _ hbx
 replace hc:=hid hc
 replace hon:=hid hon
 clear hb hw2 hask hs hx hp hs1 hbx
 by_cases hf:f=0
 ·simp only[if_pos hf]
  subst hf
  go_enter Tryz.func102,Tryz.ntmps102
  go_wp2_with fail
  refine hc.out.mono ?_
  rintro e w1 ⟨rfl,h1⟩
  replace h1:=hid h1
  go_wp2
  go_ret
  exact⟨none,0,_,rfl,br _,h1.out.tail⟩
 ·simp only[if_neg hf]
  rw[eD hf]at hc
  replace hf:=hid hf
  go_enter Tryz.func102,Tryz.ntmps102
  go_wp2_with fail
  refine hc.out.mono ?_
  rintro e w1 ⟨rfl,h1⟩
  exact⟨rfl,rfl,h1.tail.tail⟩
def oK(x:Rn)(s:Mt) :Rs×List Int:=
 if ig x s (ar s 2 0) (ar s 2 1) =0 then(⟨iA (x.pay (ar s 2 1)) s (s.S.text x.mode (ar s 2 0) (ar s 2 1)),x.pay (ar s 2 1),s.fl (x.pay (ar s 2 1)) (s.S.text x.mode (ar s 2 0) (ar s 2 1))⟩,[])else(⟨ig x s (ar s 2 0) (ar s 2 1),x.pay (ar s 2 1),s⟩,[])
theorem uy(S:Img)(hS:S.Ok)(m a n:Int) : (S.text m a n).size<=143360:=by
 unfold Img.text
 split
 ·show(S.bytes a n.toNat).toArray.size<=_
  have h1:=hS.small
  have h2:=hS.len
  simp only[List.size_toArray,Img.bytes,List.length_take,List.length_drop]
  omega
 ·show(0:Nat)<=_;omega
theorem LN(arg lit cells:Int) :cE Wk 102 (λg=> #[.pointer (some ⟨g,0,none⟩)]) ⟨79,arg,lit,cells⟩ (oK):=by
 intro c g x src s ba w F hp hs hx hask hb
 have hw2: (Code.ah 79).1.toNat=2:=by decide
 simp only[hw2]at hb⊢
 have hon:=On.refl hb
 have a0:=ai ((On.refl hb).ab 0 rfl) (j:=0) oM
 have a1:=ai ((On.refl hb).ab 0 rfl) (j:=1) oM
 have hsz: (s.S.text x.mode (ar s 2 0) (ar s 2 1)).size<=maxLen:=by
  obtain⟨gb,hi⟩:=hon.img 3 rfl
  have:=uy s.S hi.ok x.mode (ar s 2 0) (ar s 2 1)
  unfold maxLen
  omega
 have hcell : ∀x2 s2 W,On F w (aa (ae ba 3 (af (s.args 2)) ::vL c g x2 src s2)) W->W.cell? (ba,0) =some ((ar s 2 0) :Vl)∧W.cell? (ba,1) =some ((ar s 2 1) :Vl):=λx2 s2 W h=>⟨ai (h.ab 0 rfl) oM,ai (h.ab 0 rfl) oM⟩
 have hc1 : ∀W,On F w (aa (ae ba 3 (af (s.args 2)) ::vL c g x src s)) W->Calls Tryz.prog 147 #[g,(ar s 2 0),(ar s 2 1)] W (Got (jH (ig x s (ar s 2 0) (ar s 2 1)) (s.S.text x.mode (ar s 2 0) (ar s 2 1))) (aa (ae ba 3 (af (s.args 2)) ::vL c g (x.pay (ar s 2 1)) src s)) F w):=λW h=>h.aW λF' hb' _ _=>AS hb' hx _ _ (aL s 2 1)
 have hc2 : ∀W,On F w (aa (ae ba 3 (af (s.args 2)) ::vL c g (x.pay (ar s 2 1)) src s)) W->Calls Tryz.prog 146 #[g,.string (s.S.text x.mode (ar s 2 0) (ar s 2 1))] W (Got (bO (iA (x.pay (ar s 2 1)) s (s.S.text x.mode (ar s 2 0) (ar s 2 1)))) (aa (ae ba 3 (af (s.args 2)) ::vL c g (x.pay (ar s 2 1)) src (s.fl (x.pay (ar s 2 1)) (s.S.text x.mode (ar s 2 0) (ar s 2 1))))) F w):=λW h=>h.aW λF' hb' _ _=>Cq hb' _ hsz
 unfold oK
 generalize ig x s (ar s 2 0) (ar s 2 1) =f1 at *
 generalize iA (x.pay (ar s 2 1)) s (s.S.text x.mode (ar s 2 0) (ar s 2 1)) =f2 at *
 generalize s.fl (x.pay (ar s 2 1)) (s.S.text x.mode (ar s 2 0) (ar s 2 1)) =s2 at *
 generalize s.S.text x.mode (ar s 2 0) (ar s 2 1) =t at *
 generalize x.pay (ar s 2 1) =x2 at *
 generalize ar s 2 0=X at *
 generalize ar s 2 1=Y at *
 show Calls _ _ #[g,(79:Int),.slice ba 2 2] _ _
 generalize af (s.args 2) =ac at *
 replace hcell:=hid hcell
 replace hc1:=hid hc1
 replace hc2:=hid hc2
 replace hon:=hid hon
 clear hb hw2 hask hs hx hp hsz
 by_cases hf:f1=0
 ·simp only[if_pos hf]
  have e1:jH f1 t = .returned (.string t):=by unfold jH;rw[if_pos hf]
  rw[e1]at hc1
  clear e1 hf
  by_cases hf2:f2=0
  ·simp only[if_pos hf2]
   have e2:bO f2 = .returned (.tuple #[]):=by unfold bO;rw[if_pos hf2]
   rw[e2]at hc2
   clear e2 hf2
   go_enter Tryz.func102,Tryz.ntmps102
   go_wp2_with fail
   go_region_held (λw'=>w'.cell? (ba,0) =some (X:Vl)∧w'.cell? (ba,1) =some (Y:Vl)) (go_keep)
    ((first
      | (go_at_call 147;refine(hc1.out _ hon.out.drew).mono ?_;rintro e w5 ⟨rfl,hn5⟩;simp only[];have⟨n0,n1⟩:=hcell.out _ _ _ hn5;replace hn5:=hid hn5)
      | (go_at_call 146;refine(hc2.out _ hn5.out).mono ?_;rintro e w6 ⟨rfl,hn6⟩;simp only[];have⟨o0,o1⟩:=hcell.out _ _ _ hn6;replace hn6:=hid hn6)))
   all_goals go_wp2
   all_goals go_ret
   all_goals exact⟨none,0,_,rfl,br _,hn6.out⟩
  ·simp only[if_neg hf2]
   rw[eD hf2]at hc2
   replace hf2:=hid hf2
   go_enter Tryz.func102,Tryz.ntmps102
   go_wp2_with fail
   go_region_held (λw'=>w'.cell? (ba,0) =some (X:Vl)∧w'.cell? (ba,1) =some (Y:Vl)) (go_keep)
    ((first
      | (go_at_call 147;refine(hc1.out _ hon.out.drew).mono ?_;rintro e w5 ⟨rfl,hn5⟩;simp only[];have⟨n0,n1⟩:=hcell.out _ _ _ hn5;replace hn5:=hid hn5)
      | (go_at_call 146;refine tt (hc2.out _ hn5.out) (λw' h=>⟨rfl,rfl,h.tail⟩) (.tuple #[]) ?_;intro hF e w6 he hw;subst he;subst hw;replace hF:=hid hF)))
   all_goals exact hF.out.elim
 ·simp only[if_neg hf]
  rw[mP hf]at hc1
  replace hf:=hid hf
  go_enter Tryz.func102,Tryz.ntmps102
  go_wp2_with fail
  go_region_held (λw'=>w'.cell? (ba,0) =some (X:Vl)∧w'.cell? (ba,1) =some (Y:Vl)) (go_keep)
   ((first
    | (go_at_call 147;refine tt (hc1.out _ hon.out.drew) (λw' h=>⟨rfl,rfl,h.tail⟩) (.string t) ?_;intro hF e w6 he hw;subst he;subst hw;replace hF:=hid hF)
    | (go_at_call 146;refine(NU hF.out).mono ?_;rintro e w7 ⟨rfl,rfl⟩;simp only[])))
  all_goals exact hF.out.elim
def zZ(x:Rn)(s:Mt) :Rs×List Int:=(⟨Caps.qU s.T x.mode,x,{ s with T:=Caps.jW s.T x.mode }⟩,[Caps.keyB s.T x.mode])
theorem BK(T:Caps.Tab)(m:Int) :0<=Caps.keyB T m∧Caps.keyB T m<256:=by
 unfold Caps.keyB
 split
 ·split
  ·omega
  ·rename_i c l _
   have:=c.toNat_lt
   omega
 ·omega
theorem NI(arg lit cells:Int) :cE Wk 102 (λg=> #[.pointer (some ⟨g,0,none⟩)]) ⟨83,arg,lit,cells⟩ (zZ):=by
 intro c g x src s ba w F hp hs hx hask hb
 have hw2: (Code.ah 83).1.toNat=0:=by decide
 simp only[hw2]at hb⊢
 have hon:=On.refl hb
 have hcell : ∀s2 W,On F w (aa (ae ba 3 (af (s.args 0)) ::vL c g x src s2)) W->W.cell? (g,0) =some (c.gM:Vl)∧W.cell? (c.gM,3) =some (c.gT:Vl)∧W.cell? (g,1) =some (x.mode:Vl):=λs2 W h=>⟨h.tail.r0,h.tail.m3,h.tail.r1⟩
 have⟨r0,m3,r1⟩:=hcell _ _ hon
 have hc:=hon.drew.bA (A:=de c.gT s.T) (A':=de c.gT (Caps.jW s.T x.mode)) (e0:= .returned (.tuple #[.int .u8 (Caps.keyB s.T x.mode),(Caps.qU s.T x.mode)])) 6 rfl (λF' ha=>fJ ha λw0 L h=>NS h x.mode)
 have hst: (ae ba 3 (af (s.args 0)) ::vL c g x src s).set 6 (de c.gT (Caps.jW s.T x.mode)) =ae ba 3 (af (s.args 0)) ::vL c g x src { s with T:=Caps.jW s.T x.mode }:=rfl
 rw[hst]at hc
 have hu:=BK s.T x.mode
 unfold zZ
 simp only
 generalize hs2: ({ s with T:=Caps.jW s.T x.mode }:Mt) =s2 at *
 clear hs2 hst
 generalize Caps.qU s.T x.mode=f at *
 obtain⟨v,hv⟩ : ∃v:Nat,Caps.keyB s.T x.mode= (v:Int):=⟨(Caps.keyB s.T x.mode).toNat,by omega⟩
 rw[hv]at hc hu⊢
 have hu2:v<256:=by omega
 clear hu hv
 show Calls _ _ #[g,(83:Int),.slice ba 0 0] _ _
 generalize af (s.args 0) =ac at *
 replace hcell:=hid hcell
 replace hc:=hid hc
 replace hon:=hid hon
 clear hb hw2 hask hs hx hp
 by_cases hf:f=0
 ·simp only[if_pos hf]
  subst hf
  go_enter Tryz.func102,Tryz.ntmps102
  go_wp2_with fail
  go_region_held (λw'=>w'.cell? (g,0) =some (c.gM:Vl)∧w'.cell? (c.gM,3) =some (c.gT:Vl)∧w'.cell? (g,1) =some (x.mode:Vl)) (go_keep)
   ((go_at_call 148;refine hc.out.mono ?_;rintro e w5 ⟨rfl,hn5⟩;simp only[];have⟨n0,n1,n2⟩:=hcell.out _ _ hn5;replace hn5:=hid hn5))
  all_goals go_wp2_with fail
  refine(bD _).mono ?_
  rintro e w6 ⟨rfl,rfl⟩
  simp only[]
  have h6:=hid (hn5.out.tail.box #[(v:Int)] 3)
  go_wp2
  go_ret
  exact⟨some ⟨_,0,none⟩,1,ae _ 3 (af [(v:Int)]),rfl,ay _ _,h6.out⟩
 ·simp only[if_neg hf]
  have ht:=hid (λw=>cG f hf w)
  replace hf:=hid hf
  go_enter Tryz.func102,Tryz.ntmps102
  go_wp2_with fail
  go_region_held (λw'=>w'.cell? (g,0) =some (c.gM:Vl)∧w'.cell? (c.gM,3) =some (c.gT:Vl)∧w'.cell? (g,1) =some (x.mode:Vl)) (go_keep)
   ((go_at_call 148;refine hc.out.mono ?_;rintro e w5 ⟨rfl,hn5⟩;simp only[];have⟨n0,n1,n2⟩:=hcell.out _ _ hn5;replace hn5:=hid hn5))
  all_goals go_wp2_with fail
  refine(ht.out _).mono ?_
  rintro e w6 ⟨rfl,rfl⟩
  exact⟨rfl,rfl,hn5.out.tail⟩
def dI(s:Mt) :Int:=s.S.aR 0 (s.S.beg 3)
def lP(s:Mt) :Bool:=decide (2<=dI s) &&decide (dI s<=36)
def lv(t:Mt->List UInt8)(x:Rn)(s:Mt) :Rs×List Int:=
 if lP s=true then(⟨iA x s ⟨(t s).toArray⟩,x,s.fl x ⟨(t s).toArray⟩⟩,[])else(⟨19,x,s⟩,[])
def Fz(s:Mt) :List UInt8:=fG (ar s 1 0) (dI s) ++ [32]
def yh(s:Mt) :List UInt8:=ei (ar s 1 0) (dI s) ++ [32]
def jR(s:Mt) :List UInt8:=pP (ar s 2 0) (dI s) (ar s 2 1)
def jI(x:Rn)(s:Mt) :Rs×List Int:=
 if lP s=true∧(decide (0<=ar s 2 1) &&decide (ar s 2 1<=255)) =true then(⟨iA x s ⟨(jR s).toArray⟩,x,s.fl x ⟨(jR s).toArray⟩⟩,[])else(⟨19,x,s⟩,[])
theorem sG(n b:Int) : (ei n b).length<=66:=by
 unfold ei
 split
 ·rename_i h
  unfold oD
  have:=fB (b:=b.toNat) (u:=ky n) oM (by unfold ky;omega)
  omega
 ·simp
theorem KG{op:Int}{fn:FuncId}{S:Int->Int->List UInt8}{T:Mt->List UInt8}(hsel: (op=80∧fn=151)∨(op=81∧fn=152))(hT : ∀s,T s=S (ar s 1 0) (dI s) ++ [32])(hS : ∀(n b:Int) (W:World),V64 n->Pows W->Bruijn W->Calls Tryz.prog fn #[.int .i64 n,b] W (ey (.string ⟨(S n b).toArray⟩) W))(hSl : ∀n b,V64 n->(S n b).length<=66)(arg lit cells:Int) :cE Wk 102 (λg=> #[.pointer (some ⟨g,0,none⟩)]) ⟨op,arg,lit,cells⟩ (lv T):=by
 intro c g x src s ba w F hp hs hx hask hb
 have hw2: (Code.ah op).1.toNat=1:=by rcases hsel with⟨rfl,rfl⟩ | ⟨rfl,rfl⟩ <;>decide
 simp only[hw2]at hb⊢
 have hon:=On.refl hb
 have hcell : ∀s2 W,On F w (aa (ae ba 3 (af (s.args 1)) ::vL c g x src s2)) W->W.cell? (g,0) =some (c.gM:Vl)∧W.cell? (c.gM,0) =some (c.gI:Vl)∧W.cell? (ba,0) =some ((ar s 1 0) :Vl):=λs2 W h=>⟨h.tail.r0,h.tail.m0,ai (h.ab 0 rfl) oM⟩
 have⟨r0,m0,a0⟩:=hcell _ _ hon
 obtain⟨gb,hi⟩:=hon.drew.img 3 rfl
 have hbs:=AB (hon.drew.ab 2 rfl) hi
 have hce : ∀W,On F w (aa (ae ba 3 (af (s.args 1)) ::vL c g x src s)) W->Calls Tryz.prog 68 #[c.gI,(0:Int),(s.S.beg 3:Int)] W (λe w'=>e = .returned (.tuple #[(dI s),(s.S.az 0 (s.S.beg 3) false)])∧Below W.heap.size W w'):=λW h=>by
  obtain⟨gb,hi⟩:=h.img 3 rfl
  exact jE hi 0 (s.S.beg 3)
 have hbw:=λw=>kT (dI s) w
 have hpr : ∀W,On F w (aa (ae ba 3 (af (s.args 1)) ::vL c g x src s)) W->Calls Tryz.prog fn #[(ar s 1 0),(dI s)] W (ey (.string ⟨(S (ar s 1 0) (dI s)).toArray⟩) W):=λW h=>by
  obtain⟨hP,hB⟩:=hp.NR [ae ba 3 (af (s.args 1))] h
  exact hS _ _ W (aL s 1 0) hP hB
 have hlen: (S (ar s 1 0) (dI s)).length<=66:=hSl _ _ (aL s 1 0)
 have hou : ∀W,On F w (aa (ae ba 3 (af (s.args 1)) ::vL c g x src s)) W->Calls Tryz.prog 146 #[g,.string ⟨(T s).toArray⟩] W (Got (bO (iA x s ⟨(T s).toArray⟩)) (aa (ae ba 3 (af (s.args 1)) ::vL c g x src (s.fl x ⟨(T s).toArray⟩))) F w):=λW h=>h.aW λF' hb' _ _=>Cq hb' _ (by
  show(T s).toArray.size<=maxLen
  rw[hT];unfold maxLen
  simp only[List.size_toArray,List.length_append,List.length_cons,List.length_nil]
  omega)
 have hcat: (⟨(S (ar s 1 0) (dI s)).toArray⟩ :ByteArray) ++ ⟨#[32]⟩ = ⟨(T s).toArray⟩:=by apply tg;simp[hT]
 have hbo:lP s= (decide (2<=dI s) &&decide (dI s<=36)):=rfl
 rw[<-hbo]at hbw
 unfold lv
 generalize iA x s ⟨(T s).toArray⟩ =f at *
 generalize s.fl x ⟨(T s).toArray⟩ =s2 at *
 generalize T s=R at *
 generalize S (ar s 1 0) (dI s) =R' at *
 clear hbo
 generalize lP s=o at *
 generalize dI s=bv at *
 generalize s.S.az 0 (s.S.beg 3) false=cf at *
 generalize ((s.S.beg 3:Nat) :Int) =bg at *
 generalize ar s 1 0=X at *
 show Calls _ _ #[g,op,.slice ba 1 1] _ _
 clear hS hSl hT
 rcases hsel with⟨rfl,rfl⟩ | ⟨rfl,rfl⟩
 all_goals
  generalize af (s.args 1) =ac at *
  replace hcell:=hid hcell
  replace hbs:=hid hbs
  replace hce:=hid hce
  replace hbw:=hid hbw
  replace hpr:=hid hpr
  replace hou:=hid hou
  replace hcat:=hid hcat
  replace hon:=hid hon
  clear hb hw2 hask hs hx hp hi
  rcases o with _|_
  ·simp only[Bool.false_eq_true,if_false]
   simp only[show¬(19:Int) =0 by decide,if_false]
   go_enter Tryz.func102,Tryz.ntmps102
   go_wp2_with fail
   go_region_held (λw'=>w'.cell? (g,0) =some (c.gM:Vl)∧w'.cell? (c.gM,0) =some (c.gI:Vl)) (go_keep)
    ((first| (go_at_call 56;refine hbs.out.mono ?_;rintro e w5 ⟨rfl,hb5⟩;simp only[];have hn5:=hon.out.drew.below hb5;have⟨n0,n1,n2⟩:=hcell.out _ _ hn5;clear hb5;replace hn5:=hid hn5) | (go_at_call 68;refine(hce.out _ hn5.out).mono ?_;rintro e w6 ⟨rfl,hb6⟩;simp only[];have hn6:=hn5.out.below hb6;have⟨o0,o1,o2⟩:=hcell.out _ _ hn6;clear hb6;replace hn6:=hid hn6)))
   all_goals go_wp2_with fail
   refine(hbw.out _).mono ?_
   rintro e w7 ⟨rfl,rfl⟩
   simp only[]
   go_wp2_with fail
   refine(bV _ _).mono ?_
   rintro e w8 ⟨rfl,rfl⟩
   exact⟨rfl,rfl,hn6.out.tail⟩
  ·simp only[if_true]
   by_cases hf:f=0
   ·simp only[if_pos hf]
    have e2:bO f = .returned (.tuple #[]):=by unfold bO;rw[if_pos hf]
    rw[e2]at hou
    clear e2 hf
    go_enter Tryz.func102,Tryz.ntmps102
    go_wp2_with fail
    go_region_held (λw'=>w'.cell? (g,0) =some (c.gM:Vl)∧w'.cell? (c.gM,0) =some (c.gI:Vl)) (go_keep)
     ((first| (go_at_call 56;refine hbs.out.mono ?_;rintro e w5 ⟨rfl,hb5⟩;simp only[];have hn5:=hon.out.drew.below hb5;have⟨n0,n1,n2⟩:=hcell.out _ _ hn5;clear hb5;replace hn5:=hid hn5) | (go_at_call 68;refine(hce.out _ hn5.out).mono ?_;rintro e w6 ⟨rfl,hb6⟩;simp only[];have hn6:=hn5.out.below hb6;have⟨o0,o1,o2⟩:=hcell.out _ _ hn6;clear hb6;replace hn6:=hid hn6)))
    all_goals go_wp2_with fail
    refine(hbw.out _).mono ?_
    rintro e w7 ⟨rfl,rfl⟩
    simp only[]
    go_wp2_with fail
    refine(bF _ _).mono ?_
    rintro e w8 ⟨rfl,rfl⟩
    simp only[]
    go_wp2_with fail
    refine(hpr.out _ hn6.out).mono ?_
    rintro e w9 ⟨rfl,hk9⟩
    simp only[]
    have hn9:=hn6.out.pQ hk9
    have hou9:=hou.out _ hn9
    rw[<-hcat.out]at hou9
    replace hn9:=hid hn9
    replace hou9:=hid hou9
    clear hk9
    go_wp2_with fail
    refine hou9.out.mono ?_
    rintro e w10 ⟨rfl,h10⟩
    replace h10:=hid h10
    simp only[]
    go_wp2
    go_ret
    exact⟨none,0,_,rfl,br _,h10.out⟩
   ·simp only[if_neg hf]
    rw[eD hf]at hou
    replace hf:=hid hf
    go_enter Tryz.func102,Tryz.ntmps102
    go_wp2_with fail
    go_region_held (λw'=>w'.cell? (g,0) =some (c.gM:Vl)∧w'.cell? (c.gM,0) =some (c.gI:Vl)) (go_keep)
     ((first| (go_at_call 56;refine hbs.out.mono ?_;rintro e w5 ⟨rfl,hb5⟩;simp only[];have hn5:=hon.out.drew.below hb5;have⟨n0,n1,n2⟩:=hcell.out _ _ hn5;clear hb5;replace hn5:=hid hn5) | (go_at_call 68;refine(hce.out _ hn5.out).mono ?_;rintro e w6 ⟨rfl,hb6⟩;simp only[];have hn6:=hn5.out.below hb6;have⟨o0,o1,o2⟩:=hcell.out _ _ hn6;clear hb6;replace hn6:=hid hn6)))
    all_goals go_wp2_with fail
    refine(hbw.out _).mono ?_
    rintro e w7 ⟨rfl,rfl⟩
    simp only[]
    go_wp2_with fail
    refine(bF _ _).mono ?_
    rintro e w8 ⟨rfl,rfl⟩
    simp only[]
    go_wp2_with fail
    refine(hpr.out _ hn6.out).mono ?_
    rintro e w9 ⟨rfl,hk9⟩
    simp only[]
    have hn9:=hn6.out.pQ hk9
    have hou9:=hou.out _ hn9
    rw[<-hcat.out]at hou9
    replace hn9:=hid hn9
    replace hou9:=hid hou9
    clear hk9
    go_wp2_with fail
    refine hou9.out.mono ?_
    rintro e w10 ⟨rfl,h10⟩
    exact⟨rfl,rfl,h10.tail⟩
theorem Nj(arg lit cells:Int) :cE Wk 102 (λg=> #[.pointer (some ⟨g,0,none⟩)]) ⟨80,arg,lit,cells⟩ (lv Fz):=KG (by simp) (λ_=>rfl) (λn b W hn hP hB=>rp n hn b W hP hB) (λn b hn=>by have:=ma hn b;omega) arg lit cells
theorem KZ(arg lit cells:Int) :cE Wk 102 (λg=> #[.pointer (some ⟨g,0,none⟩)]) ⟨81,arg,lit,cells⟩ (lv yh):=KG (by simp) (λ_=>rfl) (λn b W _ hP hB=>ss n b W hP hB) (λn b _=>sG n b) arg lit cells
def jM(S:Img)(r:Nat) :Int:=if r=0 then 0 else(S.beg (r+1) :Int)
def kD(S:Img)(a:Int) :Bool:=((S.region a:Int) != 0)
def mj(S:Img)(a n:Int) :Bool:=decide (n<=IntKind.i64.wrap (jM S (S.region a) -a))
def oc(S:Img)(m a:Int) :Bool:=(bits .and .i64 (S.may m (S.region a)) 2 != 0)
def eJ(m a:Int) :Nat->List UInt8->Img->Int×Img
 | _,[],S=>(0,S)
 | i,b::l,S=>if S.bR m (IntKind.i64.wrap (a+ (i:Int))) true=0 then eJ m a (i+1) l (S.aV m (IntKind.i64.wrap (a+ (i:Int))) b)else(S.bR m (IntKind.i64.wrap (a+ (i:Int))) true,S.aV m (IntKind.i64.wrap (a+ (i:Int))) b)
def eh(x:Rn)(s:Mt)(a n:Int) :Int×Mt:=
 if aY x n≠0 then(aY x n,s)
 else if 0<n∧(kD s.S a&& (mj s.S a n&&oc s.S x.mode a)) =false then(5,s)
 else if Caps.gH s.T x.mode n≠0 then(Caps.gH s.T x.mode n,{ s with T:=Caps.ew s.T x.mode n })
 else((eJ x.mode a 0 (Caps.cN s.T x.mode n).data.toList s.S).1,{ s with T:=Caps.ew s.T x.mode n,S:=(eJ x.mode a 0 (Caps.cN s.T x.mode n).data.toList s.S).2 })
def ju(x:Rn)(s:Mt)(a n:Int) :Ending:=if(eh x s a n).1=0 then .returned ((Caps.cN s.T x.mode n).size:Int)else .panicked [flt (eh x s a n).1]
section
variable {w w':World}{F:Nat->Prop}{c:Vc}{g:Nat}{x:Rn}{src:Value}{s:Mt}
theorem Ia(hb: (VA c g x src s).holds w F)(hx:x.Ok)(a n:Int)(ha:V64 a)(hn:V64 n) :
 Calls Tryz.prog 149 #[g,(a:Int),n] w (Got (ju x s a n) (VA c g (x.pay n) src (eh x s a n).2) F w):=by
 have hon:=On.refl hb
 have hmo:=vr hb hx n hn
 have hmd: (x.pay n).mode=x.mode:=by unfold Rn.pay;split<;>rfl
 have hcell : ∀x' s' W,On F w (VA c g x' src s') W->W.cell? (g,0) =some (c.gM:Vl)∧W.cell? (g,1) =some (.int .i64 x'.mode)∧W.cell? (c.gM,0) =some (c.gI:Vl)∧W.cell? (c.gM,3) =some (c.gT:Vl):=λx' s' W h=>⟨h.r0,h.r1,h.m0,h.m3⟩
 have hreg : ∀W,On F w (VA c g (x.pay n) src s) W->Calls Tryz.prog 113 #[c.gI,(a:Int)] W (aA (s.S.region a:Int) W):=λW h=>by
  obtain⟨gb,hi⟩:=h.im
  exact mT hi a
 have hsp : ∀W,On F w (VA c g (x.pay n) src s) W->Calls Tryz.prog 48 #[c.gI,(s.S.region a:Int)] W (λe w'=> ∃z,e = .returned (.tuple #[.int .i64 z,(jM s.S (s.S.region a))])∧∃k,w'=W.drewN k):=λW h=>by
  obtain⟨gb,hi⟩:=h.im
  have h5:=s.S.tQ a
  by_cases h0:s.S.region a=0
  ·refine(AO _ _ (.inl oM) W).mono ?_
   rintro e w' ⟨rfl,rfl⟩
   refine⟨0,?_,0,rfl⟩
   unfold jM
   rw[if_pos h0]
  ·refine(jA hi _ oM h5).mono ?_
   rintro e w' ⟨rfl,k,rfl⟩
   refine⟨(s.S.beg (s.S.region a) :Int),?_,k,rfl⟩
   unfold jM
   rw[if_neg h0]
 have hmay : ∀W,On F w (VA c g (x.pay n) src s) W->Calls Tryz.prog 112 #[c.gI,.int .i64 (x.pay n).mode,(s.S.region a:Int)] W (aA (s.S.may x.mode (s.S.region a)) W):=λW h=>by
  obtain⟨gb,hi⟩:=h.im
  rw[hmd]
  exact BX hi x.mode _ (s.S.tQ a)
 have hacc : ∀W,On F w (VA c g (x.pay n) src s) W->Calls Tryz.prog 187 #[c.gT,.int .i64 (x.pay n).mode,n] W.drew (Got (.returned (.tuple #[.string (Caps.cN s.T x.mode n),(Caps.gH s.T x.mode n)])) (VA c g (x.pay n) src { s with T:=Caps.ew s.T x.mode n }) F w):=λW h=>by
  rw[hmd]
  exact h.drew.bA (A:=de c.gT s.T) (A':=de c.gT (Caps.ew s.T x.mode n)) (e0:= .returned (.tuple #[.string (Caps.cN s.T x.mode n),(Caps.gH s.T x.mode n)])) 5 rfl (λF' ha=>fJ ha λw0 L h=>G0 h x.mode n)
 have hsb : ∀(t:Mt) (i:Nat) (b:UInt8) W,On F w (VA c g (x.pay n) src t) W->Calls Tryz.prog 140 #[c.gI,.int .i64 (x.pay n).mode,(IntKind.i64.wrap (a+ (i:Int))),.int .u8 (b.toNat:Int)] W.drew (Got (.returned (.int .i64 (t.S.bR x.mode (IntKind.i64.wrap (a+ (i:Int))) true))) (VA c g (x.pay n) src { t with S:=t.S.aV x.mode (IntKind.i64.wrap (a+ (i:Int))) b }) F w):=λt i b W h=>by
  rw[hmd]
  exact h.drew.bA 2 rfl (λF' ha=>iX ha x.mode _ b)
 by_cases h0:aY x n≠0
 ·have hA:eh x s a n= (aY x n,s):=by unfold eh;rw[if_pos h0]
  rw[show ju x s a n = .panicked [flt (aY x n)]by unfold ju;rw[hA];exact if_neg h0,hA]
  rw[eD h0]at hmo
  generalize aY x n=f0 at *
  generalize x.pay n=x2 at *
  replace hcell:=hid hcell
  replace hmo:=hid hmo
  replace hreg:=hid hreg
  replace hsp:=hid hsp
  replace hmay:=hid hmay
  clear hon hb hx
  clear hA hacc hsb hmd
  replace h0:=hid h0
  go_enter Tryz.func149,Tryz.ntmps149
  go_wp2_with fail
  refine hmo.out.mono ?_
  rintro e w1 ⟨rfl,h1⟩
  exact⟨rfl,rfl,h1⟩
 have hm0:aY x n=0:=by simpa using h0
 rw[hm0]at hmo
 have e0:bO 0 = .returned (.tuple #[]):=rfl
 rw[e0]at hmo
 clear e0
 by_cases hn0:0<n
 ·have t0:decide (0<n) =true:=decide_eq_true hn0
  rcases hc1: ((s.S.region a:Int) != 0)with _|_
  ·have hA:eh x s a n= (5,s):=by
    unfold eh kD
    rw[if_neg h0,hc1,if_pos ⟨hn0,rfl⟩]
   rw[show ju x s a n = .panicked [flt 5]by unfold ju;rw[hA];exact if_neg (show¬(5:Int) =0 by decide),hA]
   generalize x.pay n=x2 at *
   generalize s.S.may x.mode (s.S.region a) =M at *
   generalize jM s.S (s.S.region a) =T at *
   generalize ((s.S.region a:Nat) :Int) =R at *
   replace hcell:=hid hcell
   replace hmo:=hid hmo
   replace hreg:=hid hreg
   replace hsp:=hid hsp
   replace hmay:=hid hmay
   clear hon hb hx
   clear hA hacc hsb hmd h0 hm0
   replace hn0:=hid hn0
   go_enter Tryz.func149,Tryz.ntmps149
   go_wp2_with fail
   refine hmo.out.mono ?_
   rintro e w1 ⟨rfl,h1⟩
   simp only[]
   have⟨r0,r1,m0,m3⟩:=hcell.out _ _ _ h1
   replace h1:=hid h1
   go_wp2_with fail
   refine(hreg.out _ h1.out).mono ?_
   rintro e w2 ⟨rfl,rfl⟩
   simp only[]
   go_wp2_with fail
   refine(hsp.out _ h1.out).mono ?_
   rintro e w3 ⟨z,rfl,k,rfl⟩
   simp only[]
   have h3:=h1.out.drewN k
   clear r0 r1 m0 m3
   have⟨r0,r1,m0,m3⟩:=hcell.out _ _ _ h3
   generalize w2.drewN k=w3 at *
   replace h3:=hid h3
   go_wp2_with fail
   refine wp_region_held_drew (S:=(λw'=>w'.cell? (g,0) =some (c.gM:Vl)∧w'.cell? (g,1) =some (x2.mode:Vl)∧w'.cell? (c.gM,0) =some (c.gI:Vl))) kR ?hS0B (λhHeld=> ?rsSB)
   case hS0B=>((try dsimp only);go_keep)
   refine tkL 0 ?_
   refine pt ?_
   refine tkL 1 (v:= .bool false) ?_ (hy:=Or.inl ⟨by kernel_rfl,by intro w hSw;(try dsimp only at hSw);go_simp;try exact hc1⟩)
   refine pt ?_
   refine tkL 2 ?_
   refine pt ?_
   refine tkU 3 ?_
   refine tkU 4 ?_
   refine tkU 5 ?_
   refine tkU 6 ?_
   refine tkU 7 ?_
   refine pt ?_
   refine tkL 8 ?_
   refine pt ?_
   refine tkL 9 ?_
   refine pt ?_
   refine tkU 10 ?_
   refine tkU 11 ?_
   refine tkU 12 ?_
   refine tkU 13 ?_
   refine tkU 14 ?_
   refine tkU 15 ?_
   refine tkU 16 ?_
   refine tkU 17 ?_
   refine tkU 18 ?_
   refine tkU 19 ?_
   refine tkU 20 ?_
   refine tkU 21 ?_
   refine tkU 22 ?_
   refine tkU 23 ?_
   refine tkU 24 ?_
   refine pt ?_
   refine tkL 25 ?_
   refine pt ?_
   refine wpAnyH_ready (rs:=[26]) kR (by simp) ?_
   refine AllReadyH.cons rfl (λK hK=> ?stepB) ?moreB
   case moreB=>exact AllReadyH.nil
   go_simp
   refine(bV _ _).mono ?_
   rintro e w5 ⟨rfl,rfl⟩
   exact⟨rfl,rfl,h3.out.drew⟩
  rcases hc2:decide (n<=IntKind.i64.wrap (jM s.S (s.S.region a) -a))with _|_
  ·have hA:eh x s a n= (5,s):=by
    unfold eh kD mj
    rw[if_neg h0,hc1,hc2,if_pos ⟨hn0,rfl⟩]
   rw[show ju x s a n = .panicked [flt 5]by unfold ju;rw[hA];exact if_neg (show¬(5:Int) =0 by decide),hA]
   generalize x.pay n=x2 at *
   generalize s.S.may x.mode (s.S.region a) =M at *
   generalize jM s.S (s.S.region a) =T at *
   generalize ((s.S.region a:Nat) :Int) =R at *
   replace hcell:=hid hcell
   replace hmo:=hid hmo
   replace hreg:=hid hreg
   replace hsp:=hid hsp
   replace hmay:=hid hmay
   clear hon hb hx
   clear hA hacc hsb hmd h0 hm0
   replace hn0:=hid hn0
   go_enter Tryz.func149,Tryz.ntmps149
   go_wp2_with fail
   refine hmo.out.mono ?_
   rintro e w1 ⟨rfl,h1⟩
   simp only[]
   have⟨r0,r1,m0,m3⟩:=hcell.out _ _ _ h1
   replace h1:=hid h1
   go_wp2_with fail
   refine(hreg.out _ h1.out).mono ?_
   rintro e w2 ⟨rfl,rfl⟩
   simp only[]
   go_wp2_with fail
   refine(hsp.out _ h1.out).mono ?_
   rintro e w3 ⟨z,rfl,k,rfl⟩
   simp only[]
   have h3:=h1.out.drewN k
   clear r0 r1 m0 m3
   have⟨r0,r1,m0,m3⟩:=hcell.out _ _ _ h3
   generalize w2.drewN k=w3 at *
   replace h3:=hid h3
   go_wp2_with fail
   refine wp_region_held_drew (S:=(λw'=>w'.cell? (g,0) =some (c.gM:Vl)∧w'.cell? (g,1) =some (x2.mode:Vl)∧w'.cell? (c.gM,0) =some (c.gI:Vl))) kR ?hS0C (λhHeld=> ?rsSC)
   case hS0C=>((try dsimp only);go_keep)
   refine tkL 0 ?_
   refine pt ?_
   refine tkL 1 (v:= .bool true) ?_ (hy:=Or.inl ⟨by kernel_rfl,by intro w hSw;(try dsimp only at hSw);go_simp;try exact hc1⟩)
   refine pt ?_
   refine tkL 2 ?_
   refine pt ?_
   refine tkL 3 ?_
   refine pt ?_
   refine tkL 4 ?_
   refine pt ?_
   refine tkL 5 ?_
   refine pt ?_
   refine tkL 6 ?_
   refine pt ?_
   refine tkL 7 (v:= .bool false) ?_ (hy:=Or.inl ⟨by kernel_rfl,by intro w hSw;(try dsimp only at hSw);go_simp;try exact hc2⟩)
   refine pt ?_
   refine tkL 8 ?_
   refine pt ?_
   refine tkL 9 ?_
   refine pt ?_
   refine tkU 10 ?_
   refine tkU 11 ?_
   refine tkU 12 ?_
   refine tkU 13 ?_
   refine tkU 14 ?_
   refine tkU 15 ?_
   refine tkU 16 ?_
   refine tkU 17 ?_
   refine tkU 18 ?_
   refine tkU 19 ?_
   refine tkU 20 ?_
   refine tkU 21 ?_
   refine tkU 22 ?_
   refine tkU 23 ?_
   refine tkU 24 ?_
   refine pt ?_
   refine tkL 25 ?_
   refine pt ?_
   refine wpAnyH_ready (rs:=[26]) kR (by simp) ?_
   refine AllReadyH.cons rfl (λK hK=> ?jN) ?moreC
   case moreC=>exact AllReadyH.nil
   go_simp
   refine(bV _ _).mono ?_
   rintro e w5 ⟨rfl,rfl⟩
   exact⟨rfl,rfl,h3.out.drew⟩
  rcases hc3: (bits .and .i64 (s.S.may x.mode (s.S.region a)) 2 != 0)with _|_
  ·have hA:eh x s a n= (5,s):=by
    unfold eh kD mj oc
    rw[if_neg h0,hc1,hc2,hc3,if_pos ⟨hn0,rfl⟩]
   rw[show ju x s a n = .panicked [flt 5]by unfold ju;rw[hA];exact if_neg (show¬(5:Int) =0 by decide),hA]
   generalize x.pay n=x2 at *
   generalize s.S.may x.mode (s.S.region a) =M at *
   generalize jM s.S (s.S.region a) =T at *
   generalize ((s.S.region a:Nat) :Int) =R at *
   replace hcell:=hid hcell
   replace hmo:=hid hmo
   replace hreg:=hid hreg
   replace hsp:=hid hsp
   replace hmay:=hid hmay
   clear hon hb hx
   clear hA hacc hsb hmd h0 hm0
   replace hn0:=hid hn0
   go_enter Tryz.func149,Tryz.ntmps149
   go_wp2_with fail
   refine hmo.out.mono ?_
   rintro e w1 ⟨rfl,h1⟩
   simp only[]
   have⟨r0,r1,m0,m3⟩:=hcell.out _ _ _ h1
   replace h1:=hid h1
   go_wp2_with fail
   refine(hreg.out _ h1.out).mono ?_
   rintro e w2 ⟨rfl,rfl⟩
   simp only[]
   go_wp2_with fail
   refine(hsp.out _ h1.out).mono ?_
   rintro e w3 ⟨z,rfl,k,rfl⟩
   simp only[]
   have h3:=h1.out.drewN k
   clear r0 r1 m0 m3
   have⟨r0,r1,m0,m3⟩:=hcell.out _ _ _ h3
   generalize w2.drewN k=w3 at *
   replace h3:=hid h3
   go_wp2_with fail
   go_region_held (λw'=>w'.cell? (g,0) =some (c.gM:Vl)∧w'.cell? (g,1) =some (x2.mode:Vl)∧w'.cell? (c.gM,0) =some (c.gI:Vl)) (go_keep)
    ((first
      | (go_at_call 112;refine(hmay.out _ h3.out.drew).mono ?_;rintro e w5 ⟨rfl,rfl⟩;simp only[])
      | (go_at_call 89;refine dead (bV _ _) ⟨rfl,rfl,h3.out.drew⟩ ?_;intro hF e w5 he hw;subst he;subst hw;replace hF:=hid hF)))
   all_goals exact hF.out.elim
  ·have hno : ¬(0<n∧(kD s.S a&& (mj s.S a n&&oc s.S x.mode a)) =false):=by
    unfold kD mj oc
    rw[hc1,hc2,hc3]
    simp
   by_cases hE:Caps.gH s.T x.mode n≠0
   ·have hA:eh x s a n= (Caps.gH s.T x.mode n,{ s with T:=Caps.ew s.T x.mode n }):=by
     unfold eh
     rw[if_neg h0,if_neg hno,if_pos hE]
    rw[show ju x s a n = .panicked [flt (Caps.gH s.T x.mode n)]by unfold ju;rw[hA];exact if_neg hE,hA]
    generalize s.S.may x.mode (s.S.region a) =M at *
    generalize jM s.S (s.S.region a) =T at *
    generalize ((s.S.region a:Nat) :Int) =R at *
    replace hn0:=hid hn0
    generalize x.pay n=x2 at *
    generalize Caps.gH s.T x.mode n=E at *
    generalize Caps.cN s.T x.mode n=B at *
    generalize Caps.ew s.T x.mode n=T' at *
    replace hcell:=hid hcell
    replace hmo:=hid hmo
    replace hreg:=hid hreg
    replace hsp:=hid hsp
    replace hmay:=hid hmay
    clear hon hb hx
    replace hacc:=hid hacc
    have ht:=hid (λw=>cG E hE w)
    clear hA hsb hmd h0 hm0 hno hE
    go_enter Tryz.func149,Tryz.ntmps149
    go_wp2_with fail
    refine hmo.out.mono ?_
    rintro e w1 ⟨rfl,h1⟩
    simp only[]
    have⟨r0,r1,m0,m3⟩:=hcell.out _ _ _ h1
    replace h1:=hid h1
    go_wp2_with fail
    refine(hreg.out _ h1.out).mono ?_
    rintro e w2 ⟨rfl,rfl⟩
    simp only[]
    go_wp2_with fail
    refine(hsp.out _ h1.out).mono ?_
    rintro e w3 ⟨z,rfl,k,rfl⟩
    simp only[]
    have h3:=h1.out.drewN k
    clear r0 r1 m0 m3
    have⟨r0,r1,m0,m3⟩:=hcell.out _ _ _ h3
    generalize w2.drewN k=w3 at *
    replace h3:=hid h3
    go_wp2_with fail
    go_region_held (λw'=>w'.cell? (g,0) =some (c.gM:Vl)∧w'.cell? (g,1) =some (x2.mode:Vl)∧w'.cell? (c.gM,0) =some (c.gI:Vl)) (go_keep)
     ((first
       | (go_at_call 112;refine(hmay.out _ h3.out.drew).mono ?_;rintro e w5 ⟨rfl,rfl⟩;simp only[])
       | (go_at_call 89;refine(bF _ _).mono ?_;rintro e w5 ⟨rfl,rfl⟩;simp only[])))
    all_goals go_wp2_with fail
    go_region_held (λw'=>w'.cell? (g,0) =some (c.gM:Vl)∧w'.cell? (g,1) =some (x2.mode:Vl)∧w'.cell? (c.gM,3) =some (c.gT:Vl)) (go_keep)
     ((go_at_call 187;refine(hacc.out _ h3.out.drew).mono ?_;rintro e w6 ⟨rfl,h6⟩;simp only[];have⟨n0,n1,n2,n3⟩:=hcell.out _ _ _ h6;replace h6:=hid h6))
    all_goals go_wp2_with fail
    refine(ht.out _).mono ?_
    rintro e w7 ⟨rfl,rfl⟩
    exact⟨rfl,rfl,h6.out⟩
   ·have hA:eh x s a n= ((eJ x.mode a 0 (Caps.cN s.T x.mode n).data.toList s.S).1,{ s with T:=Caps.ew s.T x.mode n,S:=(eJ x.mode a 0 (Caps.cN s.T x.mode n).data.toList s.S).2 }):=by
     unfold eh
     rw[if_neg h0,if_neg hno,if_neg hE]
    have hBs: (Caps.cN s.T x.mode n).size<=9223372036854775807:=by
     have h1: (Caps.cN s.T x.mode n).size<=n.toNat:=by
      unfold Caps.cN
      split
      ·rw[ByteArray.size_extract]
       have:=Caps.vc s.T.inp n
       omega
      ·exact Nat.zero_le _
     unfold V64 at hn
     omega
    obtain⟨Q,hQ⟩ : ∃Q,eJ x.mode a 0 (Caps.cN s.T x.mode n).data.toList s.S=Q:=⟨_,rfl⟩
    rw[hQ]at hA
    have hE0:Caps.gH s.T x.mode n=0:=by simpa using hE
    rw[hE0]at hacc
    have hq:ju x s a n=if Q.1=0 then .returned ((Caps.cN s.T x.mode n).size:Int)else .panicked [flt Q.1]:=by unfold ju;rw[hA]
    obtain⟨EE,hEE⟩ : ∃EE:Ending,(if Q.1=0 then .returned ((Caps.cN s.T x.mode n).size:Int)else .panicked [flt Q.1]) =EE:=⟨_,rfl⟩
    rw[hq,hA,hEE]
    clear hq hA hE hE0
    obtain⟨s1,hs1⟩ : ∃s1:Mt,({ s with T:=Caps.ew s.T x.mode n }:Mt) =s1:=⟨_,rfl⟩
    have hQ:eJ x.mode a 0 (Caps.cN s.T x.mode n).data.toList s1.S=Q:=by rw[<-hs1];exact hQ
    rw[show({ s with T:=Caps.ew s.T x.mode n,S:=Q.2 }:Mt) = { s1 with S:=Q.2 } by rw[<-hs1]]
    rw[hs1]at hacc
    clear hs1
    generalize s.S.may x.mode (s.S.region a) =M at *
    generalize jM s.S (s.S.region a) =T at *
    generalize ((s.S.region a:Nat) :Int) =R at *
    replace hn0:=hid hn0
    generalize x.pay n=x2 at *
    generalize Caps.cN s.T x.mode n=B at *
    obtain⟨md,hmd2⟩ : ∃md,x.mode=md:=⟨_,rfl⟩
    rw[hmd2]at hsb hQ
    replace hQ:=hid hQ
    replace hEE:=hid hEE
    replace hsb:=hid hsb
    replace hmd2:=hid hmd2
    replace hcell:=hid hcell
    replace hmo:=hid hmo
    replace hreg:=hid hreg
    replace hsp:=hid hsp
    replace hmay:=hid hmay
    clear hon hb hx
    replace hacc:=hid hacc
    clear hmd h0 hm0 hno
    go_enter Tryz.func149,Tryz.ntmps149
    go_wp2_with fail
    refine hmo.out.mono ?_
    rintro e w1 ⟨rfl,h1⟩
    simp only[]
    have⟨r0,r1,m0,m3⟩:=hcell.out _ _ _ h1
    replace h1:=hid h1
    go_wp2_with fail
    refine(hreg.out _ h1.out).mono ?_
    rintro e w2 ⟨rfl,rfl⟩
    simp only[]
    go_wp2_with fail
    refine(hsp.out _ h1.out).mono ?_
    rintro e w3 ⟨z,rfl,k,rfl⟩
    simp only[]
    have h3:=h1.out.drewN k
    clear r0 r1 m0 m3
    have⟨r0,r1,m0,m3⟩:=hcell.out _ _ _ h3
    generalize w2.drewN k=w3 at *
    replace h3:=hid h3
    go_wp2_with fail
    go_region_held (λw'=>w'.cell? (g,0) =some (c.gM:Vl)∧w'.cell? (g,1) =some (x2.mode:Vl)∧w'.cell? (c.gM,0) =some (c.gI:Vl)) (go_keep)
     ((first
       | (go_at_call 112;refine(hmay.out _ h3.out.drew).mono ?_;rintro e w5 ⟨rfl,rfl⟩;simp only[])
       | (go_at_call 89;refine(bF _ _).mono ?_;rintro e w5 ⟨rfl,rfl⟩;simp only[])))
    all_goals go_wp2_with fail
    go_region_held (λw'=>w'.cell? (g,0) =some (c.gM:Vl)∧w'.cell? (g,1) =some (x2.mode:Vl)∧w'.cell? (c.gM,3) =some (c.gT:Vl)) (go_keep)
     ((go_at_call 187;refine(hacc.out _ h3.out.drew).mono ?_;rintro e w6 ⟨rfl,h6⟩;simp only[];have⟨n0,n1,n2,n3⟩:=hcell.out _ _ _ h6;replace h6:=hid h6))
    all_goals go_wp2_with fail
    refine(bD _).mono ?_
    rintro e w7 ⟨rfl,rfl⟩
    simp only[]
    clear n0 n1 n2 n3
    go_wp2
    go_loopg [86] B.size (λk t wr=> ∃(j:Nat) (S':Img),j+k=B.size∧t = .int .i64 (j:Int)∧On F w (VA c g x2 src { s1 with S:=S' }) wr∧eJ md a j (B.data.toList.drop j) S'=Q)
    case atStart=>exact⟨0,s1.S,by omega,rfl,h6.out,hQ.out⟩
    case round=>
     obtain⟨j,S',hj,rfl,hr,hs⟩:=hrel
     by_cases hjl:j<B.size
     ·have⟨q0,q1,q2,q3⟩:=hcell.out _ _ _ hr
      have hjl2:j<B.data.toList.length:=by simpa using hjl
      have hdr:B.data.toList.drop j= (B[j]'hjl) ::B.data.toList.drop (j+1):=by rw[List.drop_eq_getElem_cons hjl2];rfl
      rw[hdr]at hs
      unfold eJ at hs
      have hsj : ∀W,On F w (VA c g x2 src { s1 with S:=S' }) W->Calls Tryz.prog 140 #[c.gI,x2.mode,(IntKind.i64.wrap (a+ (j:Int))),.int .u8 ((B[j]'hjl).toNat:Int)] W.drew (Got (.returned (S'.bR md (IntKind.i64.wrap (a+ (j:Int))) true)) (VA c g x2 src { s1 with S:=S'.aV md (IntKind.i64.wrap (a+ (j:Int))) (B[j]'hjl) }) F w):=λW h=>hsb.out _ j (B[j]'hjl) W h
      obtain⟨f,hf⟩ : ∃f,S'.bR md (IntKind.i64.wrap (a+ (j:Int))) true=f:=⟨_,rfl⟩
      rw[hf]at hs hsj
      obtain⟨S2,hS2⟩ : ∃S2,S'.aV md (IntKind.i64.wrap (a+ (j:Int))) (B[j]'hjl) =S2:=⟨_,rfl⟩
      rw[hS2]at hs hsj
      have tl:decide ((j:Int) < (B.size:Int)) =true:=decide_eq_true oM
      clear hS2 hf hdr hjl2
      replace hsj:=hid hsj
      replace hr:=hid hr
      replace hj:=hid hj
      by_cases hf:f=0
      ·subst hf
       rw[if_pos rfl]at hs
       replace hs:=hid hs
       go_wp2_with fail
       go_region_held (λw'=>w'.cell? (g,0) =some (c.gM:Vl)∧w'.cell? (g,1) =some (x2.mode:Vl)∧w'.cell? (c.gM,0) =some (c.gI:Vl)) (go_keep)
        ((first
          | (go_at_call 140;refine(hsj.out _ hr.out).mono ?_;rintro e w8 ⟨rfl,h8⟩;simp only[];have⟨k0,k1,k2,k3⟩:=hcell.out _ _ _ h8;replace h8:=hid h8)
          | (go_at_call 64;refine(bD _).mono ?_;rintro e w9 ⟨rfl,rfl⟩;simp only[])))
       all_goals go_wp2
       all_goals go_roundg (gk-1)
       all_goals first
        | (have:=hj.out;omega)
        | exact⟨j+1,S2,by have:=hj.out;omega,by go_num,h8.out,hs.out⟩
      ·rw[if_neg hf]at hs
       have ht:=hid (λw=>cG f hf w)
       have hQf:Q= (f,S2):=hs.symm
       have hE2:EE = .panicked [flt f]:=by rw[<-hEE.out,hQf];exact if_neg hf
       rw[hE2,hQf]
       clear hQf hE2 hs
       replace hf:=hid hf
       go_wp2_with fail
       go_region_held (λw'=>w'.cell? (g,0) =some (c.gM:Vl)∧w'.cell? (g,1) =some (x2.mode:Vl)∧w'.cell? (c.gM,0) =some (c.gI:Vl)) (go_keep)
        ((first
          | (go_at_call 140;refine(hsj.out _ hr.out).mono ?_;rintro e w8 ⟨rfl,h8⟩;simp only[];have⟨k0,k1,k2,k3⟩:=hcell.out _ _ _ h8;replace h8:=hid h8)
          | (go_at_call 64;refine dead (ht.out _) ⟨rfl,rfl,h8.out⟩ ?_;intro hF e w9 he hw;subst he;subst hw;replace hF:=hid hF)))
       all_goals exact hF.out.elim
     ·have hnil:B.data.toList.drop j = []:=List.drop_eq_nil_iff.2 (by simp only[Array.length_toList];show B.size<=j;omega)
      rw[hnil]at hs
      have hs2: (0,S') =Q:=hs
      have hE2:EE = .returned (B.size:Int):=by rw[<-hEE.out,<-hs2];rfl
      have hS:Q.2=S':=by rw[<-hs2]
      have hr2:On F w (VA c g x2 src { s1 with S:=Q.2 }) wr:=by rw[hS];exact hr
      replace hE2:=hid hE2
      replace hr2:=hid hr2
      clear hs hs2 hnil hS
      have tl:decide ((j:Int) < (B.size:Int)) =false:=decide_eq_false oM
      replace hr:=hid hr
      replace hj:=hid hj
      replace hjl:=hid hjl
      go_wp2
      go_ret
      refine⟨?_,hr2.out⟩
      rw[hE2.out]
      rfl
 ·have t0:decide (0<n) =false:=decide_eq_false hn0
  have hno : ¬(0<n∧(kD s.S a&& (mj s.S a n&&oc s.S x.mode a)) =false):=λh=>hn0 h.1
  by_cases hE:Caps.gH s.T x.mode n≠0
  ·have hA:eh x s a n= (Caps.gH s.T x.mode n,{ s with T:=Caps.ew s.T x.mode n }):=by
    unfold eh
    rw[if_neg h0,if_neg hno,if_pos hE]
   rw[show ju x s a n = .panicked [flt (Caps.gH s.T x.mode n)]by unfold ju;rw[hA];exact if_neg hE,hA]
   generalize s.S.may x.mode (s.S.region a) =M at *
   generalize jM s.S (s.S.region a) =T at *
   generalize ((s.S.region a:Nat) :Int) =R at *
   replace hn0:=hid hn0
   generalize x.pay n=x2 at *
   generalize Caps.gH s.T x.mode n=E at *
   generalize Caps.cN s.T x.mode n=B at *
   generalize Caps.ew s.T x.mode n=T' at *
   replace hcell:=hid hcell
   replace hmo:=hid hmo
   replace hreg:=hid hreg
   replace hsp:=hid hsp
   replace hmay:=hid hmay
   clear hon hb hx
   replace hacc:=hid hacc
   have ht:=hid (λw=>cG E hE w)
   clear hA hsb hmd h0 hm0 hno hE
   go_enter Tryz.func149,Tryz.ntmps149
   go_wp2_with fail
   refine hmo.out.mono ?_
   rintro e w1 ⟨rfl,h1⟩
   simp only[]
   have⟨r0,r1,m0,m3⟩:=hcell.out _ _ _ h1
   replace h1:=hid h1
   go_wp2_with fail
   go_region_held (λw'=>w'.cell? (g,0) =some (c.gM:Vl)∧w'.cell? (g,1) =some (x2.mode:Vl)∧w'.cell? (c.gM,3) =some (c.gT:Vl)) (go_keep)
    ((go_at_call 187;refine(hacc.out _ h1.out).mono ?_;rintro e w6 ⟨rfl,h6⟩;simp only[];have⟨n0,n1,n2,n3⟩:=hcell.out _ _ _ h6;replace h6:=hid h6))
   all_goals go_wp2_with fail
   refine(ht.out _).mono ?_
   rintro e w7 ⟨rfl,rfl⟩
   exact⟨rfl,rfl,h6.out⟩
  ·have hA:eh x s a n= ((eJ x.mode a 0 (Caps.cN s.T x.mode n).data.toList s.S).1,{ s with T:=Caps.ew s.T x.mode n,S:=(eJ x.mode a 0 (Caps.cN s.T x.mode n).data.toList s.S).2 }):=by
    unfold eh
    rw[if_neg h0,if_neg hno,if_neg hE]
   have hBs: (Caps.cN s.T x.mode n).size<=9223372036854775807:=by
    have h1: (Caps.cN s.T x.mode n).size<=n.toNat:=by
     unfold Caps.cN
     split
     ·rw[ByteArray.size_extract]
      have:=Caps.vc s.T.inp n
      omega
     ·exact Nat.zero_le _
    unfold V64 at hn
    omega
   obtain⟨Q,hQ⟩ : ∃Q,eJ x.mode a 0 (Caps.cN s.T x.mode n).data.toList s.S=Q:=⟨_,rfl⟩
   rw[hQ]at hA
   have hE0:Caps.gH s.T x.mode n=0:=by simpa using hE
   rw[hE0]at hacc
   have hq:ju x s a n=if Q.1=0 then .returned ((Caps.cN s.T x.mode n).size:Int)else .panicked [flt Q.1]:=by unfold ju;rw[hA]
   obtain⟨EE,hEE⟩ : ∃EE:Ending,(if Q.1=0 then .returned ((Caps.cN s.T x.mode n).size:Int)else .panicked [flt Q.1]) =EE:=⟨_,rfl⟩
   rw[hq,hA,hEE]
   clear hq hA hE hE0
   obtain⟨s1,hs1⟩ : ∃s1:Mt,({ s with T:=Caps.ew s.T x.mode n }:Mt) =s1:=⟨_,rfl⟩
   have hQ:eJ x.mode a 0 (Caps.cN s.T x.mode n).data.toList s1.S=Q:=by rw[<-hs1];exact hQ
   rw[show({ s with T:=Caps.ew s.T x.mode n,S:=Q.2 }:Mt) = { s1 with S:=Q.2 } by rw[<-hs1]]
   rw[hs1]at hacc
   clear hs1
   generalize s.S.may x.mode (s.S.region a) =M at *
   generalize jM s.S (s.S.region a) =T at *
   generalize ((s.S.region a:Nat) :Int) =R at *
   replace hn0:=hid hn0
   generalize x.pay n=x2 at *
   generalize Caps.cN s.T x.mode n=B at *
   obtain⟨md,hmd2⟩ : ∃md,x.mode=md:=⟨_,rfl⟩
   rw[hmd2]at hsb hQ
   replace hQ:=hid hQ
   replace hEE:=hid hEE
   replace hsb:=hid hsb
   replace hmd2:=hid hmd2
   replace hcell:=hid hcell
   replace hmo:=hid hmo
   replace hreg:=hid hreg
   replace hsp:=hid hsp
   replace hmay:=hid hmay
   clear hon hb hx
   replace hacc:=hid hacc
   clear hmd h0 hm0 hno
   go_enter Tryz.func149,Tryz.ntmps149
   go_wp2_with fail
   refine hmo.out.mono ?_
   rintro e w1 ⟨rfl,h1⟩
   simp only[]
   have⟨r0,r1,m0,m3⟩:=hcell.out _ _ _ h1
   replace h1:=hid h1
   go_wp2_with fail
   go_region_held (λw'=>w'.cell? (g,0) =some (c.gM:Vl)∧w'.cell? (g,1) =some (x2.mode:Vl)∧w'.cell? (c.gM,3) =some (c.gT:Vl)) (go_keep)
    ((go_at_call 187;refine(hacc.out _ h1.out).mono ?_;rintro e w6 ⟨rfl,h6⟩;simp only[];have⟨n0,n1,n2,n3⟩:=hcell.out _ _ _ h6;replace h6:=hid h6))
   all_goals go_wp2_with fail
   refine(bD _).mono ?_
   rintro e w7 ⟨rfl,rfl⟩
   simp only[]
   clear n0 n1 n2 n3
   go_wp2
   go_loopg [86] B.size (λk t wr=> ∃(j:Nat) (S':Img),j+k=B.size∧t = .int .i64 (j:Int)∧On F w (VA c g x2 src { s1 with S:=S' }) wr∧eJ md a j (B.data.toList.drop j) S'=Q)
   case atStart=>exact⟨0,s1.S,by omega,rfl,h6.out,hQ.out⟩
   case round=>
    obtain⟨j,S',hj,rfl,hr,hs⟩:=hrel
    by_cases hjl:j<B.size
    ·have⟨q0,q1,q2,q3⟩:=hcell.out _ _ _ hr
     have hjl2:j<B.data.toList.length:=by simpa using hjl
     have hdr:B.data.toList.drop j= (B[j]'hjl) ::B.data.toList.drop (j+1):=by rw[List.drop_eq_getElem_cons hjl2];rfl
     rw[hdr]at hs
     unfold eJ at hs
     have hsj : ∀W,On F w (VA c g x2 src { s1 with S:=S' }) W->Calls Tryz.prog 140 #[c.gI,x2.mode,(IntKind.i64.wrap (a+ (j:Int))),.int .u8 ((B[j]'hjl).toNat:Int)] W.drew (Got (.returned (S'.bR md (IntKind.i64.wrap (a+ (j:Int))) true)) (VA c g x2 src { s1 with S:=S'.aV md (IntKind.i64.wrap (a+ (j:Int))) (B[j]'hjl) }) F w):=λW h=>hsb.out _ j (B[j]'hjl) W h
     obtain⟨f,hf⟩ : ∃f,S'.bR md (IntKind.i64.wrap (a+ (j:Int))) true=f:=⟨_,rfl⟩
     rw[hf]at hs hsj
     obtain⟨S2,hS2⟩ : ∃S2,S'.aV md (IntKind.i64.wrap (a+ (j:Int))) (B[j]'hjl) =S2:=⟨_,rfl⟩
     rw[hS2]at hs hsj
     have tl:decide ((j:Int) < (B.size:Int)) =true:=decide_eq_true oM
     clear hS2 hf hdr hjl2
     replace hsj:=hid hsj
     replace hr:=hid hr
     replace hj:=hid hj
     by_cases hf:f=0
     ·subst hf
      rw[if_pos rfl]at hs
      replace hs:=hid hs
      go_wp2_with fail
      go_region_held (λw'=>w'.cell? (g,0) =some (c.gM:Vl)∧w'.cell? (g,1) =some (x2.mode:Vl)∧w'.cell? (c.gM,0) =some (c.gI:Vl)) (go_keep)
       ((first
         | (go_at_call 140;refine(hsj.out _ hr.out).mono ?_;rintro e w8 ⟨rfl,h8⟩;simp only[];have⟨k0,k1,k2,k3⟩:=hcell.out _ _ _ h8;replace h8:=hid h8)
         | (go_at_call 64;refine(bD _).mono ?_;rintro e w9 ⟨rfl,rfl⟩;simp only[])))
      all_goals go_wp2
      all_goals go_roundg (gk-1)
      all_goals first
       | (have:=hj.out;omega)
       | exact⟨j+1,S2,by have:=hj.out;omega,by go_num,h8.out,hs.out⟩
     ·rw[if_neg hf]at hs
      have ht:=hid (λw=>cG f hf w)
      have hQf:Q= (f,S2):=hs.symm
      have hE2:EE = .panicked [flt f]:=by rw[<-hEE.out,hQf];exact if_neg hf
      rw[hE2,hQf]
      clear hQf hE2 hs
      replace hf:=hid hf
      go_wp2_with fail
      go_region_held (λw'=>w'.cell? (g,0) =some (c.gM:Vl)∧w'.cell? (g,1) =some (x2.mode:Vl)∧w'.cell? (c.gM,0) =some (c.gI:Vl)) (go_keep)
       ((first
         | (go_at_call 140;refine(hsj.out _ hr.out).mono ?_;rintro e w8 ⟨rfl,h8⟩;simp only[];have⟨k0,k1,k2,k3⟩:=hcell.out _ _ _ h8;replace h8:=hid h8)
         | (go_at_call 64;refine dead (ht.out _) ⟨rfl,rfl,h8.out⟩ ?_;intro hF e w9 he hw;subst he;subst hw;replace hF:=hid hF)))
      all_goals exact hF.out.elim
    ·have hnil:B.data.toList.drop j = []:=List.drop_eq_nil_iff.2 (by simp only[Array.length_toList];show B.size<=j;omega)
     rw[hnil]at hs
     have hs2: (0,S') =Q:=hs
     have hE2:EE = .returned (B.size:Int):=by rw[<-hEE.out,<-hs2];rfl
     have hS:Q.2=S':=by rw[<-hs2]
     have hr2:On F w (VA c g x2 src { s1 with S:=Q.2 }) wr:=by rw[hS];exact hr
     replace hE2:=hid hE2
     replace hr2:=hid hr2
     clear hs hs2 hnil hS
     have tl:decide ((j:Int) < (B.size:Int)) =false:=decide_eq_false oM
     replace hr:=hid hr
     replace hj:=hid hj
     replace hjl:=hid hjl
     go_wp2
     go_ret
     refine⟨?_,hr2.out⟩
     rw[hE2.out]
     rfl
end
def Ag(x:Rn)(s:Mt) :Rs×List Int:=(⟨(eh x s (ar s 2 0) (ar s 2 1)).1,x.pay (ar s 2 1),(eh x s (ar s 2 0) (ar s 2 1)).2⟩,[((Caps.cN s.T x.mode (ar s 2 1)).size:Int)])
theorem Ho(arg lit cells:Int) :bn 102 (λg=> #[.pointer (some ⟨g,0,none⟩)]) ⟨84,arg,lit,cells⟩ Ag:=by
 intro c g x src s ba w F hs hx hask hb
 have hw2: (Code.ah 84).1.toNat=2:=by decide
 simp only[hw2]at hb⊢
 have hon:=On.refl hb
 have hcell : ∀x2 s2 W,On F w (aa (ae ba 3 (af (s.args 2)) ::vL c g x2 src s2)) W->W.cell? (ba,0) =some ((ar s 2 0) :Vl)∧W.cell? (ba,1) =some ((ar s 2 1) :Vl):=λx2 s2 W h=>⟨ai (h.ab 0 rfl) oM,ai (h.ab 0 rfl) oM⟩
 have⟨a0,a1⟩:=hcell _ _ _ hon
 have hc : ∀W,On F w (aa (ae ba 3 (af (s.args 2)) ::vL c g x src s)) W->Calls Tryz.prog 149 #[g,(ar s 2 0),(ar s 2 1)] W (Got (ju x s (ar s 2 0) (ar s 2 1)) (aa (ae ba 3 (af (s.args 2)) ::vL c g (x.pay (ar s 2 1)) src (eh x s (ar s 2 0) (ar s 2 1)).2)) F w):=λW h=>h.aW λF' hb' _ _=>Ia hb' hx _ _ (aL s 2 0) (aL s 2 1)
 have hq:ju x s (ar s 2 0) (ar s 2 1) =if(eh x s (ar s 2 0) (ar s 2 1)).1=0 then .returned ((Caps.cN s.T x.mode (ar s 2 1)).size:Int)else .panicked [flt (eh x s (ar s 2 0) (ar s 2 1)).1]:=rfl
 rw[hq]at hc
 unfold Ag
 simp only
 clear hq
 generalize (eh x s (ar s 2 0) (ar s 2 1)).2=s2 at *
 generalize (eh x s (ar s 2 0) (ar s 2 1)).1=f at *
 generalize ((Caps.cN s.T x.mode (ar s 2 1)).size:Int) =v at *
 generalize x.pay (ar s 2 1) =x2 at *
 generalize ar s 2 0=X at *
 generalize ar s 2 1=Y at *
 show Calls _ _ #[g,(84:Int),.slice ba 2 2] _ _
 generalize af (s.args 2) =ac at *
 replace hcell:=hid hcell
 replace hon:=hid hon
 clear hb hw2 hask hs hx
 by_cases hf:f=0
 ·simp only[if_pos hf]at hc⊢
  clear hf
  replace hc:=hid hc
  go_enter Tryz.func102,Tryz.ntmps102
  go_wp2_with fail
  go_region_held (λw'=>w'.cell? (ba,0) =some (X:Vl)∧w'.cell? (ba,1) =some (Y:Vl)) (go_keep)
   ((go_at_call 149;refine(hc.out _ hon.out.drew).mono ?_;rintro e w5 ⟨rfl,hn5⟩;simp only[];have⟨n0,n1⟩:=hcell.out _ _ _ hn5;have z0:=World.new_ne w5 _ n0;have h6:=hid (hn5.tail.box #[v] 3);replace hn5:=hid hn5))
  all_goals go_wp2
  all_goals go_ret
  all_goals exact⟨some ⟨_,0,none⟩,1,ae _ 3 (af [v]),rfl,ay _ _,h6.out⟩
 ·simp only[if_neg hf]at hc⊢
  replace hf:=hid hf
  replace hc:=hid hc
  go_enter Tryz.func102,Tryz.ntmps102
  go_wp2_with fail
  have z0:=World.new_ne w _ a0
  go_region_held (λw'=>w'.cell? (ba,0) =some (X:Vl)∧w'.cell? (ba,1) =some (Y:Vl)) (go_keep)
   ((go_at_call 149;refine tt (hc.out _ hon.out.drew) (λw' h=>⟨rfl,rfl,h.tail⟩) (.int .i64 0) ?_;intro hF e w6 he hw;subst he;subst hw;replace hF:=hid hF;simp only[]))
  all_goals exact hF.out.elim
def HR:Kn:=λc src s=>src = .pointer none
def kV(x:Rn)(s:Mt) :Rs:=⟨15,x,s⟩
theorem xy:xc HR kV:=by
 intro c g x src s w F hp hs hx hb
 obtain rfl:src = .pointer none:=hp
 have hon:=On.refl hb
 have r8:=hon.r8
 show Calls _ _ _ _ (Got (.panicked [flt 15]) _ _ _)
 replace hon:=hid hon
 clear hb hs hx
 go_enter Tryz.func103,Tryz.ntmps103
 go_wp2_with fail
 refine(bV _ _).mono ?_
 rintro e w1 ⟨rfl,rfl⟩
 exact⟨rfl,rfl,hon.out⟩
theorem nH(arg lit cells:Int) :dE HR ⟨85,arg,lit,cells⟩ kV:=xQ HR arg lit cells kV xy
theorem Mj(arg lit cells:Int) :cE Wk 102 (λg=> #[.pointer (some ⟨g,0,none⟩)]) ⟨82,arg,lit,cells⟩ (jI):=by
 intro c g x src s ba w F hp hs hx hask hb
 have hw2: (Code.ah 82).1.toNat=2:=by decide
 simp only[hw2]at hb⊢
 have hon:=On.refl hb
 have hcell : ∀s2 W,On F w (aa (ae ba 3 (af (s.args 2)) ::vL c g x src s2)) W->W.cell? (g,0) =some (c.gM:Vl)∧W.cell? (c.gM,0) =some (c.gI:Vl)∧W.cell? (ba,0) =some ((ar s 2 0) :Vl)∧W.cell? (ba,1) =some ((ar s 2 1) :Vl):=λs2 W h=>⟨h.tail.r0,h.tail.m0,ai (h.ab 0 rfl) oM,ai (h.ab 0 rfl) oM⟩
 have⟨r0,m0,a0,a1⟩:=hcell _ _ hon
 obtain⟨gb,hi⟩:=hon.drew.img 3 rfl
 have hbs:=AB (hon.drew.ab 2 rfl) hi
 have hce : ∀W,On F w (aa (ae ba 3 (af (s.args 2)) ::vL c g x src s)) W->Calls Tryz.prog 68 #[c.gI,(0:Int),(s.S.beg 3:Int)] W (λe w'=>e = .returned (.tuple #[(dI s),(s.S.az 0 (s.S.beg 3) false)])∧Below W.heap.size W w'):=λW h=>by
  obtain⟨gb,hi⟩:=h.img 3 rfl
  exact jE hi 0 (s.S.beg 3)
 have hbw:=λw=>kT (dI s) w
 have hpr : ∀W,On F w (aa (ae ba 3 (af (s.args 2)) ::vL c g x src s)) W->Calls Tryz.prog 153 #[(ar s 2 0),(dI s),(ar s 2 1)] W (ey (.string ⟨(jR s).toArray⟩) W):=λW h=>by
  obtain⟨hP,hB⟩:=hp.NR [ae ba 3 (af (s.args 2))] h
  exact wX (ar s 2 0) (aL s 2 0) (dI s) (ar s 2 1) (aL s 2 1) W hP hB
 have hlen: (decide (0<=ar s 2 1) &&decide (ar s 2 1<=255)) =true->(jR s).length<=1000:=λhd=>by
  have:=ma (aL s 2 0) (dI s)
  simp only[Bool.and_eq_true,decide_eq_true_eq]at hd
  unfold jR pP
  simp only[List.length_append,List.length_replicate]
  have:pB (ar s 2 1) (fG (ar s 2 0) (dI s))<=255:=by unfold pB;omega
  omega
 have hou: (decide (0<=ar s 2 1) &&decide (ar s 2 1<=255)) =true->∀W,On F w (aa (ae ba 3 (af (s.args 2)) ::vL c g x src s)) W->Calls Tryz.prog 146 #[g,.string ⟨(jR s).toArray⟩] W (Got (bO (iA x s ⟨(jR s).toArray⟩)) (aa (ae ba 3 (af (s.args 2)) ::vL c g x src (s.fl x ⟨(jR s).toArray⟩))) F w):=λhd W h=>h.aW λF' hb' _ _=>Cq hb' _ (by
  have:=hlen hd
  show(jR s).toArray.size<=maxLen
  unfold maxLen
  simp only[List.size_toArray]
  omega)
 have hbo:lP s= (decide (2<=dI s) &&decide (dI s<=36)):=rfl
 rw[<-hbo]at hbw
 unfold jI
 generalize iA x s ⟨(jR s).toArray⟩ =f at *
 generalize s.fl x ⟨(jR s).toArray⟩ =s2 at *
 generalize jR s=R at *
 clear hbo hlen
 generalize lP s=o at *
 generalize dI s=bv at *
 generalize s.S.az 0 (s.S.beg 3) false=cf at *
 generalize ((s.S.beg 3:Nat) :Int) =bg at *
 generalize ar s 2 0=X at *
 generalize ar s 2 1=Y at *
 show Calls _ _ #[g,(82:Int),.slice ba 2 2] _ _
 generalize af (s.args 2) =ac at *
 replace hcell:=hid hcell
 replace hbs:=hid hbs
 replace hce:=hid hce
 replace hbw:=hid hbw
 replace hpr:=hid hpr
 replace hou:=hid hou
 replace hon:=hid hon
 clear hb hw2 hask hs hx hp hi
 rcases o with _|_
 ·simp only[Bool.false_eq_true,false_and,if_false]
  simp only[show¬(19:Int) =0 by decide,if_false]
  go_enter Tryz.func102,Tryz.ntmps102
  go_wp2_with fail
  go_region_held (λw'=>w'.cell? (g,0) =some (c.gM:Vl)∧w'.cell? (c.gM,0) =some (c.gI:Vl)) (go_keep)
   ((first| (go_at_call 56;refine hbs.out.mono ?_;rintro e w5 ⟨rfl,hb5⟩;simp only[];have hn5:=hon.out.drew.below hb5;have⟨n0,n1,n2,n3⟩:=hcell.out _ _ hn5;clear hb5;replace hn5:=hid hn5) | (go_at_call 68;refine(hce.out _ hn5.out).mono ?_;rintro e w6 ⟨rfl,hb6⟩;simp only[];have hn6:=hn5.out.below hb6;have⟨o0,o1,o2,o3⟩:=hcell.out _ _ hn6;clear hb6;replace hn6:=hid hn6)))
  all_goals go_wp2_with fail
  refine(hbw.out _).mono ?_
  rintro e w7 ⟨rfl,rfl⟩
  simp only[]
  go_wp2_with fail
  refine(bV _ _).mono ?_
  rintro e w8 ⟨rfl,rfl⟩
  exact⟨rfl,rfl,hn6.out.tail⟩
 ·by_cases hY:0<=Y
  ·have t1:decide (0<=Y) =true:=decide_eq_true hY
   by_cases hZ:Y<=255
   ·have t2:decide (Y<=255) =true:=decide_eq_true hZ
    simp only[t1,t2,Bool.and_true,and_self,if_true]
    replace hou:=hid (hou.out (by rw[t1,t2];rfl))
    clear hY hZ
    by_cases hf:f=0
    ·simp only[if_pos hf]
     have e2:bO f = .returned (.tuple #[]):=by unfold bO;rw[if_pos hf]
     rw[e2]at hou
     clear e2 hf
     go_enter Tryz.func102,Tryz.ntmps102
     go_wp2_with fail
     go_region_held (λw'=>w'.cell? (g,0) =some (c.gM:Vl)∧w'.cell? (c.gM,0) =some (c.gI:Vl)) (go_keep)
      ((first| (go_at_call 56;refine hbs.out.mono ?_;rintro e w5 ⟨rfl,hb5⟩;simp only[];have hn5:=hon.out.drew.below hb5;have⟨n0,n1,n2,n3⟩:=hcell.out _ _ hn5;clear hb5;replace hn5:=hid hn5) | (go_at_call 68;refine(hce.out _ hn5.out).mono ?_;rintro e w6 ⟨rfl,hb6⟩;simp only[];have hn6:=hn5.out.below hb6;have⟨o0,o1,o2,o3⟩:=hcell.out _ _ hn6;clear hb6;replace hn6:=hid hn6)))
     all_goals go_wp2_with fail
     refine(hbw.out _).mono ?_
     rintro e w7 ⟨rfl,rfl⟩
     simp only[]
     go_wp2_with fail
     refine(bF _ _).mono ?_
     rintro e w8 ⟨rfl,rfl⟩
     simp only[]
     go_wp2_with fail
     refine(bF _ _).mono ?_
     rintro e w9 ⟨rfl,rfl⟩
     simp only[]
     go_wp2_with fail
     have hd9:=hid hn6.out.drew
     have⟨q0,q1,q2,q3⟩:=hcell.out _ _ hd9.out
     go_region_held (λw'=>w'.cell? (ba,0) =some (X:Vl)∧w'.cell? (ba,1) =some (Y:Vl)) (go_keep)
      ((first
       | (go_at_call 153;refine(hpr.out _ hd9.out).mono ?_;rintro e w10 ⟨rfl,hk9⟩;simp only[];have hn9:=hd9.out.pQ hk9;have⟨u0,u1,u2,u3⟩:=hcell.out _ _ hn9;replace hn9:=hid hn9;clear hk9)
       | (go_at_call 146;refine(hou.out _ hn9.out).mono ?_;rintro e w11 ⟨rfl,h10⟩;simp only[];have⟨y0,y1,y2,y3⟩:=hcell.out _ _ h10;replace h10:=hid h10)))
     all_goals go_wp2
     all_goals go_ret
     all_goals exact⟨none,0,_,rfl,br _,h10.out⟩
    ·simp only[if_neg hf]
     rw[eD hf]at hou
     replace hf:=hid hf
     go_enter Tryz.func102,Tryz.ntmps102
     go_wp2_with fail
     go_region_held (λw'=>w'.cell? (g,0) =some (c.gM:Vl)∧w'.cell? (c.gM,0) =some (c.gI:Vl)) (go_keep)
      ((first| (go_at_call 56;refine hbs.out.mono ?_;rintro e w5 ⟨rfl,hb5⟩;simp only[];have hn5:=hon.out.drew.below hb5;have⟨n0,n1,n2,n3⟩:=hcell.out _ _ hn5;clear hb5;replace hn5:=hid hn5) | (go_at_call 68;refine(hce.out _ hn5.out).mono ?_;rintro e w6 ⟨rfl,hb6⟩;simp only[];have hn6:=hn5.out.below hb6;have⟨o0,o1,o2,o3⟩:=hcell.out _ _ hn6;clear hb6;replace hn6:=hid hn6)))
     all_goals go_wp2_with fail
     refine(hbw.out _).mono ?_
     rintro e w7 ⟨rfl,rfl⟩
     simp only[]
     go_wp2_with fail
     refine(bF _ _).mono ?_
     rintro e w8 ⟨rfl,rfl⟩
     simp only[]
     go_wp2_with fail
     refine(bF _ _).mono ?_
     rintro e w9 ⟨rfl,rfl⟩
     simp only[]
     go_wp2_with fail
     have hd9:=hid hn6.out.drew
     have⟨q0,q1,q2,q3⟩:=hcell.out _ _ hd9.out
     go_region_held (λw'=>w'.cell? (ba,0) =some (X:Vl)∧w'.cell? (ba,1) =some (Y:Vl)) (go_keep)
      ((first
       | (go_at_call 153;refine(hpr.out _ hd9.out).mono ?_;rintro e w10 ⟨rfl,hk9⟩;simp only[];have hn9:=hd9.out.pQ hk9;have⟨u0,u1,u2,u3⟩:=hcell.out _ _ hn9;replace hn9:=hid hn9;clear hk9)
       | (go_at_call 146;refine tt (hou.out _ hn9.out) (λw' h=>⟨rfl,rfl,h.tail⟩) (.tuple #[]) ?_;intro hF e w11 he hw;subst he;subst hw;replace hF:=hid hF)))
     all_goals exact hF.out.elim
   ·have t2:decide (Y<=255) =false:=decide_eq_false hZ
    simp only[t1,t2,Bool.and_false,Bool.false_eq_true,and_false,if_false]
    simp only[show¬(19:Int) =0 by decide,if_false]
    clear hY hZ hou
    go_enter Tryz.func102,Tryz.ntmps102
    go_wp2_with fail
    go_region_held (λw'=>w'.cell? (g,0) =some (c.gM:Vl)∧w'.cell? (c.gM,0) =some (c.gI:Vl)) (go_keep)
     ((first| (go_at_call 56;refine hbs.out.mono ?_;rintro e w5 ⟨rfl,hb5⟩;simp only[];have hn5:=hon.out.drew.below hb5;have⟨n0,n1,n2,n3⟩:=hcell.out _ _ hn5;clear hb5;replace hn5:=hid hn5) | (go_at_call 68;refine(hce.out _ hn5.out).mono ?_;rintro e w6 ⟨rfl,hb6⟩;simp only[];have hn6:=hn5.out.below hb6;have⟨o0,o1,o2,o3⟩:=hcell.out _ _ hn6;clear hb6;replace hn6:=hid hn6)))
    all_goals go_wp2_with fail
    refine(hbw.out _).mono ?_
    rintro e w7 ⟨rfl,rfl⟩
    simp only[]
    go_wp2_with fail
    refine(bF _ _).mono ?_
    rintro e w8 ⟨rfl,rfl⟩
    simp only[]
    go_wp2_with fail
    refine(bV _ _).mono ?_
    rintro e w9 ⟨rfl,rfl⟩
    exact⟨rfl,rfl,hn6.out.tail⟩
  ·have t1:decide (0<=Y) =false:=decide_eq_false hY
   simp only[t1,Bool.false_and,Bool.false_eq_true,and_false,if_false]
   simp only[show¬(19:Int) =0 by decide,if_false]
   clear hY hou
   go_enter Tryz.func102,Tryz.ntmps102
   go_wp2_with fail
   go_region_held (λw'=>w'.cell? (g,0) =some (c.gM:Vl)∧w'.cell? (c.gM,0) =some (c.gI:Vl)) (go_keep)
    ((first| (go_at_call 56;refine hbs.out.mono ?_;rintro e w5 ⟨rfl,hb5⟩;simp only[];have hn5:=hon.out.drew.below hb5;have⟨n0,n1,n2,n3⟩:=hcell.out _ _ hn5;clear hb5;replace hn5:=hid hn5) | (go_at_call 68;refine(hce.out _ hn5.out).mono ?_;rintro e w6 ⟨rfl,hb6⟩;simp only[];have hn6:=hn5.out.below hb6;have⟨o0,o1,o2,o3⟩:=hcell.out _ _ hn6;clear hb6;replace hn6:=hid hn6)))
   all_goals go_wp2_with fail
   refine(hbw.out _).mono ?_
   rintro e w7 ⟨rfl,rfl⟩
   simp only[]
   go_wp2_with fail
   refine(bF _ _).mono ?_
   rintro e w8 ⟨rfl,rfl⟩
   simp only[]
   go_wp2_with fail
   refine(bV _ _).mono ?_
   rintro e w9 ⟨rfl,rfl⟩
   exact⟨rfl,rfl,hn6.out.tail⟩
end Vm
end Go.Proofs.YtjohhkikoejadaaGreatDoor
