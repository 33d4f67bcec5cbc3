/- Chapter 11. Conditions: as written. -/
import Derived.Test.YtilaogbkdbbdkaaGreatDoorOm
import Derived.Test.YtilaogbkdbbdkaaGreatDoorZ29
import Derived.Test.YtilaogbkdbbdkaaGreatDoorZ10
open Go.Proofs.Tryz
namespace Go.Proofs.YtilaogbkdbbdkaaGreatDoor
set_option linter.unusedVariables false
set_option linter.unusedSimpArgs false
set_option maxHeartbeats 8000000
set_option maxRecDepth 100000
open Go.RowKit Go.Lib Go.Deep
namespace Vm
def dK(s:Mt):Dc:=⟨1,s.hk.toNat,s.lk.toNat⟩
structure Wk(c:Vc)(src:Value)(s:Mt):Prop where
 dcs:Dcs c src s
 hk:0<=s.hk
 lk:0<=s.lk
 kat:At8 s.S (dK s) c.kfr c.kto
 ws: ∃i:Nat,∀e,(c.rest e)[i]? = some (kL c.ws [c.gS,c.gK])
 tab: ∃(i:Nat) (A:Asr),(∀e,(c.rest e)[i]? = some A)∧∀w F,A.holds w F->Pows w∧Bruijn w
 src:src = .pointer none∨∃gs L,HR c src s gs L
 v1:V64 s.fault
 v2:V64 s.used
 v3:V64 s.hidden
theorem Ct{c:Vc}{g:Nat}{x:Rn}{src:Value}{s2:Mt}{i:Nat}{A:Asr}(hA: ∀e,(c.rest e)[i]? = some A)(L:List Asr): (L++vL c g x src s2)[L.length+ (9+i)]? = some A:=by
 rw[List.getElem?_append_right oM,show L.length+ (9+i) -L.length=9+i by omega]
 have e:vL c g x src s2 = [nc c g x src,jQb c s2,av c.gI s2.S,cS c.gI c.gD s2.pd s2.d,cS c.gI c.gR s2.pr s2.r,dF c.gT s2.T,kD c.gI c.gS c.sfr c.sto s2.hs s2.ls,kD c.gI c.gK c.kfr c.kto s2.hk s2.lk,c.tl s2.seen]++c.rest s2.ext:=rfl
 rw[e,List.getElem?_append_right (by simp)]
 have e2:9+i-List.length [nc c g x src,jQb c s2,av c.gI s2.S,cS c.gI c.gD s2.pd s2.d,cS c.gI c.gR s2.pr s2.r,dF c.gT s2.T,kD c.gI c.gS c.sfr c.sto s2.hs s2.ls,kD c.gI c.gK c.kfr c.kto s2.hk s2.lk,c.tl s2.seen]=i:=by simp
 rw[e2]
 exact hA _
theorem Wk.Qg{w w':World}{F:Nat->Prop}{c:Vc}{g:Nat}{x:Rn}{src:Value}{s s2:Mt}(h:Wk c src s)(L:List Asr)(so:On F w (aa (L++vL c g x src s2)) w'):Pows w'∧Bruijn w':=by
 obtain⟨i,A,hA,ht⟩:=h.tab
 obtain⟨F',hF⟩:=so.at_ _ (Ct (c:=c) (g:=g) (x:=x) (src:=src) (s2:=s2) hA L)
 exact ht _ _ hF
theorem qi{P:Program}{f:FuncId}{args:Array Value}{w w0:World}{Q:Ending->World->Prop}{n:Int}{A:Asr}{F:Nat->Prop}(hc:Calls P f args w (Got (.panicked [flt n]) A F w0))(hp: ∀w',On F w0 A w'->Q (.panicked [flt n]) w')
 (v:Value) (hk:False->∀e w',e = .returned v->w'=w->Q e w'):Calls P f args w Q:=hc.mono λe w' h=>by
 obtain⟨rfl,h⟩:=h
 exact hp w' h
theorem PJ{P:Program}{f:FuncId}{args:Array Value}{w:World}(h:False):Calls P f args w (ax (.tuple #[]) w):=h.elim
theorem On.qI{w w' w2:World}{F:Nat->Prop}{A:Asr}(h:On F w A w')(hk:Kept Nob w' w2):On F w A w2:=h.gu hk
theorem Oa(arg lit cells:Int):cO Wk 108 (λg=>#[.pointer (some ⟨g,0,none⟩)]) ⟨78,arg,lit,cells⟩ (λx s=>(⟨i6 x s ⟨#[byteOf (ar s 1 0)]⟩,x,s.eT x ⟨#[byteOf (ar s 1 0)]⟩⟩,[])):=by
 intro c g x src s ba w F hp hs hx IT hb
 have Q8: (Code.ai 78).1.toNat=1:=by decide
 simp only[Q8]at hb⊢
 have so:=On.refl hb
 have a0:=aj ((On.refl hb).ab 0 rfl) (j:=0) oM
 have hc: ∀(B:Asr) W,On F w (aa (B::ae ba 3 (ag (s.args 1))::vL c g x src s)) W->Calls prog 155 #[g,.string ⟨#[byteOf (ar s 1 0)]⟩] W (Got (bp (i6 x s ⟨#[byteOf (ar s 1 0)]⟩)) (aa (B::ae ba 3 (ag (s.args 1))::vL c g x src (s.eT x ⟨#[byteOf (ar s 1 0)]⟩))) F w):=λB W h=>h.aM λF' RJ _ _=>(On.refl RJ).aM λF'' SG _ _=>CL SG _ (by show 1<=maxLen;unfold maxLen;omega)
 have Sv:IntKind.u8.wrap (ar s 1 0)= ((byteOf (ar s 1 0)).toNat:Int):=(l6 _).symm
 generalize i6 x s ⟨#[byteOf (ar s 1 0)]⟩=f at *
 generalize s.eT x ⟨#[byteOf (ar s 1 0)]⟩=s2 at *
 generalize byteOf (ar s 1 0)=bt at *
 generalize ar s 1 0=X at *
 show Calls _ _ #[g,(78:Int),.slice ba 1 1] _ _
 generalize ag (s.args 1)=ac at *
 have Vu:=λ(w:World)=>run_convert_bytes_arg (P:=prog) (w.alloc (.cells #[.int .u8 (bt.toNat:Int)] 5)) 93 5 underlying93 underlying5 w.heap.size 0 1 1 [(bt.toNat:Int)] rfl
  (λi hi=>by obtain rfl:i=0:=by omega
             simp) 9 underlying9
 have R1:strOfNums [(bt.toNat:Int)]= ⟨#[bt]⟩:=by simp[strOfNums]
 rw[R1]at Vu
 have Re:=so.box #[.int .u8 (bt.toNat:Int)] 5
 have hc:=hc _ _ Re
 replace⟨hc,so⟩:=iB hc so
 clear hb Q8 IT hs hx hp R1 Re
 by_cases hf:f=0
 ·simp only[if_pos hf]
  subst hf
  go_enter func108,ntmps108
  go_wp2_with fail
  refine mo hc.out λw1 h1=>?_
  replace h1:=hid h1
  go_wp2
  go_ret
  exact⟨none,0,_,rfl,bA _,h1.out.tail⟩
 ·simp only[if_neg hf]
  rw[cB hf]at hc
  replace hf:=hid hf
  go_enter func108,ntmps108
  go_wp2_with fail
  refine mo hc.out λw1 h1=>?_
  exact⟨rfl,rfl,h1.tail.tail⟩
def kG(x:Rn)(s:Mt):Rs×List Int:=
 if cP x s (ar s 2 0) (ar s 2 1)=0 then(⟨i6 (x.pay (ar s 2 1)) s (s.S.text x.mode (ar s 2 0) (ar s 2 1)),x.pay (ar s 2 1),s.eT (x.pay (ar s 2 1)) (s.S.text x.mode (ar s 2 0) (ar s 2 1))⟩,[])else(⟨cP x s (ar s 2 0) (ar s 2 1),x.pay (ar s 2 1),s⟩,[])
theorem pi(S:Img)(hS:S.Ok)(m a n:Int): (S.text m a n).size<=143360:=by
 unfold Img.text
 split
 ·show(S.bytes a n.toNat).toArray.size<=_
  have h1:=hS.small
  have h2:=hS.len
  simp only[List.size_toArray,Img.bytes,List.length_take,List.length_drop]
  omega
 ·show(0:Nat)<=_;omega
theorem Pf(arg lit cells:Int):cO Wk 108 (λg=>#[.pointer (some ⟨g,0,none⟩)]) ⟨79,arg,lit,cells⟩ (kG):=by
 intro c g x src s ba w F hp hs hx IT hb
 have Q8: (Code.ai 79).1.toNat=2:=by decide
 simp only[Q8]at hb⊢
 have so:=On.refl hb
 have a0:=aj ((On.refl hb).ab 0 rfl) (j:=0) oM
 have a1:=aj ((On.refl hb).ab 0 rfl) (j:=1) oM
 have hsz: (s.S.text x.mode (ar s 2 0) (ar s 2 1)).size<=maxLen:=by
  obtain⟨gb,hi⟩:=so.img 3 rfl
  have:=pi s.S hi.ok x.mode (ar s 2 0) (ar s 2 1)
  unfold maxLen
  omega
 have th: ∀x2 s2 W,On F w (aa (ae ba 3 (ag (s.args 2))::vL c g x2 src s2)) W->W.cell? (ba,0)=some ((ar s 2 0):Vl)∧W.cell? (ba,1)=some ((ar s 2 1):Vl):=λx2 s2 W h=>⟨aj (h.ab 0 rfl) oM,aj (h.ab 0 rfl) oM⟩
 have Si: ∀W,On F w (aa (ae ba 3 (ag (s.args 2))::vL c g x src s)) W->Calls prog 156 #[g,(ar s 2 0),(ar s 2 1)] W (Got (gO (cP x s (ar s 2 0) (ar s 2 1)) (s.S.text x.mode (ar s 2 0) (ar s 2 1))) (aa (ae ba 3 (ag (s.args 2))::vL c g (x.pay (ar s 2 1)) src s)) F w):=λW h=>h.aM λF' RJ _ _=>mS RJ hx _ _ (aN s 2 1)
 have RZ: ∀W,On F w (aa (ae ba 3 (ag (s.args 2))::vL c g (x.pay (ar s 2 1)) src s)) W->Calls prog 155 #[g,.string (s.S.text x.mode (ar s 2 0) (ar s 2 1))] W (Got (bp (i6 (x.pay (ar s 2 1)) s (s.S.text x.mode (ar s 2 0) (ar s 2 1)))) (aa (ae ba 3 (ag (s.args 2))::vL c g (x.pay (ar s 2 1)) src (s.eT (x.pay (ar s 2 1)) (s.S.text x.mode (ar s 2 0) (ar s 2 1))))) F w):=λW h=>h.aM λF' RJ _ _=>CL RJ _ hsz
 unfold kG
 generalize cP x s (ar s 2 0) (ar s 2 1)=f1 at *
 generalize i6 (x.pay (ar s 2 1)) s (s.S.text x.mode (ar s 2 0) (ar s 2 1))=f2 at *
 generalize s.eT (x.pay (ar s 2 1)) (s.S.text x.mode (ar s 2 0) (ar s 2 1))=s2 at *
 generalize s.S.text x.mode (ar s 2 0) (ar s 2 1)=t at *
 generalize x.pay (ar s 2 1)=x2 at *
 generalize ar s 2 0=X at *
 generalize ar s 2 1=Y at *
 show Calls _ _ #[g,(79:Int),.slice ba 2 2] _ _
 generalize ag (s.args 2)=ac at *
 replace⟨th,Si,RZ,so⟩:=iD th Si RZ so
 clear hb Q8 IT hs hx hp hsz
 by_cases hf:f1=0
 ·simp only[if_pos hf]
  have e1:gO f1 t = .returned (.string t):=by unfold gO;rw[if_pos hf]
  rw[e1]at Si
  clear e1 hf
  by_cases RG:f2=0
  ·simp only[if_pos RG]
   have e2:bp f2 = .returned (.tuple #[]):=by unfold bp;rw[if_pos RG]
   rw[e2]at RZ
   clear e2 RG
   go_enter func108,ntmps108
   go_wp2_with fail
   go_region_held (λw'=>w'.cell? (ba,0)=some (X:Vl)∧w'.cell? (ba,1)=some (Y:Vl)) (go_keep)
    ((first
      | (go_at_call 156;refine mo (Si.out _ so.out.drew) λw5 Q7=>?_;simp only[];have⟨n0,n1⟩:=th.out _ _ _ Q7;replace Q7:=hid Q7)
      | (go_at_call 155;refine mo (RZ.out _ Q7.out) λw6 R8=>?_;simp only[];have⟨o0,o1⟩:=th.out _ _ _ R8;replace R8:=hid R8)))
   all_goals go_wp2
   all_goals go_ret
   all_goals exact⟨none,0,_,rfl,bA _,R8.out⟩
  ·simp only[if_neg RG]
   rw[cB RG]at RZ
   replace RG:=hid RG
   go_enter func108,ntmps108
   go_wp2_with fail
   go_region_held (λw'=>w'.cell? (ba,0)=some (X:Vl)∧w'.cell? (ba,1)=some (Y:Vl)) (go_keep)
    ((first
      | (go_at_call 156;refine mo (Si.out _ so.out.drew) λw5 Q7=>?_;simp only[];have⟨n0,n1⟩:=th.out _ _ _ Q7;replace Q7:=hid Q7)
      | (go_at_call 155;refine qi (RZ.out _ Q7.out) (λw' h=>⟨rfl,rfl,h.tail⟩) (.tuple #[]) ?_;intro hF e w6 he hw;subst he;subst hw;replace hF:=hid hF)))
   all_goals exact hF.out.elim
 ·simp only[if_neg hf]
  rw[ld hf]at Si
  replace hf:=hid hf
  go_enter func108,ntmps108
  go_wp2_with fail
  go_region_held (λw'=>w'.cell? (ba,0)=some (X:Vl)∧w'.cell? (ba,1)=some (Y:Vl)) (go_keep)
   ((first
    | (go_at_call 156;refine qi (Si.out _ so.out.drew) (λw' h=>⟨rfl,rfl,h.tail⟩) (.string t) ?_;intro hF e w6 he hw;subst he;subst hw;replace hF:=hid hF)
    | (go_at_call 155;refine(PJ hF.out).mono ?_;rintro e w7 ⟨rfl,rfl⟩;simp only[])))
  all_goals exact hF.out.elim
def yw(x:Rn)(s:Mt):Rs×List Int:=(⟨af.jI s.T x.mode,x,{ s with T:=af.fE s.T x.mode }⟩,[af.ja s.T x.mode])
theorem Cn(T:af.Tab)(m:Int):0<=af.ja T m∧af.ja T m<256:=by
 unfold af.ja
 split
 ·split
  ·omega
  ·rename_i c l _
   have:=c.toNat_lt
   omega
 ·omega
theorem PR(arg lit cells:Int):cO Wk 108 (λg=>#[.pointer (some ⟨g,0,none⟩)]) ⟨83,arg,lit,cells⟩ (yw):=by
 intro c g x src s ba w F hp hs hx IT hb
 have Q8: (Code.ai 83).1.toNat=0:=by decide
 simp only[Q8]at hb⊢
 have so:=On.refl hb
 have th: ∀s2 W,On F w (aa (ae ba 3 (ag (s.args 0))::vL c g x src s2)) W->W.cell? (g,0)=some (c.gM:Vl)∧W.cell? (c.gM,3)=some (c.gT:Vl)∧W.cell? (g,1)=some (x.mode:Vl):=λs2 W h=>⟨h.tail.r0,h.tail.m3,h.tail.r1⟩
 have⟨r0,m3,r1⟩:=th _ _ so
 have hc:=so.drew.bG (A:=dF c.gT s.T) (A':=dF c.gT (af.fE s.T x.mode)) (e0:= .returned (.tuple #[.int .u8 (af.ja s.T x.mode),(af.jI s.T x.mode)])) 6 rfl (λF' ha=>fT ha λw0 L h=>PV h x.mode)
 have Rj: (ae ba 3 (ag (s.args 0))::vL c g x src s).set 6 (dF c.gT (af.fE s.T x.mode))=ae ba 3 (ag (s.args 0))::vL c g x src { s with T:=af.fE s.T x.mode }:=rfl
 rw[Rj]at hc
 have hu:=Cn s.T x.mode
 unfold yw
 simp only
 generalize Sw: ({ s with T:=af.fE s.T x.mode }:Mt)=s2 at *
 clear Sw Rj
 generalize af.jI s.T x.mode=f at *
 obtain⟨v,hv⟩: ∃v:Nat,af.ja s.T x.mode= (v:Int):=⟨(af.ja s.T x.mode).toNat,by omega⟩
 rw[hv]at hc hu⊢
 have hu2:v<256:=by omega
 clear hu hv
 show Calls _ _ #[g,(83:Int),.slice ba 0 0] _ _
 generalize ag (s.args 0)=ac at *
 replace⟨th,hc,so⟩:=iC th hc so
 clear hb Q8 IT hs hx hp
 by_cases hf:f=0
 ·simp only[if_pos hf]
  subst hf
  go_enter func108,ntmps108
  go_wp2_with fail
  go_region_held (λw'=>w'.cell? (g,0)=some (c.gM:Vl)∧w'.cell? (c.gM,3)=some (c.gT:Vl)∧w'.cell? (g,1)=some (x.mode:Vl)) (go_keep)
   ((go_at_call 157;refine mo hc.out λw5 Q7=>?_;simp only[];have⟨n0,n1,n2⟩:=th.out _ _ Q7;replace Q7:=hid Q7))
  all_goals go_wp2_with fail
  refine(bL _).mono ?_
  rintro e w6 ⟨rfl,rfl⟩
  simp only[]
  have h6:=hid (Q7.out.tail.box #[(v:Int)] 3)
  go_wp2
  go_ret
  exact⟨some ⟨_,0,none⟩,1,ae _ 3 (ag [(v:Int)]),rfl,aA _ _,h6.out⟩
 ·simp only[if_neg hf]
  have ht:=hid (λw=>cJ f hf w)
  replace hf:=hid hf
  go_enter func108,ntmps108
  go_wp2_with fail
  go_region_held (λw'=>w'.cell? (g,0)=some (c.gM:Vl)∧w'.cell? (c.gM,3)=some (c.gT:Vl)∧w'.cell? (g,1)=some (x.mode:Vl)) (go_keep)
   ((go_at_call 157;refine mo hc.out λw5 Q7=>?_;simp only[];have⟨n0,n1,n2⟩:=th.out _ _ Q7;replace Q7:=hid Q7))
  all_goals go_wp2_with fail
  refine(ht.out _).mono ?_
  rintro e w6 ⟨rfl,rfl⟩
  exact⟨rfl,rfl,Q7.out.tail⟩
def eb(s:Mt):Int:=s.S.aP 0 (s.S.beg 3)
def mQ(s:Mt):Bool:=decide (2<=eb s) &&decide (eb s<=36)
def jA(t:Mt->List UInt8)(x:Rn)(s:Mt):Rs×List Int:=
 if mQ s=true then(⟨i6 x s ⟨(t s).toArray⟩,x,s.eT x ⟨(t s).toArray⟩⟩,[])else(⟨19,x,s⟩,[])
def GK(s:Mt):List UInt8:=fV (ar s 1 0) (eb s)++ [32]
def yi(s:Mt):List UInt8:=eL (ar s 1 0) (eb s)++ [32]
def kE(s:Mt):List UInt8:=qK (ar s 2 0) (eb s) (ar s 2 1)
def ig(x:Rn)(s:Mt):Rs×List Int:=
 if mQ s=true∧(decide (0<=ar s 2 1) &&decide (ar s 2 1<=255))=true then(⟨i6 x s ⟨(kE s).toArray⟩,x,s.eT x ⟨(kE s).toArray⟩⟩,[])else(⟨19,x,s⟩,[])
theorem td(n b:Int): (eL n b).length<=66:=by
 unfold eL
 split
 ·rename_i h
  unfold oz
  have:=fZ (b:=b.toNat) (u:=lh n) oM (by unfold lh;omega)
  omega
 ·simp
theorem MW{op:Int}{fn:FuncId}{S:Int->Int->List UInt8}{T:Mt->List UInt8}(R0: (op=80∧fn=160)∨(op=81∧fn=161))(hT: ∀s,T s=S (ar s 1 0) (eb s)++ [32])(hS: ∀(n b:Int) (W:World),V64 n->Pows W->Bruijn W->Calls prog fn #[.int .i64 n,b] W (eQ (.string ⟨(S n b).toArray⟩) W))(hSl: ∀n b,V64 n->(S n b).length<=66)(arg lit cells:Int):cO Wk 108 (λg=>#[.pointer (some ⟨g,0,none⟩)]) ⟨op,arg,lit,cells⟩ (jA T):=by
 intro c g x src s ba w F hp hs hx IT hb
 have Q8: (Code.ai op).1.toNat=1:=by rcases R0 with⟨rfl,rfl⟩ | ⟨rfl,rfl⟩<;>decide
 simp only[Q8]at hb⊢
 have so:=On.refl hb
 have th: ∀s2 W,On F w (aa (ae ba 3 (ag (s.args 1))::vL c g x src s2)) W->W.cell? (g,0)=some (c.gM:Vl)∧W.cell? (c.gM,0)=some (c.gI:Vl)∧W.cell? (ba,0)=some ((ar s 1 0):Vl):=λs2 W h=>⟨h.tail.r0,h.tail.m0,aj (h.ab 0 rfl) oM⟩
 have⟨r0,m0,a0⟩:=th _ _ so
 obtain⟨gb,hi⟩:=so.drew.img 3 rfl
 have Wh:=Aq (so.drew.ab 2 rfl) hi
 have Ta: ∀W,On F w (aa (ae ba 3 (ag (s.args 1))::vL c g x src s)) W->Calls prog 73 #[c.gI,(0:Int),(s.S.beg 3:Int)] W (λe w'=>e = .returned (.tuple #[(eb s),(s.S.ay 0 (s.S.beg 3) false)])∧Below W.heap.size W w'):=λW h=>by
  obtain⟨gb,hi⟩:=h.img 3 rfl
  exact jT hi 0 (s.S.beg 3)
 have Rr:=λw=>l5 (eb s) w
 have hpr: ∀W,On F w (aa (ae ba 3 (ag (s.args 1))::vL c g x src s)) W->Calls prog fn #[(ar s 1 0),(eb s)] W (eQ (.string ⟨(S (ar s 1 0) (eb s)).toArray⟩) W):=λW h=>by
  obtain⟨hP,hB⟩:=hp.Qg [ae ba 3 (ag (s.args 1))] h
  exact hS _ _ W (aN s 1 0) hP hB
 have hlen: (S (ar s 1 0) (eb s)).length<=66:=hSl _ _ (aN s 1 0)
 have YT: ∀W,On F w (aa (ae ba 3 (ag (s.args 1))::vL c g x src s)) W->Calls prog 155 #[g,.string ⟨(T s).toArray⟩] W (Got (bp (i6 x s ⟨(T s).toArray⟩)) (aa (ae ba 3 (ag (s.args 1))::vL c g x src (s.eT x ⟨(T s).toArray⟩))) F w):=λW h=>h.aM λF' RJ _ _=>CL RJ _ (by
  show(T s).toArray.size<=maxLen
  rw[hT];unfold maxLen
  simp only[List.size_toArray,List.length_append,List.length_cons,List.length_nil]
  omega)
 have YU: (⟨(S (ar s 1 0) (eb s)).toArray⟩:ByteArray)++ ⟨#[32]⟩= ⟨(T s).toArray⟩:=by apply uc;simp[hT]
 have hbo:mQ s= (decide (2<=eb s) &&decide (eb s<=36)):=rfl
 rw[<-hbo]at Rr
 unfold jA
 generalize i6 x s ⟨(T s).toArray⟩=f at *
 generalize s.eT x ⟨(T s).toArray⟩=s2 at *
 generalize T s=R at *
 generalize S (ar s 1 0) (eb s)=R' at *
 clear hbo
 generalize mQ s=o at *
 generalize eb s=bv at *
 generalize s.S.ay 0 (s.S.beg 3) false=cf at *
 generalize ((s.S.beg 3:Nat):Int)=bg at *
 generalize ar s 1 0=X at *
 show Calls _ _ #[g,op,.slice ba 1 1] _ _
 clear hS hSl hT
 rcases R0 with⟨rfl,rfl⟩ | ⟨rfl,rfl⟩
 all_goals
  generalize ag (s.args 1)=ac at *
  replace⟨th,Wh,Ta,Rr,hpr,YT,YU,so⟩:=iH th Wh Ta Rr hpr YT YU so
  clear hb Q8 IT hs hx hp hi
  rcases o with _|_
  ·simp only[Bool.false_eq_true,if_false]
   simp only[show¬(19:Int)=0 by decide,if_false]
   go_enter func108,ntmps108
   go_wp2_with fail
   go_region_held (λw'=>w'.cell? (g,0)=some (c.gM:Vl)∧w'.cell? (c.gM,0)=some (c.gI:Vl)) (go_keep)
    ((first| (go_at_call 63;refine mo Wh.out λw5 UF=>?_;simp only[];have Q7:=so.out.drew.below UF;have⟨n0,n1,n2⟩:=th.out _ _ Q7;clear UF;replace Q7:=hid Q7) | (go_at_call 73;refine mo (Ta.out _ Q7.out) λw6 Sq=>?_;simp only[];have R8:=Q7.out.below Sq;have⟨o0,o1,o2⟩:=th.out _ _ R8;clear Sq;replace R8:=hid R8)))
   all_goals go_wp2_with fail
   refine(Rr.out _).mono ?_
   rintro e w7 ⟨rfl,rfl⟩
   simp only[]
   go_wp2_with fail
   refine(bR _ _).mono ?_
   rintro e w8 ⟨rfl,rfl⟩
   exact⟨rfl,rfl,R8.out.tail⟩
  ·simp only[if_true]
   by_cases hf:f=0
   ·simp only[if_pos hf]
    have e2:bp f = .returned (.tuple #[]):=by unfold bp;rw[if_pos hf]
    rw[e2]at YT
    clear e2 hf
    go_enter func108,ntmps108
    go_wp2_with fail
    go_region_held (λw'=>w'.cell? (g,0)=some (c.gM:Vl)∧w'.cell? (c.gM,0)=some (c.gI:Vl)) (go_keep)
     ((first| (go_at_call 63;refine mo Wh.out λw5 UF=>?_;simp only[];have Q7:=so.out.drew.below UF;have⟨n0,n1,n2⟩:=th.out _ _ Q7;clear UF;replace Q7:=hid Q7) | (go_at_call 73;refine mo (Ta.out _ Q7.out) λw6 Sq=>?_;simp only[];have R8:=Q7.out.below Sq;have⟨o0,o1,o2⟩:=th.out _ _ R8;clear Sq;replace R8:=hid R8)))
    all_goals go_wp2_with fail
    refine(Rr.out _).mono ?_
    rintro e w7 ⟨rfl,rfl⟩
    simp only[]
    go_wp2_with fail
    refine(bz _ _).mono ?_
    rintro e w8 ⟨rfl,rfl⟩
    simp only[]
    go_wp2_with fail
    refine mo (hpr.out _ R8.out) λw9 hk9=>?_
    simp only[]
    have Zn:=R8.out.qI hk9
    have W5:=YT.out _ Zn
    rw[<-YU.out]at W5
    replace⟨Zn,W5⟩:=iB Zn W5
    clear hk9
    go_wp2_with fail
    refine mo W5.out λw10 TK=>?_
    replace TK:=hid TK
    simp only[]
    go_wp2
    go_ret
    exact⟨none,0,_,rfl,bA _,TK.out⟩
   ·simp only[if_neg hf]
    rw[cB hf]at YT
    replace hf:=hid hf
    go_enter func108,ntmps108
    go_wp2_with fail
    go_region_held (λw'=>w'.cell? (g,0)=some (c.gM:Vl)∧w'.cell? (c.gM,0)=some (c.gI:Vl)) (go_keep)
     ((first| (go_at_call 63;refine mo Wh.out λw5 UF=>?_;simp only[];have Q7:=so.out.drew.below UF;have⟨n0,n1,n2⟩:=th.out _ _ Q7;clear UF;replace Q7:=hid Q7) | (go_at_call 73;refine mo (Ta.out _ Q7.out) λw6 Sq=>?_;simp only[];have R8:=Q7.out.below Sq;have⟨o0,o1,o2⟩:=th.out _ _ R8;clear Sq;replace R8:=hid R8)))
    all_goals go_wp2_with fail
    refine(Rr.out _).mono ?_
    rintro e w7 ⟨rfl,rfl⟩
    simp only[]
    go_wp2_with fail
    refine(bz _ _).mono ?_
    rintro e w8 ⟨rfl,rfl⟩
    simp only[]
    go_wp2_with fail
    refine mo (hpr.out _ R8.out) λw9 hk9=>?_
    simp only[]
    have Zn:=R8.out.qI hk9
    have W5:=YT.out _ Zn
    rw[<-YU.out]at W5
    replace⟨Zn,W5⟩:=iB Zn W5
    clear hk9
    go_wp2_with fail
    refine mo W5.out λw10 TK=>?_
    exact⟨rfl,rfl,TK.tail⟩
theorem P9(arg lit cells:Int):cO Wk 108 (λg=>#[.pointer (some ⟨g,0,none⟩)]) ⟨80,arg,lit,cells⟩ (jA GK):=MW (by simp) (λ_=>rfl) (λn b W hn hP hB=>rN n hn b W hP hB) (λn b hn=>by have:=mZ hn b;omega) arg lit cells
theorem OZ(arg lit cells:Int):cO Wk 108 (λg=>#[.pointer (some ⟨g,0,none⟩)]) ⟨81,arg,lit,cells⟩ (jA yi):=MW (by simp) (λ_=>rfl) (λn b W _ hP hB=>tx n b W hP hB) (λn b _=>td n b) arg lit cells
def ku(S:Img)(r:Nat):Int:=if r=0 then 0 else(S.beg (r+1):Int)
def lx(S:Img)(a:Int):Bool:=((S.region a:Int) != 0)
def nh(S:Img)(a n:Int):Bool:=decide (n<=IntKind.i64.wrap (ku S (S.region a) -a))
def o6(S:Img)(m a:Int):Bool:=(bits .and .i64 (S.may m (S.region a)) 2 != 0)
def ed(m a:Int):Nat->List UInt8->Img->Int×Img
 | _,[],S=>(0,S)
 | i,b::l,S=>if S.bV m (IntKind.i64.wrap (a+ (i:Int))) true=0 then ed m a (i+1) l (S.aS m (IntKind.i64.wrap (a+ (i:Int))) b)else(S.bV m (IntKind.i64.wrap (a+ (i:Int))) true,S.aS m (IntKind.i64.wrap (a+ (i:Int))) b)
def eh(x:Rn)(s:Mt)(a n:Int):Int×Mt:=
 if aX x n≠0 then(aX x n,s)
 else if 0<n∧(lx s.S a&& (nh s.S a n&&o6 s.S x.mode a))=false then(5,s)
 else if af.fq s.T x.mode n≠0 then(af.fq s.T x.mode n,{ s with T:=af.cT s.T x.mode n })
 else((ed x.mode a 0 (af.cE s.T x.mode n).data.toList s.S).1,{ s with T:=af.cT s.T x.mode n,S:=(ed x.mode a 0 (af.cE s.T x.mode n).data.toList s.S).2 })
def j8(x:Rn)(s:Mt)(a n:Int):Ending:=if(eh x s a n).1=0 then .returned ((af.cE s.T x.mode n).size:Int)else .panicked [flt (eh x s a n).1]
section
variable {w w':World}{F:Nat->Prop}{c:Vc}{g:Nat}{x:Rn}{src:Value}{s:Mt}
theorem JO(hb: (VA c g x src s).holds w F)(hx:x.Ok)(a n:Int)(ha:V64 a)(hn:V64 n):
 Calls prog 158 #[g,(a:Int),n] w (Got (j8 x s a n) (VA c g (x.pay n) src (eh x s a n).2) F w):=by
 have so:=On.refl hb
 have RU:=wu hb hx n hn
 have WC: (x.pay n).mode=x.mode:=by unfold Rn.pay;split<;>rfl
 have th: ∀x' s' W,On F w (VA c g x' src s') W->W.cell? (g,0)=some (c.gM:Vl)∧W.cell? (g,1)=some (.int .i64 x'.mode)∧W.cell? (c.gM,0)=some (c.gI:Vl)∧W.cell? (c.gM,3)=some (c.gT:Vl):=λx' s' W h=>⟨h.r0,h.r1,h.m0,h.m3⟩
 have Rl: ∀W,On F w (VA c g (x.pay n) src s) W->Calls prog 122 #[c.gI,(a:Int)] W (ax (s.S.region a:Int) W):=λW h=>by
  obtain⟨gb,hi⟩:=h.im
  exact nn hi a
 have Sj: ∀W,On F w (VA c g (x.pay n) src s) W->Calls prog 55 #[c.gI,(s.S.region a:Int)] W (λe w'=> ∃z,e = .returned (.tuple #[.int .i64 z,(ku s.S (s.S.region a))])∧∃k,w'=W.drewN k):=λW h=>by
  obtain⟨gb,hi⟩:=h.im
  have h5:=s.S.vg a
  by_cases h0:s.S.region a=0
  ·refine(BG _ _ (.inl oM) W).mono ?_
   rintro e w' ⟨rfl,rfl⟩
   refine⟨0,?_,0,rfl⟩
   unfold ku
   rw[if_pos h0]
  ·refine(j5 hi _ oM h5).mono ?_
   rintro e w' ⟨rfl,k,rfl⟩
   refine⟨(s.S.beg (s.S.region a):Int),?_,k,rfl⟩
   unfold ku
   rw[if_neg h0]
 have Rx: ∀W,On F w (VA c g (x.pay n) src s) W->Calls prog 121 #[c.gI,.int .i64 (x.pay n).mode,(s.S.region a:Int)] W (ax (s.S.may x.mode (s.S.region a)) W):=λW h=>by
  obtain⟨gb,hi⟩:=h.im
  rw[WC]
  exact Db hi x.mode _ (s.S.vg a)
 have SK: ∀W,On F w (VA c g (x.pay n) src s) W->Calls prog 201 #[c.gT,.int .i64 (x.pay n).mode,n] W.drew (Got (.returned (.tuple #[.string (af.cE s.T x.mode n),(af.fq s.T x.mode n)])) (VA c g (x.pay n) src { s with T:=af.cT s.T x.mode n }) F w):=λW h=>by
  rw[WC]
  exact h.drew.bG (A:=dF c.gT s.T) (A':=dF c.gT (af.cT s.T x.mode n)) (e0:= .returned (.tuple #[.string (af.cE s.T x.mode n),(af.fq s.T x.mode n)])) 5 rfl (λF' ha=>fT ha λw0 L h=>Kj h x.mode n)
 have ZV: ∀(t:Mt) (i:Nat) (b:UInt8) W,On F w (VA c g (x.pay n) src t) W->Calls prog 149 #[c.gI,.int .i64 (x.pay n).mode,(IntKind.i64.wrap (a+ (i:Int))),.int .u8 (b.toNat:Int)] W.drew (Got (.returned (.int .i64 (t.S.bV x.mode (IntKind.i64.wrap (a+ (i:Int))) true))) (VA c g (x.pay n) src { t with S:=t.S.aS x.mode (IntKind.i64.wrap (a+ (i:Int))) b }) F w):=λt i b W h=>by
  rw[WC]
  exact h.drew.bG 2 rfl (λF' ha=>jQ ha x.mode _ b)
 by_cases h0:aX x n≠0
 ·have hA:eh x s a n= (aX x n,s):=by unfold eh;rw[if_pos h0]
  rw[show j8 x s a n = .panicked [flt (aX x n)]by unfold j8;rw[hA];exact if_neg h0,hA]
  rw[cB h0]at RU
  generalize aX x n=f0 at *
  generalize x.pay n=x2 at *
  replace⟨th,RU,Rl,Sj,Rx,h0⟩:=iF th RU Rl Sj Rx h0
  clear so hb hx
  clear hA SK ZV WC
  go_enter func158,ntmps158
  go_wp2_with fail
  refine mo RU.out λw1 h1=>?_
  exact⟨rfl,rfl,h1⟩
 have hm0:aX x n=0:=by simpa using h0
 rw[hm0]at RU
 have e0:bp 0 = .returned (.tuple #[]):=rfl
 rw[e0]at RU
 clear e0
 by_cases SN:0<n
 ·have t0:decide (0<n)=true:=decide_eq_true SN
  rcases Si: ((s.S.region a:Int) != 0)with _|_
  ·have hA:eh x s a n= (5,s):=by
    unfold eh lx
    rw[if_neg h0,Si,if_pos ⟨SN,rfl⟩]
   rw[show j8 x s a n = .panicked [flt 5]by unfold j8;rw[hA];exact if_neg (show¬(5:Int)=0 by decide),hA]
   generalize x.pay n=x2 at *
   generalize s.S.may x.mode (s.S.region a)=M at *
   generalize ku s.S (s.S.region a)=T at *
   generalize ((s.S.region a:Nat):Int)=R at *
   replace⟨th,RU,Rl,Sj,Rx,SN⟩:=iF th RU Rl Sj Rx SN
   clear so hb hx
   clear hA SK ZV WC h0 hm0
   go_enter func158,ntmps158
   go_wp2_with fail
   refine mo RU.out λw1 h1=>?_
   simp only[]
   have⟨r0,r1,m0,m3⟩:=th.out _ _ _ h1
   replace h1:=hid h1
   go_wp2_with fail
   refine(Rl.out _ h1.out).mono ?_
   rintro e w2 ⟨rfl,rfl⟩
   simp only[]
   go_wp2_with fail
   refine(Sj.out _ h1.out).mono ?_
   rintro e w3 ⟨z,rfl,k,rfl⟩
   simp only[]
   have h3:=h1.out.drewN k
   clear r0 r1 m0 m3
   have⟨r0,r1,m0,m3⟩:=th.out _ _ _ h3
   generalize w2.drewN k=w3 at *
   replace h3:=hid h3
   go_wp2_with fail
   refine wp_region_held_drew (S:=(λw'=>w'.cell? (g,0)=some (c.gM:Vl)∧w'.cell? (g,1)=some (x2.mode:Vl)∧w'.cell? (c.gM,0)=some (c.gI:Vl))) kR ?hS0B (λhaN=> ?rsSB)
   case hS0B=>((try dsimp only);go_keep)
   refine tkL 0 ?_
   refine pt ?_
   refine tkL 1 (v:= .bool false) ?_ (hy:=Or.inl ⟨by kernel_rfl,by intro w Y8;(try dsimp only at Y8);go_simp;try exact Si⟩)
   refine pt ?_
   refine tkL 2 ?_
   refine pt ?_
   refine tkU 3 ?_
   refine tkU 4 ?_
   refine tkU 5 ?_
   refine tkU 6 ?_
   refine tkU 7 ?_
   refine pt ?_
   refine tkL 8 ?_
   refine pt ?_
   refine tkL 9 ?_
   refine pt ?_
   refine tkU 10 ?_
   refine tkU 11 ?_
   refine tkU 12 ?_
   refine tkU 13 ?_
   refine tkU 14 ?_
   refine tkU 15 ?_
   refine tkU 16 ?_
   refine tkU 17 ?_
   refine tkU 18 ?_
   refine tkU 19 ?_
   refine tkU 20 ?_
   refine tkU 21 ?_
   refine tkU 22 ?_
   refine tkU 23 ?_
   refine tkU 24 ?_
   refine pt ?_
   refine tkL 25 ?_
   refine pt ?_
   refine wpAnyH_ready (rs:=[26]) kR (by simp) ?_
   refine AllReadyH.cons rfl (λK hK=> ?stepB) ?moreB
   case moreB=>exact AllReadyH.nil
   go_simp
   refine(bR _ _).mono ?_
   rintro e w5 ⟨rfl,rfl⟩
   exact⟨rfl,rfl,h3.out.drew⟩
  rcases RZ:decide (n<=IntKind.i64.wrap (ku s.S (s.S.region a) -a))with _|_
  ·have hA:eh x s a n= (5,s):=by
    unfold eh lx nh
    rw[if_neg h0,Si,RZ,if_pos ⟨SN,rfl⟩]
   rw[show j8 x s a n = .panicked [flt 5]by unfold j8;rw[hA];exact if_neg (show¬(5:Int)=0 by decide),hA]
   generalize x.pay n=x2 at *
   generalize s.S.may x.mode (s.S.region a)=M at *
   generalize ku s.S (s.S.region a)=T at *
   generalize ((s.S.region a:Nat):Int)=R at *
   replace⟨th,RU,Rl,Sj,Rx,SN⟩:=iF th RU Rl Sj Rx SN
   clear so hb hx
   clear hA SK ZV WC h0 hm0
   go_enter func158,ntmps158
   go_wp2_with fail
   refine mo RU.out λw1 h1=>?_
   simp only[]
   have⟨r0,r1,m0,m3⟩:=th.out _ _ _ h1
   replace h1:=hid h1
   go_wp2_with fail
   refine(Rl.out _ h1.out).mono ?_
   rintro e w2 ⟨rfl,rfl⟩
   simp only[]
   go_wp2_with fail
   refine(Sj.out _ h1.out).mono ?_
   rintro e w3 ⟨z,rfl,k,rfl⟩
   simp only[]
   have h3:=h1.out.drewN k
   clear r0 r1 m0 m3
   have⟨r0,r1,m0,m3⟩:=th.out _ _ _ h3
   generalize w2.drewN k=w3 at *
   replace h3:=hid h3
   go_wp2_with fail
   refine wp_region_held_drew (S:=(λw'=>w'.cell? (g,0)=some (c.gM:Vl)∧w'.cell? (g,1)=some (x2.mode:Vl)∧w'.cell? (c.gM,0)=some (c.gI:Vl))) kR ?hS0C (λhaN=> ?rsSC)
   case hS0C=>((try dsimp only);go_keep)
   refine tkL 0 ?_
   refine pt ?_
   refine tkL 1 (v:= .bool true) ?_ (hy:=Or.inl ⟨by kernel_rfl,by intro w Y8;(try dsimp only at Y8);go_simp;try exact Si⟩)
   refine pt ?_
   refine tkL 2 ?_
   refine pt ?_
   refine tkL 3 ?_
   refine pt ?_
   refine tkL 4 ?_
   refine pt ?_
   refine tkL 5 ?_
   refine pt ?_
   refine tkL 6 ?_
   refine pt ?_
   refine tkL 7 (v:= .bool false) ?_ (hy:=Or.inl ⟨by kernel_rfl,by intro w Y8;(try dsimp only at Y8);go_simp;try exact RZ⟩)
   refine pt ?_
   refine tkL 8 ?_
   refine pt ?_
   refine tkL 9 ?_
   refine pt ?_
   refine tkU 10 ?_
   refine tkU 11 ?_
   refine tkU 12 ?_
   refine tkU 13 ?_
   refine tkU 14 ?_
   refine tkU 15 ?_
   refine tkU 16 ?_
   refine tkU 17 ?_
   refine tkU 18 ?_
   refine tkU 19 ?_
   refine tkU 20 ?_
   refine tkU 21 ?_
   refine tkU 22 ?_
   refine tkU 23 ?_
   refine tkU 24 ?_
   refine pt ?_
   refine tkL 25 ?_
   refine pt ?_
   refine wpAnyH_ready (rs:=[26]) kR (by simp) ?_
   refine AllReadyH.cons rfl (λK hK=> ?uI) ?moreC
   case moreC=>exact AllReadyH.nil
   go_simp
   refine(bR _ _).mono ?_
   rintro e w5 ⟨rfl,rfl⟩
   exact⟨rfl,rfl,h3.out.drew⟩
  rcases VQ: (bits .and .i64 (s.S.may x.mode (s.S.region a)) 2 != 0)with _|_
  ·have hA:eh x s a n= (5,s):=by
    unfold eh lx nh o6
    rw[if_neg h0,Si,RZ,VQ,if_pos ⟨SN,rfl⟩]
   rw[show j8 x s a n = .panicked [flt 5]by unfold j8;rw[hA];exact if_neg (show¬(5:Int)=0 by decide),hA]
   generalize x.pay n=x2 at *
   generalize s.S.may x.mode (s.S.region a)=M at *
   generalize ku s.S (s.S.region a)=T at *
   generalize ((s.S.region a:Nat):Int)=R at *
   replace⟨th,RU,Rl,Sj,Rx,SN⟩:=iF th RU Rl Sj Rx SN
   clear so hb hx
   clear hA SK ZV WC h0 hm0
   go_enter func158,ntmps158
   go_wp2_with fail
   refine mo RU.out λw1 h1=>?_
   simp only[]
   have⟨r0,r1,m0,m3⟩:=th.out _ _ _ h1
   replace h1:=hid h1
   go_wp2_with fail
   refine(Rl.out _ h1.out).mono ?_
   rintro e w2 ⟨rfl,rfl⟩
   simp only[]
   go_wp2_with fail
   refine(Sj.out _ h1.out).mono ?_
   rintro e w3 ⟨z,rfl,k,rfl⟩
   simp only[]
   have h3:=h1.out.drewN k
   clear r0 r1 m0 m3
   have⟨r0,r1,m0,m3⟩:=th.out _ _ _ h3
   generalize w2.drewN k=w3 at *
   replace h3:=hid h3
   go_wp2_with fail
   go_region_held (λw'=>w'.cell? (g,0)=some (c.gM:Vl)∧w'.cell? (g,1)=some (x2.mode:Vl)∧w'.cell? (c.gM,0)=some (c.gI:Vl)) (go_keep)
    ((first
      | (go_at_call 121;refine(Rx.out _ h3.out.drew).mono ?_;rintro e w5 ⟨rfl,rfl⟩;simp only[])
      | (go_at_call 95;refine dead (bR _ _) ⟨rfl,rfl,h3.out.drew⟩ ?_;intro hF e w5 he hw;subst he;subst hw;replace hF:=hid hF)))
   all_goals exact hF.out.elim
  ·have Um: ¬(0<n∧(lx s.S a&& (nh s.S a n&&o6 s.S x.mode a))=false):=by
    unfold lx nh o6
    rw[Si,RZ,VQ]
    simp
   by_cases hE:af.fq s.T x.mode n≠0
   ·have hA:eh x s a n= (af.fq s.T x.mode n,{ s with T:=af.cT s.T x.mode n }):=by
     unfold eh
     rw[if_neg h0,if_neg Um,if_pos hE]
    rw[show j8 x s a n = .panicked [flt (af.fq s.T x.mode n)]by unfold j8;rw[hA];exact if_neg hE,hA]
    generalize s.S.may x.mode (s.S.region a)=M at *
    generalize ku s.S (s.S.region a)=T at *
    generalize ((s.S.region a:Nat):Int)=R at *
    replace SN:=hid SN
    generalize x.pay n=x2 at *
    generalize af.fq s.T x.mode n=E at *
    generalize af.cE s.T x.mode n=B at *
    generalize af.cT s.T x.mode n=T' at *
    replace⟨th,RU,Rl,Sj,Rx,SK⟩:=iF th RU Rl Sj Rx SK
    clear so hb hx
    have ht:=hid (λw=>cJ E hE w)
    clear hA ZV WC h0 hm0 Um hE
    go_enter func158,ntmps158
    go_wp2_with fail
    refine mo RU.out λw1 h1=>?_
    simp only[]
    have⟨r0,r1,m0,m3⟩:=th.out _ _ _ h1
    replace h1:=hid h1
    go_wp2_with fail
    refine(Rl.out _ h1.out).mono ?_
    rintro e w2 ⟨rfl,rfl⟩
    simp only[]
    go_wp2_with fail
    refine(Sj.out _ h1.out).mono ?_
    rintro e w3 ⟨z,rfl,k,rfl⟩
    simp only[]
    have h3:=h1.out.drewN k
    clear r0 r1 m0 m3
    have⟨r0,r1,m0,m3⟩:=th.out _ _ _ h3
    generalize w2.drewN k=w3 at *
    replace h3:=hid h3
    go_wp2_with fail
    go_region_held (λw'=>w'.cell? (g,0)=some (c.gM:Vl)∧w'.cell? (g,1)=some (x2.mode:Vl)∧w'.cell? (c.gM,0)=some (c.gI:Vl)) (go_keep)
     ((first
       | (go_at_call 121;refine(Rx.out _ h3.out.drew).mono ?_;rintro e w5 ⟨rfl,rfl⟩;simp only[])
       | (go_at_call 95;refine(bz _ _).mono ?_;rintro e w5 ⟨rfl,rfl⟩;simp only[])))
    all_goals go_wp2_with fail
    go_region_held (λw'=>w'.cell? (g,0)=some (c.gM:Vl)∧w'.cell? (g,1)=some (x2.mode:Vl)∧w'.cell? (c.gM,3)=some (c.gT:Vl)) (go_keep)
     ((go_at_call 201;refine mo (SK.out _ h3.out.drew) λw6 h6=>?_;simp only[];have⟨n0,n1,n2,n3⟩:=th.out _ _ _ h6;replace h6:=hid h6))
    all_goals go_wp2_with fail
    refine(ht.out _).mono ?_
    rintro e w7 ⟨rfl,rfl⟩
    exact⟨rfl,rfl,h6.out⟩
   ·have hA:eh x s a n= ((ed x.mode a 0 (af.cE s.T x.mode n).data.toList s.S).1,{ s with T:=af.cT s.T x.mode n,S:=(ed x.mode a 0 (af.cE s.T x.mode n).data.toList s.S).2 }):=by
     unfold eh
     rw[if_neg h0,if_neg Um,if_neg hE]
    have hBs: (af.cE s.T x.mode n).size<=9223372036854775807:=by
     have h1: (af.cE s.T x.mode n).size<=n.toNat:=by
      unfold af.cE
      split
      ·rw[ByteArray.size_extract]
       have:=af.sL s.T.inp n
       omega
      ·exact Nat.zero_le _
     unfold V64 at hn
     omega
    obtain⟨Q,hQ⟩: ∃Q,ed x.mode a 0 (af.cE s.T x.mode n).data.toList s.S=Q:=⟨_,rfl⟩
    rw[hQ]at hA
    have hE0:af.fq s.T x.mode n=0:=by simpa using hE
    rw[hE0]at SK
    have hq:j8 x s a n=if Q.1=0 then .returned ((af.cE s.T x.mode n).size:Int)else .panicked [flt Q.1]:=by unfold j8;rw[hA]
    obtain⟨EE,hEE⟩: ∃EE:Ending,(if Q.1=0 then .returned ((af.cE s.T x.mode n).size:Int)else .panicked [flt Q.1])=EE:=⟨_,rfl⟩
    rw[hq,hA,hEE]
    clear hq hA hE hE0
    obtain⟨s1,R1⟩: ∃s1:Mt,({ s with T:=af.cT s.T x.mode n }:Mt)=s1:=⟨_,rfl⟩
    have hQ:ed x.mode a 0 (af.cE s.T x.mode n).data.toList s1.S=Q:=by rw[<-R1];exact hQ
    rw[show({ s with T:=af.cT s.T x.mode n,S:=Q.2 }:Mt)= { s1 with S:=Q.2 } by rw[<-R1]]
    rw[R1]at SK
    clear R1
    generalize s.S.may x.mode (s.S.region a)=M at *
    generalize ku s.S (s.S.region a)=T at *
    generalize ((s.S.region a:Nat):Int)=R at *
    replace SN:=hid SN
    generalize x.pay n=x2 at *
    generalize af.cE s.T x.mode n=B at *
    obtain⟨md,ZH⟩: ∃md,x.mode=md:=⟨_,rfl⟩
    rw[ZH]at ZV hQ
    replace⟨hQ,hEE,ZV,ZH,th,RU,Rl,Sj,Rx,SK⟩:=iJ hQ hEE ZV ZH th RU Rl Sj Rx SK
    clear so hb hx
    clear WC h0 hm0 Um
    go_enter func158,ntmps158
    go_wp2_with fail
    refine mo RU.out λw1 h1=>?_
    simp only[]
    have⟨r0,r1,m0,m3⟩:=th.out _ _ _ h1
    replace h1:=hid h1
    go_wp2_with fail
    refine(Rl.out _ h1.out).mono ?_
    rintro e w2 ⟨rfl,rfl⟩
    simp only[]
    go_wp2_with fail
    refine(Sj.out _ h1.out).mono ?_
    rintro e w3 ⟨z,rfl,k,rfl⟩
    simp only[]
    have h3:=h1.out.drewN k
    clear r0 r1 m0 m3
    have⟨r0,r1,m0,m3⟩:=th.out _ _ _ h3
    generalize w2.drewN k=w3 at *
    replace h3:=hid h3
    go_wp2_with fail
    go_region_held (λw'=>w'.cell? (g,0)=some (c.gM:Vl)∧w'.cell? (g,1)=some (x2.mode:Vl)∧w'.cell? (c.gM,0)=some (c.gI:Vl)) (go_keep)
     ((first
       | (go_at_call 121;refine(Rx.out _ h3.out.drew).mono ?_;rintro e w5 ⟨rfl,rfl⟩;simp only[])
       | (go_at_call 95;refine(bz _ _).mono ?_;rintro e w5 ⟨rfl,rfl⟩;simp only[])))
    all_goals go_wp2_with fail
    go_region_held (λw'=>w'.cell? (g,0)=some (c.gM:Vl)∧w'.cell? (g,1)=some (x2.mode:Vl)∧w'.cell? (c.gM,3)=some (c.gT:Vl)) (go_keep)
     ((go_at_call 201;refine mo (SK.out _ h3.out.drew) λw6 h6=>?_;simp only[];have⟨n0,n1,n2,n3⟩:=th.out _ _ _ h6;replace h6:=hid h6))
    all_goals go_wp2_with fail
    refine(bL _).mono ?_
    rintro e w7 ⟨rfl,rfl⟩
    simp only[]
    clear n0 n1 n2 n3
    go_wp2
    go_loopg [86] B.size (λk t wr=> ∃(j:Nat) (S':Img),j+k=B.size∧t = .int .i64 (j:Int)∧On F w (VA c g x2 src { s1 with S:=S' }) wr∧ed md a j (B.data.toList.drop j) S'=Q)
    case atStart=>exact⟨0,s1.S,by omega,rfl,h6.out,hQ.out⟩
    case round=>
     obtain⟨j,S',hj,rfl,hr,hs⟩:=hrel
     by_cases RQ:j<B.size
     ·have⟨q0,q1,q2,q3⟩:=th.out _ _ _ hr
      have ha7:j<B.data.toList.length:=by simpa using RQ
      have hdr:B.data.toList.drop j= (B[j]'RQ)::B.data.toList.drop (j+1):=by rw[List.drop_eq_getElem_cons ha7];rfl
      rw[hdr]at hs
      unfold ed at hs
      have Zb: ∀W,On F w (VA c g x2 src { s1 with S:=S' }) W->Calls prog 149 #[c.gI,x2.mode,(IntKind.i64.wrap (a+ (j:Int))),.int .u8 ((B[j]'RQ).toNat:Int)] W.drew (Got (.returned (S'.bV md (IntKind.i64.wrap (a+ (j:Int))) true)) (VA c g x2 src { s1 with S:=S'.aS md (IntKind.i64.wrap (a+ (j:Int))) (B[j]'RQ) }) F w):=λW h=>ZV.out _ j (B[j]'RQ) W h
      obtain⟨f,hf⟩: ∃f,S'.bV md (IntKind.i64.wrap (a+ (j:Int))) true=f:=⟨_,rfl⟩
      rw[hf]at hs Zb
      obtain⟨S2,hS2⟩: ∃S2,S'.aS md (IntKind.i64.wrap (a+ (j:Int))) (B[j]'RQ)=S2:=⟨_,rfl⟩
      rw[hS2]at hs Zb
      have tl:decide ((j:Int) < (B.size:Int))=true:=decide_eq_true oM
      clear hS2 hf hdr ha7
      replace⟨Zb,hr,hj⟩:=iC Zb hr hj
      by_cases hf:f=0
      ·subst hf
       rw[if_pos rfl]at hs
       replace hs:=hid hs
       go_wp2_with fail
       go_region_held (λw'=>w'.cell? (g,0)=some (c.gM:Vl)∧w'.cell? (g,1)=some (x2.mode:Vl)∧w'.cell? (c.gM,0)=some (c.gI:Vl)) (go_keep)
        ((first
          | (go_at_call 149;refine mo (Zb.out _ hr.out) λw8 h8=>?_;simp only[];have⟨k0,k1,k2,k3⟩:=th.out _ _ _ h8;replace h8:=hid h8)
          | (go_at_call 69;refine(bL _).mono ?_;rintro e w9 ⟨rfl,rfl⟩;simp only[])))
       all_goals go_wp2
       all_goals go_roundg (gk-1)
       all_goals first
        | (have:=hj.out;omega)
        | exact⟨j+1,S2,by have:=hj.out;omega,by go_num,h8.out,hs.out⟩
      ·rw[if_neg hf]at hs
       have ht:=hid (λw=>cJ f hf w)
       have hQf:Q= (f,S2):=hs.symm
       have Zz:EE = .panicked [flt f]:=by rw[<-hEE.out,hQf];exact if_neg hf
       rw[Zz,hQf]
       clear hQf Zz hs
       replace hf:=hid hf
       go_wp2_with fail
       go_region_held (λw'=>w'.cell? (g,0)=some (c.gM:Vl)∧w'.cell? (g,1)=some (x2.mode:Vl)∧w'.cell? (c.gM,0)=some (c.gI:Vl)) (go_keep)
        ((first
          | (go_at_call 149;refine mo (Zb.out _ hr.out) λw8 h8=>?_;simp only[];have⟨k0,k1,k2,k3⟩:=th.out _ _ _ h8;replace h8:=hid h8)
          | (go_at_call 69;refine dead (ht.out _) ⟨rfl,rfl,h8.out⟩ ?_;intro hF e w9 he hw;subst he;subst hw;replace hF:=hid hF)))
       all_goals exact hF.out.elim
     ·have WU:B.data.toList.drop j = []:=List.drop_eq_nil_iff.2 (by simp only[Array.length_toList];show B.size<=j;omega)
      rw[WU]at hs
      have Sw: (0,S')=Q:=hs
      have Zz:EE = .returned (B.size:Int):=by rw[<-hEE.out,<-Sw];rfl
      have hS:Q.2=S':=by rw[<-Sw]
      have Y2:On F w (VA c g x2 src { s1 with S:=Q.2 }) wr:=by rw[hS];exact hr
      replace⟨Zz,Y2⟩:=iB Zz Y2
      clear hs Sw WU hS
      have tl:decide ((j:Int) < (B.size:Int))=false:=decide_eq_false oM
      replace⟨hr,hj,RQ⟩:=iC hr hj RQ
      go_wp2
      go_ret
      refine⟨?_,Y2.out⟩
      rw[Zz.out]
      rfl
 ·have t0:decide (0<n)=false:=decide_eq_false SN
  have Um: ¬(0<n∧(lx s.S a&& (nh s.S a n&&o6 s.S x.mode a))=false):=λh=>SN h.1
  by_cases hE:af.fq s.T x.mode n≠0
  ·have hA:eh x s a n= (af.fq s.T x.mode n,{ s with T:=af.cT s.T x.mode n }):=by
    unfold eh
    rw[if_neg h0,if_neg Um,if_pos hE]
   rw[show j8 x s a n = .panicked [flt (af.fq s.T x.mode n)]by unfold j8;rw[hA];exact if_neg hE,hA]
   generalize s.S.may x.mode (s.S.region a)=M at *
   generalize ku s.S (s.S.region a)=T at *
   generalize ((s.S.region a:Nat):Int)=R at *
   replace SN:=hid SN
   generalize x.pay n=x2 at *
   generalize af.fq s.T x.mode n=E at *
   generalize af.cE s.T x.mode n=B at *
   generalize af.cT s.T x.mode n=T' at *
   replace⟨th,RU,Rl,Sj,Rx,SK⟩:=iF th RU Rl Sj Rx SK
   clear so hb hx
   have ht:=hid (λw=>cJ E hE w)
   clear hA ZV WC h0 hm0 Um hE
   go_enter func158,ntmps158
   go_wp2_with fail
   refine mo RU.out λw1 h1=>?_
   simp only[]
   have⟨r0,r1,m0,m3⟩:=th.out _ _ _ h1
   replace h1:=hid h1
   go_wp2_with fail
   go_region_held (λw'=>w'.cell? (g,0)=some (c.gM:Vl)∧w'.cell? (g,1)=some (x2.mode:Vl)∧w'.cell? (c.gM,3)=some (c.gT:Vl)) (go_keep)
    ((go_at_call 201;refine mo (SK.out _ h1.out) λw6 h6=>?_;simp only[];have⟨n0,n1,n2,n3⟩:=th.out _ _ _ h6;replace h6:=hid h6))
   all_goals go_wp2_with fail
   refine(ht.out _).mono ?_
   rintro e w7 ⟨rfl,rfl⟩
   exact⟨rfl,rfl,h6.out⟩
  ·have hA:eh x s a n= ((ed x.mode a 0 (af.cE s.T x.mode n).data.toList s.S).1,{ s with T:=af.cT s.T x.mode n,S:=(ed x.mode a 0 (af.cE s.T x.mode n).data.toList s.S).2 }):=by
    unfold eh
    rw[if_neg h0,if_neg Um,if_neg hE]
   have hBs: (af.cE s.T x.mode n).size<=9223372036854775807:=by
    have h1: (af.cE s.T x.mode n).size<=n.toNat:=by
     unfold af.cE
     split
     ·rw[ByteArray.size_extract]
      have:=af.sL s.T.inp n
      omega
     ·exact Nat.zero_le _
    unfold V64 at hn
    omega
   obtain⟨Q,hQ⟩: ∃Q,ed x.mode a 0 (af.cE s.T x.mode n).data.toList s.S=Q:=⟨_,rfl⟩
   rw[hQ]at hA
   have hE0:af.fq s.T x.mode n=0:=by simpa using hE
   rw[hE0]at SK
   have hq:j8 x s a n=if Q.1=0 then .returned ((af.cE s.T x.mode n).size:Int)else .panicked [flt Q.1]:=by unfold j8;rw[hA]
   obtain⟨EE,hEE⟩: ∃EE:Ending,(if Q.1=0 then .returned ((af.cE s.T x.mode n).size:Int)else .panicked [flt Q.1])=EE:=⟨_,rfl⟩
   rw[hq,hA,hEE]
   clear hq hA hE hE0
   obtain⟨s1,R1⟩: ∃s1:Mt,({ s with T:=af.cT s.T x.mode n }:Mt)=s1:=⟨_,rfl⟩
   have hQ:ed x.mode a 0 (af.cE s.T x.mode n).data.toList s1.S=Q:=by rw[<-R1];exact hQ
   rw[show({ s with T:=af.cT s.T x.mode n,S:=Q.2 }:Mt)= { s1 with S:=Q.2 } by rw[<-R1]]
   rw[R1]at SK
   clear R1
   generalize s.S.may x.mode (s.S.region a)=M at *
   generalize ku s.S (s.S.region a)=T at *
   generalize ((s.S.region a:Nat):Int)=R at *
   replace SN:=hid SN
   generalize x.pay n=x2 at *
   generalize af.cE s.T x.mode n=B at *
   obtain⟨md,ZH⟩: ∃md,x.mode=md:=⟨_,rfl⟩
   rw[ZH]at ZV hQ
   replace⟨hQ,hEE,ZV,ZH,th,RU,Rl,Sj,Rx,SK⟩:=iJ hQ hEE ZV ZH th RU Rl Sj Rx SK
   clear so hb hx
   clear WC h0 hm0 Um
   go_enter func158,ntmps158
   go_wp2_with fail
   refine mo RU.out λw1 h1=>?_
   simp only[]
   have⟨r0,r1,m0,m3⟩:=th.out _ _ _ h1
   replace h1:=hid h1
   go_wp2_with fail
   go_region_held (λw'=>w'.cell? (g,0)=some (c.gM:Vl)∧w'.cell? (g,1)=some (x2.mode:Vl)∧w'.cell? (c.gM,3)=some (c.gT:Vl)) (go_keep)
    ((go_at_call 201;refine mo (SK.out _ h1.out) λw6 h6=>?_;simp only[];have⟨n0,n1,n2,n3⟩:=th.out _ _ _ h6;replace h6:=hid h6))
   all_goals go_wp2_with fail
   refine(bL _).mono ?_
   rintro e w7 ⟨rfl,rfl⟩
   simp only[]
   clear n0 n1 n2 n3
   go_wp2
   go_loopg [86] B.size (λk t wr=> ∃(j:Nat) (S':Img),j+k=B.size∧t = .int .i64 (j:Int)∧On F w (VA c g x2 src { s1 with S:=S' }) wr∧ed md a j (B.data.toList.drop j) S'=Q)
   case atStart=>exact⟨0,s1.S,by omega,rfl,h6.out,hQ.out⟩
   case round=>
    obtain⟨j,S',hj,rfl,hr,hs⟩:=hrel
    by_cases RQ:j<B.size
    ·have⟨q0,q1,q2,q3⟩:=th.out _ _ _ hr
     have ha7:j<B.data.toList.length:=by simpa using RQ
     have hdr:B.data.toList.drop j= (B[j]'RQ)::B.data.toList.drop (j+1):=by rw[List.drop_eq_getElem_cons ha7];rfl
     rw[hdr]at hs
     unfold ed at hs
     have Zb: ∀W,On F w (VA c g x2 src { s1 with S:=S' }) W->Calls prog 149 #[c.gI,x2.mode,(IntKind.i64.wrap (a+ (j:Int))),.int .u8 ((B[j]'RQ).toNat:Int)] W.drew (Got (.returned (S'.bV md (IntKind.i64.wrap (a+ (j:Int))) true)) (VA c g x2 src { s1 with S:=S'.aS md (IntKind.i64.wrap (a+ (j:Int))) (B[j]'RQ) }) F w):=λW h=>ZV.out _ j (B[j]'RQ) W h
     obtain⟨f,hf⟩: ∃f,S'.bV md (IntKind.i64.wrap (a+ (j:Int))) true=f:=⟨_,rfl⟩
     rw[hf]at hs Zb
     obtain⟨S2,hS2⟩: ∃S2,S'.aS md (IntKind.i64.wrap (a+ (j:Int))) (B[j]'RQ)=S2:=⟨_,rfl⟩
     rw[hS2]at hs Zb
     have tl:decide ((j:Int) < (B.size:Int))=true:=decide_eq_true oM
     clear hS2 hf hdr ha7
     replace⟨Zb,hr,hj⟩:=iC Zb hr hj
     by_cases hf:f=0
     ·subst hf
      rw[if_pos rfl]at hs
      replace hs:=hid hs
      go_wp2_with fail
      go_region_held (λw'=>w'.cell? (g,0)=some (c.gM:Vl)∧w'.cell? (g,1)=some (x2.mode:Vl)∧w'.cell? (c.gM,0)=some (c.gI:Vl)) (go_keep)
       ((first
         | (go_at_call 149;refine mo (Zb.out _ hr.out) λw8 h8=>?_;simp only[];have⟨k0,k1,k2,k3⟩:=th.out _ _ _ h8;replace h8:=hid h8)
         | (go_at_call 69;refine(bL _).mono ?_;rintro e w9 ⟨rfl,rfl⟩;simp only[])))
      all_goals go_wp2
      all_goals go_roundg (gk-1)
      all_goals first
       | (have:=hj.out;omega)
       | exact⟨j+1,S2,by have:=hj.out;omega,by go_num,h8.out,hs.out⟩
     ·rw[if_neg hf]at hs
      have ht:=hid (λw=>cJ f hf w)
      have hQf:Q= (f,S2):=hs.symm
      have Zz:EE = .panicked [flt f]:=by rw[<-hEE.out,hQf];exact if_neg hf
      rw[Zz,hQf]
      clear hQf Zz hs
      replace hf:=hid hf
      go_wp2_with fail
      go_region_held (λw'=>w'.cell? (g,0)=some (c.gM:Vl)∧w'.cell? (g,1)=some (x2.mode:Vl)∧w'.cell? (c.gM,0)=some (c.gI:Vl)) (go_keep)
       ((first
         | (go_at_call 149;refine mo (Zb.out _ hr.out) λw8 h8=>?_;simp only[];have⟨k0,k1,k2,k3⟩:=th.out _ _ _ h8;replace h8:=hid h8)
         | (go_at_call 69;refine dead (ht.out _) ⟨rfl,rfl,h8.out⟩ ?_;intro hF e w9 he hw;subst he;subst hw;replace hF:=hid hF)))
      all_goals exact hF.out.elim
    ·have WU:B.data.toList.drop j = []:=List.drop_eq_nil_iff.2 (by simp only[Array.length_toList];show B.size<=j;omega)
     rw[WU]at hs
     have Sw: (0,S')=Q:=hs
     have Zz:EE = .returned (B.size:Int):=by rw[<-hEE.out,<-Sw];rfl
     have hS:Q.2=S':=by rw[<-Sw]
     have Y2:On F w (VA c g x2 src { s1 with S:=Q.2 }) wr:=by rw[hS];exact hr
     replace⟨Zz,Y2⟩:=iB Zz Y2
     clear hs Sw WU hS
     have tl:decide ((j:Int) < (B.size:Int))=false:=decide_eq_false oM
     replace⟨hr,hj,RQ⟩:=iC hr hj RQ
     go_wp2
     go_ret
     refine⟨?_,Y2.out⟩
     rw[Zz.out]
     rfl
end
def ze(x:Rn)(s:Mt):Rs×List Int:=(⟨(eh x s (ar s 2 0) (ar s 2 1)).1,x.pay (ar s 2 1),(eh x s (ar s 2 0) (ar s 2 1)).2⟩,[((af.cE s.T x.mode (ar s 2 1)).size:Int)])
theorem G8(arg lit cells:Int):br 108 (λg=>#[.pointer (some ⟨g,0,none⟩)]) ⟨84,arg,lit,cells⟩ ze:=by
 intro c g x src s ba w F hs hx IT hb
 have Q8: (Code.ai 84).1.toNat=2:=by decide
 simp only[Q8]at hb⊢
 have so:=On.refl hb
 have th: ∀x2 s2 W,On F w (aa (ae ba 3 (ag (s.args 2))::vL c g x2 src s2)) W->W.cell? (ba,0)=some ((ar s 2 0):Vl)∧W.cell? (ba,1)=some ((ar s 2 1):Vl):=λx2 s2 W h=>⟨aj (h.ab 0 rfl) oM,aj (h.ab 0 rfl) oM⟩
 have⟨a0,a1⟩:=th _ _ _ so
 have hc: ∀W,On F w (aa (ae ba 3 (ag (s.args 2))::vL c g x src s)) W->Calls prog 158 #[g,(ar s 2 0),(ar s 2 1)] W (Got (j8 x s (ar s 2 0) (ar s 2 1)) (aa (ae ba 3 (ag (s.args 2))::vL c g (x.pay (ar s 2 1)) src (eh x s (ar s 2 0) (ar s 2 1)).2)) F w):=λW h=>h.aM λF' RJ _ _=>JO RJ hx _ _ (aN s 2 0) (aN s 2 1)
 have hq:j8 x s (ar s 2 0) (ar s 2 1)=if(eh x s (ar s 2 0) (ar s 2 1)).1=0 then .returned ((af.cE s.T x.mode (ar s 2 1)).size:Int)else .panicked [flt (eh x s (ar s 2 0) (ar s 2 1)).1]:=rfl
 rw[hq]at hc
 unfold ze
 simp only
 clear hq
 generalize (eh x s (ar s 2 0) (ar s 2 1)).2=s2 at *
 generalize (eh x s (ar s 2 0) (ar s 2 1)).1=f at *
 generalize ((af.cE s.T x.mode (ar s 2 1)).size:Int)=v at *
 generalize x.pay (ar s 2 1)=x2 at *
 generalize ar s 2 0=X at *
 generalize ar s 2 1=Y at *
 show Calls _ _ #[g,(84:Int),.slice ba 2 2] _ _
 generalize ag (s.args 2)=ac at *
 replace⟨th,so⟩:=iB th so
 clear hb Q8 IT hs hx
 by_cases hf:f=0
 ·simp only[if_pos hf]at hc⊢
  clear hf
  replace hc:=hid hc
  go_enter func108,ntmps108
  go_wp2_with fail
  go_region_held (λw'=>w'.cell? (ba,0)=some (X:Vl)∧w'.cell? (ba,1)=some (Y:Vl)) (go_keep)
   ((go_at_call 158;refine mo (hc.out _ so.out.drew) λw5 Q7=>?_;simp only[];have⟨n0,n1⟩:=th.out _ _ _ Q7;have z0:=World.new_ne w5 _ n0;have h6:=hid (Q7.tail.box #[v] 3);replace Q7:=hid Q7))
  all_goals go_wp2
  all_goals go_ret
  all_goals exact⟨some ⟨_,0,none⟩,1,ae _ 3 (ag [v]),rfl,aA _ _,h6.out⟩
 ·simp only[if_neg hf]at hc⊢
  replace⟨hf,hc⟩:=iB hf hc
  go_enter func108,ntmps108
  go_wp2_with fail
  have z0:=World.new_ne w _ a0
  go_region_held (λw'=>w'.cell? (ba,0)=some (X:Vl)∧w'.cell? (ba,1)=some (Y:Vl)) (go_keep)
   ((go_at_call 158;refine qi (hc.out _ so.out.drew) (λw' h=>⟨rfl,rfl,h.tail⟩) (.int .i64 0) ?_;intro hF e w6 he hw;subst he;subst hw;replace hF:=hid hF;simp only[]))
  all_goals exact hF.out.elim
def JK:Kn:=λc src s=>src = .pointer none
def lR(x:Rn)(s:Mt):Rs:=⟨15,x,s⟩
theorem ye:yt JK lR:=by
 intro c g x src s w F hp hs hx hb
 obtain rfl:src = .pointer none:=hp
 have so:=On.refl hb
 have r8:=so.r8
 show Calls _ _ _ _ (Got (.panicked [flt 15]) _ _ _)
 replace so:=hid so
 clear hb hs hx
 go_enter func109,ntmps109
 go_wp2_with fail
 refine(bR _ _).mono ?_
 rintro e w1 ⟨rfl,rfl⟩
 exact⟨rfl,rfl,so.out⟩
theorem pn(arg lit cells:Int):ej JK ⟨85,arg,lit,cells⟩ lR:=yq JK arg lit cells lR ye
theorem PD(arg lit cells:Int):cO Wk 108 (λg=>#[.pointer (some ⟨g,0,none⟩)]) ⟨82,arg,lit,cells⟩ (ig):=by
 intro c g x src s ba w F hp hs hx IT hb
 have Q8: (Code.ai 82).1.toNat=2:=by decide
 simp only[Q8]at hb⊢
 have so:=On.refl hb
 have th: ∀s2 W,On F w (aa (ae ba 3 (ag (s.args 2))::vL c g x src s2)) W->W.cell? (g,0)=some (c.gM:Vl)∧W.cell? (c.gM,0)=some (c.gI:Vl)∧W.cell? (ba,0)=some ((ar s 2 0):Vl)∧W.cell? (ba,1)=some ((ar s 2 1):Vl):=λs2 W h=>⟨h.tail.r0,h.tail.m0,aj (h.ab 0 rfl) oM,aj (h.ab 0 rfl) oM⟩
 have⟨r0,m0,a0,a1⟩:=th _ _ so
 obtain⟨gb,hi⟩:=so.drew.img 3 rfl
 have Wh:=Aq (so.drew.ab 2 rfl) hi
 have Ta: ∀W,On F w (aa (ae ba 3 (ag (s.args 2))::vL c g x src s)) W->Calls prog 73 #[c.gI,(0:Int),(s.S.beg 3:Int)] W (λe w'=>e = .returned (.tuple #[(eb s),(s.S.ay 0 (s.S.beg 3) false)])∧Below W.heap.size W w'):=λW h=>by
  obtain⟨gb,hi⟩:=h.img 3 rfl
  exact jT hi 0 (s.S.beg 3)
 have Rr:=λw=>l5 (eb s) w
 have hpr: ∀W,On F w (aa (ae ba 3 (ag (s.args 2))::vL c g x src s)) W->Calls prog 162 #[(ar s 2 0),(eb s),(ar s 2 1)] W (eQ (.string ⟨(kE s).toArray⟩) W):=λW h=>by
  obtain⟨hP,hB⟩:=hp.Qg [ae ba 3 (ag (s.args 2))] h
  exact zh (ar s 2 0) (aN s 2 0) (eb s) (ar s 2 1) (aN s 2 1) W hP hB
 have hlen: (decide (0<=ar s 2 1) &&decide (ar s 2 1<=255))=true->(kE s).length<=1000:=λhd=>by
  have:=mZ (aN s 2 0) (eb s)
  simp only[Bool.and_eq_true,decide_eq_true_eq]at hd
  unfold kE qK
  simp only[List.length_append,List.length_replicate]
  have:qt (ar s 2 1) (fV (ar s 2 0) (eb s))<=255:=by unfold qt;omega
  omega
 have YT: (decide (0<=ar s 2 1) &&decide (ar s 2 1<=255))=true->∀W,On F w (aa (ae ba 3 (ag (s.args 2))::vL c g x src s)) W->Calls prog 155 #[g,.string ⟨(kE s).toArray⟩] W (Got (bp (i6 x s ⟨(kE s).toArray⟩)) (aa (ae ba 3 (ag (s.args 2))::vL c g x src (s.eT x ⟨(kE s).toArray⟩))) F w):=λhd W h=>h.aM λF' RJ _ _=>CL RJ _ (by
  have:=hlen hd
  show(kE s).toArray.size<=maxLen
  unfold maxLen
  simp only[List.size_toArray]
  omega)
 have hbo:mQ s= (decide (2<=eb s) &&decide (eb s<=36)):=rfl
 rw[<-hbo]at Rr
 unfold ig
 generalize i6 x s ⟨(kE s).toArray⟩=f at *
 generalize s.eT x ⟨(kE s).toArray⟩=s2 at *
 generalize kE s=R at *
 clear hbo hlen
 generalize mQ s=o at *
 generalize eb s=bv at *
 generalize s.S.ay 0 (s.S.beg 3) false=cf at *
 generalize ((s.S.beg 3:Nat):Int)=bg at *
 generalize ar s 2 0=X at *
 generalize ar s 2 1=Y at *
 show Calls _ _ #[g,(82:Int),.slice ba 2 2] _ _
 generalize ag (s.args 2)=ac at *
 replace⟨th,Wh,Ta,Rr,hpr,YT,so⟩:=iG th Wh Ta Rr hpr YT so
 clear hb Q8 IT hs hx hp hi
 rcases o with _|_
 ·simp only[Bool.false_eq_true,false_and,if_false]
  simp only[show¬(19:Int)=0 by decide,if_false]
  go_enter func108,ntmps108
  go_wp2_with fail
  go_region_held (λw'=>w'.cell? (g,0)=some (c.gM:Vl)∧w'.cell? (c.gM,0)=some (c.gI:Vl)) (go_keep)
   ((first| (go_at_call 63;refine mo Wh.out λw5 UF=>?_;simp only[];have Q7:=so.out.drew.below UF;have⟨n0,n1,n2,n3⟩:=th.out _ _ Q7;clear UF;replace Q7:=hid Q7) | (go_at_call 73;refine mo (Ta.out _ Q7.out) λw6 Sq=>?_;simp only[];have R8:=Q7.out.below Sq;have⟨o0,o1,o2,o3⟩:=th.out _ _ R8;clear Sq;replace R8:=hid R8)))
  all_goals go_wp2_with fail
  refine(Rr.out _).mono ?_
  rintro e w7 ⟨rfl,rfl⟩
  simp only[]
  go_wp2_with fail
  refine(bR _ _).mono ?_
  rintro e w8 ⟨rfl,rfl⟩
  exact⟨rfl,rfl,R8.out.tail⟩
 ·by_cases hY:0<=Y
  ·have t1:decide (0<=Y)=true:=decide_eq_true hY
   by_cases hZ:Y<=255
   ·have t2:decide (Y<=255)=true:=decide_eq_true hZ
    simp only[t1,t2,Bool.and_true,and_self,if_true]
    replace YT:=hid (YT.out (by rw[t1,t2];rfl))
    clear hY hZ
    by_cases hf:f=0
    ·simp only[if_pos hf]
     have e2:bp f = .returned (.tuple #[]):=by unfold bp;rw[if_pos hf]
     rw[e2]at YT
     clear e2 hf
     go_enter func108,ntmps108
     go_wp2_with fail
     go_region_held (λw'=>w'.cell? (g,0)=some (c.gM:Vl)∧w'.cell? (c.gM,0)=some (c.gI:Vl)) (go_keep)
      ((first| (go_at_call 63;refine mo Wh.out λw5 UF=>?_;simp only[];have Q7:=so.out.drew.below UF;have⟨n0,n1,n2,n3⟩:=th.out _ _ Q7;clear UF;replace Q7:=hid Q7) | (go_at_call 73;refine mo (Ta.out _ Q7.out) λw6 Sq=>?_;simp only[];have R8:=Q7.out.below Sq;have⟨o0,o1,o2,o3⟩:=th.out _ _ R8;clear Sq;replace R8:=hid R8)))
     all_goals go_wp2_with fail
     refine(Rr.out _).mono ?_
     rintro e w7 ⟨rfl,rfl⟩
     simp only[]
     go_wp2_with fail
     refine(bz _ _).mono ?_
     rintro e w8 ⟨rfl,rfl⟩
     simp only[]
     go_wp2_with fail
     refine(bz _ _).mono ?_
     rintro e w9 ⟨rfl,rfl⟩
     simp only[]
     go_wp2_with fail
     have hd9:=hid R8.out.drew
     have⟨q0,q1,q2,q3⟩:=th.out _ _ hd9.out
     go_region_held (λw'=>w'.cell? (ba,0)=some (X:Vl)∧w'.cell? (ba,1)=some (Y:Vl)) (go_keep)
      ((first
       | (go_at_call 162;refine mo (hpr.out _ hd9.out) λw10 hk9=>?_;simp only[];have Zn:=hd9.out.qI hk9;have⟨u0,u1,u2,u3⟩:=th.out _ _ Zn;replace Zn:=hid Zn;clear hk9)
       | (go_at_call 155;refine mo (YT.out _ Zn.out) λw11 TK=>?_;simp only[];have⟨y0,y1,y2,y3⟩:=th.out _ _ TK;replace TK:=hid TK)))
     all_goals go_wp2
     all_goals go_ret
     all_goals exact⟨none,0,_,rfl,bA _,TK.out⟩
    ·simp only[if_neg hf]
     rw[cB hf]at YT
     replace hf:=hid hf
     go_enter func108,ntmps108
     go_wp2_with fail
     go_region_held (λw'=>w'.cell? (g,0)=some (c.gM:Vl)∧w'.cell? (c.gM,0)=some (c.gI:Vl)) (go_keep)
      ((first| (go_at_call 63;refine mo Wh.out λw5 UF=>?_;simp only[];have Q7:=so.out.drew.below UF;have⟨n0,n1,n2,n3⟩:=th.out _ _ Q7;clear UF;replace Q7:=hid Q7) | (go_at_call 73;refine mo (Ta.out _ Q7.out) λw6 Sq=>?_;simp only[];have R8:=Q7.out.below Sq;have⟨o0,o1,o2,o3⟩:=th.out _ _ R8;clear Sq;replace R8:=hid R8)))
     all_goals go_wp2_with fail
     refine(Rr.out _).mono ?_
     rintro e w7 ⟨rfl,rfl⟩
     simp only[]
     go_wp2_with fail
     refine(bz _ _).mono ?_
     rintro e w8 ⟨rfl,rfl⟩
     simp only[]
     go_wp2_with fail
     refine(bz _ _).mono ?_
     rintro e w9 ⟨rfl,rfl⟩
     simp only[]
     go_wp2_with fail
     have hd9:=hid R8.out.drew
     have⟨q0,q1,q2,q3⟩:=th.out _ _ hd9.out
     go_region_held (λw'=>w'.cell? (ba,0)=some (X:Vl)∧w'.cell? (ba,1)=some (Y:Vl)) (go_keep)
      ((first
       | (go_at_call 162;refine mo (hpr.out _ hd9.out) λw10 hk9=>?_;simp only[];have Zn:=hd9.out.qI hk9;have⟨u0,u1,u2,u3⟩:=th.out _ _ Zn;replace Zn:=hid Zn;clear hk9)
       | (go_at_call 155;refine qi (YT.out _ Zn.out) (λw' h=>⟨rfl,rfl,h.tail⟩) (.tuple #[]) ?_;intro hF e w11 he hw;subst he;subst hw;replace hF:=hid hF)))
     all_goals exact hF.out.elim
   ·have t2:decide (Y<=255)=false:=decide_eq_false hZ
    simp only[t1,t2,Bool.and_false,Bool.false_eq_true,and_false,if_false]
    simp only[show¬(19:Int)=0 by decide,if_false]
    clear hY hZ YT
    go_enter func108,ntmps108
    go_wp2_with fail
    go_region_held (λw'=>w'.cell? (g,0)=some (c.gM:Vl)∧w'.cell? (c.gM,0)=some (c.gI:Vl)) (go_keep)
     ((first| (go_at_call 63;refine mo Wh.out λw5 UF=>?_;simp only[];have Q7:=so.out.drew.below UF;have⟨n0,n1,n2,n3⟩:=th.out _ _ Q7;clear UF;replace Q7:=hid Q7) | (go_at_call 73;refine mo (Ta.out _ Q7.out) λw6 Sq=>?_;simp only[];have R8:=Q7.out.below Sq;have⟨o0,o1,o2,o3⟩:=th.out _ _ R8;clear Sq;replace R8:=hid R8)))
    all_goals go_wp2_with fail
    refine(Rr.out _).mono ?_
    rintro e w7 ⟨rfl,rfl⟩
    simp only[]
    go_wp2_with fail
    refine(bz _ _).mono ?_
    rintro e w8 ⟨rfl,rfl⟩
    simp only[]
    go_wp2_with fail
    refine(bR _ _).mono ?_
    rintro e w9 ⟨rfl,rfl⟩
    exact⟨rfl,rfl,R8.out.tail⟩
  ·have t1:decide (0<=Y)=false:=decide_eq_false hY
   simp only[t1,Bool.false_and,Bool.false_eq_true,and_false,if_false]
   simp only[show¬(19:Int)=0 by decide,if_false]
   clear hY YT
   go_enter func108,ntmps108
   go_wp2_with fail
   go_region_held (λw'=>w'.cell? (g,0)=some (c.gM:Vl)∧w'.cell? (c.gM,0)=some (c.gI:Vl)) (go_keep)
    ((first| (go_at_call 63;refine mo Wh.out λw5 UF=>?_;simp only[];have Q7:=so.out.drew.below UF;have⟨n0,n1,n2,n3⟩:=th.out _ _ Q7;clear UF;replace Q7:=hid Q7) | (go_at_call 73;refine mo (Ta.out _ Q7.out) λw6 Sq=>?_;simp only[];have R8:=Q7.out.below Sq;have⟨o0,o1,o2,o3⟩:=th.out _ _ R8;clear Sq;replace R8:=hid R8)))
   all_goals go_wp2_with fail
   refine(Rr.out _).mono ?_
   rintro e w7 ⟨rfl,rfl⟩
   simp only[]
   go_wp2_with fail
   refine(bz _ _).mono ?_
   rintro e w8 ⟨rfl,rfl⟩
   simp only[]
   go_wp2_with fail
   refine(bR _ _).mono ?_
   rintro e w9 ⟨rfl,rfl⟩
   exact⟨rfl,rfl,R8.out.tail⟩
