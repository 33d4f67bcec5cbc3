/- Chapter 11. Conditions: as written. -/
import Derived.Test.YtilaogbkdbbdkaaGreatDoorOm
import Derived.Test.YtilaogbkdbbdkaaGreatDoorZ19
import Derived.Laws.EntriesVeiled
open Go.Proofs.Tryz
namespace Go.Proofs.YtilaogbkdbbdkaaGreatDoor
set_option linter.unusedVariables false
set_option linter.unusedSimpArgs false
set_option maxHeartbeats 8000000
set_option maxRecDepth 100000
open Go.RowKit Go.Lib Go.Deep
namespace Vm
def ks(x:Rn)(s:Mt):Rs×List Int:=
 if aX x (ar s 3 2)=0 then(⟨s.S.fM x.mode (ar s 3 0) (ar s 3 1) (ar s 3 2),x.pay (ar s 3 2),{ s with S:=s.S.move x.mode (ar s 3 0) (ar s 3 1) (ar s 3 2) }⟩,[])else(⟨aX x (ar s 3 2),x.pay (ar s 3 2),s⟩,[])
theorem PE(arg lit cells:Int):br 106 (λg=>#[.pointer (some ⟨g,0,none⟩)]) ⟨70,arg,lit,cells⟩ ks:=by
 intro c g x src s ba w F hs hx IT hb
 have Q8: (Code.ai 70).1.toNat=3:=by decide
 simp only[Q8]at hb⊢
 have so:=On.refl hb
 have th: ∀x2 s2 W,On F w (aa (ae ba 3 (ag (s.args 3))::vL c g x2 src s2)) W->W.cell? (g,0)=some (c.gM:Vl)∧W.cell? (c.gM,0)=some (c.gI:Vl)∧W.cell? (g,1)=some (.int .i64 x2.mode)∧W.cell? (ba,0)=some ((ar s 3 0):Vl)∧W.cell? (ba,1)=some ((ar s 3 1):Vl)∧W.cell? (ba,2)=some ((ar s 3 2):Vl):=λx2 s2 W h=>⟨h.tail.r0,h.tail.m0,h.tail.r1,aj (h.ab 0 rfl) oM,aj (h.ab 0 rfl) oM,aj (h.ab 0 rfl) oM⟩
 have acn:=aj ((On.refl hb).ab 0 rfl) (j:=2) oM
 have RU:Calls prog 150 #[g,(ar s 3 2)] w (Got (bp (aX x (ar s 3 2))) (aa (ae ba 3 (ag (s.args 3))::vL c g (x.pay (ar s 3 2)) src s)) F w):=so.aM λF' RJ _ _=>wu RJ hx _ (aN s 3 2)
 have WC: (x.pay (ar s 3 2)).mode=x.mode:=by unfold Rn.pay;split<;>rfl
 have hc: ∀W,On F w (aa (ae ba 3 (ag (s.args 3))::vL c g (x.pay (ar s 3 2)) src s)) W->Calls prog 151 #[c.gI,x.mode,(ar s 3 0),(ar s 3 1),(ar s 3 2)] W (Got (.returned (s.S.fM x.mode (ar s 3 0) (ar s 3 1) (ar s 3 2))) (aa (ae ba 3 (ag (s.args 3))::vL c g (x.pay (ar s 3 2)) src { s with S:=s.S.move x.mode (ar s 3 0) (ar s 3 1) (ar s 3 2) })) F w):=λW h=>h.bG 3 rfl (λF' ha=>Ov ha x.mode (ar s 3 0) (ar s 3 1) (ar s 3 2) (by have:=aN s 3 2;unfold V64 at this;omega))
 unfold ks
 generalize Sw: ({ s with S:=s.S.move x.mode (ar s 3 0) (ar s 3 1) (ar s 3 2) }:Mt)=s2 at *
 clear Sw
 generalize s.S.fM x.mode (ar s 3 0) (ar s 3 1) (ar s 3 2)=f2 at *
 generalize aX x (ar s 3 2)=f1 at *
 generalize x.pay (ar s 3 2)=x2 at *
 generalize ar s 3 0=X at *
 generalize ar s 3 1=Y at *
 generalize ar s 3 2=Z at *
 show Calls _ _ #[g,(70:Int),.slice ba 3 3] _ _
 generalize ag (s.args 3)=ac at *
 rw[<-WC]at hc
 replace⟨th,hc,RU,so,WC⟩:=iE th hc RU so WC
 clear hb Q8 IT hs hx
 by_cases hf:f1=0
 ·simp only[if_pos hf]
  have e1:bp f1 = .returned (.tuple #[]):=by unfold bp;rw[if_pos hf]
  rw[e1]at RU
  clear e1 hf
  by_cases RG:f2=0
  ·simp only[if_pos RG]
   subst RG
   go_enter func106,ntmps106
   go_wp2_with fail
   refine mo RU.out λw1 h1=>?_
   simp only[]
   clear acn
   go_wp2_with fail
   have hd:=hid h1.drew
   have⟨n0,n1,n2,n3,n4,n5⟩:=th.out _ _ _ hd.out
   go_region_held (λw'=>w'.cell? (g,0)=some (c.gM:Vl)∧w'.cell? (c.gM,0)=some (c.gI:Vl)∧w'.cell? (g,1)=some (x2.mode:Vl)∧w'.cell? (ba,0)=some (X:Vl)∧w'.cell? (ba,1)=some (Y:Vl)∧w'.cell? (ba,2)=some (Z:Vl)) (go_keep)
    ((first
      | (go_at_call 151;refine mo (hc.out _ hd.out) λw7 SL=>?_;simp only[];have⟨o0,o1,o2,o3,o4,o5⟩:=th.out _ _ _ SL;replace SL:=hid SL)
      | (go_at_call 69;refine(bL _).mono ?_;rintro e w8 ⟨rfl,rfl⟩;simp only[])))
   all_goals go_wp2
   all_goals go_ret
   all_goals exact⟨none,0,_,rfl,bA _,SL.out⟩
  ·simp only[if_neg RG]
   have ht:=hid (λw=>cJ f2 RG w)
   replace RG:=hid RG
   go_enter func106,ntmps106
   go_wp2_with fail
   refine mo RU.out λw1 h1=>?_
   simp only[]
   clear acn
   go_wp2_with fail
   have hd:=hid h1.drew
   have⟨n0,n1,n2,n3,n4,n5⟩:=th.out _ _ _ hd.out
   go_region_held (λw'=>w'.cell? (g,0)=some (c.gM:Vl)∧w'.cell? (c.gM,0)=some (c.gI:Vl)∧w'.cell? (g,1)=some (x2.mode:Vl)∧w'.cell? (ba,0)=some (X:Vl)∧w'.cell? (ba,1)=some (Y:Vl)∧w'.cell? (ba,2)=some (Z:Vl)) (go_keep)
    ((first
      | (go_at_call 151;refine mo (hc.out _ hd.out) λw7 SL=>?_;simp only[];have⟨o0,o1,o2,o3,o4,o5⟩:=th.out _ _ _ SL;replace SL:=hid SL)
      | (go_at_call 69;refine dead (ht.out _) ⟨rfl,rfl,SL.out.tail⟩ ?_;intro hF e w6 he hw;subst he;subst hw;replace hF:=hid hF)))
   all_goals exact hF.out.elim
 ·simp only[if_neg hf]
  rw[cB hf]at RU
  replace hf:=hid hf
  go_enter func106,ntmps106
  go_wp2_with fail
  refine mo RU.out λw1 h1=>?_
  exact⟨rfl,rfl,h1.tail⟩
def kz(x:Rn)(s:Mt):Rs×List Int:=
 if aX x (ar s 3 1)=0 then(⟨s.S.gL x.mode (ar s 3 0) (ar s 3 1),x.pay (ar s 3 1),{ s with S:=s.S.fill x.mode (ar s 3 0) (ar s 3 1) (byteOf (ar s 3 2)) }⟩,[])else(⟨aX x (ar s 3 1),x.pay (ar s 3 1),s⟩,[])
theorem Nz(arg lit cells:Int):br 106 (λg=>#[.pointer (some ⟨g,0,none⟩)]) ⟨71,arg,lit,cells⟩ kz:=by
 intro c g x src s ba w F hs hx IT hb
 have Q8: (Code.ai 71).1.toNat=3:=by decide
 simp only[Q8]at hb⊢
 have so:=On.refl hb
 have th: ∀x2 s2 W,On F w (aa (ae ba 3 (ag (s.args 3))::vL c g x2 src s2)) W->W.cell? (g,0)=some (c.gM:Vl)∧W.cell? (c.gM,0)=some (c.gI:Vl)∧W.cell? (g,1)=some (.int .i64 x2.mode)∧W.cell? (ba,0)=some ((ar s 3 0):Vl)∧W.cell? (ba,1)=some ((ar s 3 1):Vl)∧W.cell? (ba,2)=some ((ar s 3 2):Vl):=λx2 s2 W h=>⟨h.tail.r0,h.tail.m0,h.tail.r1,aj (h.ab 0 rfl) oM,aj (h.ab 0 rfl) oM,aj (h.ab 0 rfl) oM⟩
 have acn:=aj ((On.refl hb).ab 0 rfl) (j:=1) oM
 have RU:Calls prog 150 #[g,(ar s 3 1)] w (Got (bp (aX x (ar s 3 1))) (aa (ae ba 3 (ag (s.args 3))::vL c g (x.pay (ar s 3 1)) src s)) F w):=so.aM λF' RJ _ _=>wu RJ hx _ (aN s 3 1)
 have WC: (x.pay (ar s 3 1)).mode=x.mode:=by unfold Rn.pay;split<;>rfl
 have hc: ∀W,On F w (aa (ae ba 3 (ag (s.args 3))::vL c g (x.pay (ar s 3 1)) src s)) W->Calls prog 152 #[c.gI,x.mode,(ar s 3 0),(ar s 3 1),.int .u8 ((byteOf (ar s 3 2)).toNat:Int)] W (Got (.returned (s.S.gL x.mode (ar s 3 0) (ar s 3 1))) (aa (ae ba 3 (ag (s.args 3))::vL c g (x.pay (ar s 3 1)) src { s with S:=s.S.fill x.mode (ar s 3 0) (ar s 3 1) (byteOf (ar s 3 2)) })) F w):=λW h=>h.bG 3 rfl (λF' ha=>OT ha x.mode (ar s 3 0) (ar s 3 1) (byteOf (ar s 3 2)) (by have:=aN s 3 1;unfold V64 at this;omega))
 unfold kz
 generalize Sw: ({ s with S:=s.S.fill x.mode (ar s 3 0) (ar s 3 1) (byteOf (ar s 3 2)) }:Mt)=s2 at *
 clear Sw
 generalize s.S.gL x.mode (ar s 3 0) (ar s 3 1)=f2 at *
 generalize aX x (ar s 3 1)=f1 at *
 generalize x.pay (ar s 3 1)=x2 at *
 have Sv:=(l6 (ar s 3 2)).symm
 generalize byteOf (ar s 3 2)=bt at *
 generalize ar s 3 0=X at *
 generalize ar s 3 1=Y at *
 generalize ar s 3 2=Z at *
 show Calls _ _ #[g,(71:Int),.slice ba 3 3] _ _
 generalize ag (s.args 3)=ac at *
 rw[<-WC]at hc
 replace⟨th,hc,RU,so,WC⟩:=iE th hc RU so WC
 clear hb Q8 IT hs hx
 by_cases hf:f1=0
 ·simp only[if_pos hf]
  have e1:bp f1 = .returned (.tuple #[]):=by unfold bp;rw[if_pos hf]
  rw[e1]at RU
  clear e1 hf
  by_cases RG:f2=0
  ·simp only[if_pos RG]
   subst RG
   go_enter func106,ntmps106
   go_wp2_with fail
   refine mo RU.out λw1 h1=>?_
   simp only[]
   clear acn
   go_wp2_with fail
   have hd:=hid h1.drew
   have⟨n0,n1,n2,n3,n4,n5⟩:=th.out _ _ _ hd.out
   go_region_held (λw'=>w'.cell? (g,0)=some (c.gM:Vl)∧w'.cell? (c.gM,0)=some (c.gI:Vl)∧w'.cell? (g,1)=some (x2.mode:Vl)∧w'.cell? (ba,0)=some (X:Vl)∧w'.cell? (ba,1)=some (Y:Vl)∧w'.cell? (ba,2)=some (Z:Vl)) (go_keep)
    ((first
      | (go_at_call 152;refine mo (hc.out _ hd.out) λw7 SL=>?_;simp only[];have⟨o0,o1,o2,o3,o4,o5⟩:=th.out _ _ _ SL;replace SL:=hid SL)
      | (go_at_call 69;refine(bL _).mono ?_;rintro e w8 ⟨rfl,rfl⟩;simp only[])))
   all_goals go_wp2
   all_goals go_ret
   all_goals exact⟨none,0,_,rfl,bA _,SL.out⟩
  ·simp only[if_neg RG]
   have ht:=hid (λw=>cJ f2 RG w)
   replace RG:=hid RG
   go_enter func106,ntmps106
   go_wp2_with fail
   refine mo RU.out λw1 h1=>?_
   simp only[]
   clear acn
   go_wp2_with fail
   have hd:=hid h1.drew
   have⟨n0,n1,n2,n3,n4,n5⟩:=th.out _ _ _ hd.out
   go_region_held (λw'=>w'.cell? (g,0)=some (c.gM:Vl)∧w'.cell? (c.gM,0)=some (c.gI:Vl)∧w'.cell? (g,1)=some (x2.mode:Vl)∧w'.cell? (ba,0)=some (X:Vl)∧w'.cell? (ba,1)=some (Y:Vl)∧w'.cell? (ba,2)=some (Z:Vl)) (go_keep)
    ((first
      | (go_at_call 152;refine mo (hc.out _ hd.out) λw7 SL=>?_;simp only[];have⟨o0,o1,o2,o3,o4,o5⟩:=th.out _ _ _ SL;replace SL:=hid SL)
      | (go_at_call 69;refine dead (ht.out _) ⟨rfl,rfl,SL.out.tail⟩ ?_;intro hF e w6 he hw;subst he;subst hw;replace hF:=hid hF)))
   all_goals exact hF.out.elim
 ·simp only[if_neg hf]
  rw[cB hf]at RU
  replace hf:=hid hf
  go_enter func106,ntmps106
  go_wp2_with fail
  refine mo RU.out λw1 h1=>?_
  exact⟨rfl,rfl,h1.tail⟩
section
variable {w w':World}{F:Nat->Prop}{c:Vc}{s:Mt}{L:List Asr}{gI gb:Nat}{S:Img}
theorem Ns(h:Blk w c.gM 109 (pN c s)):Calls prog 13 #[.pointer (some ⟨c.gM,0,none⟩)] w (ax (.pointer (some ⟨c.gD,0,none⟩)) w):=by
 have c5:w.cell? (c.gM,5)=some (.pointer (some ⟨c.gD,0,none⟩)):=h.cell 5
 clear h
 go_enter func13,ntmps13
 go_wp2
 go_ret
 exact⟨rfl,rfl⟩
theorem G9(h:Blk w c.gM 109 (pN c s)):Calls prog 15 #[.pointer (some ⟨c.gM,0,none⟩)] w (ax (.pointer (some ⟨c.gR,0,none⟩)) w):=by
 have c5:w.cell? (c.gM,6)=some (.pointer (some ⟨c.gR,0,none⟩)):=h.cell 6
 clear h
 go_enter func15,ntmps15
 go_wp2
 go_ret
 exact⟨rfl,rfl⟩
theorem N3(h:On F w (aa (jQb c s::L)) w')(ft us hd:Int):Calls prog 35 #[.pointer (some ⟨c.gM,0,none⟩),ft,us,hd] w' (Got (.returned (.tuple #[])) (aa (jQb c { s with fault:=ft,used:=us,hidden:=hd }::L)) F w):=by
 have hb:Blk w' c.gM 109 (pN c s):=h.ab 0 rfl
 have c8:w'.cell? (c.gM,8)=some (s.fault:Vl):=hb.cell 8
 have c9:w'.cell? (c.gM,9)=some (s.used:Vl):=hb.cell 9
 have c10:w'.cell? (c.gM,10)=some (s.hidden:Vl):=hb.cell 10
 have f8:=hb.frozen 8
 have f9:=hb.frozen 9
 have f10:=hb.frozen 10
 have IS:=((h.setAt 0 rfl 8 (.int .i64 ft)).setAt 0 rfl 9 (.int .i64 us)).setAt 0 rfl 10 (.int .i64 hd)
 replace IS:=hid IS
 clear hb h
 go_enter func35,ntmps35
 go_wp2
 refine bodyPost_end (v:= .tuple #[]) (results_none (by rfl) _ _ _) (by rfl) ⟨rfl,?_⟩
 exact IS.out
def Vc.au(c:Vc)(v:Value)(tl:List Stp->Asr)(rest:Ext->List Asr):Vc:={ c with tell:=v,tl:=tl,rest:=rest }
theorem KM(h:On F w (aa (jQb c s::L)) w')(ht:c.tell = .nilFunc)(fn:Fn)(first cap:Array Value)(tl:List Stp->Asr)(rest:Ext->List Asr):Calls prog 36 #[.pointer (some ⟨c.gM,0,none⟩),.func fn first cap] w' (Got (.returned (.tuple #[])) (aa (jQb (c.au (.func fn first cap) tl rest) s::L)) F w):=by
 have hb:Blk w' c.gM 109 (pN c s):=h.ab 0 rfl
 have c7:w'.cell? (c.gM,7)=some c.tell:=hb.cell 7
 rw[ht]at c7
 have f7:=hb.frozen 7
 have IS:=h.setAt 0 rfl 7 (.func fn first cap)
 replace IS:=hid IS
 clear hb h ht
 go_enter func36,ntmps36
 go_wp2
 refine bodyPost_end (v:= .tuple #[]) (results_none (by rfl) _ _ _) (by rfl) ⟨rfl,?_⟩
 exact IS.out
def G7(gI fr en rg:Nat)(e:Ending)(B:Asr):Prop:= ∃g,e = .returned (.tuple #[.pointer (some ⟨g,0,none⟩),(0:Int)])∧B=Rk gI g fr en ⟨rg,fr,0⟩
theorem JV(hi:b9 w gI gb S)(rg:Nat)(WB:rg=1∨rg=3):Calls prog 24 #[.pointer (some ⟨gI,0,none⟩),(rg:Int)] w (cz (G7 gI (S.beg rg+8) (S.beg (rg+1)) rg) Nob w):=by
 have so:=On.refl (A:=aa []) (F:=Nob) (w:=w) (λ_ h=>h)
 have Zs:S.beg rg<=143360:=by
  rcases WB with rfl|rfl
  ·show 0<=_;omega
  ·exact Nat.le_trans (S.bN oM oM oM) hi.ok.small
 have Sj:=j5 hi rg (by rcases WB with rfl|rfl<;>omega) (by rcases WB with rfl|rfl<;>omega)
 generalize S.beg rg=b at *
 generalize S.beg (rg+1)=en at *
 replace⟨Sj,so⟩:=iB Sj so
 clear hi
 have hb8: ((b+8:Nat):Int)= (b:Int) +8:=by omega
 rcases WB with rfl|rfl
 ·go_enter func24,ntmps24
  go_wp2_with fail
  refine Sj.out.mono ?_
  rintro e w1 ⟨rfl,n,rfl⟩
  have IS:=(so.out.drewN n).box (cm gI (b+8) en ((b+8:Nat):Int) 0) 123
  replace IS:=hid IS
  go_wp2
  go_ret2
  exact⟨_,⟨_,rfl,rfl⟩,IS.out.nX⟩
 ·go_enter func24,ntmps24
  go_wp2_with fail
  refine Sj.out.mono ?_
  rintro e w1 ⟨rfl,n,rfl⟩
  have IS:=(so.out.drewN n).box (cm gI (b+8) en ((b+8:Nat):Int) 0) 123
  replace IS:=hid IS
  go_wp2
  go_ret2
  exact⟨_,⟨_,rfl,rfl⟩,IS.out.nX⟩
