/- Chapter 11: MOVE FILL. Conditions: all was asked. Printed by gen_vmem4.py. -/
import Derived.Test.YtjohhkikoejadaaGreatDoorOm
import Derived.Test.YtjohhkikoejadaaGreatDoorZ02
import Derived.Test.YtjohhkikoejadaaGreatDoorZ17
import Derived.Test.YtjohhkikoejadaaGreatDoorZ15
import Derived.Test.YtjohhkikoejadaaGreatDoorZ16
import Derived.Test.YtjohhkikoejadaaGreatDoorZ12
import Derived.Laws.EntriesVeiled
namespace Go.Proofs.YtjohhkikoejadaaGreatDoor
set_option linter.unusedVariables false
set_option linter.unusedSimpArgs false
set_option maxHeartbeats 8000000
set_option maxRecDepth 100000
open Go.RowKit Go.Lib Go.Deep
namespace Vm
def pg(x:Rn)(s:Mt) :Rs×List Int:=
 if aY x (ar s 3 2) =0 then(⟨s.S.iv x.mode (ar s 3 0) (ar s 3 1) (ar s 3 2),x.pay (ar s 3 2),{ s with S:=s.S.move x.mode (ar s 3 0) (ar s 3 1) (ar s 3 2) }⟩,[])else(⟨aY x (ar s 3 2),x.pay (ar s 3 2),s⟩,[])
theorem L9(arg lit cells:Int) :bn 100 (λg=> #[.pointer (some ⟨g,0,none⟩)]) ⟨70,arg,lit,cells⟩ pg:=by
 intro c g x src s ba w F hs hx hask hb
 have hw2: (Code.ah 70).1.toNat=3:=by decide
 simp only[hw2]at hb⊢
 have hon:=On.refl hb
 have hcell : ∀x2 s2 W,On F w (aa (ae ba 3 (af (s.args 3)) ::vL c g x2 src s2)) W->W.cell? (g,0) =some (c.gM:Vl)∧W.cell? (c.gM,0) =some (c.gI:Vl)∧W.cell? (g,1) =some (.int .i64 x2.mode)∧W.cell? (ba,0) =some ((ar s 3 0) :Vl)∧W.cell? (ba,1) =some ((ar s 3 1) :Vl)∧W.cell? (ba,2) =some ((ar s 3 2) :Vl):=λx2 s2 W h=>⟨h.tail.r0,h.tail.m0,h.tail.r1,ai (h.ab 0 rfl) oM,ai (h.ab 0 rfl) oM,ai (h.ab 0 rfl) oM⟩
 have acn:=ai ((On.refl hb).ab 0 rfl) (j:=2) oM
 have hmo:Calls Tryz.prog 141 #[g,(ar s 3 2)] w (Got (bO (aY x (ar s 3 2))) (aa (ae ba 3 (af (s.args 3)) ::vL c g (x.pay (ar s 3 2)) src s)) F w):=hon.aW λF' hb' _ _=>vr hb' hx _ (aL s 3 2)
 have hmd: (x.pay (ar s 3 2)).mode=x.mode:=by unfold Rn.pay;split<;>rfl
 have hc : ∀W,On F w (aa (ae ba 3 (af (s.args 3)) ::vL c g (x.pay (ar s 3 2)) src s)) W->Calls Tryz.prog 142 #[c.gI,x.mode,(ar s 3 0),(ar s 3 1),(ar s 3 2)] W (Got (.returned (s.S.iv x.mode (ar s 3 0) (ar s 3 1) (ar s 3 2))) (aa (ae ba 3 (af (s.args 3)) ::vL c g (x.pay (ar s 3 2)) src { s with S:=s.S.move x.mode (ar s 3 0) (ar s 3 1) (ar s 3 2) })) F w):=λW h=>h.bA 3 rfl (λF' ha=>Lq ha x.mode (ar s 3 0) (ar s 3 1) (ar s 3 2) (by have:=aL s 3 2;unfold V64 at this;omega))
 unfold pg
 generalize hs2: ({ s with S:=s.S.move x.mode (ar s 3 0) (ar s 3 1) (ar s 3 2) }:Mt) =s2 at *
 clear hs2
 generalize s.S.iv x.mode (ar s 3 0) (ar s 3 1) (ar s 3 2) =f2 at *
 generalize aY x (ar s 3 2) =f1 at *
 generalize x.pay (ar s 3 2) =x2 at *
 generalize ar s 3 0=X at *
 generalize ar s 3 1=Y at *
 generalize ar s 3 2=Z at *
 show Calls _ _ #[g,(70:Int),.slice ba 3 3] _ _
 generalize af (s.args 3) =ac at *
 rw[<-hmd]at hc
 replace hcell:=hid hcell
 replace hc:=hid hc
 replace hmo:=hid hmo
 replace hon:=hid hon
 replace hmd:=hid hmd
 clear hb hw2 hask hs hx
 by_cases hf:f1=0
 ·simp only[if_pos hf]
  have e1:bO f1 = .returned (.tuple #[]):=by unfold bO;rw[if_pos hf]
  rw[e1]at hmo
  clear e1 hf
  by_cases hf2:f2=0
  ·simp only[if_pos hf2]
   subst hf2
   go_enter Tryz.func100,Tryz.ntmps100
   go_wp2_with fail
   refine hmo.out.mono ?_
   rintro e w1 ⟨rfl,h1⟩
   simp only[]
   clear acn
   go_wp2_with fail
   have hd:=hid h1.drew
   have⟨n0,n1,n2,n3,n4,n5⟩:=hcell.out _ _ _ hd.out
   go_region_held (λw'=>w'.cell? (g,0) =some (c.gM:Vl)∧w'.cell? (c.gM,0) =some (c.gI:Vl)∧w'.cell? (g,1) =some (x2.mode:Vl)∧w'.cell? (ba,0) =some (X:Vl)∧w'.cell? (ba,1) =some (Y:Vl)∧w'.cell? (ba,2) =some (Z:Vl)) (go_keep)
    ((first
      | (go_at_call 142;refine(hc.out _ hd.out).mono ?_;rintro e w7 ⟨rfl,hn7⟩;simp only[];have⟨o0,o1,o2,o3,o4,o5⟩:=hcell.out _ _ _ hn7;replace hn7:=hid hn7)
      | (go_at_call 64;refine(bD _).mono ?_;rintro e w8 ⟨rfl,rfl⟩;simp only[])))
   all_goals go_wp2
   all_goals go_ret
   all_goals exact⟨none,0,_,rfl,br _,hn7.out⟩
  ·simp only[if_neg hf2]
   have ht:=hid (λw=>cG f2 hf2 w)
   replace hf2:=hid hf2
   go_enter Tryz.func100,Tryz.ntmps100
   go_wp2_with fail
   refine hmo.out.mono ?_
   rintro e w1 ⟨rfl,h1⟩
   simp only[]
   clear acn
   go_wp2_with fail
   have hd:=hid h1.drew
   have⟨n0,n1,n2,n3,n4,n5⟩:=hcell.out _ _ _ hd.out
   go_region_held (λw'=>w'.cell? (g,0) =some (c.gM:Vl)∧w'.cell? (c.gM,0) =some (c.gI:Vl)∧w'.cell? (g,1) =some (x2.mode:Vl)∧w'.cell? (ba,0) =some (X:Vl)∧w'.cell? (ba,1) =some (Y:Vl)∧w'.cell? (ba,2) =some (Z:Vl)) (go_keep)
    ((first
      | (go_at_call 142;refine(hc.out _ hd.out).mono ?_;rintro e w7 ⟨rfl,hn7⟩;simp only[];have⟨o0,o1,o2,o3,o4,o5⟩:=hcell.out _ _ _ hn7;replace hn7:=hid hn7)
      | (go_at_call 64;refine dead (ht.out _) ⟨rfl,rfl,hn7.out.tail⟩ ?_;intro hF e w6 he hw;subst he;subst hw;replace hF:=hid hF)))
   all_goals exact hF.out.elim
 ·simp only[if_neg hf]
  rw[eD hf]at hmo
  replace hf:=hid hf
  go_enter Tryz.func100,Tryz.ntmps100
  go_wp2_with fail
  refine hmo.out.mono ?_
  rintro e w1 ⟨rfl,h1⟩
  exact⟨rfl,rfl,h1.tail⟩
def oQ(x:Rn)(s:Mt) :Rs×List Int:=
 if aY x (ar s 3 1) =0 then(⟨s.S.iM x.mode (ar s 3 0) (ar s 3 1),x.pay (ar s 3 1),{ s with S:=s.S.fill x.mode (ar s 3 0) (ar s 3 1) (byteOf (ar s 3 2)) }⟩,[])else(⟨aY x (ar s 3 1),x.pay (ar s 3 1),s⟩,[])
theorem LR(arg lit cells:Int) :bn 100 (λg=> #[.pointer (some ⟨g,0,none⟩)]) ⟨71,arg,lit,cells⟩ oQ:=by
 intro c g x src s ba w F hs hx hask hb
 have hw2: (Code.ah 71).1.toNat=3:=by decide
 simp only[hw2]at hb⊢
 have hon:=On.refl hb
 have hcell : ∀x2 s2 W,On F w (aa (ae ba 3 (af (s.args 3)) ::vL c g x2 src s2)) W->W.cell? (g,0) =some (c.gM:Vl)∧W.cell? (c.gM,0) =some (c.gI:Vl)∧W.cell? (g,1) =some (.int .i64 x2.mode)∧W.cell? (ba,0) =some ((ar s 3 0) :Vl)∧W.cell? (ba,1) =some ((ar s 3 1) :Vl)∧W.cell? (ba,2) =some ((ar s 3 2) :Vl):=λx2 s2 W h=>⟨h.tail.r0,h.tail.m0,h.tail.r1,ai (h.ab 0 rfl) oM,ai (h.ab 0 rfl) oM,ai (h.ab 0 rfl) oM⟩
 have acn:=ai ((On.refl hb).ab 0 rfl) (j:=1) oM
 have hmo:Calls Tryz.prog 141 #[g,(ar s 3 1)] w (Got (bO (aY x (ar s 3 1))) (aa (ae ba 3 (af (s.args 3)) ::vL c g (x.pay (ar s 3 1)) src s)) F w):=hon.aW λF' hb' _ _=>vr hb' hx _ (aL s 3 1)
 have hmd: (x.pay (ar s 3 1)).mode=x.mode:=by unfold Rn.pay;split<;>rfl
 have hc : ∀W,On F w (aa (ae ba 3 (af (s.args 3)) ::vL c g (x.pay (ar s 3 1)) src s)) W->Calls Tryz.prog 143 #[c.gI,x.mode,(ar s 3 0),(ar s 3 1),.int .u8 ((byteOf (ar s 3 2)).toNat:Int)] W (Got (.returned (s.S.iM x.mode (ar s 3 0) (ar s 3 1))) (aa (ae ba 3 (af (s.args 3)) ::vL c g (x.pay (ar s 3 1)) src { s with S:=s.S.fill x.mode (ar s 3 0) (ar s 3 1) (byteOf (ar s 3 2)) })) F w):=λW h=>h.bA 3 rfl (λF' ha=>LZ ha x.mode (ar s 3 0) (ar s 3 1) (byteOf (ar s 3 2)) (by have:=aL s 3 1;unfold V64 at this;omega))
 unfold oQ
 generalize hs2: ({ s with S:=s.S.fill x.mode (ar s 3 0) (ar s 3 1) (byteOf (ar s 3 2)) }:Mt) =s2 at *
 clear hs2
 generalize s.S.iM x.mode (ar s 3 0) (ar s 3 1) =f2 at *
 generalize aY x (ar s 3 1) =f1 at *
 generalize x.pay (ar s 3 1) =x2 at *
 have hby:=(kN (ar s 3 2)).symm
 generalize byteOf (ar s 3 2) =bt at *
 generalize ar s 3 0=X at *
 generalize ar s 3 1=Y at *
 generalize ar s 3 2=Z at *
 show Calls _ _ #[g,(71:Int),.slice ba 3 3] _ _
 generalize af (s.args 3) =ac at *
 rw[<-hmd]at hc
 replace hcell:=hid hcell
 replace hc:=hid hc
 replace hmo:=hid hmo
 replace hon:=hid hon
 replace hmd:=hid hmd
 clear hb hw2 hask hs hx
 by_cases hf:f1=0
 ·simp only[if_pos hf]
  have e1:bO f1 = .returned (.tuple #[]):=by unfold bO;rw[if_pos hf]
  rw[e1]at hmo
  clear e1 hf
  by_cases hf2:f2=0
  ·simp only[if_pos hf2]
   subst hf2
   go_enter Tryz.func100,Tryz.ntmps100
   go_wp2_with fail
   refine hmo.out.mono ?_
   rintro e w1 ⟨rfl,h1⟩
   simp only[]
   clear acn
   go_wp2_with fail
   have hd:=hid h1.drew
   have⟨n0,n1,n2,n3,n4,n5⟩:=hcell.out _ _ _ hd.out
   go_region_held (λw'=>w'.cell? (g,0) =some (c.gM:Vl)∧w'.cell? (c.gM,0) =some (c.gI:Vl)∧w'.cell? (g,1) =some (x2.mode:Vl)∧w'.cell? (ba,0) =some (X:Vl)∧w'.cell? (ba,1) =some (Y:Vl)∧w'.cell? (ba,2) =some (Z:Vl)) (go_keep)
    ((first
      | (go_at_call 143;refine(hc.out _ hd.out).mono ?_;rintro e w7 ⟨rfl,hn7⟩;simp only[];have⟨o0,o1,o2,o3,o4,o5⟩:=hcell.out _ _ _ hn7;replace hn7:=hid hn7)
      | (go_at_call 64;refine(bD _).mono ?_;rintro e w8 ⟨rfl,rfl⟩;simp only[])))
   all_goals go_wp2
   all_goals go_ret
   all_goals exact⟨none,0,_,rfl,br _,hn7.out⟩
  ·simp only[if_neg hf2]
   have ht:=hid (λw=>cG f2 hf2 w)
   replace hf2:=hid hf2
   go_enter Tryz.func100,Tryz.ntmps100
   go_wp2_with fail
   refine hmo.out.mono ?_
   rintro e w1 ⟨rfl,h1⟩
   simp only[]
   clear acn
   go_wp2_with fail
   have hd:=hid h1.drew
   have⟨n0,n1,n2,n3,n4,n5⟩:=hcell.out _ _ _ hd.out
   go_region_held (λw'=>w'.cell? (g,0) =some (c.gM:Vl)∧w'.cell? (c.gM,0) =some (c.gI:Vl)∧w'.cell? (g,1) =some (x2.mode:Vl)∧w'.cell? (ba,0) =some (X:Vl)∧w'.cell? (ba,1) =some (Y:Vl)∧w'.cell? (ba,2) =some (Z:Vl)) (go_keep)
    ((first
      | (go_at_call 143;refine(hc.out _ hd.out).mono ?_;rintro e w7 ⟨rfl,hn7⟩;simp only[];have⟨o0,o1,o2,o3,o4,o5⟩:=hcell.out _ _ _ hn7;replace hn7:=hid hn7)
      | (go_at_call 64;refine dead (ht.out _) ⟨rfl,rfl,hn7.out.tail⟩ ?_;intro hF e w6 he hw;subst he;subst hw;replace hF:=hid hF)))
   all_goals exact hF.out.elim
 ·simp only[if_neg hf]
  rw[eD hf]at hmo
  replace hf:=hid hf
  go_enter Tryz.func100,Tryz.ntmps100
  go_wp2_with fail
  refine hmo.out.mono ?_
  rintro e w1 ⟨rfl,h1⟩
  exact⟨rfl,rfl,h1.tail⟩
section
variable {w w':World}{F:Nat->Prop}{c:Vc}{s:Mt}{L:List Asr}{gI gb:Nat}{S:Img}
theorem KX(h:Blk w c.gM 108 (rP c s)) :Calls Tryz.prog 12 #[.pointer (some ⟨c.gM,0,none⟩)] w (aA (.pointer (some ⟨c.gD,0,none⟩)) w):=by
 have c5:w.cell? (c.gM,5) =some (.pointer (some ⟨c.gD,0,none⟩)):=h.cell 5
 clear h
 go_enter Tryz.func12,Tryz.ntmps12
 go_wp2
 go_ret
 exact⟨rfl,rfl⟩
theorem Lf(h:On F w (aa (gA c s::L)) w')(ft us hd:Int) :Calls Tryz.prog 32 #[.pointer (some ⟨c.gM,0,none⟩),ft,us,hd] w' (Got (.returned (.tuple #[])) (aa (gA c { s with fault:=ft,used:=us,hidden:=hd }::L)) F w):=by
 have hb:Blk w' c.gM 108 (rP c s):=h.ab 0 rfl
 have c8:w'.cell? (c.gM,8) =some (s.fault:Vl):=hb.cell 8
 have c9:w'.cell? (c.gM,9) =some (s.used:Vl):=hb.cell 9
 have c10:w'.cell? (c.gM,10) =some (s.hidden:Vl):=hb.cell 10
 have f8:=hb.frozen 8
 have f9:=hb.frozen 9
 have f10:=hb.frozen 10
 have hfin:=((h.setAt 0 rfl 8 (.int .i64 ft)).setAt 0 rfl 9 (.int .i64 us)).setAt 0 rfl 10 (.int .i64 hd)
 replace hfin:=hid hfin
 clear hb h
 go_enter Tryz.func32,Tryz.ntmps32
 go_wp2
 refine bodyPost_end (v:= .tuple #[]) (results_none (by rfl) _ _ _) (by rfl) ⟨rfl,?_⟩
 exact hfin.out
def Vc.av(c:Vc)(v:Value)(tl:List Stp->Asr)(rest:Ext->List Asr) :Vc:={ c with tell:=v,tl:=tl,rest:=rest }
theorem IY(h:On F w (aa (gA c s::L)) w')(ht:c.tell = .nilFunc)(fn:Fn)(first cap:Array Value)(tl:List Stp->Asr)(rest:Ext->List Asr) :Calls Tryz.prog 33 #[.pointer (some ⟨c.gM,0,none⟩),.func fn first cap] w' (Got (.returned (.tuple #[])) (aa (gA (c.av (.func fn first cap) tl rest) s::L)) F w):=by
 have hb:Blk w' c.gM 108 (rP c s):=h.ab 0 rfl
 have c7:w'.cell? (c.gM,7) =some c.tell:=hb.cell 7
 rw[ht]at c7
 have f7:=hb.frozen 7
 have hfin:=h.setAt 0 rfl 7 (.func fn first cap)
 replace hfin:=hid hfin
 clear hb h ht
 go_enter Tryz.func33,Tryz.ntmps33
 go_wp2
 refine bodyPost_end (v:= .tuple #[]) (results_none (by rfl) _ _ _) (by rfl) ⟨rfl,?_⟩
 exact hfin.out
def GP(gI fr en rg:Nat)(e:Ending)(B:Asr) :Prop:= ∃g,e = .returned (.tuple #[.pointer (some ⟨g,0,none⟩),(0:Int)])∧B=DcA gI g fr en ⟨rg,fr,0⟩
theorem Iq(hi:bU w gI gb S)(rg:Nat)(hrg:rg=1∨rg=3) :Calls Tryz.prog 20 #[.pointer (some ⟨gI,0,none⟩),(rg:Int)] w (b8 (GP gI (S.beg rg+8) (S.beg (rg+1)) rg) Nob w):=by
 have hon:=On.refl (A:=aa []) (F:=Nob) (w:=w) (λ_ h=>h)
 have hsm:S.beg rg<=143360:=by
  rcases hrg with rfl|rfl
  ·show 0<=_;omega
  ·exact Nat.le_trans (S.dm oM oM oM) hi.ok.small
 have hsp:=jA hi rg (by rcases hrg with rfl|rfl<;>omega) (by rcases hrg with rfl|rfl<;>omega)
 generalize S.beg rg=b at *
 generalize S.beg (rg+1) =en at *
 replace hsp:=hid hsp
 replace hon:=hid hon
 clear hi
 have hb8: ((b+8:Nat) :Int) = (b:Int) +8:=by omega
 rcases hrg with rfl|rfl
 ·go_enter Tryz.func20,Tryz.ntmps20
  go_wp2_with fail
  refine hsp.out.mono ?_
  rintro e w1 ⟨rfl,n,rfl⟩
  have hfin:=(hon.out.drewN n).box (cu gI (b+8) en ((b+8:Nat) :Int) 0) 136
  replace hfin:=hid hfin
  go_wp2
  go_ret2
  exact⟨_,⟨_,rfl,rfl⟩,hfin.out.nc⟩
 ·go_enter Tryz.func20,Tryz.ntmps20
  go_wp2_with fail
  refine hsp.out.mono ?_
  rintro e w1 ⟨rfl,n,rfl⟩
  have hfin:=(hon.out.drewN n).box (cu gI (b+8) en ((b+8:Nat) :Int) 0) 136
  replace hfin:=hid hfin
  go_wp2
  go_ret2
  exact⟨_,⟨_,rfl,rfl⟩,hfin.out.nc⟩
end
end Vm
end Go.Proofs.YtjohhkikoejadaaGreatDoor
