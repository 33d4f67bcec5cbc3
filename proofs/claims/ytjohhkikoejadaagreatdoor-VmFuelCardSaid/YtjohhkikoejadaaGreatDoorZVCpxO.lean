/- Chapter 11: complex numbers. Conditions: all was asked. Printed by gen_vcpxo.py. -/
import Derived.Test.YtjohhkikoejadaaGreatDoorOm
import Derived.Test.YtjohhkikoejadaaGreatDoorZ02
import Derived.Test.YtjohhkikoejadaaGreatDoorZ19
import Derived.Test.YtjohhkikoejadaaGreatDoorZ17
namespace Go.Proofs.YtjohhkikoejadaaGreatDoor
set_option linter.unusedVariables false
set_option linter.unusedSimpArgs false
set_option maxHeartbeats 8000000
set_option maxRecDepth 100000
open Go.RowKit Go.Lib Go.Deep
namespace Vm
def okC(a b:Int) :Bool:=inP a&&inP b
theorem yy{P:Program}{f:FuncId}{args:Array Value}{w:World}{Q:Ending->World->Prop}{n:Int}(hc:Calls P f args w (λe w'=>e = .panicked [flt n]∧w'=w))(hp:Q (.panicked [flt n]) w)(v:Value)
 (hk:False->∀e w',e = .returned v->w'=w->Q e w') :Calls P f args w Q:=hc.mono λe w' h=>by
 obtain⟨rfl,rfl⟩:=h
 exact hp
theorem rR{a b:Int}(ha:V64 a)(hb:V64 b)(h:okC a b=true)(w:World) :Calls Tryz.prog 157 #[a,b] w (λe w'=>e = .returned (.complex .f64 (floatOfInt .f64 a) (floatOfInt .f64 b))∧w'=w):=by
 have:=xP ha hb w
 unfold cxE at this
 rwa[if_pos (show(inP a&&inP b) =true from h)]at this
theorem wZ{a b:Int}(ha:V64 a)(hb:V64 b)(h : ¬okC a b=true)(w:World) :Calls Tryz.prog 157 #[a,b] w (λe w'=>e = .panicked [flt 19]∧w'=w):=by
 have:=xP ha hb w
 unfold cxE at this
 rwa[if_neg (show¬(inP a&&inP b) =true from h)]at this
def z2P(A B:Int->Int->Int->Int->Int)(x:Rn)(s:Mt) :Rs×List Int:=
 if okC (ar s 4 0) (ar s 4 1) =true∧okC (ar s 4 2) (ar s 4 3) =true∧okC (A (ar s 4 0) (ar s 4 1) (ar s 4 2) (ar s 4 3)) (B (ar s 4 0) (ar s 4 1) (ar s 4 2) (ar s 4 3)) =true then(⟨0,x,s⟩,[A (ar s 4 0) (ar s 4 1) (ar s 4 2) (ar s 4 3),B (ar s 4 0) (ar s 4 1) (ar s 4 2) (ar s 4 3)])else(⟨19,x,s⟩,[])
theorem EW{op:Int}{fn:FuncId}{A B:Int->Int->Int->Int->Int}(hsel: (op=94∧fn=158)∨(op=95∧fn=159)∨(op=96∧fn=160))(hrun : ∀{x y x2 y2:Nat} {a b a2 b2:Int},CR x y a b->CR x2 y2 a2 b2->∀w:World,Calls Tryz.prog fn #[.complex .f64 x y,.complex .f64 x2 y2] w (dx (A a b a2 b2) (B a b a2 b2) w))(arg lit cells:Int) :bn 106 (λg=> #[]) ⟨op,arg,lit,cells⟩ (z2P A B):=by
 intro c g x src s ba w F hs hx hask hb
 have hw2: (Code.ah op).1.toNat=4:=by rcases hsel with⟨rfl,rfl⟩ | ⟨rfl,rfl⟩ | ⟨rfl,rfl⟩ <;>decide
 simp only[hw2]at hb⊢
 have hon:=On.refl hb
 have a0:=ai ((On.refl hb).ab 0 rfl) (j:=0) oM
 have a1:=ai ((On.refl hb).ab 0 rfl) (j:=1) oM
 have a2:=ai ((On.refl hb).ab 0 rfl) (j:=2) oM
 have a3:=ai ((On.refl hb).ab 0 rfl) (j:=3) oM
 have v0:=aL s 4 0
 have v1:=aL s 4 1
 have v2:=aL s 4 2
 have v3:=aL s 4 3
 unfold z2P
 generalize ar s 4 0=X at *
 generalize ar s 4 1=Y at *
 generalize ar s 4 2=Z at *
 generalize ar s 4 3=T at *
 show Calls _ _ #[op,.slice ba 4 4] _ _
 rcases hsel with⟨rfl,rfl⟩ | ⟨rfl,rfl⟩ | ⟨rfl,rfl⟩
 all_goals
  generalize af (s.args 4) =ac at *
  replace hon:=hid hon
  clear hb hw2 hask hs hx
  by_cases h1:okC X Y=true
  ·have hco:=hid (λw=>rR v0 v1 h1 w)
   have hcr:=CR.of h1
   by_cases h2:okC Z T=true
   ·have hco2:=hid (λw=>rR v2 v3 h2 w)
    have hcr2:=CR.of h2
    have hop:=λw=>hrun hcr hcr2 w
    generalize floatOfInt .f64 X=fx at *
    generalize floatOfInt .f64 Y=fy at *
    generalize floatOfInt .f64 Z=fz at *
    generalize floatOfInt .f64 T=ft at *
    replace hop:=hid hop
    generalize A X Y Z T=RA at *
    generalize B X Y Z T=RB at *
    clear hcr hcr2
    by_cases hres:okC RA RB=true
    ·simp only[h1,h2,hres,and_self,if_true]
     go_enter Tryz.func106,Tryz.ntmps106
     go_wp2_with fail
     go_region_held (λw'=>w'.cell? (ba,0) =some (X:Vl)∧w'.cell? (ba,1) =some (Y:Vl)∧w'.cell? (ba,2) =some (Z:Vl)∧w'.cell? (ba,3) =some (T:Vl)) (go_keep)
      ((go_at_call 157;refine(hco.out _).mono ?_;rintro e w5 ⟨rfl,rfl⟩;simp only[]))
     all_goals go_wp2_with fail
     go_region_held (λw'=>w'.cell? (ba,0) =some (X:Vl)∧w'.cell? (ba,1) =some (Y:Vl)∧w'.cell? (ba,2) =some (Z:Vl)∧w'.cell? (ba,3) =some (T:Vl)) (go_keep)
      ((go_at_call 157;refine(hco2.out _).mono ?_;rintro e w5 ⟨rfl,rfl⟩;simp only[]))
     all_goals go_wp2_with fail
     refine(hop.out _).mono ?_
     intro e w7 hT
     obtain⟨r,i,rfl,g1,g2,hb⟩:=hT.yes hres
     have hn7:=hid (On.below hon.out.drew.drew hb)
     have hpa:=hid (λw=>kW g1 g2 (Bool.and_eq_true .. ▸hres).1 (Bool.and_eq_true .. ▸hres).2 w)
     clear g1 g2 hb hT hres
     simp only[]
     go_wp2_with fail
     refine(bF _ _).mono ?_
     rintro e w8 ⟨rfl,rfl⟩
     simp only[]
     go_wp2_with fail
     refine(hpa.out _).mono ?_
     rintro e w9 ⟨rfl,rfl⟩
     simp only[]
     have h6:=hid (hn7.out.tail.box #[RA,RB] 3)
     go_wp2
     go_ret
     exact⟨some ⟨_,0,none⟩,2,ae _ 3 (af [RA,RB]),rfl,ay _ _,h6.out⟩
    ·rw[Bool.not_eq_true]at hres
     simp only[h1,h2,hres,Bool.false_eq_true,and_false,if_false]
     simp only[show¬(19:Int) =0 by decide,if_false]
     have hres : ¬okC RA RB=true:=by rw[hres];decide
     go_enter Tryz.func106,Tryz.ntmps106
     go_wp2_with fail
     go_region_held (λw'=>w'.cell? (ba,0) =some (X:Vl)∧w'.cell? (ba,1) =some (Y:Vl)∧w'.cell? (ba,2) =some (Z:Vl)∧w'.cell? (ba,3) =some (T:Vl)) (go_keep)
      ((go_at_call 157;refine(hco.out _).mono ?_;rintro e w5 ⟨rfl,rfl⟩;simp only[]))
     all_goals go_wp2_with fail
     go_region_held (λw'=>w'.cell? (ba,0) =some (X:Vl)∧w'.cell? (ba,1) =some (Y:Vl)∧w'.cell? (ba,2) =some (Z:Vl)∧w'.cell? (ba,3) =some (T:Vl)) (go_keep)
      ((go_at_call 157;refine(hco2.out _).mono ?_;rintro e w5 ⟨rfl,rfl⟩;simp only[]))
     all_goals go_wp2_with fail
     refine(hop.out _).mono ?_
     intro e w7 hT
     obtain⟨rfl,hb⟩:=hT.no hres
     have hn7:=hid (On.below hon.out.drew.drew hb)
     clear hb hT hres
     simp only[]
     go_wp2_with fail
     refine(bV _ _).mono ?_
     rintro e w8 ⟨rfl,rfl⟩
     exact⟨rfl,rfl,hn7.out.tail⟩
   ·have hco2:=hid (λw=>wZ v2 v3 h2 w)
    rw[Bool.not_eq_true]at h2
    simp only[h2,Bool.false_eq_true,and_false,false_and,if_false]
    simp only[show¬(19:Int) =0 by decide,if_false]
    generalize floatOfInt .f64 X=fx at *
    generalize floatOfInt .f64 Y=fy at *
    clear hcr h1 h2
    go_enter Tryz.func106,Tryz.ntmps106
    go_wp2_with fail
    go_region_held (λw'=>w'.cell? (ba,0) =some (X:Vl)∧w'.cell? (ba,1) =some (Y:Vl)∧w'.cell? (ba,2) =some (Z:Vl)∧w'.cell? (ba,3) =some (T:Vl)) (go_keep)
     ((go_at_call 157;refine(hco.out _).mono ?_;rintro e w5 ⟨rfl,rfl⟩;simp only[]))
    all_goals go_wp2_with fail
    go_region_held (λw'=>w'.cell? (ba,0) =some (X:Vl)∧w'.cell? (ba,1) =some (Y:Vl)∧w'.cell? (ba,2) =some (Z:Vl)∧w'.cell? (ba,3) =some (T:Vl)) (go_keep)
     ((go_at_call 157;refine yy (hco2.out _) ⟨rfl,rfl,hon.out.drew.drew.tail⟩ (.complex .f64 0 0) ?_;intro hF e w5 he hw;subst he;subst hw;replace hF:=hid hF;simp only[]))
    all_goals exact hF.out.elim
  ·have hco:=hid (λw=>wZ v0 v1 h1 w)
   rw[Bool.not_eq_true]at h1
   simp only[h1,Bool.false_eq_true,and_false,false_and,if_false]
   simp only[show¬(19:Int) =0 by decide,if_false]
   clear h1
   go_enter Tryz.func106,Tryz.ntmps106
   go_wp2_with fail
   go_region_held (λw'=>w'.cell? (ba,0) =some (X:Vl)∧w'.cell? (ba,1) =some (Y:Vl)∧w'.cell? (ba,2) =some (Z:Vl)∧w'.cell? (ba,3) =some (T:Vl)) (go_keep)
    ((go_at_call 157;refine yy (hco.out _) ⟨rfl,rfl,hon.out.drew.tail⟩ (.complex .f64 0 0) ?_;intro hF e w5 he hw;subst he;subst hw;replace hF:=hid hF;simp only[]))
   all_goals exact hF.out.elim
def lL(x:Rn)(s:Mt) :Rs×List Int:=
 if okC (ar s 4 0) (ar s 4 1) =true∧okC (ar s 4 2) (ar s 4 3) =true∧okC ((ar s 4 0) + (ar s 4 2)) ((ar s 4 1) + (ar s 4 3)) =true then(⟨0,x,s⟩,[(ar s 4 0) + (ar s 4 2),(ar s 4 1) + (ar s 4 3)])else(⟨19,x,s⟩,[])
theorem Mf(arg lit cells:Int) :bn 106 (λg=> #[]) ⟨94,arg,lit,cells⟩ lL:=EW (A:=λa _ c _=>a+c) (B:=λ_ b _ d=>b+d) (by simp) (λh1 h2 w=>Hs h1 h2 w) arg lit cells
def lO(x:Rn)(s:Mt) :Rs×List Int:=
 if okC (ar s 4 0) (ar s 4 1) =true∧okC (ar s 4 2) (ar s 4 3) =true∧okC ((ar s 4 0) - (ar s 4 2)) ((ar s 4 1) - (ar s 4 3)) =true then(⟨0,x,s⟩,[(ar s 4 0) - (ar s 4 2),(ar s 4 1) - (ar s 4 3)])else(⟨19,x,s⟩,[])
theorem M8(arg lit cells:Int) :bn 106 (λg=> #[]) ⟨95,arg,lit,cells⟩ lO:=EW (A:=λa _ c _=>a-c) (B:=λ_ b _ d=>b-d) (by simp) (λh1 h2 w=>FL h1 h2 w) arg lit cells
def lI(x:Rn)(s:Mt) :Rs×List Int:=
 if okC (ar s 4 0) (ar s 4 1) =true∧okC (ar s 4 2) (ar s 4 3) =true∧okC ((ar s 4 0)* (ar s 4 2) - (ar s 4 1)* (ar s 4 3)) ((ar s 4 0)* (ar s 4 3) + (ar s 4 1)* (ar s 4 2)) =true then(⟨0,x,s⟩,[(ar s 4 0)* (ar s 4 2) - (ar s 4 1)* (ar s 4 3),(ar s 4 0)* (ar s 4 3) + (ar s 4 1)* (ar s 4 2)])else(⟨19,x,s⟩,[])
theorem MV(arg lit cells:Int) :bn 106 (λg=> #[]) ⟨96,arg,lit,cells⟩ lI:=EW (A:=λa b c d=>a*c-b*d) (B:=λa b c d=>a*d+b*c) (by simp) (λh1 h2 w=>Iu h1 h2 w) arg lit cells
def iw(x:Rn)(s:Mt) :Rs×List Int:=
 if okC (ar s 2 0) (ar s 2 1) =true∧okC ((ar s 2 0)) (-(ar s 2 1)) =true then(⟨0,x,s⟩,[(ar s 2 0),-(ar s 2 1)])else(⟨19,x,s⟩,[])
theorem JR(arg lit cells:Int) :bn 106 (λg=> #[]) ⟨97,arg,lit,cells⟩ iw:=by
 intro c g x src s ba w F hs hx hask hb
 have hw2: (Code.ah 97).1.toNat=2:=by decide
 simp only[hw2]at hb⊢
 have hon:=On.refl hb
 have a0:=ai ((On.refl hb).ab 0 rfl) (j:=0) oM
 have a1:=ai ((On.refl hb).ab 0 rfl) (j:=1) oM
 have v0:=aL s 2 0
 have v1:=aL s 2 1
 unfold iw
 generalize ar s 2 0=X at *
 generalize ar s 2 1=Y at *
 show Calls _ _ #[(97:Int),.slice ba 2 2] _ _
 generalize af (s.args 2) =ac at *
 replace hon:=hid hon
 clear hb hw2 hask hs hx
 by_cases h1:okC X Y=true
 ·have hco:=hid (λw=>rR v0 v1 h1 w)
  have hcr:=CR.of h1
  have hop:=λw=>Dw hcr w
  generalize floatOfInt .f64 X=fx at *
  generalize floatOfInt .f64 Y=fy at *
  replace hop:=hid hop
  generalize -Y=RB at *
  clear hcr
  by_cases hres:okC X RB=true
  ·simp only[h1,hres,and_self,if_true]
   go_enter Tryz.func106,Tryz.ntmps106
   go_wp2_with fail
   go_region_held (λw'=>w'.cell? (ba,0) =some (X:Vl)∧w'.cell? (ba,1) =some (Y:Vl)) (go_keep)
    ((go_at_call 157;refine(hco.out _).mono ?_;rintro e w5 ⟨rfl,rfl⟩;simp only[]))
   all_goals go_wp2_with fail
   refine(hop.out _).mono ?_
   intro e w7 hT
   obtain⟨r,i,rfl,g1,g2,hb⟩:=hT.yes hres
   have hn7:=hid (On.below hon.out.drew hb)
   have hpa:=hid (λw=>kW g1 g2 (Bool.and_eq_true .. ▸hres).1 (Bool.and_eq_true .. ▸hres).2 w)
   clear g1 g2 hb hT hres
   simp only[]
   go_wp2_with fail
   refine(bF _ _).mono ?_
   rintro e w8 ⟨rfl,rfl⟩
   simp only[]
   go_wp2_with fail
   refine(hpa.out _).mono ?_
   rintro e w9 ⟨rfl,rfl⟩
   simp only[]
   have h6:=hid (hn7.out.tail.box #[X,RB] 3)
   go_wp2
   go_ret
   exact⟨some ⟨_,0,none⟩,2,ae _ 3 (af [X,RB]),rfl,ay _ _,h6.out⟩
  ·rw[Bool.not_eq_true]at hres
   simp only[h1,hres,Bool.false_eq_true,and_false,if_false]
   simp only[show¬(19:Int) =0 by decide,if_false]
   have hres : ¬okC X RB=true:=by rw[hres];decide
   go_enter Tryz.func106,Tryz.ntmps106
   go_wp2_with fail
   go_region_held (λw'=>w'.cell? (ba,0) =some (X:Vl)∧w'.cell? (ba,1) =some (Y:Vl)) (go_keep)
    ((go_at_call 157;refine(hco.out _).mono ?_;rintro e w5 ⟨rfl,rfl⟩;simp only[]))
   all_goals go_wp2_with fail
   refine(hop.out _).mono ?_
   intro e w7 hT
   obtain⟨rfl,hb⟩:=hT.no hres
   have hn7:=hid (On.below hon.out.drew hb)
   clear hb hT hres
   simp only[]
   go_wp2_with fail
   refine(bV _ _).mono ?_
   rintro e w8 ⟨rfl,rfl⟩
   exact⟨rfl,rfl,hn7.out.tail⟩
 ·have hco:=hid (λw=>wZ v0 v1 h1 w)
  rw[Bool.not_eq_true]at h1
  simp only[h1,Bool.false_eq_true,and_false,false_and,if_false]
  simp only[show¬(19:Int) =0 by decide,if_false]
  clear h1
  go_enter Tryz.func106,Tryz.ntmps106
  go_wp2_with fail
  go_region_held (λw'=>w'.cell? (ba,0) =some (X:Vl)∧w'.cell? (ba,1) =some (Y:Vl)) (go_keep)
   ((go_at_call 157;refine yy (hco.out _) ⟨rfl,rfl,hon.out.drew.tail⟩ (.complex .f64 0 0) ?_;intro hF e w5 he hw;subst he;subst hw;replace hF:=hid hF;simp only[]))
  all_goals exact hF.out.elim
def gE(x:Rn)(s:Mt) :Rs×List Int:=
 if okC (ar s 2 0) (ar s 2 1) =true then(⟨0,x,s⟩,[(ar s 2 0)* (ar s 2 0) + (ar s 2 1)* (ar s 2 1)])else(⟨19,x,s⟩,[])
theorem Kc(arg lit cells:Int) :bn 106 (λg=> #[]) ⟨98,arg,lit,cells⟩ gE:=by
 intro c g x src s ba w F hs hx hask hb
 have hw2: (Code.ah 98).1.toNat=2:=by decide
 simp only[hw2]at hb⊢
 have hon:=On.refl hb
 have a0:=ai ((On.refl hb).ab 0 rfl) (j:=0) oM
 have a1:=ai ((On.refl hb).ab 0 rfl) (j:=1) oM
 have v0:=aL s 2 0
 have v1:=aL s 2 1
 unfold gE
 generalize ar s 2 0=X at *
 generalize ar s 2 1=Y at *
 show Calls _ _ #[(98:Int),.slice ba 2 2] _ _
 generalize af (s.args 2) =ac at *
 replace hon:=hid hon
 clear hb hw2 hask hs hx
 by_cases h1:okC X Y=true
 ·have hco:=hid (λw=>rR v0 v1 h1 w)
  have hcr:=CR.of h1
  have hop:=λw=>ED hcr w
  generalize floatOfInt .f64 X=fx at *
  generalize floatOfInt .f64 Y=fy at *
  replace hop:=hid hop
  clear hcr
  simp only[h1,if_true]
  clear h1
  go_enter Tryz.func106,Tryz.ntmps106
  go_wp2_with fail
  go_region_held (λw'=>w'.cell? (ba,0) =some (X:Vl)∧w'.cell? (ba,1) =some (Y:Vl)) (go_keep)
   ((go_at_call 157;refine(hco.out _).mono ?_;rintro e w5 ⟨rfl,rfl⟩;simp only[]))
  all_goals go_wp2_with fail
  refine(hop.out _).mono ?_
  rintro e w7 ⟨rfl,rfl⟩
  simp only[]
  have h6:=hid (hon.out.drew.tail.box #[(X*X+Y*Y:Int)] 3)
  go_wp2
  go_ret
  exact⟨some ⟨_,0,none⟩,1,ae _ 3 (af [X*X+Y*Y]),rfl,ay _ _,h6.out⟩
 ·have hco:=hid (λw=>wZ v0 v1 h1 w)
  rw[Bool.not_eq_true]at h1
  simp only[h1,Bool.false_eq_true,and_false,false_and,if_false]
  simp only[show¬(19:Int) =0 by decide,if_false]
  clear h1
  go_enter Tryz.func106,Tryz.ntmps106
  go_wp2_with fail
  go_region_held (λw'=>w'.cell? (ba,0) =some (X:Vl)∧w'.cell? (ba,1) =some (Y:Vl)) (go_keep)
   ((go_at_call 157;refine yy (hco.out _) ⟨rfl,rfl,hon.out.drew.tail⟩ (.complex .f64 0 0) ?_;intro hF e w5 he hw;subst he;subst hw;replace hF:=hid hF;simp only[]))
  all_goals exact hF.out.elim
def ij(x:Rn)(s:Mt) :Rs×List Int:=
 if okC (ar s 3 0) (ar s 3 1) =true∧okC ((ar s 3 0)*qA ((ar s 3 2) % 4).toNat- (ar s 3 1)*qB ((ar s 3 2) % 4).toNat) ((ar s 3 0)*qB ((ar s 3 2) % 4).toNat+ (ar s 3 1)*qA ((ar s 3 2) % 4).toNat) =true then(⟨0,x,s⟩,[(ar s 3 0)*qA ((ar s 3 2) % 4).toNat- (ar s 3 1)*qB ((ar s 3 2) % 4).toNat,(ar s 3 0)*qB ((ar s 3 2) % 4).toNat+ (ar s 3 1)*qA ((ar s 3 2) % 4).toNat])else(⟨19,x,s⟩,[])
theorem Ks(arg lit cells:Int) :bn 106 (λg=> #[]) ⟨99,arg,lit,cells⟩ ij:=by
 intro c g x src s ba w F hs hx hask hb
 have hw2: (Code.ah 99).1.toNat=3:=by decide
 simp only[hw2]at hb⊢
 have hon:=On.refl hb
 have a0:=ai ((On.refl hb).ab 0 rfl) (j:=0) oM
 have a1:=ai ((On.refl hb).ab 0 rfl) (j:=1) oM
 have a2:=ai ((On.refl hb).ab 0 rfl) (j:=2) oM
 have v0:=aL s 3 0
 have v1:=aL s 3 1
 have v2:=aL s 3 2
 unfold ij
 generalize ar s 3 0=X at *
 generalize ar s 3 1=Y at *
 generalize ar s 3 2=Z at *
 show Calls _ _ #[(99:Int),.slice ba 3 3] _ _
 generalize af (s.args 3) =ac at *
 replace hon:=hid hon
 clear hb hw2 hask hs hx
 by_cases h1:okC X Y=true
 ·have hco:=hid (λw=>rR v0 v1 h1 w)
  have hcr:=CR.of h1
  have hop:=λw=>CP hcr Z w
  generalize floatOfInt .f64 X=fx at *
  generalize floatOfInt .f64 Y=fy at *
  replace hop:=hid hop
  generalize X*qA (Z % 4).toNat-Y*qB (Z % 4).toNat=RA at *
  generalize X*qB (Z % 4).toNat+Y*qA (Z % 4).toNat=RB at *
  clear hcr
  by_cases hres:okC RA RB=true
  ·simp only[h1,hres,and_self,if_true]
   go_enter Tryz.func106,Tryz.ntmps106
   go_wp2_with fail
   go_region_held (λw'=>w'.cell? (ba,0) =some (X:Vl)∧w'.cell? (ba,1) =some (Y:Vl)∧w'.cell? (ba,2) =some (Z:Vl)) (go_keep)
    ((go_at_call 157;refine(hco.out _).mono ?_;rintro e w5 ⟨rfl,rfl⟩;simp only[]))
   all_goals go_wp2_with fail
   refine(hop.out _).mono ?_
   intro e w7 hT
   obtain⟨r,i,rfl,g1,g2,hb⟩:=hT.yes hres
   have hn7:=hid (On.below hon.out.drew hb)
   have hpa:=hid (λw=>kW g1 g2 (Bool.and_eq_true .. ▸hres).1 (Bool.and_eq_true .. ▸hres).2 w)
   clear g1 g2 hb hT hres
   simp only[]
   go_wp2_with fail
   refine(bF _ _).mono ?_
   rintro e w8 ⟨rfl,rfl⟩
   simp only[]
   go_wp2_with fail
   refine(hpa.out _).mono ?_
   rintro e w9 ⟨rfl,rfl⟩
   simp only[]
   have h6:=hid (hn7.out.tail.box #[RA,RB] 3)
   go_wp2
   go_ret
   exact⟨some ⟨_,0,none⟩,2,ae _ 3 (af [RA,RB]),rfl,ay _ _,h6.out⟩
  ·rw[Bool.not_eq_true]at hres
   simp only[h1,hres,Bool.false_eq_true,and_false,if_false]
   simp only[show¬(19:Int) =0 by decide,if_false]
   have hres : ¬okC RA RB=true:=by rw[hres];decide
   go_enter Tryz.func106,Tryz.ntmps106
   go_wp2_with fail
   go_region_held (λw'=>w'.cell? (ba,0) =some (X:Vl)∧w'.cell? (ba,1) =some (Y:Vl)∧w'.cell? (ba,2) =some (Z:Vl)) (go_keep)
    ((go_at_call 157;refine(hco.out _).mono ?_;rintro e w5 ⟨rfl,rfl⟩;simp only[]))
   all_goals go_wp2_with fail
   refine(hop.out _).mono ?_
   intro e w7 hT
   obtain⟨rfl,hb⟩:=hT.no hres
   have hn7:=hid (On.below hon.out.drew hb)
   clear hb hT hres
   simp only[]
   go_wp2_with fail
   refine(bV _ _).mono ?_
   rintro e w8 ⟨rfl,rfl⟩
   exact⟨rfl,rfl,hn7.out.tail⟩
 ·have hco:=hid (λw=>wZ v0 v1 h1 w)
  rw[Bool.not_eq_true]at h1
  simp only[h1,Bool.false_eq_true,and_false,false_and,if_false]
  simp only[show¬(19:Int) =0 by decide,if_false]
  clear h1
  go_enter Tryz.func106,Tryz.ntmps106
  go_wp2_with fail
  go_region_held (λw'=>w'.cell? (ba,0) =some (X:Vl)∧w'.cell? (ba,1) =some (Y:Vl)∧w'.cell? (ba,2) =some (Z:Vl)) (go_keep)
   ((go_at_call 157;refine yy (hco.out _) ⟨rfl,rfl,hon.out.drew.tail⟩ (.complex .f64 0 0) ?_;intro hF e w5 he hw;subst he;subst hw;replace hF:=hid hF;simp only[]))
  all_goals exact hF.out.elim
end Vm
end Go.Proofs.YtjohhkikoejadaaGreatDoor
