/- Chapter 11: what is laid down of a division. Conditions: as written. -/
import Derived.Test.YtjohhkikoejadaaGreatDoorOm
import Derived.Test.YtjohhkikoejadaaGreatDoorZ02
import Derived.Test.YtjohhkikoejadaaGreatDoorZ16
import Derived.Test.YtjohhkikoejadaaGreatDoorZ14
import Derived.Test.YtjohhkikoejadaaGreatDoorZ03
import Derived.BigRegion
import Derived.Deep.RegionHeld
namespace Go.Proofs.YtjohhkikoejadaaGreatDoor
set_option linter.unusedVariables false
set_option linter.unusedSimpArgs false
set_option maxHeartbeats 8000000
set_option maxRecDepth 100000
open Go.RowKit Go.Lib Go.Deep
namespace Vm
def iU(k:Nat)(q r:Int) :List Int:=if k=0 then [q]else if k=1 then [r]else [r,q]
theorem L8(k:Nat)(hk:k<=2)(q r:Int)(p:Nat)(w:World)(hp:p<w.heap.size)(hc:w.cell? (p,0) =some ((k:Int) :Vl)) :Calls Tryz.prog 176 #[q,r,(0:Int),p] w
 (λe w'=> ∃b,e = .returned (.slice (some ⟨b,0,none⟩) (iU k q r).length (iU k q r).length)∧On Nob w (aa [ae b 3 (af (iU k q r))]) w'):=by
 have h1:p<w.heap.size+1:=by omega
 have h2:p<w.heap.size+1+1:=by omega
 have h3:p<w.heap.size+1+1+1:=by omega
 have hon:=((((On.refl (A:=aa []) (F:=Nob) (w:=w) (λ_ h=>h)).box #[q] 3).box #[r] 3).box #[r,q] 3).box #[.slice w.heap.size 1 1,.slice (some ⟨w.heap.size+1,0,none⟩) 1 1,.slice (some ⟨w.heap.size+1+1,0,none⟩) 2 2] 23
 simp only[World.size_alloc]at hon
 rcases(show k=0∨k=1∨k=2 by omega)with rfl|rfl|rfl
 ·have hc0:w.cell? (p,0) =some (.int .i64 0):=hc
  clear hc hk
  replace hon:=hid hon
  go_enter Tryz.func176,Tryz.ntmps176
  go_wp2_with fail
  refine(bD _).mono ?_
  rintro e w2 ⟨rfl,rfl⟩
  simp only[]
  go_wp2
  go_ret
  exact⟨w2.heap.size,rfl,((hon.out.drop 0 rfl).drop 0 rfl).drop 0 rfl⟩
 ·have hc0:w.cell? (p,0) =some (.int .i64 1):=hc
  clear hc hk
  replace hon:=hid hon
  go_enter Tryz.func176,Tryz.ntmps176
  go_wp2_with fail
  refine(bD _).mono ?_
  rintro e w2 ⟨rfl,rfl⟩
  simp only[]
  go_wp2
  go_ret
  exact⟨w2.heap.size+1,rfl,((hon.out.drop 0 rfl).drop 0 rfl).drop 1 rfl⟩
 ·have hc0:w.cell? (p,0) =some (.int .i64 2):=hc
  clear hc hk
  replace hon:=hid hon
  go_enter Tryz.func176,Tryz.ntmps176
  go_wp2_with fail
  refine(bD _).mono ?_
  rintro e w2 ⟨rfl,rfl⟩
  simp only[]
  go_wp2
  go_ret
  exact⟨w2.heap.size+1+1,rfl,((hon.out.drop 0 rfl).drop 1 rfl).drop 1 rfl⟩
theorem vF(f:Int)(hf:f≠0)(q r:Int)(p:Value)(w:World) :Calls Tryz.prog 176 #[q,r,f,p] w (vt f w):=by
 have ht:=λw=>cG f hf w
 replace ht:=hid ht
 clear hf
 go_enter Tryz.func176,Tryz.ntmps176
 go_wp2_with fail
 refine(ht.out _).mono ?_
 rintro e w2 ⟨rfl,rfl⟩
 exact⟨rfl,rfl,rfl⟩
theorem ML(k:Int)(w:World) :Calls Tryz.prog 131 #[(k:Int)] w (λe w'=>e = .returned (.func (.func 176) #[] #[w.heap.size])∧w'=w.alloc (.cells #[(k:Int)] 3)):=by
 have hmf : ∀(fn:Fn) (first cap:Array Value) (w:World),(Instr.makeFunc fn first cap).run Tryz.prog w = .ok (.func fn first cap) w:=λ_ _ _ _=>rfl
 go_enter Tryz.func131,Tryz.ntmps131
 go_wp2
 go_ret
 exact⟨rfl,rfl⟩
theorem Am(k:Nat)(hk:k<=2)(q r:Int)(p:Nat)(w:World)(hp:p<w.heap.size)(hc:w.cell? (p,0) =some ((k:Int) :Vl)) :Calls Tryz.prog 176 #[q,r,(0:Int),p] w
 (b8 (λe B=> ∃b,e = .returned (.slice (some ⟨b,0,none⟩) (iU k q r).length (iU k q r).length)∧B=aa [ae b 3 (af (iU k q r))]) Nob w):=
 (L8 k hk q r p w hp hc).mono λe w' ⟨b,he,hon⟩=>⟨_,⟨b,he,rfl⟩,hon⟩
theorem uL(k:Int)(w:World) :Calls Tryz.prog 131 #[(k:Int)] w (λe w'=> ∃b,e = .returned (.func (.func 176) #[] #[.pointer (some ⟨b,0,none⟩)])∧Below w.heap.size w w'∧w'.cell? ⟨b,0,none⟩ =some ((k:Int) :Vl)∧b<w'.heap.size):=
 (ML k w).mono λe w' ⟨h1,h2⟩=>by
  subst h2
  exact⟨_,h1,((On.refl (A:=aa []) (F:=Nob) (w:=w) (λ_ h=>h)).alloc _).rC,by simp,by simp⟩
theorem MU(a b:Int)(w:World) :Calls Tryz.prog 132 #[a,b] w (Quiet (tri (decide (b=0)) (lA a b) (lu a b)) w):=by
 refine(Nt a b w).mono ?_
 rintro e w' ⟨rfl,n,rfl⟩
 refine⟨?_,((On.refl (A:=aa []) (F:=Nob) (w:=w) (λ_ h=>h)).drewN n).rC⟩
 unfold K0 tri
 by_cases h:b=0
 ·rw[if_pos h,if_pos (decide_eq_true h)]
 ·rw[if_neg h,if_neg (by simpa using h)]
def dH(k:Nat)(o:Bool)(q r:Int)(x:Rn)(s:Mt) :Rs×List Int:=(⟨if o then 7 else 0,x,s⟩,iU k q r)
theorem FZ{op:Int}{k:Nat}(hsel: (op=34∧k=0)∨(op=35∧k=1)∨(op=36∧k=2))(arg lit cells:Int) :bn 99 (λg=> #[]) ⟨op,arg,lit,cells⟩ (λx s=>dH k (decide (ar s 2 1=0)) (lA (ar s 2 0) (ar s 2 1)) (lu (ar s 2 0) (ar s 2 1)) x s):=by
 intro c g x src s ba w F hs hx hask hb
 have hw2: (Code.ah op).1.toNat=2:=by rcases hsel with⟨rfl,rfl⟩ | ⟨rfl,rfl⟩ | ⟨rfl,rfl⟩ <;>decide
 simp only[hw2]at hb⊢
 have hn:=(On.refl hb).drew
 have hrow:=(On.refl hb).ab 0 rfl
 have a0:=ai hrow (j:=0) oM
 have a1:=ai hrow (j:=1) oM
 have hcell : ∀W,On F w (aa (ae ba 3 (af (s.args 2)) ::vL c g x src s)) W->W.cell? (ba,0) =some ((ar s 2 0) :Vl)∧W.cell? (ba,1) =some ((ar s 2 1) :Vl):=λW h=>⟨ai (h.ab 0 rfl) oM,ai (h.ab 0 rfl) oM⟩
 have hdv:=λw=>MU (ar s 2 0) (ar s 2 1) w
 unfold dH
 simp only
 generalize lA (ar s 2 0) (ar s 2 1) =Q at *
 generalize lu (ar s 2 0) (ar s 2 1) =R at *
 generalize decide (ar s 2 1=0) =o at *
 generalize ar s 2 0=X at *
 generalize ar s 2 1=Y at *
 generalize af (s.args 2) =ac at *
 have hlt:=hrow.lt
 show Calls _ _ #[op,.slice ba 2 2] _ _
 clear hb hrow hw2 hask hs hx
 have hqm:=λw=>uL (k:Int) w
 replace hqm:=hid hqm
 replace hcell:=hid hcell
 cases o with
 | true=>
   show Calls _ _ _ _ (λe w'=>e = .panicked [flt 7]∧On F w (VA c g x src s) w')
   replace hdv:=hid hdv
   rcases hsel with⟨rfl,rfl⟩ | ⟨rfl,rfl⟩ | ⟨rfl,rfl⟩
   all_goals
    go_enter Tryz.func99,Tryz.ntmps99
    go_wp2_with fail
    go_region_held (λw'=>w'.cell? (ba,0) =some (X:Vl)∧w'.cell? (ba,1) =some (Y:Vl)) (go_keep)
     ((first
       | (go_at_call 131;refine(hqm.out _).mono ?_;rintro e w5 ⟨b,rfl,hb,kb,ltb⟩;have hn:=On.below (by assumption) hb;have⟨n0,n1⟩:=hcell.out _ hn;clear hb)
       | (go_at_call 132;refine(hdv.out _).mono ?_;rintro e w5 ⟨rfl,hb⟩;unfold tri;simp only[];have hn:=On.below (by assumption) hb;have⟨n0,n1⟩:=hcell.out _ hn;(try have kb:=(hb.cell (p:=⟨b,0,none⟩) ltb).trans kb);(try have ltb:=Nat.lt_of_lt_of_le ltb hb.size);clear hb)
       | (go_at_call 176;refine dead (vF 7 (by decide) _ _ _ _) ⟨rfl,rfl,On.tail (by assumption)⟩ ?_;intro hF e w5 he hw;subst he;subst hw;replace hF:=hid hF)))
    all_goals exact hF.out.elim
 | false=>
   show Calls _ _ _ _ (λe w'=>gg (iU k Q R) (vL c g x src s) F w e w')
   replace hdv:=hid hdv
   rcases hsel with⟨rfl,rfl⟩ | ⟨rfl,rfl⟩ | ⟨rfl,rfl⟩
   all_goals
    go_enter Tryz.func99,Tryz.ntmps99
    go_wp2_with fail
    go_region_held (λw'=>w'.cell? (ba,0) =some (X:Vl)∧w'.cell? (ba,1) =some (Y:Vl)) (go_keep)
     ((first
       | (go_at_call 131;refine(hqm.out _).mono ?_;rintro e w5 ⟨b,rfl,hb,kb,ltb⟩;have hn:=On.below (by assumption) hb;have⟨n0,n1⟩:=hcell.out _ hn;clear hb)
       | (go_at_call 132;refine(hdv.out _).mono ?_;rintro e w5 ⟨rfl,hb⟩;unfold tri;simp only[];have hn:=On.below (by assumption) hb;have⟨n0,n1⟩:=hcell.out _ hn;(try have kb:=(hb.cell (p:=⟨b,0,none⟩) ltb).trans kb);(try have ltb:=Nat.lt_of_lt_of_le ltb hb.size);clear hb)
       | (go_at_call 176;refine(On.make (by assumption) (Am _ oM Q R _ _ ltb kb)).mono ?_;rintro e w6 ⟨B,⟨b2,rfl,rfl⟩,h⟩;have h6:On F w (aa (ae b2 3 (af (iU _ Q R)) ::ae ba 3 ac::vL c g x src s)) w6:=On.flat h;have⟨n0,n1⟩:=hcell.out _ h6.tail;clear h;replace h6:=hid h6)))
    all_goals go_wp2
    all_goals go_ret
    all_goals exact⟨some ⟨b2,0,none⟩,_,ae b2 3 (af (iU _ Q R)),rfl,ay _ _,h6.out.drop 1 rfl⟩
theorem NQ(arg lit cells:Int) :bn 99 (λg=> #[]) ⟨34,arg,lit,cells⟩ (λx s=>dH 0 (decide (ar s 2 1=0)) (lA (ar s 2 0) (ar s 2 1)) (lu (ar s 2 0) (ar s 2 1)) x s):=FZ oM arg lit cells
theorem NB(arg lit cells:Int) :bn 99 (λg=> #[]) ⟨35,arg,lit,cells⟩ (λx s=>dH 1 (decide (ar s 2 1=0)) (lA (ar s 2 0) (ar s 2 1)) (lu (ar s 2 0) (ar s 2 1)) x s):=FZ oM arg lit cells
theorem Gs(arg lit cells:Int) :bn 99 (λg=> #[]) ⟨36,arg,lit,cells⟩ (λx s=>dH 2 (decide (ar s 2 1=0)) (lA (ar s 2 0) (ar s 2 1)) (lu (ar s 2 0) (ar s 2 1)) x s):=FZ oM arg lit cells
theorem KP{op:Int}{k:Nat}(hsel: (op=37∧k=0)∨(op=38∧k=2))(arg lit cells:Int) :bn 99 (λg=> #[]) ⟨op,arg,lit,cells⟩ (λx s=>dH k (iL (dn (ar s 3 0) (ar s 3 1)) (tHi (ar s 3 0) (ar s 3 1)) (ar s 3 2)) (fdQ (dn (ar s 3 0) (ar s 3 1)) (tHi (ar s 3 0) (ar s 3 1)) (ar s 3 2)) (fdR (dn (ar s 3 0) (ar s 3 1)) (tHi (ar s 3 0) (ar s 3 1)) (ar s 3 2)) x s):=by
 intro c g x src s ba w F hs hx hask hb
 have hw2: (Code.ah op).1.toNat=3:=by rcases hsel with⟨rfl,rfl⟩ | ⟨rfl,rfl⟩ <;>decide
 simp only[hw2]at hb⊢
 have hn:=(On.refl hb).drew
 have hrow:=(On.refl hb).ab 0 rfl
 have a0:=ai hrow (j:=0) oM
 have a1:=ai hrow (j:=1) oM
 have a2:=ai hrow (j:=2) oM
 have hcell : ∀W,On F w (aa (ae ba 3 (af (s.args 3)) ::vL c g x src s)) W->W.cell? (ba,0) =some ((ar s 3 0) :Vl)∧W.cell? (ba,1) =some ((ar s 3 1) :Vl)∧W.cell? (ba,2) =some ((ar s 3 2) :Vl):=λW h=>⟨ai (h.ab 0 rfl) oM,ai (h.ab 0 rfl) oM,ai (h.ab 0 rfl) oM⟩
 have htm:=λw=>BV (ar s 3 0) (ar s 3 1) w
 have hdv:=λw=>HY (dn (ar s 3 0) (ar s 3 1)) (tHi (ar s 3 0) (ar s 3 1)) (ar s 3 2) w
 unfold dH
 simp only
 generalize fdQ (dn (ar s 3 0) (ar s 3 1)) (tHi (ar s 3 0) (ar s 3 1)) (ar s 3 2) =Q at *
 generalize fdR (dn (ar s 3 0) (ar s 3 1)) (tHi (ar s 3 0) (ar s 3 1)) (ar s 3 2) =R at *
 generalize iL (dn (ar s 3 0) (ar s 3 1)) (tHi (ar s 3 0) (ar s 3 1)) (ar s 3 2) =o at *
 generalize dn (ar s 3 0) (ar s 3 1) =lo at *
 generalize tHi (ar s 3 0) (ar s 3 1) =hi at *
 generalize ar s 3 0=X at *
 generalize ar s 3 1=Y at *
 generalize ar s 3 2=Z at *
 generalize af (s.args 3) =ac at *
 have hlt:=hrow.lt
 show Calls _ _ #[op,.slice ba 3 3] _ _
 clear hb hrow hw2 hask hs hx
 have hqm:=λw=>uL (k:Int) w
 replace hqm:=hid hqm
 replace hcell:=hid hcell
 replace htm:=hid htm
 cases o with
 | true=>
   show Calls _ _ _ _ (λe w'=>e = .panicked [flt 7]∧On F w (VA c g x src s) w')
   replace hdv:=hid hdv
   rcases hsel with⟨rfl,rfl⟩ | ⟨rfl,rfl⟩
   all_goals
    go_enter Tryz.func99,Tryz.ntmps99
    go_wp2_with fail
    go_region_held (λw'=>w'.cell? (ba,0) =some (X:Vl)∧w'.cell? (ba,1) =some (Y:Vl)∧w'.cell? (ba,2) =some (Z:Vl)) (go_keep)
     ((first
       | (go_at_call 131;refine(hqm.out _).mono ?_;rintro e w5 ⟨b,rfl,hb,kb,ltb⟩;have hn:=On.below (by assumption) hb;have⟨n0,n1,n2⟩:=hcell.out _ hn;clear hb)
       | (go_at_call 134;refine(htm.out _).mono ?_;rintro e w5 ⟨rfl,hb⟩;have hn:=On.below (by assumption) hb;have⟨n0,n1,n2⟩:=hcell.out _ hn;(try have kb:=(hb.cell (p:=⟨b,0,none⟩) ltb).trans kb);(try have ltb:=Nat.lt_of_lt_of_le ltb hb.size);clear hb)
       | (go_at_call 133;refine(hdv.out _).mono ?_;rintro e w5 ⟨rfl,hb⟩;unfold tri;simp only[];have hn:=On.below (by assumption) hb;have⟨n0,n1,n2⟩:=hcell.out _ hn;(try have kb:=(hb.cell (p:=⟨b,0,none⟩) ltb).trans kb);(try have ltb:=Nat.lt_of_lt_of_le ltb hb.size);clear hb)
       | (go_at_call 176;refine dead (vF 7 (by decide) _ _ _ _) ⟨rfl,rfl,On.tail (by assumption)⟩ ?_;intro hF e w5 he hw;subst he;subst hw;replace hF:=hid hF)))
    all_goals exact hF.out.elim
 | false=>
   show Calls _ _ _ _ (λe w'=>gg (iU k Q R) (vL c g x src s) F w e w')
   replace hdv:=hid hdv
   rcases hsel with⟨rfl,rfl⟩ | ⟨rfl,rfl⟩
   all_goals
    go_enter Tryz.func99,Tryz.ntmps99
    go_wp2_with fail
    go_region_held (λw'=>w'.cell? (ba,0) =some (X:Vl)∧w'.cell? (ba,1) =some (Y:Vl)∧w'.cell? (ba,2) =some (Z:Vl)) (go_keep)
     ((first
       | (go_at_call 131;refine(hqm.out _).mono ?_;rintro e w5 ⟨b,rfl,hb,kb,ltb⟩;have hn:=On.below (by assumption) hb;have⟨n0,n1,n2⟩:=hcell.out _ hn;clear hb)
       | (go_at_call 134;refine(htm.out _).mono ?_;rintro e w5 ⟨rfl,hb⟩;have hn:=On.below (by assumption) hb;have⟨n0,n1,n2⟩:=hcell.out _ hn;(try have kb:=(hb.cell (p:=⟨b,0,none⟩) ltb).trans kb);(try have ltb:=Nat.lt_of_lt_of_le ltb hb.size);clear hb)
       | (go_at_call 133;refine(hdv.out _).mono ?_;rintro e w5 ⟨rfl,hb⟩;unfold tri;simp only[];have hn:=On.below (by assumption) hb;have⟨n0,n1,n2⟩:=hcell.out _ hn;(try have kb:=(hb.cell (p:=⟨b,0,none⟩) ltb).trans kb);(try have ltb:=Nat.lt_of_lt_of_le ltb hb.size);clear hb)
       | (go_at_call 176;refine(On.make (by assumption) (Am _ oM Q R _ _ ltb kb)).mono ?_;rintro e w6 ⟨B,⟨b2,rfl,rfl⟩,h⟩;have h6:On F w (aa (ae b2 3 (af (iU _ Q R)) ::ae ba 3 ac::vL c g x src s)) w6:=On.flat h;have⟨n0,n1,n2⟩:=hcell.out _ h6.tail;clear h;replace h6:=hid h6)))
    all_goals go_wp2
    all_goals go_ret
    all_goals exact⟨some ⟨b2,0,none⟩,_,ae b2 3 (af (iU _ Q R)),rfl,ay _ _,h6.out.drop 1 rfl⟩
theorem HQ(arg lit cells:Int) :bn 99 (λg=> #[]) ⟨37,arg,lit,cells⟩ (λx s=>dH 0 (iL (dn (ar s 3 0) (ar s 3 1)) (tHi (ar s 3 0) (ar s 3 1)) (ar s 3 2)) (fdQ (dn (ar s 3 0) (ar s 3 1)) (tHi (ar s 3 0) (ar s 3 1)) (ar s 3 2)) (fdR (dn (ar s 3 0) (ar s 3 1)) (tHi (ar s 3 0) (ar s 3 1)) (ar s 3 2)) x s):=KP oM arg lit cells
theorem xN(arg lit cells:Int) :bn 99 (λg=> #[]) ⟨38,arg,lit,cells⟩ (λx s=>dH 2 (iL (dn (ar s 3 0) (ar s 3 1)) (tHi (ar s 3 0) (ar s 3 1)) (ar s 3 2)) (fdQ (dn (ar s 3 0) (ar s 3 1)) (tHi (ar s 3 0) (ar s 3 1)) (ar s 3 2)) (fdR (dn (ar s 3 0) (ar s 3 1)) (tHi (ar s 3 0) (ar s 3 1)) (ar s 3 2)) x s):=KP oM arg lit cells
theorem GU{op:Int}{fn:FuncId}(hsel: (op=55∧fn=136)∨(op=56∧fn=137)∨(op=57∧fn=133)){o:Int->Int->Int->Bool}{Q R:Int->Int->Int->Int}(hd : ∀lo hi n w,Calls Tryz.prog fn #[.agg #[.int .i64 lo,.int .i64 hi],.int .i64 n] w (Quiet (tri (o lo hi n) (Q lo hi n) (R lo hi n)) w))(arg lit cells:Int) :bn 99 (λg=> #[]) ⟨op,arg,lit,cells⟩ (λx s=>dH 2 (o (ar s 3 0) (ar s 3 1) (ar s 3 2)) (Q (ar s 3 0) (ar s 3 1) (ar s 3 2)) (R (ar s 3 0) (ar s 3 1) (ar s 3 2)) x s):=by
 intro c g x src s ba w F hs hx hask hb
 have hw2: (Code.ah op).1.toNat=3:=by rcases hsel with⟨rfl,rfl⟩ | ⟨rfl,rfl⟩ | ⟨rfl,rfl⟩ <;>decide
 simp only[hw2]at hb⊢
 have hn:=(On.refl hb).drew
 have hrow:=(On.refl hb).ab 0 rfl
 have a0:=ai hrow (j:=0) oM
 have a1:=ai hrow (j:=1) oM
 have a2:=ai hrow (j:=2) oM
 have hcell : ∀W,On F w (aa (ae ba 3 (af (s.args 3)) ::vL c g x src s)) W->W.cell? (ba,0) =some ((ar s 3 0) :Vl)∧W.cell? (ba,1) =some ((ar s 3 1) :Vl)∧W.cell? (ba,2) =some ((ar s 3 2) :Vl):=λW h=>⟨ai (h.ab 0 rfl) oM,ai (h.ab 0 rfl) oM,ai (h.ab 0 rfl) oM⟩
 have hdv:=λw=>hd (ar s 3 0) (ar s 3 1) (ar s 3 2) w
 clear hd
 unfold dH
 simp only
 generalize Q (ar s 3 0) (ar s 3 1) (ar s 3 2) =Q at *
 generalize R (ar s 3 0) (ar s 3 1) (ar s 3 2) =R at *
 generalize o (ar s 3 0) (ar s 3 1) (ar s 3 2) =o at *
 generalize ar s 3 0=X at *
 generalize ar s 3 1=Y at *
 generalize ar s 3 2=Z at *
 generalize af (s.args 3) =ac at *
 have hlt:=hrow.lt
 show Calls _ _ #[op,.slice ba 3 3] _ _
 clear hb hrow hw2 hask hs hx
 have hqm:=λw=>uL ((2:Nat) :Int) w
 replace hqm:=hid hqm
 replace hcell:=hid hcell
 cases o with
 | true=>
   show Calls _ _ _ _ (λe w'=>e = .panicked [flt 7]∧On F w (VA c g x src s) w')
   replace hdv:=hid hdv
   rcases hsel with⟨rfl,rfl⟩ | ⟨rfl,rfl⟩ | ⟨rfl,rfl⟩
   all_goals
    go_enter Tryz.func99,Tryz.ntmps99
    go_wp2_with fail
    go_region_held (λw'=>w'.cell? (ba,0) =some (X:Vl)∧w'.cell? (ba,1) =some (Y:Vl)∧w'.cell? (ba,2) =some (Z:Vl)) (go_keep)
     ((first
       | (go_at_call 131;refine(hqm.out _).mono ?_;rintro e w5 ⟨b,rfl,hb,kb,ltb⟩;have hn:=On.below (by assumption) hb;have⟨n0,n1,n2⟩:=hcell.out _ hn;clear hb)
       | ((first|go_at_call 136|go_at_call 137|go_at_call 133);refine(hdv.out _).mono ?_;rintro e w5 ⟨rfl,hb⟩;unfold tri;simp only[];have hn:=On.below (by assumption) hb;have⟨n0,n1,n2⟩:=hcell.out _ hn;(try have kb:=(hb.cell (p:=⟨b,0,none⟩) ltb).trans kb);(try have ltb:=Nat.lt_of_lt_of_le ltb hb.size);clear hb)
       | (go_at_call 176;refine dead (vF 7 (by decide) _ _ _ _) ⟨rfl,rfl,On.tail (by assumption)⟩ ?_;intro hF e w5 he hw;subst he;subst hw;replace hF:=hid hF)))
    all_goals exact hF.out.elim
 | false=>
   show Calls _ _ _ _ (λe w'=>gg (iU 2 Q R) (vL c g x src s) F w e w')
   replace hdv:=hid hdv
   rcases hsel with⟨rfl,rfl⟩ | ⟨rfl,rfl⟩ | ⟨rfl,rfl⟩
   all_goals
    go_enter Tryz.func99,Tryz.ntmps99
    go_wp2_with fail
    go_region_held (λw'=>w'.cell? (ba,0) =some (X:Vl)∧w'.cell? (ba,1) =some (Y:Vl)∧w'.cell? (ba,2) =some (Z:Vl)) (go_keep)
     ((first
       | (go_at_call 131;refine(hqm.out _).mono ?_;rintro e w5 ⟨b,rfl,hb,kb,ltb⟩;have hn:=On.below (by assumption) hb;have⟨n0,n1,n2⟩:=hcell.out _ hn;clear hb)
       | ((first|go_at_call 136|go_at_call 137|go_at_call 133);refine(hdv.out _).mono ?_;rintro e w5 ⟨rfl,hb⟩;unfold tri;simp only[];have hn:=On.below (by assumption) hb;have⟨n0,n1,n2⟩:=hcell.out _ hn;(try have kb:=(hb.cell (p:=⟨b,0,none⟩) ltb).trans kb);(try have ltb:=Nat.lt_of_lt_of_le ltb hb.size);clear hb)
       | (go_at_call 176;refine(On.make (by assumption) (Am 2 oM Q R _ _ ltb kb)).mono ?_;rintro e w6 ⟨B,⟨b2,rfl,rfl⟩,h⟩;have h6:On F w (aa (ae b2 3 (af (iU 2 Q R)) ::ae ba 3 ac::vL c g x src s)) w6:=On.flat h;have⟨n0,n1,n2⟩:=hcell.out _ h6.tail;clear h;replace h6:=hid h6)))
    all_goals go_wp2
    all_goals go_ret
    all_goals exact⟨some ⟨b2,0,none⟩,_,ae b2 3 (af (iU 2 Q R)),rfl,ay _ _,h6.out.drop 1 rfl⟩
theorem Jo(arg lit cells:Int) :bn 99 (λg=> #[]) ⟨55,arg,lit,cells⟩ (λx s=>dH 2 (qT (ar s 3 1) (ar s 3 2)) (udQ (ar s 3 0) (ar s 3 1) (ar s 3 2)) (udR (ar s 3 0) (ar s 3 1) (ar s 3 2)) x s):=GU (o:=(λ_ b c=>qT b c)) (Q:=udQ) (R:=udR) (by simp) F6 arg lit cells
theorem I6(arg lit cells:Int) :bn 99 (λg=> #[]) ⟨56,arg,lit,cells⟩ (λx s=>dH 2 (j7 (ar s 3 0) (ar s 3 1) (ar s 3 2)) (dvQ (ar s 3 0) (ar s 3 1) (ar s 3 2)) (dvR (ar s 3 0) (ar s 3 1) (ar s 3 2)) x s):=GU (o:=j7) (Q:=dvQ) (R:=dvR) (by simp) LY arg lit cells
theorem JF(arg lit cells:Int) :bn 99 (λg=> #[]) ⟨57,arg,lit,cells⟩ (λx s=>dH 2 (iL (ar s 3 0) (ar s 3 1) (ar s 3 2)) (fdQ (ar s 3 0) (ar s 3 1) (ar s 3 2)) (fdR (ar s 3 0) (ar s 3 1) (ar s 3 2)) x s):=GU (o:=iL) (Q:=fdQ) (R:=fdR) (by simp) HY arg lit cells
theorem II(arg lit cells:Int) :cA 99 (λ_=> #[]) ⟨53,arg,lit,cells⟩ (λs=>[dn (ar s 2 0) (ar s 2 1),tHi (ar s 2 0) (ar s 2 1)]):=by
 intro c g x src s ba w F hs hask hb
 have hw2: (Code.ah 53).1.toNat=2:=by decide
 simp only[hw2]at hb⊢
 have hnB:=(On.refl hb).drew
 have hnA:=((On.refl hb).box #[(0:Int),(0:Int)] 209).drew
 have hrow:=(On.refl hb).ab 0 rfl
 have a0:=ai hrow (j:=0) oM
 have a1:=ai hrow (j:=1) oM
 have hcell : ∀W,On F w (aa (ae ba 3 (af (s.args 2)) ::vL c g x src s)) W->W.cell? (ba,0) =some ((ar s 2 0) :Vl)∧W.cell? (ba,1) =some ((ar s 2 1) :Vl):=λW h=>⟨ai (h.ab 0 rfl) oM,ai (h.ab 0 rfl) oM⟩
 have htm:=λw=>BV (ar s 2 0) (ar s 2 1) w
 generalize dn (ar s 2 0) (ar s 2 1) =lo at *
 generalize tHi (ar s 2 0) (ar s 2 1) =hi at *
 generalize ar s 2 0=X at *
 generalize ar s 2 1=Y at *
 generalize af (s.args 2) =ac at *
 have hlt:=hrow.lt
 have hlt1:ba<w.heap.size+1:=by omega
 have hne:=World.new_ne w ⟨ba,0,none⟩ a0
 have hne1:=World.new_ne w ⟨ba,1,none⟩ a1
 have hne2:w.heap.size≠ba:=by omega
 show Calls _ _ #[(53:Int),.slice ba 2 2] _ _
 clear hb hrow hw2 hask hs
 replace hcell:=hid hcell
 replace htm:=hid htm
 replace hnA:=hid hnA
 replace hnB:=hid hnB
 go_enter Tryz.func99,Tryz.ntmps99
 go_wp2_with fail
 go_region_held (λw'=>w'.cell? (ba,0) =some (X:Vl)∧w'.cell? (ba,1) =some (Y:Vl)) (go_keep)
  ((go_at_call 134;refine(htm.out _).mono ?_;rintro e w5 ⟨rfl,hb⟩
    first
    | (have hn5:=On.below hnA.out hb;have⟨n0,n1⟩:=hcell.out _ hn5.tail;have k0:w5.cell? (w.heap.size,0) =some (.int .i64 0):=(hn5.ab 0 rfl).cell 0;have k1:w5.cell? (w.heap.size,1) =some (.int .i64 0):=(hn5.ab 0 rfl).cell 1;have f0:=(hn5.ab 0 rfl).frozen 0;have f1:=(hn5.ab 0 rfl).frozen 1;have lt5:=(hn5.ab 0 rfl).lt;clear hb;replace hn5:=hid hn5)
    | (have hn5:=On.below hnB.out hb;have⟨n0,n1⟩:=hcell.out _ hn5;have lt5:=(hn5.ab 0 rfl).lt;clear hb;replace hn5:=hid hn5)))
 all_goals go_wp2
 all_goals go_ret
 all_goals first
  | (have h9:=((hn5.out.setAt 0 rfl 0 (.int .i64 lo)).setAt 0 rfl 1 (.int .i64 hi)).box #[lo,hi] 3
     rw[show((w5.setCell (w.heap.size,0) (.int .i64 lo)).setCell (w.heap.size,1) (.int .i64 hi)).heap.size=w5.heap.size by simp]at h9
     exact⟨some ⟨w5.heap.size,0,none⟩,2,ae w5.heap.size 3 (af [lo,hi]),rfl,ay _ _,(h9.drop 1 rfl).drop 1 rfl⟩)
  | (have h9:=((hn5.out.box #[lo,hi] 209).box #[lo,hi] 3)
     simp only[World.size_alloc]at h9
     exact⟨some ⟨w5.heap.size+1,0,none⟩,2,ae (w5.heap.size+1) 3 (af [lo,hi]),rfl,ay _ _,(h9.drop 1 rfl).drop 1 rfl⟩)
theorem GW(arg lit cells:Int) :cA 99 (λ_=> #[]) ⟨54,arg,lit,cells⟩ (λs=>[dn (ar s 2 0) (ar s 2 1),sO (ar s 2 0) (ar s 2 1)]):=by
 intro c g x src s ba w F hs hask hb
 have hw2: (Code.ah 54).1.toNat=2:=by decide
 simp only[hw2]at hb⊢
 have hnB:=(On.refl hb).drew
 have hnA:=((On.refl hb).box #[(0:Int),(0:Int)] 209).drew
 have hrow:=(On.refl hb).ab 0 rfl
 have a0:=ai hrow (j:=0) oM
 have a1:=ai hrow (j:=1) oM
 have hcell : ∀W,On F w (aa (ae ba 3 (af (s.args 2)) ::vL c g x src s)) W->W.cell? (ba,0) =some ((ar s 2 0) :Vl)∧W.cell? (ba,1) =some ((ar s 2 1) :Vl):=λW h=>⟨ai (h.ab 0 rfl) oM,ai (h.ab 0 rfl) oM⟩
 have htm:=λw=>wW (ar s 2 0) (ar s 2 1) w
 generalize dn (ar s 2 0) (ar s 2 1) =lo at *
 generalize sO (ar s 2 0) (ar s 2 1) =hi at *
 generalize ar s 2 0=X at *
 generalize ar s 2 1=Y at *
 generalize af (s.args 2) =ac at *
 have hlt:=hrow.lt
 have hlt1:ba<w.heap.size+1:=by omega
 have hne:=World.new_ne w ⟨ba,0,none⟩ a0
 have hne1:=World.new_ne w ⟨ba,1,none⟩ a1
 have hne2:w.heap.size≠ba:=by omega
 show Calls _ _ #[(54:Int),.slice ba 2 2] _ _
 clear hb hrow hw2 hask hs
 replace hcell:=hid hcell
 replace htm:=hid htm
 replace hnA:=hid hnA
 replace hnB:=hid hnB
 go_enter Tryz.func99,Tryz.ntmps99
 go_wp2_with fail
 go_region_held (λw'=>w'.cell? (ba,0) =some (X:Vl)∧w'.cell? (ba,1) =some (Y:Vl)) (go_keep)
  ((go_at_call 135;refine(htm.out _).mono ?_;rintro e w5 ⟨rfl,hb⟩
    first
    | (have hn5:=On.below hnA.out hb;have⟨n0,n1⟩:=hcell.out _ hn5.tail;have k0:w5.cell? (w.heap.size,0) =some (.int .i64 0):=(hn5.ab 0 rfl).cell 0;have k1:w5.cell? (w.heap.size,1) =some (.int .i64 0):=(hn5.ab 0 rfl).cell 1;have f0:=(hn5.ab 0 rfl).frozen 0;have f1:=(hn5.ab 0 rfl).frozen 1;have lt5:=(hn5.ab 0 rfl).lt;clear hb;replace hn5:=hid hn5)
    | (have hn5:=On.below hnB.out hb;have⟨n0,n1⟩:=hcell.out _ hn5;have lt5:=(hn5.ab 0 rfl).lt;clear hb;replace hn5:=hid hn5)))
 all_goals go_wp2
 all_goals go_ret
 all_goals first
  | (have h9:=((hn5.out.setAt 0 rfl 0 (.int .i64 lo)).setAt 0 rfl 1 (.int .i64 hi)).box #[lo,hi] 3
     rw[show((w5.setCell (w.heap.size,0) (.int .i64 lo)).setCell (w.heap.size,1) (.int .i64 hi)).heap.size=w5.heap.size by simp]at h9
     exact⟨some ⟨w5.heap.size,0,none⟩,2,ae w5.heap.size 3 (af [lo,hi]),rfl,ay _ _,(h9.drop 1 rfl).drop 1 rfl⟩)
  | (have h9:=((hn5.out.box #[lo,hi] 209).box #[lo,hi] 3)
     simp only[World.size_alloc]at h9
     exact⟨some ⟨w5.heap.size+1,0,none⟩,2,ae (w5.heap.size+1) 3 (af [lo,hi]),rfl,ay _ _,(h9.drop 1 rfl).drop 1 rfl⟩)
end Vm
end Go.Proofs.YtjohhkikoejadaaGreatDoor
