/- Chapter 11: what is laid down of a division. Conditions: as written. -/
import Derived.Test.YteaijdgnagkllaaGreatDoorZd21
import Derived.Test.YteaijdgnagkllaaGreatDoorZdVWid
open Go.Proofs.Tryz
namespace Go.Proofs.YteaijdgnagkllaaGreatDoor
set_option linter.unusedVariables false
set_option linter.unusedSimpArgs false
set_option maxHeartbeats 8000000
set_option maxRecDepth 100000
open Go.RowKit Go.Lib Go.Deep
namespace Vm
def quoL(k:Nat)(q r:Int):List Int:=if k=0 then [q]else if k=1 then [r]else [r,q]
theorem q_call(k:Nat)(hk:k<=2)(q r:Int)(p:Nat)(w:World)(hp:p<w.heap.size)(hc:w.cell? (p,0)=some ((k:Int):Vl)):Calls prog 263 #[q,r,(0:Int),p] w
 (λe w'=> ∃b,e = .returned (.slice (some ⟨b,0,none⟩) (quoL k q r).length (quoL k q r).length)∧On Nob w (AllA [BlkA b 3 (intsC (quoL k q r))]) w'):=by
 have h1:p<w.heap.size+1:=by omega
 have h2:p<w.heap.size+1+1:=by omega
 have h3:p<w.heap.size+1+1+1:=by omega
 have hon:=((((On.refl (A:=AllA []) (F:=Nob) (w:=w) (λ_ h=>h)).box #[q] 3).box #[r] 3).box #[r,q] 3).box #[.slice w.heap.size 1 1,.slice (some ⟨w.heap.size+1,0,none⟩) 1 1,.slice (some ⟨w.heap.size+1+1,0,none⟩) 2 2] 50
 simp only[World.size_alloc]at hon
 rcases(show k=0∨k=1∨k=2 by omega)with rfl|rfl|rfl
 ·have hc0:w.cell? (p,0)=some (.int .i64 0):=hc
  clear hc hk
  replace hon:=hid hon
  go_enter func263,ntmps263
  go_wp2_with fail
  refine(try_ok _).mono ?_
  rintro e w2 ⟨rfl,rfl⟩
  simp only[]
  go_wp2
  go_ret
  exact⟨w2.heap.size,rfl,((hon.out.drop 0 rfl).drop 0 rfl).drop 0 rfl⟩
 ·have hc0:w.cell? (p,0)=some (.int .i64 1):=hc
  clear hc hk
  replace hon:=hid hon
  go_enter func263,ntmps263
  go_wp2_with fail
  refine(try_ok _).mono ?_
  rintro e w2 ⟨rfl,rfl⟩
  simp only[]
  go_wp2
  go_ret
  exact⟨w2.heap.size+1,rfl,((hon.out.drop 0 rfl).drop 0 rfl).drop 1 rfl⟩
 ·have hc0:w.cell? (p,0)=some (.int .i64 2):=hc
  clear hc hk
  replace hon:=hid hon
  go_enter func263,ntmps263
  go_wp2_with fail
  refine(try_ok _).mono ?_
  rintro e w2 ⟨rfl,rfl⟩
  simp only[]
  go_wp2
  go_ret
  exact⟨w2.heap.size+1+1,rfl,((hon.out.drop 0 rfl).drop 1 rfl).drop 1 rfl⟩
theorem q_throw(f:Int)(hf:f≠0)(q r:Int)(p:Value)(w:World):Calls prog 263 #[q,r,f,p] w (Thrown f w):=by
 have ht:=λw=>try_no f hf w
 replace ht:=hid ht
 clear hf
 go_enter func263,ntmps263
 go_wp2_with fail
 refine(ht.out _).mono ?_
 rintro e w2 ⟨rfl,rfl⟩
 exact⟨rfl,rfl,rfl⟩
theorem q_make(k:Int)(w:World):Calls prog 229 #[(k:Int)] w (λe w'=>e = .returned (.func (.func 263) #[] #[w.heap.size])∧w'=w.alloc (.cells #[(k:Int)] 3)):=by
 have hmf: ∀(fn:Fn) (first cap:Array Value) (w:World),(Instr.makeFunc fn first cap).run prog w = .ok (.func fn first cap) w:=λ_ _ _ _=>rfl
 go_enter func229,ntmps229
 go_wp2
 go_ret
 exact⟨rfl,rfl⟩
theorem q_post(k:Nat)(hk:k<=2)(q r:Int)(p:Nat)(w:World)(hp:p<w.heap.size)(hc:w.cell? (p,0)=some ((k:Int):Vl)):Calls prog 263 #[q,r,(0:Int),p] w
 (PostE (λe B=> ∃b,e = .returned (.slice (some ⟨b,0,none⟩) (quoL k q r).length (quoL k q r).length)∧B=AllA [BlkA b 3 (intsC (quoL k q r))]) Nob w):=
 (q_call k hk q r p w hp hc).mono λe w' ⟨b,he,hon⟩=>⟨_,⟨b,he,rfl⟩,hon⟩
theorem q_make2(k:Int)(w:World):Calls prog 229 #[(k:Int)] w (λe w'=> ∃b,e = .returned (.func (.func 263) #[] #[.pointer (some ⟨b,0,none⟩)])∧Below w.heap.size w w'∧w'.cell? ⟨b,0,none⟩=some ((k:Int):Vl)∧b<w'.heap.size):=
 (q_make k w).mono λe w' ⟨h1,h2⟩=>by
  subst h2
  exact⟨_,h1,((On.refl (A:=AllA []) (F:=Nob) (w:=w) (λ_ h=>h)).alloc _).outN,by simp,by simp⟩
theorem c_flo2(a b:Int)(w:World):Calls prog 230 #[a,b] w (Quiet (tri (decide (b=0)) (floQ a b) (floR a b)) w):=by
 refine(c_flo a b w).mono ?_
 rintro e w' ⟨rfl,n,rfl⟩
 refine⟨?_,((On.refl (A:=AllA []) (F:=Nob) (w:=w) (λ_ h=>h)).drewN n).outN⟩
 unfold floV tri
 by_cases h:b=0
 ·rw[if_pos h,if_pos (decide_eq_true h)]
 ·rw[if_neg h,if_neg (by simpa using h)]
def quoP(k:Nat)(o:Bool)(q r:Int)(x:Rn)(s:Mt):Rs×List Int:=(⟨if o then 7 else 0,x,s⟩,quoL k q r)
theorem y_flo{op:Int}{k:Nat}(hsel: (op=34∧k=0)∨(op=35∧k=1)∨(op=36∧k=2))(arg lit cells:Int):GivesR 215 (λg=>#[]) ⟨op,arg,lit,cells⟩ (λx s=>quoP k (decide (ar s 2 1=0)) (floQ (ar s 2 0) (ar s 2 1)) (floR (ar s 2 0) (ar s 2 1)) x s):=by
 intro c g x src s ba w F hs hx hask hb
 have hw2: (Code.wants op).1.toNat=2:=by rcases hsel with⟨rfl,rfl⟩ | ⟨rfl,rfl⟩ | ⟨rfl,rfl⟩<;>decide
 simp only[hw2]at hb⊢
 have hn:=(On.refl hb).drew
 have hrow:=(On.refl hb).blkAt 0 rfl
 have a0:=row_get hrow (j:=0) oM
 have a1:=row_get hrow (j:=1) oM
 have hcell: ∀W,On F w (AllA (BlkA ba 3 (intsC (s.args 2))::vL c g x src s)) W->W.cell? (ba,0)=some ((ar s 2 0):Vl)∧W.cell? (ba,1)=some ((ar s 2 1):Vl):=λW h=>⟨row_get (h.blkAt 0 rfl) oM,row_get (h.blkAt 0 rfl) oM⟩
 have hdv:=λw=>c_flo2 (ar s 2 0) (ar s 2 1) w
 unfold quoP
 simp only
 generalize floQ (ar s 2 0) (ar s 2 1)=Q at *
 generalize floR (ar s 2 0) (ar s 2 1)=R at *
 generalize decide (ar s 2 1=0)=o at *
 generalize ar s 2 0=X at *
 generalize ar s 2 1=Y at *
 generalize intsC (s.args 2)=ac at *
 have hlt:=hrow.lt
 show Calls _ _ #[op,.slice ba 2 2] _ _
 clear hb hrow hw2 hask hs hx
 have hqm:=λw=>q_make2 (k:Int) w
 replace hqm:=hid hqm
 replace hcell:=hid hcell
 cases o with
 | true=>
   show Calls _ _ _ _ (λe w'=>e = .panicked [flt 7]∧On F w (VA c g x src s) w')
   replace hdv:=hid hdv
   rcases hsel with⟨rfl,rfl⟩ | ⟨rfl,rfl⟩ | ⟨rfl,rfl⟩
   all_goals
    go_enter func215,ntmps215
    go_wp2_with fail
    go_region_held (λw'=>w'.cell? (ba,0)=some (X:Vl)∧w'.cell? (ba,1)=some (Y:Vl)) (go_keep)
     ((first
       | (go_at_call 229;refine(hqm.out _).mono ?_;rintro e w5 ⟨b,rfl,hb,kb,ltb⟩;have hn:=On.below (by assumption) hb;have⟨n0,n1⟩:=hcell.out _ hn;clear hb)
       | (go_at_call 230;refine mo (hdv.out _) λw5 hb=>?_;unfold tri;simp only[];have hn:=On.below (by assumption) hb;have⟨n0,n1⟩:=hcell.out _ hn;(try have kb:=(hb.cell (p:=⟨b,0,none⟩) ltb).trans kb);(try have ltb:=Nat.lt_of_lt_of_le ltb hb.size);clear hb)
       | (go_at_call 263;refine dead (q_throw 7 (by decide) _ _ _ _) ⟨rfl,rfl,On.tail (by assumption)⟩ ?_;intro hF e w5 he hw;subst he;subst hw;replace hF:=hid hF)))
    all_goals exact hF.out.elim
 | false=>
   show Calls _ _ _ _ (λe w'=>Gives (quoL k Q R) (vL c g x src s) F w e w')
   replace hdv:=hid hdv
   rcases hsel with⟨rfl,rfl⟩ | ⟨rfl,rfl⟩ | ⟨rfl,rfl⟩
   all_goals
    go_enter func215,ntmps215
    go_wp2_with fail
    go_region_held (λw'=>w'.cell? (ba,0)=some (X:Vl)∧w'.cell? (ba,1)=some (Y:Vl)) (go_keep)
     ((first
       | (go_at_call 229;refine(hqm.out _).mono ?_;rintro e w5 ⟨b,rfl,hb,kb,ltb⟩;have hn:=On.below (by assumption) hb;have⟨n0,n1⟩:=hcell.out _ hn;clear hb)
       | (go_at_call 230;refine mo (hdv.out _) λw5 hb=>?_;unfold tri;simp only[];have hn:=On.below (by assumption) hb;have⟨n0,n1⟩:=hcell.out _ hn;(try have kb:=(hb.cell (p:=⟨b,0,none⟩) ltb).trans kb);(try have ltb:=Nat.lt_of_lt_of_le ltb hb.size);clear hb)
       | (go_at_call 263;refine(On.make (by assumption) (q_post _ oM Q R _ _ ltb kb)).mono ?_;rintro e w6 ⟨B,⟨b2,rfl,rfl⟩,h⟩;have h6:On F w (AllA (BlkA b2 3 (intsC (quoL _ Q R))::BlkA ba 3 ac::vL c g x src s)) w6:=On.flat h;have⟨n0,n1⟩:=hcell.out _ h6.tail;clear h;replace h6:=hid h6)))
    all_goals go_wp2
    all_goals go_ret
    all_goals exact⟨some ⟨b2,0,none⟩,_,BlkA b2 3 (intsC (quoL _ Q R)),rfl,carries_row _ _,h6.out.drop 1 rfl⟩
theorem y_div(arg lit cells:Int):GivesR 215 (λg=>#[]) ⟨34,arg,lit,cells⟩ (λx s=>quoP 0 (decide (ar s 2 1=0)) (floQ (ar s 2 0) (ar s 2 1)) (floR (ar s 2 0) (ar s 2 1)) x s):=y_flo oM arg lit cells
theorem y_mod(arg lit cells:Int):GivesR 215 (λg=>#[]) ⟨35,arg,lit,cells⟩ (λx s=>quoP 1 (decide (ar s 2 1=0)) (floQ (ar s 2 0) (ar s 2 1)) (floR (ar s 2 0) (ar s 2 1)) x s):=y_flo oM arg lit cells
theorem y_divmod(arg lit cells:Int):GivesR 215 (λg=>#[]) ⟨36,arg,lit,cells⟩ (λx s=>quoP 2 (decide (ar s 2 1=0)) (floQ (ar s 2 0) (ar s 2 1)) (floR (ar s 2 0) (ar s 2 1)) x s):=y_flo oM arg lit cells
theorem y_mfl{op:Int}{k:Nat}(hsel: (op=37∧k=0)∨(op=38∧k=2))(arg lit cells:Int):GivesR 215 (λg=>#[]) ⟨op,arg,lit,cells⟩ (λx s=>quoP k (fdOut (utLo (ar s 3 0) (ar s 3 1)) (tHi (ar s 3 0) (ar s 3 1)) (ar s 3 2)) (fdQ (utLo (ar s 3 0) (ar s 3 1)) (tHi (ar s 3 0) (ar s 3 1)) (ar s 3 2)) (fdR (utLo (ar s 3 0) (ar s 3 1)) (tHi (ar s 3 0) (ar s 3 1)) (ar s 3 2)) x s):=by
 intro c g x src s ba w F hs hx hask hb
 have hw2: (Code.wants op).1.toNat=3:=by rcases hsel with⟨rfl,rfl⟩ | ⟨rfl,rfl⟩<;>decide
 simp only[hw2]at hb⊢
 have hn:=(On.refl hb).drew
 have hrow:=(On.refl hb).blkAt 0 rfl
 have a0:=row_get hrow (j:=0) oM
 have a1:=row_get hrow (j:=1) oM
 have a2:=row_get hrow (j:=2) oM
 have hcell: ∀W,On F w (AllA (BlkA ba 3 (intsC (s.args 3))::vL c g x src s)) W->W.cell? (ba,0)=some ((ar s 3 0):Vl)∧W.cell? (ba,1)=some ((ar s 3 1):Vl)∧W.cell? (ba,2)=some ((ar s 3 2):Vl):=λW h=>⟨row_get (h.blkAt 0 rfl) oM,row_get (h.blkAt 0 rfl) oM,row_get (h.blkAt 0 rfl) oM⟩
 have htm:=λw=>c_times (ar s 3 0) (ar s 3 1) w
 have hdv:=λw=>c_fdiv (utLo (ar s 3 0) (ar s 3 1)) (tHi (ar s 3 0) (ar s 3 1)) (ar s 3 2) w
 unfold quoP
 simp only
 generalize fdQ (utLo (ar s 3 0) (ar s 3 1)) (tHi (ar s 3 0) (ar s 3 1)) (ar s 3 2)=Q at *
 generalize fdR (utLo (ar s 3 0) (ar s 3 1)) (tHi (ar s 3 0) (ar s 3 1)) (ar s 3 2)=R at *
 generalize fdOut (utLo (ar s 3 0) (ar s 3 1)) (tHi (ar s 3 0) (ar s 3 1)) (ar s 3 2)=o at *
 generalize utLo (ar s 3 0) (ar s 3 1)=lo at *
 generalize tHi (ar s 3 0) (ar s 3 1)=hi at *
 generalize ar s 3 0=X at *
 generalize ar s 3 1=Y at *
 generalize ar s 3 2=Z at *
 generalize intsC (s.args 3)=ac at *
 have hlt:=hrow.lt
 show Calls _ _ #[op,.slice ba 3 3] _ _
 clear hb hrow hw2 hask hs hx
 have hqm:=λw=>q_make2 (k:Int) w
 replace hqm:=hid hqm
 replace hcell:=hid hcell
 replace htm:=hid htm
 cases o with
 | true=>
   show Calls _ _ _ _ (λe w'=>e = .panicked [flt 7]∧On F w (VA c g x src s) w')
   replace hdv:=hid hdv
   rcases hsel with⟨rfl,rfl⟩ | ⟨rfl,rfl⟩
   all_goals
    go_enter func215,ntmps215
    go_wp2_with fail
    go_region_held (λw'=>w'.cell? (ba,0)=some (X:Vl)∧w'.cell? (ba,1)=some (Y:Vl)∧w'.cell? (ba,2)=some (Z:Vl)) (go_keep)
     ((first
       | (go_at_call 229;refine(hqm.out _).mono ?_;rintro e w5 ⟨b,rfl,hb,kb,ltb⟩;have hn:=On.below (by assumption) hb;have⟨n0,n1,n2⟩:=hcell.out _ hn;clear hb)
       | (go_at_call 232;refine mo (htm.out _) λw5 hb=>?_;have hn:=On.below (by assumption) hb;have⟨n0,n1,n2⟩:=hcell.out _ hn;(try have kb:=(hb.cell (p:=⟨b,0,none⟩) ltb).trans kb);(try have ltb:=Nat.lt_of_lt_of_le ltb hb.size);clear hb)
       | (go_at_call 231;refine mo (hdv.out _) λw5 hb=>?_;unfold tri;simp only[];have hn:=On.below (by assumption) hb;have⟨n0,n1,n2⟩:=hcell.out _ hn;(try have kb:=(hb.cell (p:=⟨b,0,none⟩) ltb).trans kb);(try have ltb:=Nat.lt_of_lt_of_le ltb hb.size);clear hb)
       | (go_at_call 263;refine dead (q_throw 7 (by decide) _ _ _ _) ⟨rfl,rfl,On.tail (by assumption)⟩ ?_;intro hF e w5 he hw;subst he;subst hw;replace hF:=hid hF)))
    all_goals exact hF.out.elim
 | false=>
   show Calls _ _ _ _ (λe w'=>Gives (quoL k Q R) (vL c g x src s) F w e w')
   replace hdv:=hid hdv
   rcases hsel with⟨rfl,rfl⟩ | ⟨rfl,rfl⟩
   all_goals
    go_enter func215,ntmps215
    go_wp2_with fail
    go_region_held (λw'=>w'.cell? (ba,0)=some (X:Vl)∧w'.cell? (ba,1)=some (Y:Vl)∧w'.cell? (ba,2)=some (Z:Vl)) (go_keep)
     ((first
       | (go_at_call 229;refine(hqm.out _).mono ?_;rintro e w5 ⟨b,rfl,hb,kb,ltb⟩;have hn:=On.below (by assumption) hb;have⟨n0,n1,n2⟩:=hcell.out _ hn;clear hb)
       | (go_at_call 232;refine mo (htm.out _) λw5 hb=>?_;have hn:=On.below (by assumption) hb;have⟨n0,n1,n2⟩:=hcell.out _ hn;(try have kb:=(hb.cell (p:=⟨b,0,none⟩) ltb).trans kb);(try have ltb:=Nat.lt_of_lt_of_le ltb hb.size);clear hb)
       | (go_at_call 231;refine mo (hdv.out _) λw5 hb=>?_;unfold tri;simp only[];have hn:=On.below (by assumption) hb;have⟨n0,n1,n2⟩:=hcell.out _ hn;(try have kb:=(hb.cell (p:=⟨b,0,none⟩) ltb).trans kb);(try have ltb:=Nat.lt_of_lt_of_le ltb hb.size);clear hb)
       | (go_at_call 263;refine(On.make (by assumption) (q_post _ oM Q R _ _ ltb kb)).mono ?_;rintro e w6 ⟨B,⟨b2,rfl,rfl⟩,h⟩;have h6:On F w (AllA (BlkA b2 3 (intsC (quoL _ Q R))::BlkA ba 3 ac::vL c g x src s)) w6:=On.flat h;have⟨n0,n1,n2⟩:=hcell.out _ h6.tail;clear h;replace h6:=hid h6)))
    all_goals go_wp2
    all_goals go_ret
    all_goals exact⟨some ⟨b2,0,none⟩,_,BlkA b2 3 (intsC (quoL _ Q R)),rfl,carries_row _ _,h6.out.drop 1 rfl⟩
theorem y_muldiv(arg lit cells:Int):GivesR 215 (λg=>#[]) ⟨37,arg,lit,cells⟩ (λx s=>quoP 0 (fdOut (utLo (ar s 3 0) (ar s 3 1)) (tHi (ar s 3 0) (ar s 3 1)) (ar s 3 2)) (fdQ (utLo (ar s 3 0) (ar s 3 1)) (tHi (ar s 3 0) (ar s 3 1)) (ar s 3 2)) (fdR (utLo (ar s 3 0) (ar s 3 1)) (tHi (ar s 3 0) (ar s 3 1)) (ar s 3 2)) x s):=y_mfl oM arg lit cells
theorem y_muldivmod(arg lit cells:Int):GivesR 215 (λg=>#[]) ⟨38,arg,lit,cells⟩ (λx s=>quoP 2 (fdOut (utLo (ar s 3 0) (ar s 3 1)) (tHi (ar s 3 0) (ar s 3 1)) (ar s 3 2)) (fdQ (utLo (ar s 3 0) (ar s 3 1)) (tHi (ar s 3 0) (ar s 3 1)) (ar s 3 2)) (fdR (utLo (ar s 3 0) (ar s 3 1)) (tHi (ar s 3 0) (ar s 3 1)) (ar s 3 2)) x s):=y_mfl oM arg lit cells
theorem y_dvs{op:Int}{fn:FuncId}(hsel: (op=55∧fn=234)∨(op=56∧fn=235)∨(op=57∧fn=231)){o:Int->Int->Int->Bool}{Q R:Int->Int->Int->Int}(hd: ∀lo hi n w,Calls prog fn #[.agg #[.int .i64 lo,.int .i64 hi],.int .i64 n] w (Quiet (tri (o lo hi n) (Q lo hi n) (R lo hi n)) w))(arg lit cells:Int):GivesR 215 (λg=>#[]) ⟨op,arg,lit,cells⟩ (λx s=>quoP 2 (o (ar s 3 0) (ar s 3 1) (ar s 3 2)) (Q (ar s 3 0) (ar s 3 1) (ar s 3 2)) (R (ar s 3 0) (ar s 3 1) (ar s 3 2)) x s):=by
 intro c g x src s ba w F hs hx hask hb
 have hw2: (Code.wants op).1.toNat=3:=by rcases hsel with⟨rfl,rfl⟩ | ⟨rfl,rfl⟩ | ⟨rfl,rfl⟩<;>decide
 simp only[hw2]at hb⊢
 have hn:=(On.refl hb).drew
 have hrow:=(On.refl hb).blkAt 0 rfl
 have a0:=row_get hrow (j:=0) oM
 have a1:=row_get hrow (j:=1) oM
 have a2:=row_get hrow (j:=2) oM
 have hcell: ∀W,On F w (AllA (BlkA ba 3 (intsC (s.args 3))::vL c g x src s)) W->W.cell? (ba,0)=some ((ar s 3 0):Vl)∧W.cell? (ba,1)=some ((ar s 3 1):Vl)∧W.cell? (ba,2)=some ((ar s 3 2):Vl):=λW h=>⟨row_get (h.blkAt 0 rfl) oM,row_get (h.blkAt 0 rfl) oM,row_get (h.blkAt 0 rfl) oM⟩
 have hdv:=λw=>hd (ar s 3 0) (ar s 3 1) (ar s 3 2) w
 clear hd
 unfold quoP
 simp only
 generalize Q (ar s 3 0) (ar s 3 1) (ar s 3 2)=Q at *
 generalize R (ar s 3 0) (ar s 3 1) (ar s 3 2)=R at *
 generalize o (ar s 3 0) (ar s 3 1) (ar s 3 2)=o at *
 generalize ar s 3 0=X at *
 generalize ar s 3 1=Y at *
 generalize ar s 3 2=Z at *
 generalize intsC (s.args 3)=ac at *
 have hlt:=hrow.lt
 show Calls _ _ #[op,.slice ba 3 3] _ _
 clear hb hrow hw2 hask hs hx
 have hqm:=λw=>q_make2 ((2:Nat):Int) w
 replace hqm:=hid hqm
 replace hcell:=hid hcell
 cases o with
 | true=>
   show Calls _ _ _ _ (λe w'=>e = .panicked [flt 7]∧On F w (VA c g x src s) w')
   replace hdv:=hid hdv
   rcases hsel with⟨rfl,rfl⟩ | ⟨rfl,rfl⟩ | ⟨rfl,rfl⟩
   all_goals
    go_enter func215,ntmps215
    go_wp2_with fail
    go_region_held (λw'=>w'.cell? (ba,0)=some (X:Vl)∧w'.cell? (ba,1)=some (Y:Vl)∧w'.cell? (ba,2)=some (Z:Vl)) (go_keep)
     ((first
       | (go_at_call 229;refine(hqm.out _).mono ?_;rintro e w5 ⟨b,rfl,hb,kb,ltb⟩;have hn:=On.below (by assumption) hb;have⟨n0,n1,n2⟩:=hcell.out _ hn;clear hb)
       | ((first|go_at_call 234|go_at_call 235|go_at_call 231);refine mo (hdv.out _) λw5 hb=>?_;unfold tri;simp only[];have hn:=On.below (by assumption) hb;have⟨n0,n1,n2⟩:=hcell.out _ hn;(try have kb:=(hb.cell (p:=⟨b,0,none⟩) ltb).trans kb);(try have ltb:=Nat.lt_of_lt_of_le ltb hb.size);clear hb)
       | (go_at_call 263;refine dead (q_throw 7 (by decide) _ _ _ _) ⟨rfl,rfl,On.tail (by assumption)⟩ ?_;intro hF e w5 he hw;subst he;subst hw;replace hF:=hid hF)))
    all_goals exact hF.out.elim
 | false=>
   show Calls _ _ _ _ (λe w'=>Gives (quoL 2 Q R) (vL c g x src s) F w e w')
   replace hdv:=hid hdv
   rcases hsel with⟨rfl,rfl⟩ | ⟨rfl,rfl⟩ | ⟨rfl,rfl⟩
   all_goals
    go_enter func215,ntmps215
    go_wp2_with fail
    go_region_held (λw'=>w'.cell? (ba,0)=some (X:Vl)∧w'.cell? (ba,1)=some (Y:Vl)∧w'.cell? (ba,2)=some (Z:Vl)) (go_keep)
     ((first
       | (go_at_call 229;refine(hqm.out _).mono ?_;rintro e w5 ⟨b,rfl,hb,kb,ltb⟩;have hn:=On.below (by assumption) hb;have⟨n0,n1,n2⟩:=hcell.out _ hn;clear hb)
       | ((first|go_at_call 234|go_at_call 235|go_at_call 231);refine mo (hdv.out _) λw5 hb=>?_;unfold tri;simp only[];have hn:=On.below (by assumption) hb;have⟨n0,n1,n2⟩:=hcell.out _ hn;(try have kb:=(hb.cell (p:=⟨b,0,none⟩) ltb).trans kb);(try have ltb:=Nat.lt_of_lt_of_le ltb hb.size);clear hb)
       | (go_at_call 263;refine(On.make (by assumption) (q_post 2 oM Q R _ _ ltb kb)).mono ?_;rintro e w6 ⟨B,⟨b2,rfl,rfl⟩,h⟩;have h6:On F w (AllA (BlkA b2 3 (intsC (quoL 2 Q R))::BlkA ba 3 ac::vL c g x src s)) w6:=On.flat h;have⟨n0,n1,n2⟩:=hcell.out _ h6.tail;clear h;replace h6:=hid h6)))
    all_goals go_wp2
    all_goals go_ret
    all_goals exact⟨some ⟨b2,0,none⟩,_,BlkA b2 3 (intsC (quoL 2 Q R)),rfl,carries_row _ _,h6.out.drop 1 rfl⟩
theorem y_ummod(arg lit cells:Int):GivesR 215 (λg=>#[]) ⟨55,arg,lit,cells⟩ (λx s=>quoP 2 (udOut (ar s 3 1) (ar s 3 2)) (udQ (ar s 3 0) (ar s 3 1) (ar s 3 2)) (udR (ar s 3 0) (ar s 3 1) (ar s 3 2)) x s):=y_dvs (o:=(λ_ b c=>udOut b c)) (Q:=udQ) (R:=udR) (by simp) c_udiv arg lit cells
theorem y_smrem(arg lit cells:Int):GivesR 215 (λg=>#[]) ⟨56,arg,lit,cells⟩ (λx s=>quoP 2 (dvOut (ar s 3 0) (ar s 3 1) (ar s 3 2)) (dvQ (ar s 3 0) (ar s 3 1) (ar s 3 2)) (dvR (ar s 3 0) (ar s 3 1) (ar s 3 2)) x s):=y_dvs (o:=dvOut) (Q:=dvQ) (R:=dvR) (by simp) c_sdiv arg lit cells
theorem y_fmmod(arg lit cells:Int):GivesR 215 (λg=>#[]) ⟨57,arg,lit,cells⟩ (λx s=>quoP 2 (fdOut (ar s 3 0) (ar s 3 1) (ar s 3 2)) (fdQ (ar s 3 0) (ar s 3 1) (ar s 3 2)) (fdR (ar s 3 0) (ar s 3 1) (ar s 3 2)) x s):=y_dvs (o:=fdOut) (Q:=fdQ) (R:=fdR) (by simp) c_fdiv arg lit cells
theorem g_mstar(arg lit cells:Int):GivesOk 215 (λ_=>#[]) ⟨53,arg,lit,cells⟩ (λs=>[utLo (ar s 2 0) (ar s 2 1),tHi (ar s 2 0) (ar s 2 1)]):=by
 intro c g x src s ba w F hs hask hb
 have hw2: (Code.wants 53).1.toNat=2:=by decide
 simp only[hw2]at hb⊢
 have hnB:=(On.refl hb).drew
 have hnA:=((On.refl hb).box #[(0:Int),(0:Int)] 328).drew
 have hrow:=(On.refl hb).blkAt 0 rfl
 have a0:=row_get hrow (j:=0) oM
 have a1:=row_get hrow (j:=1) oM
 have hcell: ∀W,On F w (AllA (BlkA ba 3 (intsC (s.args 2))::vL c g x src s)) W->W.cell? (ba,0)=some ((ar s 2 0):Vl)∧W.cell? (ba,1)=some ((ar s 2 1):Vl):=λW h=>⟨row_get (h.blkAt 0 rfl) oM,row_get (h.blkAt 0 rfl) oM⟩
 have htm:=λw=>c_times (ar s 2 0) (ar s 2 1) w
 generalize utLo (ar s 2 0) (ar s 2 1)=lo at *
 generalize tHi (ar s 2 0) (ar s 2 1)=hi at *
 generalize ar s 2 0=X at *
 generalize ar s 2 1=Y at *
 generalize intsC (s.args 2)=ac at *
 have hlt:=hrow.lt
 have hlt1:ba<w.heap.size+1:=by omega
 have hne:=World.new_ne w ⟨ba,0,none⟩ a0
 have hne1:=World.new_ne w ⟨ba,1,none⟩ a1
 have hne2:w.heap.size≠ba:=by omega
 show Calls _ _ #[(53:Int),.slice ba 2 2] _ _
 clear hb hrow hw2 hask hs
 replace hcell:=hid hcell
 replace htm:=hid htm
 replace hnA:=hid hnA
 replace hnB:=hid hnB
 go_enter func215,ntmps215
 go_wp2_with fail
 go_region_held (λw'=>w'.cell? (ba,0)=some (X:Vl)∧w'.cell? (ba,1)=some (Y:Vl)) (go_keep)
  ((go_at_call 232;refine mo (htm.out _) λw5 hb=>?_
    first
    | (have hn5:=On.below hnA.out hb;have⟨n0,n1⟩:=hcell.out _ hn5.tail;have k0:w5.cell? (w.heap.size,0)=some (.int .i64 0):=(hn5.blkAt 0 rfl).cell 0;have k1:w5.cell? (w.heap.size,1)=some (.int .i64 0):=(hn5.blkAt 0 rfl).cell 1;have f0:=(hn5.blkAt 0 rfl).frozen 0;have f1:=(hn5.blkAt 0 rfl).frozen 1;have lt5:=(hn5.blkAt 0 rfl).lt;clear hb;replace hn5:=hid hn5)
    | (have hn5:=On.below hnB.out hb;have⟨n0,n1⟩:=hcell.out _ hn5;have lt5:=(hn5.blkAt 0 rfl).lt;clear hb;replace hn5:=hid hn5)))
 all_goals go_wp2
 all_goals go_ret
 all_goals first
  | (have h9:=((hn5.out.setAt 0 rfl 0 (.int .i64 lo)).setAt 0 rfl 1 (.int .i64 hi)).box #[lo,hi] 3
     rw[show((w5.setCell (w.heap.size,0) (.int .i64 lo)).setCell (w.heap.size,1) (.int .i64 hi)).heap.size=w5.heap.size by simp]at h9
     exact⟨some ⟨w5.heap.size,0,none⟩,2,BlkA w5.heap.size 3 (intsC [lo,hi]),rfl,carries_row _ _,(h9.drop 1 rfl).drop 1 rfl⟩)
  | (have h9:=((hn5.out.box #[lo,hi] 328).box #[lo,hi] 3)
     simp only[World.size_alloc]at h9
     exact⟨some ⟨w5.heap.size+1,0,none⟩,2,BlkA (w5.heap.size+1) 3 (intsC [lo,hi]),rfl,carries_row _ _,(h9.drop 1 rfl).drop 1 rfl⟩)
theorem g_umstar(arg lit cells:Int):GivesOk 215 (λ_=>#[]) ⟨54,arg,lit,cells⟩ (λs=>[utLo (ar s 2 0) (ar s 2 1),utHi (ar s 2 0) (ar s 2 1)]):=by
 intro c g x src s ba w F hs hask hb
 have hw2: (Code.wants 54).1.toNat=2:=by decide
 simp only[hw2]at hb⊢
 have hnB:=(On.refl hb).drew
 have hnA:=((On.refl hb).box #[(0:Int),(0:Int)] 328).drew
 have hrow:=(On.refl hb).blkAt 0 rfl
 have a0:=row_get hrow (j:=0) oM
 have a1:=row_get hrow (j:=1) oM
 have hcell: ∀W,On F w (AllA (BlkA ba 3 (intsC (s.args 2))::vL c g x src s)) W->W.cell? (ba,0)=some ((ar s 2 0):Vl)∧W.cell? (ba,1)=some ((ar s 2 1):Vl):=λW h=>⟨row_get (h.blkAt 0 rfl) oM,row_get (h.blkAt 0 rfl) oM⟩
 have htm:=λw=>c_utimes (ar s 2 0) (ar s 2 1) w
 generalize utLo (ar s 2 0) (ar s 2 1)=lo at *
 generalize utHi (ar s 2 0) (ar s 2 1)=hi at *
 generalize ar s 2 0=X at *
 generalize ar s 2 1=Y at *
 generalize intsC (s.args 2)=ac at *
 have hlt:=hrow.lt
 have hlt1:ba<w.heap.size+1:=by omega
 have hne:=World.new_ne w ⟨ba,0,none⟩ a0
 have hne1:=World.new_ne w ⟨ba,1,none⟩ a1
 have hne2:w.heap.size≠ba:=by omega
 show Calls _ _ #[(54:Int),.slice ba 2 2] _ _
 clear hb hrow hw2 hask hs
 replace hcell:=hid hcell
 replace htm:=hid htm
 replace hnA:=hid hnA
 replace hnB:=hid hnB
 go_enter func215,ntmps215
 go_wp2_with fail
 go_region_held (λw'=>w'.cell? (ba,0)=some (X:Vl)∧w'.cell? (ba,1)=some (Y:Vl)) (go_keep)
  ((go_at_call 233;refine mo (htm.out _) λw5 hb=>?_
    first
    | (have hn5:=On.below hnA.out hb;have⟨n0,n1⟩:=hcell.out _ hn5.tail;have k0:w5.cell? (w.heap.size,0)=some (.int .i64 0):=(hn5.blkAt 0 rfl).cell 0;have k1:w5.cell? (w.heap.size,1)=some (.int .i64 0):=(hn5.blkAt 0 rfl).cell 1;have f0:=(hn5.blkAt 0 rfl).frozen 0;have f1:=(hn5.blkAt 0 rfl).frozen 1;have lt5:=(hn5.blkAt 0 rfl).lt;clear hb;replace hn5:=hid hn5)
    | (have hn5:=On.below hnB.out hb;have⟨n0,n1⟩:=hcell.out _ hn5;have lt5:=(hn5.blkAt 0 rfl).lt;clear hb;replace hn5:=hid hn5)))
 all_goals go_wp2
 all_goals go_ret
 all_goals first
  | (have h9:=((hn5.out.setAt 0 rfl 0 (.int .i64 lo)).setAt 0 rfl 1 (.int .i64 hi)).box #[lo,hi] 3
     rw[show((w5.setCell (w.heap.size,0) (.int .i64 lo)).setCell (w.heap.size,1) (.int .i64 hi)).heap.size=w5.heap.size by simp]at h9
     exact⟨some ⟨w5.heap.size,0,none⟩,2,BlkA w5.heap.size 3 (intsC [lo,hi]),rfl,carries_row _ _,(h9.drop 1 rfl).drop 1 rfl⟩)
  | (have h9:=((hn5.out.box #[lo,hi] 328).box #[lo,hi] 3)
     simp only[World.size_alloc]at h9
     exact⟨some ⟨w5.heap.size+1,0,none⟩,2,BlkA (w5.heap.size+1) 3 (intsC [lo,hi]),rfl,carries_row _ _,(h9.drop 1 rfl).drop 1 rfl⟩)
end Vm
end Go.Proofs.YteaijdgnagkllaaGreatDoor
