/- Chapter 11: what is laid down of a division. Conditions: as written. -/
import Derived.Test.YtjhdpmimccpcdaaGreatDoorT18
import Derived.Test.YtjhdpmimccpcdaaGreatDoorTVWid
import Derived.Test.YtjhdpmimccpcdaaGreatDoorT00
import Derived.BigRegion
import Derived.Deep.RegionHeld
namespace Go.Proofs.YtjhdpmimccpcdaaGreatDoor
set_option linter.unusedVariables false
set_option maxRecDepth 100000
open Go.RowKit Go.Lib Go.Deep
namespace Vm
def quoL (k : Nat) (q r : Int) : List Int := if k = 0 then [q] else if k = 1 then [r] else [r, q]
/-- the quotient's function, nothing thrown -/
theorem q_call (k : Nat) (hk : k ≤ 2) (q r : Int) (p : Nat) (w : World) (hp : p < w.heap.size) (hc : w.cell? ⟨p, 0, none⟩ = some (.int .i64 (k : Int))) : Calls Tryz.prog 198 #[.int .i64 q, .int .i64 r, .int .i64 0, .pointer (some ⟨p, 0, none⟩)] w
    (fun e w' => ∃ b, e = .returned (.slice (some ⟨b, 0, none⟩) (quoL k q r).length (quoL k q r).length) ∧ On Nob w (AllA [BlkA b 3 (intsC (quoL k q r))]) w') := by
  have h1 : p < w.heap.size + 1 := by omega
  have h2 : p < w.heap.size + 1 + 1 := by omega
  have h3 : p < w.heap.size + 1 + 1 + 1 := by omega
  have hon := ((((On.refl (A := AllA []) (F := Nob) (w := w) (fun _ h => h)).box #[.int .i64 q] 3).box #[.int .i64 r] 3).box #[.int .i64 r, .int .i64 q] 3).box #[.slice (some ⟨w.heap.size, 0, none⟩) 1 1, .slice (some ⟨w.heap.size + 1, 0, none⟩) 1 1, .slice (some ⟨w.heap.size + 1 + 1, 0, none⟩) 2 2] 25
  simp only [World.size_alloc] at hon
  rcases (show k = 0 ∨ k = 1 ∨ k = 2 by omega) with rfl | rfl | rfl
  · have hc0 : w.cell? ⟨p, 0, none⟩ = some (.int .i64 0) := hc
    clear hc hk
    replace hon := Lib.hid hon
    go_enter Tryz.func198, Tryz.ntmps198
    go_wp2_with fail
    refine (try_ok _).mono ?_
    rintro e w2 ⟨rfl, rfl⟩
    simp only []
    go_wp2
    go_ret
    exact ⟨w2.heap.size, rfl, ((hon.out.drop 0 rfl).drop 0 rfl).drop 0 rfl⟩
  · have hc0 : w.cell? ⟨p, 0, none⟩ = some (.int .i64 1) := hc
    clear hc hk
    replace hon := Lib.hid hon
    go_enter Tryz.func198, Tryz.ntmps198
    go_wp2_with fail
    refine (try_ok _).mono ?_
    rintro e w2 ⟨rfl, rfl⟩
    simp only []
    go_wp2
    go_ret
    exact ⟨w2.heap.size + 1, rfl, ((hon.out.drop 0 rfl).drop 0 rfl).drop 1 rfl⟩
  · have hc0 : w.cell? ⟨p, 0, none⟩ = some (.int .i64 2) := hc
    clear hc hk
    replace hon := Lib.hid hon
    go_enter Tryz.func198, Tryz.ntmps198
    go_wp2_with fail
    refine (try_ok _).mono ?_
    rintro e w2 ⟨rfl, rfl⟩
    simp only []
    go_wp2
    go_ret
    exact ⟨w2.heap.size + 1 + 1, rfl, ((hon.out.drop 0 rfl).drop 1 rfl).drop 1 rfl⟩
theorem q_throw (f : Int) (hf : f ≠ 0) (q r : Int) (p : Value) (w : World) : Calls Tryz.prog 198 #[.int .i64 q, .int .i64 r, .int .i64 f, p] w (Thrown f w) := by
  have ht := fun w => try_no f hf w
  replace ht := Lib.hid ht
  clear hf
  go_enter Tryz.func198, Tryz.ntmps198
  go_wp2_with fail
  refine (ht.out _).mono ?_
  rintro e w2 ⟨rfl, rfl⟩
  exact ⟨rfl, rfl, rfl⟩
theorem q_make (k : Int) (w : World) : Calls Tryz.prog 148 #[.int .i64 k] w (fun e w' => e = .returned (.func (.func 198) #[] #[.pointer (some ⟨w.heap.size, 0, none⟩)]) ∧ w' = w.alloc (.cells #[.int .i64 k] 3)) := by
  have hmf : ∀ (fn : Fn) (first cap : Array Value) (w : World), (Instr.makeFunc fn first cap).run Tryz.prog w = .ok (.func fn first cap) w := fun _ _ _ _ => rfl
  go_enter Tryz.func148, Tryz.ntmps148
  go_wp2
  go_ret
  exact ⟨rfl, rfl⟩
theorem q_post (k : Nat) (hk : k ≤ 2) (q r : Int) (p : Nat) (w : World) (hp : p < w.heap.size) (hc : w.cell? ⟨p, 0, none⟩ = some (.int .i64 (k : Int))) : Calls Tryz.prog 198 #[.int .i64 q, .int .i64 r, .int .i64 0, .pointer (some ⟨p, 0, none⟩)] w
    (PostE (fun e B => ∃ b, e = .returned (.slice (some ⟨b, 0, none⟩) (quoL k q r).length (quoL k q r).length) ∧ B = AllA [BlkA b 3 (intsC (quoL k q r))]) Nob w) :=
  (q_call k hk q r p w hp hc).mono fun e w' ⟨b, he, hon⟩ => ⟨_, ⟨b, he, rfl⟩, hon⟩
theorem q_make2 (k : Int) (w : World) : Calls Tryz.prog 148 #[.int .i64 k] w (fun e w' => ∃ b, e = .returned (.func (.func 198) #[] #[.pointer (some ⟨b, 0, none⟩)]) ∧ Below w.heap.size w w' ∧ w'.cell? ⟨b, 0, none⟩ = some (.int .i64 k) ∧ b < w'.heap.size) :=
  (q_make k w).mono fun e w' ⟨h1, h2⟩ => by
    subst h2
    exact ⟨_, h1, ((On.refl (A := AllA []) (F := Nob) (w := w) (fun _ h => h)).alloc _).outN, by simp, by simp⟩
theorem c_flo2 (a b : Int) (w : World) : Calls Tryz.prog 149 #[.int .i64 a, .int .i64 b] w (Quiet (tri (decide (b = 0)) (floQ a b) (floR a b)) w) := by
  refine (c_flo a b w).mono ?_
  rintro e w' ⟨rfl, n, rfl⟩
  refine ⟨?_, ((On.refl (A := AllA []) (F := Nob) (w := w) (fun _ h => h)).drewN n).outN⟩
  unfold floV tri
  by_cases h : b = 0
  · rw [if_pos h, if_pos (decide_eq_true h)]
  · rw [if_neg h, if_neg (by simpa using h)]
/-- what a division lays: the k-th form of it -/
def quoP (k : Nat) (o : Bool) (q r : Int) (x : Rn) (s : Mt) : Rs × List Int := (⟨if o then 7 else 0, x, s⟩, quoL k q r)
set_option maxHeartbeats 4000000 in
theorem y_div (arg lit cells : Int) : GivesR 117 (fun g => #[]) ⟨34, arg, lit, cells⟩ (fun x s => quoP 0 (decide (ar s 2 1 = 0)) (floQ (ar s 2 0) (ar s 2 1)) (floR (ar s 2 0) (ar s 2 1)) x s) := by
  intro c g x src s ba w F hs hx hask hb
  have hw2 : (Code.wants 34).1.toNat = 2 := by decide
  simp only [hw2] at hb ⊢
  have hn := (On.refl hb).drew
  have hrow := (On.refl hb).blkAt 0 rfl
  have a0 := row_get hrow (j := 0) (by omega)
  have a1 := row_get hrow (j := 1) (by omega)
  have hcell : ∀ W, On F w (AllA (BlkA ba 3 (intsC (s.args 2)) :: vL c g x src s)) W → W.cell? ⟨ba, 0, none⟩ = some (.int .i64 (ar s 2 0)) ∧ W.cell? ⟨ba, 1, none⟩ = some (.int .i64 (ar s 2 1)) := fun W h => ⟨row_get (h.blkAt 0 rfl) (by omega), row_get (h.blkAt 0 rfl) (by omega)⟩
  have hdv := fun w => c_flo2 (ar s 2 0) (ar s 2 1) w
  unfold quoP
  simp only
  generalize floQ (ar s 2 0) (ar s 2 1) = Q at *
  generalize floR (ar s 2 0) (ar s 2 1) = R at *
  generalize decide (ar s 2 1 = 0) = o at *
  generalize ar s 2 0 = X at *
  generalize ar s 2 1 = Y at *
  generalize intsC (s.args 2) = ac at *
  have hlt := hrow.lt
  show Calls _ _ #[.int .i64 34, .slice (some ⟨ba, 0, none⟩) 2 2] _ _
  clear hb hrow hw2 hask hs hx
  have hqm := fun w => q_make2 ((0 : Nat) : Int) w
  replace hqm := Lib.hid hqm
  replace hcell := Lib.hid hcell
  cases o with
  | true =>
    show Calls _ _ _ _ (fun e w' => e = .panicked [flt 7] ∧ On F w (VA c g x src s) w')
    replace hdv := Lib.hid hdv
    · go_enter Tryz.func117, Tryz.ntmps117
      go_wp2_with fail
      go_region_held (fun w' => w'.cell? ⟨ba, 0, none⟩ = some (.int .i64 X) ∧ w'.cell? ⟨ba, 1, none⟩ = some (.int .i64 Y)) (go_keep)
        ((first
          | (go_at_call 148; refine (hqm.out _).mono ?_; rintro e w5 ⟨b, rfl, hb, kb, ltb⟩; have hn := On.below (by assumption) hb; have ⟨n0, n1⟩ := hcell.out _ hn; clear hb)
          | (go_at_call 149; refine (hdv.out _).mono ?_; rintro e w5 ⟨rfl, hb⟩; unfold tri; simp only []; have hn := On.below (by assumption) hb; have ⟨n0, n1⟩ := hcell.out _ hn; (try have kb := (hb.cell (p := ⟨b, 0, none⟩) ltb).trans kb); (try have ltb := Nat.lt_of_lt_of_le ltb hb.size); clear hb)
          | (go_at_call 198; refine dead (q_throw 7 (by decide) _ _ _ _) ⟨rfl, rfl, On.tail (by assumption)⟩ ?_; intro hF e w5 he hw; subst he; subst hw; replace hF := Lib.hid hF)))
      all_goals exact hF.out.elim
  | false =>
    show Calls _ _ _ _ (fun e w' => Gives (quoL 0 Q R) (vL c g x src s) F w e w')
    replace hdv := Lib.hid hdv
    · go_enter Tryz.func117, Tryz.ntmps117
      go_wp2_with fail
      go_region_held (fun w' => w'.cell? ⟨ba, 0, none⟩ = some (.int .i64 X) ∧ w'.cell? ⟨ba, 1, none⟩ = some (.int .i64 Y)) (go_keep)
        ((first
          | (go_at_call 148; refine (hqm.out _).mono ?_; rintro e w5 ⟨b, rfl, hb, kb, ltb⟩; have hn := On.below (by assumption) hb; have ⟨n0, n1⟩ := hcell.out _ hn; clear hb)
          | (go_at_call 149; refine (hdv.out _).mono ?_; rintro e w5 ⟨rfl, hb⟩; unfold tri; simp only []; have hn := On.below (by assumption) hb; have ⟨n0, n1⟩ := hcell.out _ hn; (try have kb := (hb.cell (p := ⟨b, 0, none⟩) ltb).trans kb); (try have ltb := Nat.lt_of_lt_of_le ltb hb.size); clear hb)
          | (go_at_call 198; refine (On.make (by assumption) (q_post 0 (by omega) Q R _ _ ltb kb)).mono ?_; rintro e w6 ⟨B, ⟨b2, rfl, rfl⟩, h⟩; have h6 : On F w (AllA (BlkA b2 3 (intsC (quoL 0 Q R)) :: BlkA ba 3 ac :: vL c g x src s)) w6 := On.flat h; have ⟨n0, n1⟩ := hcell.out _ h6.tail; clear h; replace h6 := Lib.hid h6)))
      all_goals go_wp2
      all_goals go_ret
      all_goals exact ⟨some ⟨b2, 0, none⟩, _, BlkA b2 3 (intsC (quoL 0 Q R)), rfl, carries_row _ _, h6.out.drop 1 rfl⟩
set_option maxHeartbeats 4000000 in
theorem y_mod (arg lit cells : Int) : GivesR 117 (fun g => #[]) ⟨35, arg, lit, cells⟩ (fun x s => quoP 1 (decide (ar s 2 1 = 0)) (floQ (ar s 2 0) (ar s 2 1)) (floR (ar s 2 0) (ar s 2 1)) x s) := by
  intro c g x src s ba w F hs hx hask hb
  have hw2 : (Code.wants 35).1.toNat = 2 := by decide
  simp only [hw2] at hb ⊢
  have hn := (On.refl hb).drew
  have hrow := (On.refl hb).blkAt 0 rfl
  have a0 := row_get hrow (j := 0) (by omega)
  have a1 := row_get hrow (j := 1) (by omega)
  have hcell : ∀ W, On F w (AllA (BlkA ba 3 (intsC (s.args 2)) :: vL c g x src s)) W → W.cell? ⟨ba, 0, none⟩ = some (.int .i64 (ar s 2 0)) ∧ W.cell? ⟨ba, 1, none⟩ = some (.int .i64 (ar s 2 1)) := fun W h => ⟨row_get (h.blkAt 0 rfl) (by omega), row_get (h.blkAt 0 rfl) (by omega)⟩
  have hdv := fun w => c_flo2 (ar s 2 0) (ar s 2 1) w
  unfold quoP
  simp only
  generalize floQ (ar s 2 0) (ar s 2 1) = Q at *
  generalize floR (ar s 2 0) (ar s 2 1) = R at *
  generalize decide (ar s 2 1 = 0) = o at *
  generalize ar s 2 0 = X at *
  generalize ar s 2 1 = Y at *
  generalize intsC (s.args 2) = ac at *
  have hlt := hrow.lt
  show Calls _ _ #[.int .i64 35, .slice (some ⟨ba, 0, none⟩) 2 2] _ _
  clear hb hrow hw2 hask hs hx
  have hqm := fun w => q_make2 ((1 : Nat) : Int) w
  replace hqm := Lib.hid hqm
  replace hcell := Lib.hid hcell
  cases o with
  | true =>
    show Calls _ _ _ _ (fun e w' => e = .panicked [flt 7] ∧ On F w (VA c g x src s) w')
    replace hdv := Lib.hid hdv
    · go_enter Tryz.func117, Tryz.ntmps117
      go_wp2_with fail
      go_region_held (fun w' => w'.cell? ⟨ba, 0, none⟩ = some (.int .i64 X) ∧ w'.cell? ⟨ba, 1, none⟩ = some (.int .i64 Y)) (go_keep)
        ((first
          | (go_at_call 148; refine (hqm.out _).mono ?_; rintro e w5 ⟨b, rfl, hb, kb, ltb⟩; have hn := On.below (by assumption) hb; have ⟨n0, n1⟩ := hcell.out _ hn; clear hb)
          | (go_at_call 149; refine (hdv.out _).mono ?_; rintro e w5 ⟨rfl, hb⟩; unfold tri; simp only []; have hn := On.below (by assumption) hb; have ⟨n0, n1⟩ := hcell.out _ hn; (try have kb := (hb.cell (p := ⟨b, 0, none⟩) ltb).trans kb); (try have ltb := Nat.lt_of_lt_of_le ltb hb.size); clear hb)
          | (go_at_call 198; refine dead (q_throw 7 (by decide) _ _ _ _) ⟨rfl, rfl, On.tail (by assumption)⟩ ?_; intro hF e w5 he hw; subst he; subst hw; replace hF := Lib.hid hF)))
      all_goals exact hF.out.elim
  | false =>
    show Calls _ _ _ _ (fun e w' => Gives (quoL 1 Q R) (vL c g x src s) F w e w')
    replace hdv := Lib.hid hdv
    · go_enter Tryz.func117, Tryz.ntmps117
      go_wp2_with fail
      go_region_held (fun w' => w'.cell? ⟨ba, 0, none⟩ = some (.int .i64 X) ∧ w'.cell? ⟨ba, 1, none⟩ = some (.int .i64 Y)) (go_keep)
        ((first
          | (go_at_call 148; refine (hqm.out _).mono ?_; rintro e w5 ⟨b, rfl, hb, kb, ltb⟩; have hn := On.below (by assumption) hb; have ⟨n0, n1⟩ := hcell.out _ hn; clear hb)
          | (go_at_call 149; refine (hdv.out _).mono ?_; rintro e w5 ⟨rfl, hb⟩; unfold tri; simp only []; have hn := On.below (by assumption) hb; have ⟨n0, n1⟩ := hcell.out _ hn; (try have kb := (hb.cell (p := ⟨b, 0, none⟩) ltb).trans kb); (try have ltb := Nat.lt_of_lt_of_le ltb hb.size); clear hb)
          | (go_at_call 198; refine (On.make (by assumption) (q_post 1 (by omega) Q R _ _ ltb kb)).mono ?_; rintro e w6 ⟨B, ⟨b2, rfl, rfl⟩, h⟩; have h6 : On F w (AllA (BlkA b2 3 (intsC (quoL 1 Q R)) :: BlkA ba 3 ac :: vL c g x src s)) w6 := On.flat h; have ⟨n0, n1⟩ := hcell.out _ h6.tail; clear h; replace h6 := Lib.hid h6)))
      all_goals go_wp2
      all_goals go_ret
      all_goals exact ⟨some ⟨b2, 0, none⟩, _, BlkA b2 3 (intsC (quoL 1 Q R)), rfl, carries_row _ _, h6.out.drop 1 rfl⟩
set_option maxHeartbeats 4000000 in
theorem y_divmod (arg lit cells : Int) : GivesR 117 (fun g => #[]) ⟨36, arg, lit, cells⟩ (fun x s => quoP 2 (decide (ar s 2 1 = 0)) (floQ (ar s 2 0) (ar s 2 1)) (floR (ar s 2 0) (ar s 2 1)) x s) := by
  intro c g x src s ba w F hs hx hask hb
  have hw2 : (Code.wants 36).1.toNat = 2 := by decide
  simp only [hw2] at hb ⊢
  have hn := (On.refl hb).drew
  have hrow := (On.refl hb).blkAt 0 rfl
  have a0 := row_get hrow (j := 0) (by omega)
  have a1 := row_get hrow (j := 1) (by omega)
  have hcell : ∀ W, On F w (AllA (BlkA ba 3 (intsC (s.args 2)) :: vL c g x src s)) W → W.cell? ⟨ba, 0, none⟩ = some (.int .i64 (ar s 2 0)) ∧ W.cell? ⟨ba, 1, none⟩ = some (.int .i64 (ar s 2 1)) := fun W h => ⟨row_get (h.blkAt 0 rfl) (by omega), row_get (h.blkAt 0 rfl) (by omega)⟩
  have hdv := fun w => c_flo2 (ar s 2 0) (ar s 2 1) w
  unfold quoP
  simp only
  generalize floQ (ar s 2 0) (ar s 2 1) = Q at *
  generalize floR (ar s 2 0) (ar s 2 1) = R at *
  generalize decide (ar s 2 1 = 0) = o at *
  generalize ar s 2 0 = X at *
  generalize ar s 2 1 = Y at *
  generalize intsC (s.args 2) = ac at *
  have hlt := hrow.lt
  show Calls _ _ #[.int .i64 36, .slice (some ⟨ba, 0, none⟩) 2 2] _ _
  clear hb hrow hw2 hask hs hx
  have hqm := fun w => q_make2 ((2 : Nat) : Int) w
  replace hqm := Lib.hid hqm
  replace hcell := Lib.hid hcell
  cases o with
  | true =>
    show Calls _ _ _ _ (fun e w' => e = .panicked [flt 7] ∧ On F w (VA c g x src s) w')
    replace hdv := Lib.hid hdv
    · go_enter Tryz.func117, Tryz.ntmps117
      go_wp2_with fail
      go_region_held (fun w' => w'.cell? ⟨ba, 0, none⟩ = some (.int .i64 X) ∧ w'.cell? ⟨ba, 1, none⟩ = some (.int .i64 Y)) (go_keep)
        ((first
          | (go_at_call 148; refine (hqm.out _).mono ?_; rintro e w5 ⟨b, rfl, hb, kb, ltb⟩; have hn := On.below (by assumption) hb; have ⟨n0, n1⟩ := hcell.out _ hn; clear hb)
          | (go_at_call 149; refine (hdv.out _).mono ?_; rintro e w5 ⟨rfl, hb⟩; unfold tri; simp only []; have hn := On.below (by assumption) hb; have ⟨n0, n1⟩ := hcell.out _ hn; (try have kb := (hb.cell (p := ⟨b, 0, none⟩) ltb).trans kb); (try have ltb := Nat.lt_of_lt_of_le ltb hb.size); clear hb)
          | (go_at_call 198; refine dead (q_throw 7 (by decide) _ _ _ _) ⟨rfl, rfl, On.tail (by assumption)⟩ ?_; intro hF e w5 he hw; subst he; subst hw; replace hF := Lib.hid hF)))
      all_goals exact hF.out.elim
  | false =>
    show Calls _ _ _ _ (fun e w' => Gives (quoL 2 Q R) (vL c g x src s) F w e w')
    replace hdv := Lib.hid hdv
    · go_enter Tryz.func117, Tryz.ntmps117
      go_wp2_with fail
      go_region_held (fun w' => w'.cell? ⟨ba, 0, none⟩ = some (.int .i64 X) ∧ w'.cell? ⟨ba, 1, none⟩ = some (.int .i64 Y)) (go_keep)
        ((first
          | (go_at_call 148; refine (hqm.out _).mono ?_; rintro e w5 ⟨b, rfl, hb, kb, ltb⟩; have hn := On.below (by assumption) hb; have ⟨n0, n1⟩ := hcell.out _ hn; clear hb)
          | (go_at_call 149; refine (hdv.out _).mono ?_; rintro e w5 ⟨rfl, hb⟩; unfold tri; simp only []; have hn := On.below (by assumption) hb; have ⟨n0, n1⟩ := hcell.out _ hn; (try have kb := (hb.cell (p := ⟨b, 0, none⟩) ltb).trans kb); (try have ltb := Nat.lt_of_lt_of_le ltb hb.size); clear hb)
          | (go_at_call 198; refine (On.make (by assumption) (q_post 2 (by omega) Q R _ _ ltb kb)).mono ?_; rintro e w6 ⟨B, ⟨b2, rfl, rfl⟩, h⟩; have h6 : On F w (AllA (BlkA b2 3 (intsC (quoL 2 Q R)) :: BlkA ba 3 ac :: vL c g x src s)) w6 := On.flat h; have ⟨n0, n1⟩ := hcell.out _ h6.tail; clear h; replace h6 := Lib.hid h6)))
      all_goals go_wp2
      all_goals go_ret
      all_goals exact ⟨some ⟨b2, 0, none⟩, _, BlkA b2 3 (intsC (quoL 2 Q R)), rfl, carries_row _ _, h6.out.drop 1 rfl⟩
set_option maxHeartbeats 4000000 in
theorem y_muldiv (arg lit cells : Int) : GivesR 117 (fun g => #[]) ⟨37, arg, lit, cells⟩ (fun x s => quoP 0 (fdOut (utLo (ar s 3 0) (ar s 3 1)) (tHi (ar s 3 0) (ar s 3 1)) (ar s 3 2)) (fdQ (utLo (ar s 3 0) (ar s 3 1)) (tHi (ar s 3 0) (ar s 3 1)) (ar s 3 2)) (fdR (utLo (ar s 3 0) (ar s 3 1)) (tHi (ar s 3 0) (ar s 3 1)) (ar s 3 2)) x s) := by
  intro c g x src s ba w F hs hx hask hb
  have hw2 : (Code.wants 37).1.toNat = 3 := by decide
  simp only [hw2] at hb ⊢
  have hn := (On.refl hb).drew
  have hrow := (On.refl hb).blkAt 0 rfl
  have a0 := row_get hrow (j := 0) (by omega)
  have a1 := row_get hrow (j := 1) (by omega)
  have a2 := row_get hrow (j := 2) (by omega)
  have hcell : ∀ W, On F w (AllA (BlkA ba 3 (intsC (s.args 3)) :: vL c g x src s)) W → W.cell? ⟨ba, 0, none⟩ = some (.int .i64 (ar s 3 0)) ∧ W.cell? ⟨ba, 1, none⟩ = some (.int .i64 (ar s 3 1)) ∧ W.cell? ⟨ba, 2, none⟩ = some (.int .i64 (ar s 3 2)) := fun W h => ⟨row_get (h.blkAt 0 rfl) (by omega), row_get (h.blkAt 0 rfl) (by omega), row_get (h.blkAt 0 rfl) (by omega)⟩
  have htm := fun w => c_times (ar s 3 0) (ar s 3 1) w
  have hdv := fun w => c_fdiv (utLo (ar s 3 0) (ar s 3 1)) (tHi (ar s 3 0) (ar s 3 1)) (ar s 3 2) w
  unfold quoP
  simp only
  generalize fdQ (utLo (ar s 3 0) (ar s 3 1)) (tHi (ar s 3 0) (ar s 3 1)) (ar s 3 2) = Q at *
  generalize fdR (utLo (ar s 3 0) (ar s 3 1)) (tHi (ar s 3 0) (ar s 3 1)) (ar s 3 2) = R at *
  generalize fdOut (utLo (ar s 3 0) (ar s 3 1)) (tHi (ar s 3 0) (ar s 3 1)) (ar s 3 2) = o at *
  generalize utLo (ar s 3 0) (ar s 3 1) = lo at *
  generalize tHi (ar s 3 0) (ar s 3 1) = hi at *
  generalize ar s 3 0 = X at *
  generalize ar s 3 1 = Y at *
  generalize ar s 3 2 = Z at *
  generalize intsC (s.args 3) = ac at *
  have hlt := hrow.lt
  show Calls _ _ #[.int .i64 37, .slice (some ⟨ba, 0, none⟩) 3 3] _ _
  clear hb hrow hw2 hask hs hx
  have hqm := fun w => q_make2 ((0 : Nat) : Int) w
  replace hqm := Lib.hid hqm
  replace hcell := Lib.hid hcell
  replace htm := Lib.hid htm
  cases o with
  | true =>
    show Calls _ _ _ _ (fun e w' => e = .panicked [flt 7] ∧ On F w (VA c g x src s) w')
    replace hdv := Lib.hid hdv
    · go_enter Tryz.func117, Tryz.ntmps117
      go_wp2_with fail
      go_region_held (fun w' => w'.cell? ⟨ba, 0, none⟩ = some (.int .i64 X) ∧ w'.cell? ⟨ba, 1, none⟩ = some (.int .i64 Y) ∧ w'.cell? ⟨ba, 2, none⟩ = some (.int .i64 Z)) (go_keep)
        ((first
          | (go_at_call 148; refine (hqm.out _).mono ?_; rintro e w5 ⟨b, rfl, hb, kb, ltb⟩; have hn := On.below (by assumption) hb; have ⟨n0, n1, n2⟩ := hcell.out _ hn; clear hb)
          | (go_at_call 151; refine (htm.out _).mono ?_; rintro e w5 ⟨rfl, hb⟩; have hn := On.below (by assumption) hb; have ⟨n0, n1, n2⟩ := hcell.out _ hn; (try have kb := (hb.cell (p := ⟨b, 0, none⟩) ltb).trans kb); (try have ltb := Nat.lt_of_lt_of_le ltb hb.size); clear hb)
          | (go_at_call 150; refine (hdv.out _).mono ?_; rintro e w5 ⟨rfl, hb⟩; unfold tri; simp only []; have hn := On.below (by assumption) hb; have ⟨n0, n1, n2⟩ := hcell.out _ hn; (try have kb := (hb.cell (p := ⟨b, 0, none⟩) ltb).trans kb); (try have ltb := Nat.lt_of_lt_of_le ltb hb.size); clear hb)
          | (go_at_call 198; refine dead (q_throw 7 (by decide) _ _ _ _) ⟨rfl, rfl, On.tail (by assumption)⟩ ?_; intro hF e w5 he hw; subst he; subst hw; replace hF := Lib.hid hF)))
      all_goals exact hF.out.elim
  | false =>
    show Calls _ _ _ _ (fun e w' => Gives (quoL 0 Q R) (vL c g x src s) F w e w')
    replace hdv := Lib.hid hdv
    · go_enter Tryz.func117, Tryz.ntmps117
      go_wp2_with fail
      go_region_held (fun w' => w'.cell? ⟨ba, 0, none⟩ = some (.int .i64 X) ∧ w'.cell? ⟨ba, 1, none⟩ = some (.int .i64 Y) ∧ w'.cell? ⟨ba, 2, none⟩ = some (.int .i64 Z)) (go_keep)
        ((first
          | (go_at_call 148; refine (hqm.out _).mono ?_; rintro e w5 ⟨b, rfl, hb, kb, ltb⟩; have hn := On.below (by assumption) hb; have ⟨n0, n1, n2⟩ := hcell.out _ hn; clear hb)
          | (go_at_call 151; refine (htm.out _).mono ?_; rintro e w5 ⟨rfl, hb⟩; have hn := On.below (by assumption) hb; have ⟨n0, n1, n2⟩ := hcell.out _ hn; (try have kb := (hb.cell (p := ⟨b, 0, none⟩) ltb).trans kb); (try have ltb := Nat.lt_of_lt_of_le ltb hb.size); clear hb)
          | (go_at_call 150; refine (hdv.out _).mono ?_; rintro e w5 ⟨rfl, hb⟩; unfold tri; simp only []; have hn := On.below (by assumption) hb; have ⟨n0, n1, n2⟩ := hcell.out _ hn; (try have kb := (hb.cell (p := ⟨b, 0, none⟩) ltb).trans kb); (try have ltb := Nat.lt_of_lt_of_le ltb hb.size); clear hb)
          | (go_at_call 198; refine (On.make (by assumption) (q_post 0 (by omega) Q R _ _ ltb kb)).mono ?_; rintro e w6 ⟨B, ⟨b2, rfl, rfl⟩, h⟩; have h6 : On F w (AllA (BlkA b2 3 (intsC (quoL 0 Q R)) :: BlkA ba 3 ac :: vL c g x src s)) w6 := On.flat h; have ⟨n0, n1, n2⟩ := hcell.out _ h6.tail; clear h; replace h6 := Lib.hid h6)))
      all_goals go_wp2
      all_goals go_ret
      all_goals exact ⟨some ⟨b2, 0, none⟩, _, BlkA b2 3 (intsC (quoL 0 Q R)), rfl, carries_row _ _, h6.out.drop 1 rfl⟩
set_option maxHeartbeats 4000000 in
theorem y_muldivmod (arg lit cells : Int) : GivesR 117 (fun g => #[]) ⟨38, arg, lit, cells⟩ (fun x s => quoP 2 (fdOut (utLo (ar s 3 0) (ar s 3 1)) (tHi (ar s 3 0) (ar s 3 1)) (ar s 3 2)) (fdQ (utLo (ar s 3 0) (ar s 3 1)) (tHi (ar s 3 0) (ar s 3 1)) (ar s 3 2)) (fdR (utLo (ar s 3 0) (ar s 3 1)) (tHi (ar s 3 0) (ar s 3 1)) (ar s 3 2)) x s) := by
  intro c g x src s ba w F hs hx hask hb
  have hw2 : (Code.wants 38).1.toNat = 3 := by decide
  simp only [hw2] at hb ⊢
  have hn := (On.refl hb).drew
  have hrow := (On.refl hb).blkAt 0 rfl
  have a0 := row_get hrow (j := 0) (by omega)
  have a1 := row_get hrow (j := 1) (by omega)
  have a2 := row_get hrow (j := 2) (by omega)
  have hcell : ∀ W, On F w (AllA (BlkA ba 3 (intsC (s.args 3)) :: vL c g x src s)) W → W.cell? ⟨ba, 0, none⟩ = some (.int .i64 (ar s 3 0)) ∧ W.cell? ⟨ba, 1, none⟩ = some (.int .i64 (ar s 3 1)) ∧ W.cell? ⟨ba, 2, none⟩ = some (.int .i64 (ar s 3 2)) := fun W h => ⟨row_get (h.blkAt 0 rfl) (by omega), row_get (h.blkAt 0 rfl) (by omega), row_get (h.blkAt 0 rfl) (by omega)⟩
  have htm := fun w => c_times (ar s 3 0) (ar s 3 1) w
  have hdv := fun w => c_fdiv (utLo (ar s 3 0) (ar s 3 1)) (tHi (ar s 3 0) (ar s 3 1)) (ar s 3 2) w
  unfold quoP
  simp only
  generalize fdQ (utLo (ar s 3 0) (ar s 3 1)) (tHi (ar s 3 0) (ar s 3 1)) (ar s 3 2) = Q at *
  generalize fdR (utLo (ar s 3 0) (ar s 3 1)) (tHi (ar s 3 0) (ar s 3 1)) (ar s 3 2) = R at *
  generalize fdOut (utLo (ar s 3 0) (ar s 3 1)) (tHi (ar s 3 0) (ar s 3 1)) (ar s 3 2) = o at *
  generalize utLo (ar s 3 0) (ar s 3 1) = lo at *
  generalize tHi (ar s 3 0) (ar s 3 1) = hi at *
  generalize ar s 3 0 = X at *
  generalize ar s 3 1 = Y at *
  generalize ar s 3 2 = Z at *
  generalize intsC (s.args 3) = ac at *
  have hlt := hrow.lt
  show Calls _ _ #[.int .i64 38, .slice (some ⟨ba, 0, none⟩) 3 3] _ _
  clear hb hrow hw2 hask hs hx
  have hqm := fun w => q_make2 ((2 : Nat) : Int) w
  replace hqm := Lib.hid hqm
  replace hcell := Lib.hid hcell
  replace htm := Lib.hid htm
  cases o with
  | true =>
    show Calls _ _ _ _ (fun e w' => e = .panicked [flt 7] ∧ On F w (VA c g x src s) w')
    replace hdv := Lib.hid hdv
    · go_enter Tryz.func117, Tryz.ntmps117
      go_wp2_with fail
      go_region_held (fun w' => w'.cell? ⟨ba, 0, none⟩ = some (.int .i64 X) ∧ w'.cell? ⟨ba, 1, none⟩ = some (.int .i64 Y) ∧ w'.cell? ⟨ba, 2, none⟩ = some (.int .i64 Z)) (go_keep)
        ((first
          | (go_at_call 148; refine (hqm.out _).mono ?_; rintro e w5 ⟨b, rfl, hb, kb, ltb⟩; have hn := On.below (by assumption) hb; have ⟨n0, n1, n2⟩ := hcell.out _ hn; clear hb)
          | (go_at_call 151; refine (htm.out _).mono ?_; rintro e w5 ⟨rfl, hb⟩; have hn := On.below (by assumption) hb; have ⟨n0, n1, n2⟩ := hcell.out _ hn; (try have kb := (hb.cell (p := ⟨b, 0, none⟩) ltb).trans kb); (try have ltb := Nat.lt_of_lt_of_le ltb hb.size); clear hb)
          | (go_at_call 150; refine (hdv.out _).mono ?_; rintro e w5 ⟨rfl, hb⟩; unfold tri; simp only []; have hn := On.below (by assumption) hb; have ⟨n0, n1, n2⟩ := hcell.out _ hn; (try have kb := (hb.cell (p := ⟨b, 0, none⟩) ltb).trans kb); (try have ltb := Nat.lt_of_lt_of_le ltb hb.size); clear hb)
          | (go_at_call 198; refine dead (q_throw 7 (by decide) _ _ _ _) ⟨rfl, rfl, On.tail (by assumption)⟩ ?_; intro hF e w5 he hw; subst he; subst hw; replace hF := Lib.hid hF)))
      all_goals exact hF.out.elim
  | false =>
    show Calls _ _ _ _ (fun e w' => Gives (quoL 2 Q R) (vL c g x src s) F w e w')
    replace hdv := Lib.hid hdv
    · go_enter Tryz.func117, Tryz.ntmps117
      go_wp2_with fail
      go_region_held (fun w' => w'.cell? ⟨ba, 0, none⟩ = some (.int .i64 X) ∧ w'.cell? ⟨ba, 1, none⟩ = some (.int .i64 Y) ∧ w'.cell? ⟨ba, 2, none⟩ = some (.int .i64 Z)) (go_keep)
        ((first
          | (go_at_call 148; refine (hqm.out _).mono ?_; rintro e w5 ⟨b, rfl, hb, kb, ltb⟩; have hn := On.below (by assumption) hb; have ⟨n0, n1, n2⟩ := hcell.out _ hn; clear hb)
          | (go_at_call 151; refine (htm.out _).mono ?_; rintro e w5 ⟨rfl, hb⟩; have hn := On.below (by assumption) hb; have ⟨n0, n1, n2⟩ := hcell.out _ hn; (try have kb := (hb.cell (p := ⟨b, 0, none⟩) ltb).trans kb); (try have ltb := Nat.lt_of_lt_of_le ltb hb.size); clear hb)
          | (go_at_call 150; refine (hdv.out _).mono ?_; rintro e w5 ⟨rfl, hb⟩; unfold tri; simp only []; have hn := On.below (by assumption) hb; have ⟨n0, n1, n2⟩ := hcell.out _ hn; (try have kb := (hb.cell (p := ⟨b, 0, none⟩) ltb).trans kb); (try have ltb := Nat.lt_of_lt_of_le ltb hb.size); clear hb)
          | (go_at_call 198; refine (On.make (by assumption) (q_post 2 (by omega) Q R _ _ ltb kb)).mono ?_; rintro e w6 ⟨B, ⟨b2, rfl, rfl⟩, h⟩; have h6 : On F w (AllA (BlkA b2 3 (intsC (quoL 2 Q R)) :: BlkA ba 3 ac :: vL c g x src s)) w6 := On.flat h; have ⟨n0, n1, n2⟩ := hcell.out _ h6.tail; clear h; replace h6 := Lib.hid h6)))
      all_goals go_wp2
      all_goals go_ret
      all_goals exact ⟨some ⟨b2, 0, none⟩, _, BlkA b2 3 (intsC (quoL 2 Q R)), rfl, carries_row _ _, h6.out.drop 1 rfl⟩
set_option maxHeartbeats 4000000 in
theorem y_ummod (arg lit cells : Int) : GivesR 117 (fun g => #[]) ⟨55, arg, lit, cells⟩ (fun x s => quoP 2 (udOut (ar s 3 1) (ar s 3 2)) (udQ (ar s 3 0) (ar s 3 1) (ar s 3 2)) (udR (ar s 3 0) (ar s 3 1) (ar s 3 2)) x s) := by
  intro c g x src s ba w F hs hx hask hb
  have hw2 : (Code.wants 55).1.toNat = 3 := by decide
  simp only [hw2] at hb ⊢
  have hn := (On.refl hb).drew
  have hrow := (On.refl hb).blkAt 0 rfl
  have a0 := row_get hrow (j := 0) (by omega)
  have a1 := row_get hrow (j := 1) (by omega)
  have a2 := row_get hrow (j := 2) (by omega)
  have hcell : ∀ W, On F w (AllA (BlkA ba 3 (intsC (s.args 3)) :: vL c g x src s)) W → W.cell? ⟨ba, 0, none⟩ = some (.int .i64 (ar s 3 0)) ∧ W.cell? ⟨ba, 1, none⟩ = some (.int .i64 (ar s 3 1)) ∧ W.cell? ⟨ba, 2, none⟩ = some (.int .i64 (ar s 3 2)) := fun W h => ⟨row_get (h.blkAt 0 rfl) (by omega), row_get (h.blkAt 0 rfl) (by omega), row_get (h.blkAt 0 rfl) (by omega)⟩
  have hdv := fun w => c_udiv (ar s 3 0) (ar s 3 1) (ar s 3 2) w
  unfold quoP
  simp only
  generalize udQ (ar s 3 0) (ar s 3 1) (ar s 3 2) = Q at *
  generalize udR (ar s 3 0) (ar s 3 1) (ar s 3 2) = R at *
  generalize udOut (ar s 3 1) (ar s 3 2) = o at *
  generalize ar s 3 0 = X at *
  generalize ar s 3 1 = Y at *
  generalize ar s 3 2 = Z at *
  generalize intsC (s.args 3) = ac at *
  have hlt := hrow.lt
  show Calls _ _ #[.int .i64 55, .slice (some ⟨ba, 0, none⟩) 3 3] _ _
  clear hb hrow hw2 hask hs hx
  have hqm := fun w => q_make2 ((2 : Nat) : Int) w
  replace hqm := Lib.hid hqm
  replace hcell := Lib.hid hcell
  cases o with
  | true =>
    show Calls _ _ _ _ (fun e w' => e = .panicked [flt 7] ∧ On F w (VA c g x src s) w')
    replace hdv := Lib.hid hdv
    · go_enter Tryz.func117, Tryz.ntmps117
      go_wp2_with fail
      go_region_held (fun w' => w'.cell? ⟨ba, 0, none⟩ = some (.int .i64 X) ∧ w'.cell? ⟨ba, 1, none⟩ = some (.int .i64 Y) ∧ w'.cell? ⟨ba, 2, none⟩ = some (.int .i64 Z)) (go_keep)
        ((first
          | (go_at_call 148; refine (hqm.out _).mono ?_; rintro e w5 ⟨b, rfl, hb, kb, ltb⟩; have hn := On.below (by assumption) hb; have ⟨n0, n1, n2⟩ := hcell.out _ hn; clear hb)
          | (go_at_call 153; refine (hdv.out _).mono ?_; rintro e w5 ⟨rfl, hb⟩; unfold tri; simp only []; have hn := On.below (by assumption) hb; have ⟨n0, n1, n2⟩ := hcell.out _ hn; (try have kb := (hb.cell (p := ⟨b, 0, none⟩) ltb).trans kb); (try have ltb := Nat.lt_of_lt_of_le ltb hb.size); clear hb)
          | (go_at_call 198; refine dead (q_throw 7 (by decide) _ _ _ _) ⟨rfl, rfl, On.tail (by assumption)⟩ ?_; intro hF e w5 he hw; subst he; subst hw; replace hF := Lib.hid hF)))
      all_goals exact hF.out.elim
  | false =>
    show Calls _ _ _ _ (fun e w' => Gives (quoL 2 Q R) (vL c g x src s) F w e w')
    replace hdv := Lib.hid hdv
    · go_enter Tryz.func117, Tryz.ntmps117
      go_wp2_with fail
      go_region_held (fun w' => w'.cell? ⟨ba, 0, none⟩ = some (.int .i64 X) ∧ w'.cell? ⟨ba, 1, none⟩ = some (.int .i64 Y) ∧ w'.cell? ⟨ba, 2, none⟩ = some (.int .i64 Z)) (go_keep)
        ((first
          | (go_at_call 148; refine (hqm.out _).mono ?_; rintro e w5 ⟨b, rfl, hb, kb, ltb⟩; have hn := On.below (by assumption) hb; have ⟨n0, n1, n2⟩ := hcell.out _ hn; clear hb)
          | (go_at_call 153; refine (hdv.out _).mono ?_; rintro e w5 ⟨rfl, hb⟩; unfold tri; simp only []; have hn := On.below (by assumption) hb; have ⟨n0, n1, n2⟩ := hcell.out _ hn; (try have kb := (hb.cell (p := ⟨b, 0, none⟩) ltb).trans kb); (try have ltb := Nat.lt_of_lt_of_le ltb hb.size); clear hb)
          | (go_at_call 198; refine (On.make (by assumption) (q_post 2 (by omega) Q R _ _ ltb kb)).mono ?_; rintro e w6 ⟨B, ⟨b2, rfl, rfl⟩, h⟩; have h6 : On F w (AllA (BlkA b2 3 (intsC (quoL 2 Q R)) :: BlkA ba 3 ac :: vL c g x src s)) w6 := On.flat h; have ⟨n0, n1, n2⟩ := hcell.out _ h6.tail; clear h; replace h6 := Lib.hid h6)))
      all_goals go_wp2
      all_goals go_ret
      all_goals exact ⟨some ⟨b2, 0, none⟩, _, BlkA b2 3 (intsC (quoL 2 Q R)), rfl, carries_row _ _, h6.out.drop 1 rfl⟩
set_option maxHeartbeats 4000000 in
theorem y_smrem (arg lit cells : Int) : GivesR 117 (fun g => #[]) ⟨56, arg, lit, cells⟩ (fun x s => quoP 2 (dvOut (ar s 3 0) (ar s 3 1) (ar s 3 2)) (dvQ (ar s 3 0) (ar s 3 1) (ar s 3 2)) (dvR (ar s 3 0) (ar s 3 1) (ar s 3 2)) x s) := by
  intro c g x src s ba w F hs hx hask hb
  have hw2 : (Code.wants 56).1.toNat = 3 := by decide
  simp only [hw2] at hb ⊢
  have hn := (On.refl hb).drew
  have hrow := (On.refl hb).blkAt 0 rfl
  have a0 := row_get hrow (j := 0) (by omega)
  have a1 := row_get hrow (j := 1) (by omega)
  have a2 := row_get hrow (j := 2) (by omega)
  have hcell : ∀ W, On F w (AllA (BlkA ba 3 (intsC (s.args 3)) :: vL c g x src s)) W → W.cell? ⟨ba, 0, none⟩ = some (.int .i64 (ar s 3 0)) ∧ W.cell? ⟨ba, 1, none⟩ = some (.int .i64 (ar s 3 1)) ∧ W.cell? ⟨ba, 2, none⟩ = some (.int .i64 (ar s 3 2)) := fun W h => ⟨row_get (h.blkAt 0 rfl) (by omega), row_get (h.blkAt 0 rfl) (by omega), row_get (h.blkAt 0 rfl) (by omega)⟩
  have hdv := fun w => c_sdiv (ar s 3 0) (ar s 3 1) (ar s 3 2) w
  unfold quoP
  simp only
  generalize dvQ (ar s 3 0) (ar s 3 1) (ar s 3 2) = Q at *
  generalize dvR (ar s 3 0) (ar s 3 1) (ar s 3 2) = R at *
  generalize dvOut (ar s 3 0) (ar s 3 1) (ar s 3 2) = o at *
  generalize ar s 3 0 = X at *
  generalize ar s 3 1 = Y at *
  generalize ar s 3 2 = Z at *
  generalize intsC (s.args 3) = ac at *
  have hlt := hrow.lt
  show Calls _ _ #[.int .i64 56, .slice (some ⟨ba, 0, none⟩) 3 3] _ _
  clear hb hrow hw2 hask hs hx
  have hqm := fun w => q_make2 ((2 : Nat) : Int) w
  replace hqm := Lib.hid hqm
  replace hcell := Lib.hid hcell
  cases o with
  | true =>
    show Calls _ _ _ _ (fun e w' => e = .panicked [flt 7] ∧ On F w (VA c g x src s) w')
    replace hdv := Lib.hid hdv
    · go_enter Tryz.func117, Tryz.ntmps117
      go_wp2_with fail
      go_region_held (fun w' => w'.cell? ⟨ba, 0, none⟩ = some (.int .i64 X) ∧ w'.cell? ⟨ba, 1, none⟩ = some (.int .i64 Y) ∧ w'.cell? ⟨ba, 2, none⟩ = some (.int .i64 Z)) (go_keep)
        ((first
          | (go_at_call 148; refine (hqm.out _).mono ?_; rintro e w5 ⟨b, rfl, hb, kb, ltb⟩; have hn := On.below (by assumption) hb; have ⟨n0, n1, n2⟩ := hcell.out _ hn; clear hb)
          | (go_at_call 154; refine (hdv.out _).mono ?_; rintro e w5 ⟨rfl, hb⟩; unfold tri; simp only []; have hn := On.below (by assumption) hb; have ⟨n0, n1, n2⟩ := hcell.out _ hn; (try have kb := (hb.cell (p := ⟨b, 0, none⟩) ltb).trans kb); (try have ltb := Nat.lt_of_lt_of_le ltb hb.size); clear hb)
          | (go_at_call 198; refine dead (q_throw 7 (by decide) _ _ _ _) ⟨rfl, rfl, On.tail (by assumption)⟩ ?_; intro hF e w5 he hw; subst he; subst hw; replace hF := Lib.hid hF)))
      all_goals exact hF.out.elim
  | false =>
    show Calls _ _ _ _ (fun e w' => Gives (quoL 2 Q R) (vL c g x src s) F w e w')
    replace hdv := Lib.hid hdv
    · go_enter Tryz.func117, Tryz.ntmps117
      go_wp2_with fail
      go_region_held (fun w' => w'.cell? ⟨ba, 0, none⟩ = some (.int .i64 X) ∧ w'.cell? ⟨ba, 1, none⟩ = some (.int .i64 Y) ∧ w'.cell? ⟨ba, 2, none⟩ = some (.int .i64 Z)) (go_keep)
        ((first
          | (go_at_call 148; refine (hqm.out _).mono ?_; rintro e w5 ⟨b, rfl, hb, kb, ltb⟩; have hn := On.below (by assumption) hb; have ⟨n0, n1, n2⟩ := hcell.out _ hn; clear hb)
          | (go_at_call 154; refine (hdv.out _).mono ?_; rintro e w5 ⟨rfl, hb⟩; unfold tri; simp only []; have hn := On.below (by assumption) hb; have ⟨n0, n1, n2⟩ := hcell.out _ hn; (try have kb := (hb.cell (p := ⟨b, 0, none⟩) ltb).trans kb); (try have ltb := Nat.lt_of_lt_of_le ltb hb.size); clear hb)
          | (go_at_call 198; refine (On.make (by assumption) (q_post 2 (by omega) Q R _ _ ltb kb)).mono ?_; rintro e w6 ⟨B, ⟨b2, rfl, rfl⟩, h⟩; have h6 : On F w (AllA (BlkA b2 3 (intsC (quoL 2 Q R)) :: BlkA ba 3 ac :: vL c g x src s)) w6 := On.flat h; have ⟨n0, n1, n2⟩ := hcell.out _ h6.tail; clear h; replace h6 := Lib.hid h6)))
      all_goals go_wp2
      all_goals go_ret
      all_goals exact ⟨some ⟨b2, 0, none⟩, _, BlkA b2 3 (intsC (quoL 2 Q R)), rfl, carries_row _ _, h6.out.drop 1 rfl⟩
set_option maxHeartbeats 4000000 in
theorem y_fmmod (arg lit cells : Int) : GivesR 117 (fun g => #[]) ⟨57, arg, lit, cells⟩ (fun x s => quoP 2 (fdOut (ar s 3 0) (ar s 3 1) (ar s 3 2)) (fdQ (ar s 3 0) (ar s 3 1) (ar s 3 2)) (fdR (ar s 3 0) (ar s 3 1) (ar s 3 2)) x s) := by
  intro c g x src s ba w F hs hx hask hb
  have hw2 : (Code.wants 57).1.toNat = 3 := by decide
  simp only [hw2] at hb ⊢
  have hn := (On.refl hb).drew
  have hrow := (On.refl hb).blkAt 0 rfl
  have a0 := row_get hrow (j := 0) (by omega)
  have a1 := row_get hrow (j := 1) (by omega)
  have a2 := row_get hrow (j := 2) (by omega)
  have hcell : ∀ W, On F w (AllA (BlkA ba 3 (intsC (s.args 3)) :: vL c g x src s)) W → W.cell? ⟨ba, 0, none⟩ = some (.int .i64 (ar s 3 0)) ∧ W.cell? ⟨ba, 1, none⟩ = some (.int .i64 (ar s 3 1)) ∧ W.cell? ⟨ba, 2, none⟩ = some (.int .i64 (ar s 3 2)) := fun W h => ⟨row_get (h.blkAt 0 rfl) (by omega), row_get (h.blkAt 0 rfl) (by omega), row_get (h.blkAt 0 rfl) (by omega)⟩
  have hdv := fun w => c_fdiv (ar s 3 0) (ar s 3 1) (ar s 3 2) w
  unfold quoP
  simp only
  generalize fdQ (ar s 3 0) (ar s 3 1) (ar s 3 2) = Q at *
  generalize fdR (ar s 3 0) (ar s 3 1) (ar s 3 2) = R at *
  generalize fdOut (ar s 3 0) (ar s 3 1) (ar s 3 2) = o at *
  generalize ar s 3 0 = X at *
  generalize ar s 3 1 = Y at *
  generalize ar s 3 2 = Z at *
  generalize intsC (s.args 3) = ac at *
  have hlt := hrow.lt
  show Calls _ _ #[.int .i64 57, .slice (some ⟨ba, 0, none⟩) 3 3] _ _
  clear hb hrow hw2 hask hs hx
  have hqm := fun w => q_make2 ((2 : Nat) : Int) w
  replace hqm := Lib.hid hqm
  replace hcell := Lib.hid hcell
  cases o with
  | true =>
    show Calls _ _ _ _ (fun e w' => e = .panicked [flt 7] ∧ On F w (VA c g x src s) w')
    replace hdv := Lib.hid hdv
    · go_enter Tryz.func117, Tryz.ntmps117
      go_wp2_with fail
      go_region_held (fun w' => w'.cell? ⟨ba, 0, none⟩ = some (.int .i64 X) ∧ w'.cell? ⟨ba, 1, none⟩ = some (.int .i64 Y) ∧ w'.cell? ⟨ba, 2, none⟩ = some (.int .i64 Z)) (go_keep)
        ((first
          | (go_at_call 148; refine (hqm.out _).mono ?_; rintro e w5 ⟨b, rfl, hb, kb, ltb⟩; have hn := On.below (by assumption) hb; have ⟨n0, n1, n2⟩ := hcell.out _ hn; clear hb)
          | (go_at_call 150; refine (hdv.out _).mono ?_; rintro e w5 ⟨rfl, hb⟩; unfold tri; simp only []; have hn := On.below (by assumption) hb; have ⟨n0, n1, n2⟩ := hcell.out _ hn; (try have kb := (hb.cell (p := ⟨b, 0, none⟩) ltb).trans kb); (try have ltb := Nat.lt_of_lt_of_le ltb hb.size); clear hb)
          | (go_at_call 198; refine dead (q_throw 7 (by decide) _ _ _ _) ⟨rfl, rfl, On.tail (by assumption)⟩ ?_; intro hF e w5 he hw; subst he; subst hw; replace hF := Lib.hid hF)))
      all_goals exact hF.out.elim
  | false =>
    show Calls _ _ _ _ (fun e w' => Gives (quoL 2 Q R) (vL c g x src s) F w e w')
    replace hdv := Lib.hid hdv
    · go_enter Tryz.func117, Tryz.ntmps117
      go_wp2_with fail
      go_region_held (fun w' => w'.cell? ⟨ba, 0, none⟩ = some (.int .i64 X) ∧ w'.cell? ⟨ba, 1, none⟩ = some (.int .i64 Y) ∧ w'.cell? ⟨ba, 2, none⟩ = some (.int .i64 Z)) (go_keep)
        ((first
          | (go_at_call 148; refine (hqm.out _).mono ?_; rintro e w5 ⟨b, rfl, hb, kb, ltb⟩; have hn := On.below (by assumption) hb; have ⟨n0, n1, n2⟩ := hcell.out _ hn; clear hb)
          | (go_at_call 150; refine (hdv.out _).mono ?_; rintro e w5 ⟨rfl, hb⟩; unfold tri; simp only []; have hn := On.below (by assumption) hb; have ⟨n0, n1, n2⟩ := hcell.out _ hn; (try have kb := (hb.cell (p := ⟨b, 0, none⟩) ltb).trans kb); (try have ltb := Nat.lt_of_lt_of_le ltb hb.size); clear hb)
          | (go_at_call 198; refine (On.make (by assumption) (q_post 2 (by omega) Q R _ _ ltb kb)).mono ?_; rintro e w6 ⟨B, ⟨b2, rfl, rfl⟩, h⟩; have h6 : On F w (AllA (BlkA b2 3 (intsC (quoL 2 Q R)) :: BlkA ba 3 ac :: vL c g x src s)) w6 := On.flat h; have ⟨n0, n1, n2⟩ := hcell.out _ h6.tail; clear h; replace h6 := Lib.hid h6)))
      all_goals go_wp2
      all_goals go_ret
      all_goals exact ⟨some ⟨b2, 0, none⟩, _, BlkA b2 3 (intsC (quoL 2 Q R)), rfl, carries_row _ _, h6.out.drop 1 rfl⟩
end Vm
end Go.Proofs.YtjhdpmimccpcdaaGreatDoor
/- Chapter 11: M*, UM*: products of two cells. Conditions: all was asked. -/
namespace Go.Proofs.YtjhdpmimccpcdaaGreatDoor
set_option linter.unusedVariables false
set_option maxRecDepth 100000
open Go.RowKit Go.Lib Go.Deep
namespace Vm
set_option maxHeartbeats 2000000 in
theorem g_mstar (arg lit cells : Int) : GivesOk 117 (fun _ => #[]) ⟨53, arg, lit, cells⟩ (fun s => [utLo (ar s 2 0) (ar s 2 1), tHi (ar s 2 0) (ar s 2 1)]) := by
  intro c g x src s ba w F hs hask hb
  have hw2 : (Code.wants 53).1.toNat = 2 := by decide
  simp only [hw2] at hb ⊢
  have hnB := (On.refl hb).drew
  have hnA := ((On.refl hb).box #[.int .i64 0, .int .i64 0] 234).drew
  have hrow := (On.refl hb).blkAt 0 rfl
  have a0 := row_get hrow (j := 0) (by omega)
  have a1 := row_get hrow (j := 1) (by omega)
  have hcell : ∀ W, On F w (AllA (BlkA ba 3 (intsC (s.args 2)) :: vL c g x src s)) W → W.cell? ⟨ba, 0, none⟩ = some (.int .i64 (ar s 2 0)) ∧ W.cell? ⟨ba, 1, none⟩ = some (.int .i64 (ar s 2 1)) := fun W h => ⟨row_get (h.blkAt 0 rfl) (by omega), row_get (h.blkAt 0 rfl) (by omega)⟩
  have htm := fun w => c_times (ar s 2 0) (ar s 2 1) w
  generalize utLo (ar s 2 0) (ar s 2 1) = lo at *
  generalize tHi (ar s 2 0) (ar s 2 1) = hi at *
  generalize ar s 2 0 = X at *
  generalize ar s 2 1 = Y at *
  generalize intsC (s.args 2) = ac at *
  have hlt := hrow.lt
  have hlt1 : ba < w.heap.size + 1 := by omega
  have hne := World.new_ne w ⟨ba, 0, none⟩ a0
  have hne1 := World.new_ne w ⟨ba, 1, none⟩ a1
  have hne2 : w.heap.size ≠ ba := by omega
  show Calls _ _ #[.int .i64 53, .slice (some ⟨ba, 0, none⟩) 2 2] _ _
  clear hb hrow hw2 hask hs
  replace hcell := Lib.hid hcell
  replace htm := Lib.hid htm
  replace hnA := Lib.hid hnA
  replace hnB := Lib.hid hnB
  go_enter Tryz.func117, Tryz.ntmps117
  go_wp2_with fail
  go_region_held (fun w' => w'.cell? ⟨ba, 0, none⟩ = some (.int .i64 X) ∧ w'.cell? ⟨ba, 1, none⟩ = some (.int .i64 Y)) (go_keep)
    ((go_at_call 151; refine (htm.out _).mono ?_; rintro e w5 ⟨rfl, hb⟩
      first
      | (have hn5 := On.below hnA.out hb; have ⟨n0, n1⟩ := hcell.out _ hn5.tail; have k0 : w5.cell? ⟨w.heap.size, 0, none⟩ = some (.int .i64 0) := (hn5.blkAt 0 rfl).cell 0; have k1 : w5.cell? ⟨w.heap.size, 1, none⟩ = some (.int .i64 0) := (hn5.blkAt 0 rfl).cell 1; have f0 := (hn5.blkAt 0 rfl).frozen 0; have f1 := (hn5.blkAt 0 rfl).frozen 1; have lt5 := (hn5.blkAt 0 rfl).lt; clear hb; replace hn5 := Lib.hid hn5)
      | (have hn5 := On.below hnB.out hb; have ⟨n0, n1⟩ := hcell.out _ hn5; have lt5 := (hn5.blkAt 0 rfl).lt; clear hb; replace hn5 := Lib.hid hn5)))
  all_goals go_wp2
  all_goals go_ret
  all_goals first
    | (have h9 := ((hn5.out.setAt 0 rfl 0 (.int .i64 lo)).setAt 0 rfl 1 (.int .i64 hi)).box #[.int .i64 lo, .int .i64 hi] 3
       rw [show ((w5.setCell ⟨w.heap.size, 0, none⟩ (.int .i64 lo)).setCell ⟨w.heap.size, 1, none⟩ (.int .i64 hi)).heap.size = w5.heap.size by simp] at h9
       exact ⟨some ⟨w5.heap.size, 0, none⟩, 2, BlkA w5.heap.size 3 (intsC [lo, hi]), rfl, carries_row _ _, (h9.drop 1 rfl).drop 1 rfl⟩)
    | (have h9 := ((hn5.out.box #[.int .i64 lo, .int .i64 hi] 234).box #[.int .i64 lo, .int .i64 hi] 3)
       simp only [World.size_alloc] at h9
       exact ⟨some ⟨w5.heap.size + 1, 0, none⟩, 2, BlkA (w5.heap.size + 1) 3 (intsC [lo, hi]), rfl, carries_row _ _, (h9.drop 1 rfl).drop 1 rfl⟩)
set_option maxHeartbeats 2000000 in
theorem g_umstar (arg lit cells : Int) : GivesOk 117 (fun _ => #[]) ⟨54, arg, lit, cells⟩ (fun s => [utLo (ar s 2 0) (ar s 2 1), utHi (ar s 2 0) (ar s 2 1)]) := by
  intro c g x src s ba w F hs hask hb
  have hw2 : (Code.wants 54).1.toNat = 2 := by decide
  simp only [hw2] at hb ⊢
  have hnB := (On.refl hb).drew
  have hnA := ((On.refl hb).box #[.int .i64 0, .int .i64 0] 234).drew
  have hrow := (On.refl hb).blkAt 0 rfl
  have a0 := row_get hrow (j := 0) (by omega)
  have a1 := row_get hrow (j := 1) (by omega)
  have hcell : ∀ W, On F w (AllA (BlkA ba 3 (intsC (s.args 2)) :: vL c g x src s)) W → W.cell? ⟨ba, 0, none⟩ = some (.int .i64 (ar s 2 0)) ∧ W.cell? ⟨ba, 1, none⟩ = some (.int .i64 (ar s 2 1)) := fun W h => ⟨row_get (h.blkAt 0 rfl) (by omega), row_get (h.blkAt 0 rfl) (by omega)⟩
  have htm := fun w => c_utimes (ar s 2 0) (ar s 2 1) w
  generalize utLo (ar s 2 0) (ar s 2 1) = lo at *
  generalize utHi (ar s 2 0) (ar s 2 1) = hi at *
  generalize ar s 2 0 = X at *
  generalize ar s 2 1 = Y at *
  generalize intsC (s.args 2) = ac at *
  have hlt := hrow.lt
  have hlt1 : ba < w.heap.size + 1 := by omega
  have hne := World.new_ne w ⟨ba, 0, none⟩ a0
  have hne1 := World.new_ne w ⟨ba, 1, none⟩ a1
  have hne2 : w.heap.size ≠ ba := by omega
  show Calls _ _ #[.int .i64 54, .slice (some ⟨ba, 0, none⟩) 2 2] _ _
  clear hb hrow hw2 hask hs
  replace hcell := Lib.hid hcell
  replace htm := Lib.hid htm
  replace hnA := Lib.hid hnA
  replace hnB := Lib.hid hnB
  go_enter Tryz.func117, Tryz.ntmps117
  go_wp2_with fail
  go_region_held (fun w' => w'.cell? ⟨ba, 0, none⟩ = some (.int .i64 X) ∧ w'.cell? ⟨ba, 1, none⟩ = some (.int .i64 Y)) (go_keep)
    ((go_at_call 152; refine (htm.out _).mono ?_; rintro e w5 ⟨rfl, hb⟩
      first
      | (have hn5 := On.below hnA.out hb; have ⟨n0, n1⟩ := hcell.out _ hn5.tail; have k0 : w5.cell? ⟨w.heap.size, 0, none⟩ = some (.int .i64 0) := (hn5.blkAt 0 rfl).cell 0; have k1 : w5.cell? ⟨w.heap.size, 1, none⟩ = some (.int .i64 0) := (hn5.blkAt 0 rfl).cell 1; have f0 := (hn5.blkAt 0 rfl).frozen 0; have f1 := (hn5.blkAt 0 rfl).frozen 1; have lt5 := (hn5.blkAt 0 rfl).lt; clear hb; replace hn5 := Lib.hid hn5)
      | (have hn5 := On.below hnB.out hb; have ⟨n0, n1⟩ := hcell.out _ hn5; have lt5 := (hn5.blkAt 0 rfl).lt; clear hb; replace hn5 := Lib.hid hn5)))
  all_goals go_wp2
  all_goals go_ret
  all_goals first
    | (have h9 := ((hn5.out.setAt 0 rfl 0 (.int .i64 lo)).setAt 0 rfl 1 (.int .i64 hi)).box #[.int .i64 lo, .int .i64 hi] 3
       rw [show ((w5.setCell ⟨w.heap.size, 0, none⟩ (.int .i64 lo)).setCell ⟨w.heap.size, 1, none⟩ (.int .i64 hi)).heap.size = w5.heap.size by simp] at h9
       exact ⟨some ⟨w5.heap.size, 0, none⟩, 2, BlkA w5.heap.size 3 (intsC [lo, hi]), rfl, carries_row _ _, (h9.drop 1 rfl).drop 1 rfl⟩)
    | (have h9 := ((hn5.out.box #[.int .i64 lo, .int .i64 hi] 234).box #[.int .i64 lo, .int .i64 hi] 3)
       simp only [World.size_alloc] at h9
       exact ⟨some ⟨w5.heap.size + 1, 0, none⟩, 2, BlkA (w5.heap.size + 1) 3 (intsC [lo, hi]), rfl, carries_row _ _, (h9.drop 1 rfl).drop 1 rfl⟩)
end Vm
end Go.Proofs.YtjhdpmimccpcdaaGreatDoor
