/- Chapter 5's laws, walked: the examples at their head, NumberParses, NumberPrints. Conditions: the tables of powers and of trailing zeros lie as their initialisers lay them. -/
import Derived.Test.YtanpbphgmnjdeabDoorNum3
import Derived.Test.YtanpbphgmnjdeabDoorNumOrd
namespace Go.Proofs.YtanpbphgmnjdeabDoor
set_option linter.unusedVariables false
open Go.RowKit Go.Lib

def NTruly (w : World) (e : Ending) (w' : World) : Prop := e = .returned (.bool true) ∧ Below w.heap.size w w'
/-- the tables that numbers read -/
def NTabs (w : World) : Prop := Pows w ∧ Bruijn w
theorem NTabs.kept {w w' : World} (h : NTabs w) (hk : Kept Nob w w') : NTabs w' := ⟨h.1.below hk.below0, h.2.below hk.below0⟩

def digitsF : Nat → Nat → Nat → List UInt8
  | 0, _, u => [digC u]
  | f + 1, b, u => if u < b then [digC u] else digitsF f b (u / b) ++ [digC (u % b)]
theorem digitsF_eq {b : Nat} (hb : 2 ≤ b) : ∀ (f u : Nat), u < b ^ (f + 1) → digitsU b u = digitsF f b u
  | 0, u, h => by rw [digitsU_small (by simpa using h)]; rfl
  | f + 1, u, h => by
    unfold digitsF
    by_cases h1 : u < b
    · rw [if_pos h1, digitsU_small h1]
    · rw [if_neg h1, digitsU_big hb (by omega), digitsF_eq hb f (u / b) (by rw [Nat.div_lt_iff_lt_mul (by omega)]; rw [Nat.pow_succ] at h; exact h)]
theorem shown_a : parseN [102, 102] 16 = (255, true) := by decide +kernel
theorem shown_b : parseN [36, 45, 49, 102] 10 = (-31, true) := by decide +kernel
theorem shown_c : parseN [39, 65, 39] 10 = (65, true) := by decide +kernel
theorem shown_d : printS (-255) 16 = [45, 70, 70] := by
  have e : printS (-255) 16 = 45 :: digitsU 16 255 := by simp [printS, printB]
  rw [e, digitsF_eq (by omega) 2 255 (by decide)]
  decide +kernel
theorem shown_e : unsignedS (-1) 36 = [51, 87, 53, 69, 49, 49, 50, 54, 52, 83, 71, 83, 70] := by
  have e : unsignedS (-1) 36 = digitsU 36 18446744073709551615 := by simp [unsignedS, unsignedB, unsig]
  rw [e, digitsF_eq (by omega) 13 18446744073709551615 (by decide +kernel)]
  decide +kernel
theorem shown_f : filledS (-5) 10 4 = [32, 32, 45, 53] := by
  have e : printS (-5) 10 = 45 :: digitsU 10 5 := by simp [printS, printB]
  rw [digitsU_small (by omega)] at e
  unfold filledS
  rw [e]
  decide +kernel
set_option maxRecDepth 100000 in
set_option maxHeartbeats 2000000 in
theorem nshown_walk (W : World) (hT : NTabs W) : Calls Tryd.prog 4 #[] W (Fresh' (.bool true) W) := by
  have k1 := fun w => parse_walk ⟨#[102, 102]⟩ (by decide) 16 w
  have k2 := fun w => parse_walk ⟨#[36, 45, 49, 102]⟩ (by decide) 10 w
  have k3 := fun w => parse_walk ⟨#[39, 65, 39]⟩ (by decide) 10 w
  rw [show ({ data := #[102, 102] } : ByteArray).data.toList = [102, 102] from rfl, shown_a] at k1
  rw [show ({ data := #[36, 45, 49, 102] } : ByteArray).data.toList = [36, 45, 49, 102] from rfl, shown_b] at k2
  rw [show ({ data := #[39, 65, 39] } : ByteArray).data.toList = [39, 65, 39] from rfl, shown_c] at k3
  have k4 := fun w (h : NTabs w) => print_walk (-255) (by omega) 16 w h.1 h.2
  have k5 := fun w (h : NTabs w) => unsigned_walk (-1) 36 w h.1 h.2
  have k6 := fun w (h : NTabs w) => filled_walk (-5) (by unfold i64R; omega) 10 4 (by unfold i64R; omega) w h.1 h.2
  have k7 := fun w => base_walk 2 w
  rw [shown_d] at k4
  rw [shown_e] at k5
  rw [shown_f] at k6
  rw [show (decide ((2 : Int) ≤ 2) && decide ((2 : Int) ≤ 36)) = true by decide] at k7
  replace k1 := Lib.hid k1
  replace k2 := Lib.hid k2
  replace k3 := Lib.hid k3
  replace k4 := Lib.hid k4
  replace k5 := Lib.hid k5
  replace k6 := Lib.hid k6
  replace k7 := Lib.hid k7
  replace hT := Lib.hid hT
  go_enter Tryd.func4, Tryd.ntmps4
  go_wp2_with fail
  refine (k1.out _).mono ?_
  rintro e w1 ⟨rfl, h1⟩
  replace h1 := Lib.hid h1
  go_wp2_with fail
  refine (k2.out _).mono ?_
  rintro e w2 ⟨rfl, h2⟩
  replace h2 := Lib.hid (h1.out.trans h2)
  go_wp2_with fail
  refine (k3.out _).mono ?_
  rintro e w3 ⟨rfl, h3⟩
  replace h3 := Lib.hid (h2.out.trans h3)
  go_wp2_with fail
  refine (k4.out _ (hT.out.kept h3.out)).mono ?_
  rintro e w4 ⟨rfl, h4⟩
  replace h4 := Lib.hid (h3.out.trans h4)
  go_wp2_with fail
  refine (k5.out _ (hT.out.kept h4.out)).mono ?_
  rintro e w5 ⟨rfl, h5⟩
  replace h5 := Lib.hid (h4.out.trans h5)
  go_wp2_with fail
  refine (k6.out _ (hT.out.kept h5.out)).mono ?_
  rintro e w6 ⟨rfl, h6⟩
  replace h6 := Lib.hid (h5.out.trans h6)
  go_wp2_with fail
  refine (k7.out _).mono ?_
  rintro e w7 ⟨rfl, rfl⟩
  go_wp2
  go_ret
  exact ⟨rfl, h6.out⟩
end Go.Proofs.YtanpbphgmnjdeabDoor
