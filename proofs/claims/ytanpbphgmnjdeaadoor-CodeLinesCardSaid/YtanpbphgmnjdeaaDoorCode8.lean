/- Chapter 7: the examples at the head of its laws. Condition: the tables lie as their initialisers lay them. -/
import Derived.Test.YtanpbphgmnjdeaaDoorCode7
import Derived.Test.YtanpbphgmnjdeaaDoorCode2
namespace Go.Proofs.YtanpbphgmnjdeaaDoor
set_option linter.unusedVariables false
open Go.RowKit Go.Lib

def Truly (w : World) (e : Ending) (w' : World) : Prop := e = .returned (.bool true) ∧ Below w.heap.size w w'
theorem Code.name37 : Code.name 37 = ⟨#[42, 47, 77, 79, 68]⟩ := by kernel_rfl
theorem Code.unpack260 : Code.unpack 260 = (4, 1, true) := by decide +kernel
theorem Code.wants54 : Code.wants ((54 : Nat) + 1) = (3, 2) := by decide +kernel
theorem Code.number_muldiv : Code.numberN ⟨#[42, 47, 109, 111, 100]⟩ = 38 := by decide +kernel
set_option maxRecDepth 100000 in
set_option maxHeartbeats 1000000 in
theorem shown_walk (w : World) (hT : Tabs w) : Calls Tryd.prog 15 #[] w (Truly w) := by
  have c1 := fun w => pack_yes 4 (-1) w (by decide)
  have c2 := fun w => unpack_walk 260 w
  rw [Code.unpack260] at c2
  have c3 := fun w => wants_in 54 (by omega) w
  rw [Code.wants54] at c3
  have c4 : ∀ w, Tabs w → Calls Tryd.prog 22 #[.int .i64 38] w (Same (.string (Code.name 37)) w) := fun w hT => name_in 37 (by omega) w hT.1
  rw [Code.name37] at c4
  have c5 := fun w (hT : Tabs w) => number_walk ⟨#[42, 47, 109, 111, 100]⟩ (by decide) w hT
  rw [Code.number_muldiv] at c5
  have c1 := Lib.hid c1
  have c2 := Lib.hid c2
  have c3 := Lib.hid c3
  have c4 := Lib.hid c4
  have c5 := Lib.hid c5
  have hT := Lib.hid hT
  go_enter Tryd.func15, Tryd.ntmps15
  go_wp2_with fail
  refine (c1.out w).mono ?_
  rintro e w1 ⟨rfl, rfl⟩
  go_wp2_with fail
  refine (c2.out w1).mono ?_
  rintro e w2 ⟨rfl, rfl⟩
  go_wp2_with fail
  refine (c3.out w2).mono ?_
  rintro e w3 ⟨rfl, n, rfl⟩
  go_wp2_with fail
  refine (c4.out (w2.drewN n) hT.out).mono ?_
  rintro e w4 ⟨rfl, rfl⟩
  go_wp2_with fail
  refine (c5.out (w2.drewN n) hT.out).mono ?_
  rintro e w5 ⟨rfl, h5⟩
  have h5 := Lib.hid h5
  go_wp2
  go_ret
  exact ⟨rfl, ⟨h5.out.os, h5.out.tape, h5.out.output, h5.out.size, h5.out.block⟩⟩

set_option maxRecDepth 100000 in
set_option maxHeartbeats 1000000 in
theorem packs_any (op arg v : Int) (hv : -9223372036854775808 ≤ v ∧ v ≤ 9223372036854775807) (w : World) (hT : Tabs w) : Calls Tryd.prog 3 #[.int .i64 op, .int .i64 arg, .int .i64 v] w (Truly w) := by
  have hp : ∃ x b, (∀ w, Calls Tryd.prog 16 #[.int .i64 op, .int .i64 arg] w (Same (.tuple #[.int .i64 x, .bool b]) w)) ∧ (∀ w, Calls Tryd.prog 17 #[.int .i64 op, .int .i64 arg] w (Same (.tuple #[.int .i64 x, .bool b]) w)) := by
    cases h : Code.right op arg
    · exact ⟨0, false, fun w => pack_no op arg w h, fun w => Pack_no op arg w h⟩
    · exact ⟨_, true, fun w => pack_yes op arg w h, fun w => Pack_yes op arg w h⟩
  obtain ⟨x, b, p1, p2⟩ := hp
  have u1 := fun w => unpack_walk v w
  have u2 := fun w => Unpack_walk v hv w
  generalize Code.unpack v = y at u1 u2
  obtain ⟨y1, y2, y3⟩ := y
  have p1 := Lib.hid p1
  have p2 := Lib.hid p2
  have u1 := Lib.hid u1
  have u2 := Lib.hid u2
  have hT := Lib.hid hT
  clear hv
  go_enter Tryd.func3, Tryd.ntmps3
  go_wp2_with fail
  refine (shown_walk w hT.out).mono ?_
  rintro e w1 ⟨rfl, h1⟩
  have h1 := Lib.hid h1
  go_wp2_with fail
  refine (p1.out w1).mono ?_
  rintro e w2 ⟨rfl, rfl⟩
  go_wp2_with fail
  refine (p2.out w2).mono ?_
  rintro e w3 ⟨rfl, rfl⟩
  go_wp2_with fail
  refine (u1.out w3).mono ?_
  rintro e w4 ⟨rfl, rfl⟩
  go_wp2_with fail
  refine (u2.out w4).mono ?_
  rintro e w5 ⟨rfl, rfl⟩
  go_wp2
  all_goals go_ret
  all_goals exact ⟨by simp, h1.out⟩
end Go.Proofs.YtanpbphgmnjdeaaDoor
