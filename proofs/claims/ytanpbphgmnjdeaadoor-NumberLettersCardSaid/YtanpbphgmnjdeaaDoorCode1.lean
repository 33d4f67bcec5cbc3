/- Chapter 7: which operations and arguments are right; packing and unpacking: the program's functions and the document's. Conditions: the numbers are of their kind (int). -/
import Derived.Test.YtanpbphgmnjdeaaDoorMem
import Derived.Test.YtanpbphgmnjdeaaDoorCodeSpec
import Derived.Test.YtanpbphgmnjdeaaDoorSame
namespace Go.Proofs.YtanpbphgmnjdeaaDoor
set_option linter.unusedVariables false
open Go.RowKit Go.Lib

theorem Code.right_iff (op a : Int) : Code.right op a = true ↔ 1 ≤ op ∧ op ≤ 106 ∧
    (((op = 3 ∨ op = 4 ∨ op = 5 ∨ op = 7 ∨ op = 8 ∨ op = 9 ∨ op = 17) ∧ -36028797018963968 ≤ a ∧ a < 36028797018963968) ∨ (op = 19 ∧ 0 ≤ a ∧ a < 36028797018963968) ∨ (op = 20 ∧ 1 ≤ a ∧ a ≤ 36) ∨
      (op ≠ 3 ∧ op ≠ 4 ∧ op ≠ 5 ∧ op ≠ 7 ∧ op ≠ 8 ∧ op ≠ 9 ∧ op ≠ 17 ∧ op ≠ 19 ∧ op ≠ 20 ∧ a = 0)) := by
  unfold Code.right Code.argOk Code.inOps
  by_cases h1 : Code.isAddr op = true
  · rw [if_pos h1]
    simp [Code.isAddr] at h1
    simp
    omega
  · rw [if_neg h1]
    simp [Code.isAddr] at h1
    by_cases h2 : op = 19
    · simp [h2]
    by_cases h3 : op = 20
    · simp [h3]
    simp [h2, h3]
    omega
theorem Code.form_iff (op : Int) : (Code.form op = 1 ∧ (op = 3 ∨ op = 4 ∨ op = 5 ∨ op = 7 ∨ op = 8 ∨ op = 9 ∨ op = 17)) ∨ (Code.form op = 2 ∧ op = 19) ∨ (Code.form op = 3 ∧ op = 20) ∨
    (Code.form op = 0 ∧ op ≠ 3 ∧ op ≠ 4 ∧ op ≠ 5 ∧ op ≠ 7 ∧ op ≠ 8 ∧ op ≠ 9 ∧ op ≠ 17 ∧ op ≠ 19 ∧ op ≠ 20) := by
  unfold Code.form
  by_cases h1 : Code.isAddr op = true
  · rw [if_pos h1]
    simp [Code.isAddr] at h1
    omega
  · rw [if_neg h1]
    simp [Code.isAddr] at h1
    by_cases h2 : op = 19
    · simp [h2]
    by_cases h3 : op = 20
    · simp [h3]
    simp [h2, h3]
    omega

theorem form_walk (op : Int) (w : World) : Calls Tryd.prog 77 #[.int .i64 op] w (Same (.int .i64 (Code.form op)) w) := by
  go_enter Tryd.func77, Tryd.ntmps77
  go_wp2
  all_goals go_ret
  all_goals refine ⟨?_, rfl⟩
  all_goals simp_all [Code.form, Code.isAddr]

theorem right_walk (op a : Int) (w : World) : Calls Tryd.prog 47 #[.int .i64 op, .int .i64 a] w (Same (.bool (Code.right op a)) w) := by
  have hf := Lib.hid (Code.form_iff op)
  generalize hr : Code.form op = f at hf
  go_enter Tryd.func47, Tryd.ntmps47
  go_wp2_with fail
  all_goals first
    | (refine (form_walk op w).mono ?_
       rintro e w1 ⟨rfl, rfl⟩
       rw [hr]
       clear hr
       go_wp2)
    | skip
  all_goals go_ret
  all_goals refine ⟨congrArg (fun b => Ending.returned (.bool b)) ?_, rfl⟩
  all_goals have hf := hf.out
  all_goals rw [Bool.eq_iff_iff, Code.right_iff]
  all_goals simp only [decide_eq_true_eq, beq_iff_eq, beq_eq_false_iff_ne, ne_eq, Bool.false_eq_true, false_iff] at *
  all_goals omega
theorem Right_walk (op a : Int) (w : World) : Calls Tryd.prog 48 #[.int .i64 op, .int .i64 a] w (Same (.bool (Code.right op a)) w) := by
  go_enter Tryd.func48, Tryd.ntmps48
  go_wp2
  all_goals go_ret
  all_goals refine ⟨congrArg (fun b => Ending.returned (.bool b)) ?_, rfl⟩
  all_goals rw [Bool.eq_iff_iff, Code.right_iff]
  all_goals simp only [decide_eq_true_eq, beq_iff_eq, beq_eq_false_iff_ne, ne_eq, Bool.false_eq_true, false_iff] at *
  all_goals omega
end Go.Proofs.YtanpbphgmnjdeaaDoor
