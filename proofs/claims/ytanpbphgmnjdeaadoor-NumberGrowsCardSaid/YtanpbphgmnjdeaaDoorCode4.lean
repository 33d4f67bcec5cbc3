/- Chapter 7: how many cells an operation takes and lays. No condition. -/
import Derived.Test.YtanpbphgmnjdeaaDoorCode1
namespace Go.Proofs.YtanpbphgmnjdeaaDoor
set_option linter.unusedVariables false
open Go.RowKit Go.Lib

def Code.wants (op : Int) : Int × Int :=
  if op ∈ [2, 11, 12, 14, 15, 17, 30, 72, 77, 83, 89, 90, 91] then (0, 1)
  else if op ∈ [5, 9, 13, 16, 22, 73, 74, 75, 78, 80, 81, 88, 100, 101, 102] then (1, 0)
  else if op ∈ [6, 7, 66, 68, 69, 79, 82] then (2, 0)
  else if op ∈ [19, 87, 104] then (0, 2)
  else if op ∈ [21, 26] then (1, 2)
  else if op ∈ [23, 36, 53, 54, 86, 97] then (2, 2)
  else if op ∈ [24, 28] then (2, 3)
  else if op ∈ [25] then (3, 3)
  else if op ∈ [27, 31, 32, 33, 34, 35, 41, 42, 47, 48, 49, 51, 52, 58, 59, 60, 61, 62, 84, 98] then (2, 1)
  else if op ∈ [29, 39, 40, 43, 44, 45, 46, 50, 63, 64, 65, 67, 92] then (1, 1)
  else if op ∈ [37, 93] then (3, 1)
  else if op ∈ [38, 55, 56, 57, 99] then (3, 2)
  else if op ∈ [70, 71] then (3, 0)
  else if op ∈ [94, 95, 96] then (4, 2)
  else (0, 0)

set_option maxHeartbeats 4000000 in
set_option maxRecDepth 100000 in
theorem Wants_walk (op : Int) (w : World) : Calls Tryd.prog 21 #[.int .i64 op] w (Same (.tuple #[.int .i64 (Code.wants op).1, .int .i64 (Code.wants op).2]) w) := by
  go_enter Tryd.func21, Tryd.ntmps21
  go_wp2
  all_goals go_ret2
  all_goals refine ⟨?_, rfl⟩
  all_goals first
    | (have hx := eq_of_beq ‹(op == _) = true›; rw [hx]; rfl)
    | skip
  all_goals simp only [beq_eq_false_iff_ne, ne_eq] at *
  all_goals simp [Code.wants, *]
end Go.Proofs.YtanpbphgmnjdeaaDoor
