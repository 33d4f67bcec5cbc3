/- Chapter 7: the program's Wants. No condition. -/
import Derived.Test.YtanpbphgmnjdeaaDoorCode4
namespace Go.Proofs.YtanpbphgmnjdeaaDoor
set_option linter.unusedVariables false
open Go.RowKit Go.Lib
theorem wants_out (op : Int) (h : Code.inOps op = false) (w : World) : Calls Tryd.prog 20 #[.int .i64 op] w (Same (.tuple #[.int .i64 0, .int .i64 0]) w) := by
  simp [Code.inOps] at h
  go_enter Tryd.func20, Tryd.ntmps20
  go_wp2
  all_goals go_ret2
  all_goals exact ⟨rfl, rfl⟩
def Code.takes : ByteArray := ⟨((List.range 106).map fun i : Nat => UInt8.ofNat (48 + (Code.wants ((i : Int) + 1)).1.toNat)).toArray⟩
def Code.lays : ByteArray := ⟨((List.range 106).map fun i : Nat => UInt8.ofNat (48 + (Code.wants ((i : Int) + 1)).2.toNat)).toArray⟩
theorem lit_takes : ({ data := ([48, 48, 48, 48, 49, 50, 50, 48, 49, 48, 48, 48, 49, 48, 48, 49, 48, 48, 48, 48, 49, 49, 50, 50, 51, 49, 50, 50, 49, 48, 50, 50, 50, 50, 50, 50, 51, 51, 49, 49, 50, 50, 49, 49, 49, 49, 50, 50, 50, 49, 50, 50, 50].append [50, 51, 51, 51, 50, 50, 50, 50, 50, 49, 49, 49, 50, 49, 50, 50, 51, 51, 48, 49, 49, 49, 48, 48, 49, 50, 49, 49, 50, 48, 50, 48, 50, 48, 49, 48, 48, 48, 49, 51, 52, 52, 52, 50, 50, 51, 49, 49, 49, 48, 48, 48, 48]).toArray } : ByteArray) = Code.takes := by kernel_rfl
theorem lit_takes' : ({ data := #[48, 48, 48, 48, 49, 50, 50, 48, 49, 48, 48, 48, 49, 48, 48, 49, 48, 48, 48, 48, 49, 49, 50, 50, 51, 49, 50, 50, 49, 48, 50, 50, 50, 50, 50, 50, 51, 51, 49, 49, 50, 50, 49, 49, 49, 49, 50, 50, 50, 49, 50, 50, 50, 50, 51, 51, 51, 50, 50, 50, 50, 50, 49, 49, 49, 50, 49, 50, 50, 51, 51, 48, 49, 49, 49, 48, 48, 49, 50, 49, 49, 50, 48, 50, 48, 50, 48, 49, 48, 48, 48, 49, 51, 52, 52, 52, 50, 50, 51, 49, 49, 49, 48, 48, 48, 48] } : ByteArray) = Code.takes := by kernel_rfl
theorem lit_lays : ({ data := ([48, 49, 48, 48, 48, 48, 48, 48, 48, 48, 49, 49, 48, 49, 49, 48, 49, 48, 50, 48, 50, 48, 50, 51, 51, 50, 49, 51, 49, 49, 49, 49, 49, 49, 49, 50, 49, 50, 49, 49, 49, 49, 49, 49, 49, 49, 49, 49, 49, 49, 49, 49, 50].append [50, 50, 50, 50, 49, 49, 49, 49, 49, 49, 49, 49, 48, 49, 48, 48, 48, 48, 49, 48, 48, 48, 48, 49, 48, 48, 48, 48, 48, 49, 49, 48, 50, 50, 48, 49, 49, 49, 49, 49, 50, 50, 50, 50, 49, 50, 48, 48, 48, 48, 50, 48, 48]).toArray } : ByteArray) = Code.lays := by kernel_rfl
theorem lit_lays' : ({ data := #[48, 49, 48, 48, 48, 48, 48, 48, 48, 48, 49, 49, 48, 49, 49, 48, 49, 48, 50, 48, 50, 48, 50, 51, 51, 50, 49, 51, 49, 49, 49, 49, 49, 49, 49, 50, 49, 50, 49, 49, 49, 49, 49, 49, 49, 49, 49, 49, 49, 49, 49, 49, 50, 50, 50, 50, 50, 49, 49, 49, 49, 49, 49, 49, 49, 48, 49, 48, 48, 48, 48, 49, 48, 48, 48, 48, 49, 48, 48, 48, 48, 48, 49, 49, 48, 50, 50, 48, 49, 49, 49, 49, 49, 50, 50, 50, 50, 49, 50, 48, 48, 48, 48, 50, 48, 48] } : ByteArray) = Code.lays := by kernel_rfl
theorem takes_size : Code.takes.size = 106 := by kernel_rfl
theorem lays_size : Code.lays.size = 106 := by kernel_rfl
theorem takes_at : ∀ i : Fin 106, (Code.takes.data.toList.getD i.val 0).toNat = 48 + (Code.wants ((i.val : Int) + 1)).1.toNat ∧ (Code.lays.data.toList.getD i.val 0).toNat = 48 + (Code.wants ((i.val : Int) + 1)).2.toNat ∧
    0 ≤ (Code.wants ((i.val : Int) + 1)).1 ∧ (Code.wants ((i.val : Int) + 1)).1 ≤ 4 ∧ 0 ≤ (Code.wants ((i.val : Int) + 1)).2 ∧ (Code.wants ((i.val : Int) + 1)).2 ≤ 4 := by decide +kernel
theorem idx_str (s : ByteArray) (i : Nat) (hi : i < s.size) (w : World) : (Instr.index 9 (.string s) (.int .i64 (i : Int))).run Tryd.prog w = .ok (.int .u8 ((s.data.toList.getD i 0).toNat : Int)) w := by
  rw [run_index_string w _ s .i64 (i : Int) Tryd.underlying9, dif_pos ⟨by omega, by omega⟩]
  have h2 : i < s.data.toList.length := by rw [← Lib.size_eq]; exact hi
  congr 4
  rw [List.getD_eq_getElem?_getD, List.getElem?_eq_getElem h2]
  rfl
set_option maxHeartbeats 1000000 in
theorem wants_in (i : Nat) (hi : i < 106) (w : World) : Calls Tryd.prog 20 #[.int .i64 ((i : Int) + 1)] w fun e w' => e = .returned (.tuple #[.int .i64 (Code.wants ((i : Int) + 1)).1, .int .i64 (Code.wants ((i : Int) + 1)).2]) ∧ ∃ n, w' = w.drewN n := by
  have a1 : ((i : Int) + 1 < 1) = False := by simp; omega
  have a2 : ((107 : Int) ≤ (i : Int) + 1) = False := by simp; omega
  have e1 : wrap64 ((i : Int) + 1 - 1) = (i : Int) := by unfold wrap64; omega
  have i1 := fun w => idx_str Code.takes i (by rw [takes_size]; exact hi) w
  have i2 := fun w => idx_str Code.lays i (by rw [lays_size]; exact hi) w
  obtain ⟨k1, k2, k3⟩ := takes_at ⟨i, hi⟩
  simp only at k1 k2 k3
  rw [k1] at i1
  rw [k2] at i2
  clear k1 k2
  generalize Code.wants ((i : Int) + 1) = x at *
  obtain ⟨x, y⟩ := x
  have k3 := Lib.hid k3
  have i1 := Lib.hid i1
  have i2 := Lib.hid i2
  go_enter Tryd.func20, Tryd.ntmps20
  go_wp2
  first | rw [lit_takes, lit_lays] | rw [lit_takes', lit_lays']
  have i1 := i1.out
  have i2 := i2.out
  go_quiet (fail)
  clear i1 i2
  go_wp2
  go_ret2
  have k3 := k3.out
  have m1 : 48 + max x 0 - 48 = x := by omega
  have m2 : 48 + max y 0 - 48 = y := by omega
  refine ⟨?_, nq, rfl⟩
  rw [m1, m2]
  rfl
end Go.Proofs.YtanpbphgmnjdeaaDoor
