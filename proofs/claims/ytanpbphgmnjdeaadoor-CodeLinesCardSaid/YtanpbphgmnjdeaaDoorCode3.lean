/- Chapter 7: names of operations. Conditions: the program's table lies as its initialiser lays it (NamesAt). -/
import Derived.Test.YtanpbphgmnjdeaaDoorCode1
import Derived.Test.YtanpbphgmnjdeaaDoorLaid
import Derived.Test.YtanpbphgmnjdeaaDoorSep
import Derived.Great.BuildSlice
namespace Go.Proofs.YtanpbphgmnjdeaaDoor
set_option linter.unusedVariables false
open Go.RowKit Go.Lib

/-- an operation's name -/
def Code.nameOf (op : Int) : ByteArray := if Code.inOps op = true then Code.name (op - 1).toNat else ⟨#[]⟩

theorem name_in (i : Nat) (hi : i < 106) (w : World) (hN : NamesAt w) : Calls Tryd.prog 22 #[.int .i64 ((i : Int) + 1)] w (Same (.string (Code.name i)) w) := by
  have hc := hN i hi
  clear hN
  have a1 : ((i : Int) + 1 < 1) = False := by simp; omega
  have a2 : ((107 : Int) ≤ (i : Int) + 1) = False := by simp; omega
  have e1 : wrap64 ((i : Int) + 1 - 1) = (i : Int) := by unfold wrap64; omega
  go_enter Tryd.func22, Tryd.ntmps22
  go_wp2
  all_goals go_ret
  all_goals exact ⟨rfl, rfl⟩
theorem name_out (op : Int) (h : Code.inOps op = false) (w : World) : Calls Tryd.prog 22 #[.int .i64 op] w (Same (.string ⟨#[]⟩) w) := by
  simp [Code.inOps] at h
  go_enter Tryd.func22, Tryd.ntmps22
  go_wp2
  all_goals go_ret
  all_goals exact ⟨rfl, rfl⟩
def Code.tableCells : Array Value := (Value.string ⟨#[]⟩ :: Code.names.map fun s => Value.string ⟨s.toArray⟩).toArray
theorem Tryd.infoStr : (Tryd.prog.info? 9).map (fun i => (i.zero, i.size)) = some (some (.string ⟨#[]⟩), 1) := by kernel_rfl
theorem Table_walk (w : World) : Calls Tryd.prog 49 #[] w fun e w' => e = .returned (.slice (some ⟨w.heap.size, 0, none⟩) 107 107) ∧ w' = w.alloc (.cells Code.tableCells 9) := by
  obtain ⟨ie, hie, hx⟩ := Option.map_eq_some_iff.1 Tryd.infoStr
  obtain ⟨hz, hs⟩ := Prod.mk.inj hx
  go_enter Tryd.func49, Tryd.ntmps49
  go_wp2_with (refine wpList_buildSlice rfl 65 9 107 _ rfl Code.tableCells ie (.string ⟨#[]⟩) Tryd.underlying65 hie hz (by rw [hs]; decide) (by rw [hs]; decide) (by rw [hs]; kernel_rfl) ?_)
  go_ret
  exact ⟨rfl, rfl⟩

def Fresh (v : Value) (w : World) (e : Ending) (w' : World) : Prop := e = .returned v ∧ Kept Nob w w'
theorem Code.tableCells_at (i : Nat) (hi : i < 106) : Code.tableCells[i + 1]? = some (.string (Code.name i)) := by
  have hl : i < Code.names.length := by rw [Code.names_len]; exact hi
  simp [Code.tableCells, Code.name, List.getD, hl]
theorem Name_in (i : Nat) (hi : i < 106) (w : World) : Calls Tryd.prog 23 #[.int .i64 ((i : Int) + 1)] w (Fresh (.string (Code.name i)) w) := by
  have hc : (w.alloc (.cells Code.tableCells 9)).cell? ⟨w.heap.size, i + 1, none⟩ = some (.string (Code.name i)) := by
    rw [(Blk.new w _ _).cell, Code.tableCells_at i hi]
  have a1 : ((i : Int) + 1 < 1) = False := by simp; omega
  have a2 : ((106 : Int) < (i : Int) + 1) = False := by simp; omega
  have hc := Lib.hid hc
  go_enter Tryd.func23, Tryd.ntmps23
  go_wp2_with fail
  refine (Table_walk w).mono ?_
  rintro e w1 ⟨rfl, rfl⟩
  have hc := hc.out
  go_wp2
  go_ret
  exact ⟨rfl, (Kept.refl _ _).alloc _⟩
theorem Name_out (op : Int) (h : Code.inOps op = false) (w : World) : Calls Tryd.prog 23 #[.int .i64 op] w (Same (.string ⟨#[]⟩) w) := by
  simp [Code.inOps] at h
  go_enter Tryd.func23, Tryd.ntmps23
  go_wp2
  all_goals go_ret
  all_goals exact ⟨rfl, rfl⟩
end Go.Proofs.YtanpbphgmnjdeaaDoor
