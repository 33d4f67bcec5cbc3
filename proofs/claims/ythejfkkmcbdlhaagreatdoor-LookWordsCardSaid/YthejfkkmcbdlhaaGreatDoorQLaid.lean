/- Package-level tables that the row lists: an array of strings, cell for cell. No condition. -/
import Derived.Test.YthejfkkmcbdlhaaGreatDoorQMem
import Derived.Lib.LaidTab
import Derived.Lib.LaidU8
import Derived.Test.YthejfkkmcbdlhaaGreatDoorQScan
import Derived.Great.BuildSlice
namespace Go.Proofs.YthejfkkmcbdlhaaGreatDoor
set_option linter.unusedVariables false
open Go.RowKit Go.Lib

def strData {H : Type} (ss : List (List UInt8)) : DataW H := .agg (ss.map fun s => .lit (.string s))

/-- an array of strings that reads as the table holds the table's strings -/
theorem cells_of_strs {H : Type} {enc : TypeId × Value → H} {P : Program} {w : World} {base : Nat} {sp : Nat → Bool} {held : Bool} {fuel : Nat} {t e : TypeId} {n : Nat} {cs : List Value} {zs : List (List UInt8)} {p : List MemPlace}
    (ht : P.underlying t = some (.array n e)) (he : P.underlying e = some .string) (hce : P.cellsOf e = 1) (hct : P.cellsOf t = n)
    (h : DataW.trod enc P w base sp held fuel t cs = some (strData zs, p)) : cs = zs.map fun z => Value.string ⟨z.toArray⟩ := by
  cases fuel with
  | zero => simp [DataW.trod] at h
  | succ fuel =>
    simp only [DataW.trod, ht, hce, hct, Nat.mul_one] at h
    split at h
    · rename_i hl
      obtain ⟨xs, hm, hx⟩ := Option.map_eq_some_iff.1 h
      have hxs : xs.map (·.1) = zs.map fun z => (DataW.lit (.string z) : DataW H) := by
        have := congrArg Prod.fst hx
        simpa [strData] using this
      have hxl : xs.length = n := by simpa using mapM_length hm
      have hzl : zs.length = n := by
        have := congrArg List.length hxs
        simp at this
        omega
      apply List.ext_getElem?
      intro i
      by_cases hi : i < n
      · obtain ⟨b, hb, hf⟩ := mapM_at hm i i (by simp [hi])
        obtain ⟨z, hc, hbz, _⟩ := DataW.trod_string he hf
        have h1 : cs[i]? = some (.string z) := by
          have := congrArg (·[0]?) hc
          simpa [List.getElem?_take, List.getElem?_drop] using this
        have h2 : (xs.map (·.1))[i]? = some (b.1 : DataW H) := by simp [hb]
        rw [hbz] at h2
        rw [hxs] at h2
        simp only [List.getElem?_map, Option.map_eq_some_iff, DataW.lit.injEq, Lit.string.injEq] at h2
        obtain ⟨z', hz', hzz⟩ := h2
        subst hzz
        simp [h1, hz']
      · rw [List.getElem?_eq_none (by omega), List.getElem?_eq_none (by simp; omega)]
    · cases h

/-- the strings of a listed table -/
def strsOf : DataW Unit → List (List UInt8)
  | .agg ds => ds.map fun d => match d with | .lit (.string s) => s | _ => []
  | _ => []
def Code.names : List (List UInt8) := strsOf Rows.laid_proctor_code_names
def Code.name (i : Nat) : ByteArray := ⟨(Code.names.getD i []).toArray⟩
theorem Code.names_len : Code.names.length = 106 := by kernel_rfl
theorem Code.names_data : (Rows.laid_proctor_code_names : DataW Unit) = strData Code.names := by kernel_rfl

/-- the program's table of names lies there -/
def NamesAt (w : World) : Prop := ∀ i, i < 106 → w.cell? ⟨1, i, none⟩ = some (.string (Code.name i))
theorem NamesAt.of_block {w w' : World} (h : NamesAt w) (hb : w'.heap[1]? = w.heap[1]?) : NamesAt w' := fun i hi => (World.cell?_of_block (w := w) hb).trans (h i hi)

theorem gNames : Tryz.prog.globalNamed "proctor/code.names" = some 1 := by kernel_rfl
theorem gNamesType : (Tryz.prog.globals[1]?).map (·.type) = some 107 := by kernel_rfl
theorem cellsStr : Tryz.prog.cellsOf 9 = 1 := by kernel_rfl
theorem cellsNames : Tryz.prog.cellsOf 107 = 106 := by kernel_rfl

theorem namesAt_of_reads {w : World} (h : VarReads Tryz.prog w "proctor/code.names" Rows.laid_proctor_code_names) : NamesAt w := by
  obtain ⟨g, t, cs, fuel, p, hg, hty, hvar, hd⟩ := h
  obtain rfl := Option.some.inj (gNames.symm.trans hg)
  obtain rfl := Option.some.inj (gNamesType.symm.trans hty)
  rw [Code.names_data] at hd
  have hcs := cells_of_strs Tryz.underlying107 Tryz.underlying9 cellsStr cellsNames hd
  intro i hi
  have := World.var?_cell hg hvar i
  have h2 : cs[i]? = some (.string (Code.name i)) := by
    have := congrArg (·[i]?) hcs
    have hl : i < Code.names.length := by rw [Code.names_len]; exact hi
    simpa [Code.name, List.getD, hl] using this
  rw [this, h2]
end Go.Proofs.YthejfkkmcbdlhaaGreatDoor
/- Chapter 7: names of operations. Conditions: the program's table lies as its initialiser lays it (NamesAt). -/
namespace Go.Proofs.YthejfkkmcbdlhaaGreatDoor
set_option linter.unusedVariables false
open Go.RowKit Go.Lib

/-- an operation's name -/
def Code.nameOf (op : Int) : ByteArray := if Code.inOps op = true then Code.name (op - 1).toNat else ⟨#[]⟩

theorem name_in (i : Nat) (hi : i < 106) (w : World) (hN : NamesAt w) : Calls Tryz.prog 86 #[.int .i64 ((i : Int) + 1)] w (Same (.string (Code.name i)) w) := by
  have hc := hN i hi
  clear hN
  have a1 : ((i : Int) + 1 < 1) = False := by simp; omega
  have a2 : ((107 : Int) ≤ (i : Int) + 1) = False := by simp; omega
  have e1 : wrap64 ((i : Int) + 1 - 1) = (i : Int) := by unfold wrap64; omega
  go_enter Tryz.func86, Tryz.ntmps86
  go_wp2
  all_goals go_ret
  all_goals exact ⟨rfl, rfl⟩
theorem name_out (op : Int) (h : Code.inOps op = false) (w : World) : Calls Tryz.prog 86 #[.int .i64 op] w (Same (.string ⟨#[]⟩) w) := by
  simp [Code.inOps] at h
  go_enter Tryz.func86, Tryz.ntmps86
  go_wp2
  all_goals go_ret
  all_goals exact ⟨rfl, rfl⟩
def Code.tableCells : Array Value := (Value.string ⟨#[]⟩ :: Code.names.map fun s => Value.string ⟨s.toArray⟩).toArray
theorem Tryz.infoStr : (Tryz.prog.info? 9).map (fun i => (i.zero, i.size)) = some (some (.string ⟨#[]⟩), 1) := by kernel_rfl
theorem Table_walk (w : World) : Calls Tryz.prog 106 #[] w fun e w' => e = .returned (.slice (some ⟨w.heap.size, 0, none⟩) 107 107) ∧ w' = w.alloc (.cells Code.tableCells 9) := by
  obtain ⟨ie, hie, hx⟩ := Option.map_eq_some_iff.1 Tryz.infoStr
  obtain ⟨hz, hs⟩ := Prod.mk.inj hx
  go_enter Tryz.func106, Tryz.ntmps106
  go_wp2_with (refine wpList_buildSlice rfl 23 9 107 _ rfl Code.tableCells ie (.string ⟨#[]⟩) Tryz.underlying23 hie hz (by rw [hs]; decide) (by rw [hs]; decide) (by rw [hs]; kernel_rfl) ?_)
  go_ret
  exact ⟨rfl, rfl⟩

def Fresh (v : Value) (w : World) (e : Ending) (w' : World) : Prop := e = .returned v ∧ Kept Nob w w'
theorem Code.tableCells_at (i : Nat) (hi : i < 106) : Code.tableCells[i + 1]? = some (.string (Code.name i)) := by
  have hl : i < Code.names.length := by rw [Code.names_len]; exact hi
  simp [Code.tableCells, Code.name, List.getD, hl]
theorem Name_in (i : Nat) (hi : i < 106) (w : World) : Calls Tryz.prog 76 #[.int .i64 ((i : Int) + 1)] w (Fresh (.string (Code.name i)) w) := by
  have hc : (w.alloc (.cells Code.tableCells 9)).cell? ⟨w.heap.size, i + 1, none⟩ = some (.string (Code.name i)) := by
    rw [(Blk.new w _ _).cell, Code.tableCells_at i hi]
  have a1 : ((i : Int) + 1 < 1) = False := by simp; omega
  have a2 : ((106 : Int) < (i : Int) + 1) = False := by simp; omega
  have hc := Lib.hid hc
  go_enter Tryz.func76, Tryz.ntmps76
  go_wp2_with fail
  refine (Table_walk w).mono ?_
  rintro e w1 ⟨rfl, rfl⟩
  have hc := hc.out
  go_wp2
  go_ret
  exact ⟨rfl, (Kept.refl _ _).alloc _⟩
theorem Name_out (op : Int) (h : Code.inOps op = false) (w : World) : Calls Tryz.prog 76 #[.int .i64 op] w (Same (.string ⟨#[]⟩) w) := by
  simp [Code.inOps] at h
  go_enter Tryz.func76, Tryz.ntmps76
  go_wp2
  all_goals go_ret
  all_goals exact ⟨rfl, rfl⟩
end Go.Proofs.YthejfkkmcbdlhaaGreatDoor
