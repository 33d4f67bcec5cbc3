/- Package-level tables that the row lists: an array of strings, cell for cell. No condition. -/
import Derived.Test.YtanpbphgmnjdeaaDoorMem
import Derived.Lib.LaidTab
import Derived.Lib.LaidU8
namespace Go.Proofs.YtanpbphgmnjdeaaDoor
set_option linter.unusedVariables false
open Go.RowKit Go.Lib

def strData {H : Type} (ss : List (List UInt8)) : DataW H := .agg (ss.map fun s => .lit (.string s))

/-- an array of strings that reads as the table holds the table's strings -/
theorem cells_of_strs {H : Type} {enc : TypeId × Value → H} {P : Program} {w : World} {base : Nat} {sp : Nat → Bool} {held : Bool} {fuel : Nat} {t e : TypeId} {n : Nat} {cs : List Value} {zs : List (List UInt8)} {p : List MemPlace}
    (ht : P.underlying t = some (.array n e)) (he : P.underlying e = some .string) (hce : P.cellsOf e = 1) (hct : P.cellsOf t = n)
    (h : DataW.trod enc P w base sp held fuel t cs = some (strData zs, p)) : cs = zs.map fun z => Value.string ⟨z.toArray⟩ := by
  cases fuel with
  | zero => simp [DataW.trod] at h
  | succ fuel =>
    simp only [DataW.trod, ht, hce, hct, Nat.mul_one] at h
    split at h
    · rename_i hl
      obtain ⟨xs, hm, hx⟩ := Option.map_eq_some_iff.1 h
      have hxs : xs.map (·.1) = zs.map fun z => (DataW.lit (.string z) : DataW H) := by
        have := congrArg Prod.fst hx
        simpa [strData] using this
      have hxl : xs.length = n := by simpa using mapM_length hm
      have hzl : zs.length = n := by
        have := congrArg List.length hxs
        simp at this
        omega
      apply List.ext_getElem?
      intro i
      by_cases hi : i < n
      · obtain ⟨b, hb, hf⟩ := mapM_at hm i i (by simp [hi])
        obtain ⟨z, hc, hbz, _⟩ := DataW.trod_string he hf
        have h1 : cs[i]? = some (.string z) := by
          have := congrArg (·[0]?) hc
          simpa [List.getElem?_take, List.getElem?_drop] using this
        have h2 : (xs.map (·.1))[i]? = some (b.1 : DataW H) := by simp [hb]
        rw [hbz] at h2
        rw [hxs] at h2
        simp only [List.getElem?_map, Option.map_eq_some_iff, DataW.lit.injEq, Lit.string.injEq] at h2
        obtain ⟨z', hz', hzz⟩ := h2
        subst hzz
        simp [h1, hz']
      · rw [List.getElem?_eq_none (by omega), List.getElem?_eq_none (by simp; omega)]
    · cases h

/-- the strings of a listed table -/
def strsOf : DataW Unit → List (List UInt8)
  | .agg ds => ds.map fun d => match d with | .lit (.string s) => s | _ => []
  | _ => []
def Code.names : List (List UInt8) := strsOf Rows.laid_proctor_code_names
def Code.name (i : Nat) : ByteArray := ⟨(Code.names.getD i []).toArray⟩
theorem Code.names_len : Code.names.length = 106 := by kernel_rfl
theorem Code.names_data : (Rows.laid_proctor_code_names : DataW Unit) = strData Code.names := by kernel_rfl

/-- the program's table of names lies there -/
def NamesAt (w : World) : Prop := ∀ i, i < 106 → w.cell? ⟨0, i, none⟩ = some (.string (Code.name i))
theorem NamesAt.of_block {w w' : World} (h : NamesAt w) (hb : w'.heap[0]? = w.heap[0]?) : NamesAt w' := fun i hi => (World.cell?_of_block (w := w) hb).trans (h i hi)

theorem gNames : Tryd.prog.globalNamed "proctor/code.names" = some 0 := by kernel_rfl
theorem gNamesType : (Tryd.prog.globals[0]?).map (·.type) = some 64 := by kernel_rfl
theorem cellsStr : Tryd.prog.cellsOf 9 = 1 := by kernel_rfl
theorem cellsNames : Tryd.prog.cellsOf 64 = 106 := by kernel_rfl

theorem namesAt_of_reads {w : World} (h : VarReads Tryd.prog w "proctor/code.names" Rows.laid_proctor_code_names) : NamesAt w := by
  obtain ⟨g, t, cs, fuel, p, hg, hty, hvar, hd⟩ := h
  obtain rfl := Option.some.inj (gNames.symm.trans hg)
  obtain rfl := Option.some.inj (gNamesType.symm.trans hty)
  rw [Code.names_data] at hd
  have hcs := cells_of_strs Tryd.underlying64 Tryd.underlying9 cellsStr cellsNames hd
  intro i hi
  have := World.var?_cell hg hvar i
  have h2 : cs[i]? = some (.string (Code.name i)) := by
    have := congrArg (·[i]?) hcs
    have hl : i < Code.names.length := by rw [Code.names_len]; exact hi
    simpa [Code.name, List.getD, hl] using this
  rw [this, h2]
end Go.Proofs.YtanpbphgmnjdeaaDoor
