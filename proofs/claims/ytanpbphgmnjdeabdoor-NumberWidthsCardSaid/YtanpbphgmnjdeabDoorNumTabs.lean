/- What the rows' lists of package-level variables give chapter 5's walks: the tables lie as their initialisers lay them. No condition. -/
import Derived.Test.YtanpbphgmnjdeabDoorNumLw1
import Derived.Test.YtanpbphgmnjdeabDoorFrame
import Derived.Test.YtanpbphgmnjdeabDoorCards
import Derived.Test.YtanpbphgmnjdeabDoorTie
import Derived.ProofKit
import Derived.OpenShut
import Derived.Deep.DeepHandedRow
import Derived.Lib.LaidTab
import Derived.Lib.LaidU8
import Derived.LaidMore
import Derived.Lay
import Derived.PinnedBridge
import Derived.SevenTiedAt
import Derived.Stop.Joined
namespace Go.Proofs.YtanpbphgmnjdeabDoor
set_option linter.unusedVariables false
open Go.RowKit Go.Lib
theorem gPows : Tryd.prog.globalNamed "internal/strconv.uint64pow10" = some 1 := by kernel_rfl
theorem gPowsType : (Tryd.prog.globals[1]?).map (·.type) = some 85 := by kernel_rfl
theorem cellsU64' : Tryd.prog.cellsOf 36 = 1 := by kernel_rfl
theorem cellsPows : Tryd.prog.cellsOf 85 = 20 := by kernel_rfl
theorem gBruijnType : (Tryd.prog.globals[6]?).map (·.type) = some 101 := by kernel_rfl
theorem cellsU8' : Tryd.prog.cellsOf 5 = 1 := by kernel_rfl
theorem cellsBruijn : Tryd.prog.cellsOf 101 = 64 := by kernel_rfl
theorem pows_of_reads {w : World} (h : VarReads Tryd.prog w "internal/strconv.uint64pow10" Rows.laid_internal_strconv_uint64pow10) : Pows w := by
  obtain ⟨g, t, cs, fuel, p, hg, hty, hvar, hd⟩ := h
  obtain rfl := Option.some.inj (gPows.symm.trans hg)
  obtain rfl := Option.some.inj (gPowsType.symm.trans hty)
  have e : (Rows.laid_internal_strconv_uint64pow10 : DataW Unit) = Lib.tabData .u64 Lib.pow10Tab := by kernel_rfl
  rw [e] at hd
  unfold Pows Lib.TabIs
  rw [hvar, ← Lib.cells_of_tab Tryd.underlying85 Tryd.underlying36 cellsU64' cellsPows hd]
theorem bruijn_of_reads {w : World} (h : VarReads Tryd.prog w "math/bits.deBruijn64tab" Rows.laid_math_bits_deBruijn64tab) : Bruijn w := by
  obtain ⟨g, t, cs, fuel, p, hg, hty, hvar, hd⟩ := h
  obtain rfl := Option.some.inj (gBruijn.symm.trans hg)
  obtain rfl := Option.some.inj (gBruijnType.symm.trans hty)
  have e : (Rows.laid_math_bits_deBruijn64tab : DataW Unit) = Lib.tabData .u8 dbTab := by kernel_rfl
  rw [e] at hd
  unfold Bruijn Lib.TabIs
  rw [hvar, ← Lib.cells_of_tab Tryd.underlying101 Tryd.underlying5 cellsU8' cellsBruijn hd]
theorem ntabs_of_laid {W : World} {l : List (String × DataW Unit)} (hp : (l.all fun x => x.2.handleName?.isNone) = true) (m1 : ("internal/strconv.uint64pow10", (Rows.laid_internal_strconv_uint64pow10 : DataW Unit)) ∈ l) (m2 : ("math/bits.deBruijn64tab", (Rows.laid_math_bits_deBruijn64tab : DataW Unit)) ∈ l)
    (h : laidMetH Tryd.prog l W) : NTabs W := by
  rw [MakeChecks.laidMetH_plain _ _ _ hp] at h
  exact ⟨pows_of_reads (laidMet.reads h m1), bruijn_of_reads (laidMet.reads h m2)⟩
theorem ntabs_of_row {W : World} (h : laidMetH Tryd.prog [("math/bits.deBruijn32tab", Rows.laid_math_bits_deBruijn32tab), ("math/bits.deBruijn64tab", Rows.laid_math_bits_deBruijn64tab), ("internal/strconv.uint64pow10", Rows.laid_internal_strconv_uint64pow10), ("unicode/utf8.acceptRanges", Rows.laid_unicode_utf8_acceptRanges), ("unicode.CaseRanges", Rows.laid_unicode_CaseRanges), ("unicode/utf8.first", Rows.laid_unicode_utf8_first)] W) : NTabs W :=
  ntabs_of_laid (by kernel_rfl) (by simp) (by simp) h
/-- the witness of a row over a pinned table of many cells -/
theorem witness_row_zip {H : Type} {enc : TypeId × Value → H} {C : Checked} {os : Os} {f : FuncId} {fn : Func} {s : OpenSpec} {conds : List PathCond} {apart : Bool} {laid : List (String × DataW Unit)} (modest : Bool) (w0 : World) (args : Array Value) (hos : w0.os = os)
    (hv : (w0.forCall (fun _ _ => 0) ⟨#[], args, []⟩).variablesZipB C.prog = true)
    (hr : ((w0.forCall (fun _ _ => 0) ⟨#[], args, []⟩).heap.toList.drop C.prog.globals.size).take ((begin C.prog (fun _ _ => 0) default).world.heap.size - C.prog.globals.size) =
      (begin C.prog (fun _ _ => 0) default).world.heap.toList.drop C.prog.globals.size)
    (hok : Input.okWideB C.prog (w0.forCall (fun _ _ => 0) ⟨#[], args, []⟩) f ⟨#[], args, []⟩ = true)
    (hrow : s.preRow enc C.prog fn conds apart laid (w0.forCall (fun _ _ => 0) ⟨#[], args, []⟩).memory args) :
    ∃ (w : World) (tape : Tape) (i : Input), w.os = os ∧ (w.forCall tape i).Shaped C.prog ∧ i.vars = [] ∧ Input.okWide C.prog (w.forCall tape i) .any w.heap.size f i ∧
      s.preRow enc C.prog fn conds apart laid (w.forCall tape i).memory i.args ∧ ({ modest := modest } : Assume).holds C.prog (lone (Frame.enter C.prog f i.args .normal) [] (w.forCall tape i)) :=
  ⟨w0, fun _ _ => 0, ⟨#[], args, []⟩, hos, World.shaped_of_ZipB hv hr, (Input.okWide_of_okWideB (base := 0) hok).1, (Input.okWide_of_okWideB hok).2, hrow, by
    simp only [Assume.holds]
    exact ⟨by simp, by simp, fun _ => Modest.zero, by simp, by simp⟩⟩
end Go.Proofs.YtanpbphgmnjdeabDoor
