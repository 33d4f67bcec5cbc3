/- What the rows' lists of package-level variables give chapter 19's walks: the tables lie as their initialisers lay them. No condition. -/
import Derived.Test.YthejfkkmcbdlhaaGreatDoorQAll
import Derived.Test.YthejfkkmcbdlhaaGreatDoorQFrame
import Derived.Test.YthejfkkmcbdlhaaGreatDoorCards
import Derived.Test.YthejfkkmcbdlhaaGreatDoorTie
import Derived.ProofKit
import Derived.OpenShut
import Derived.Deep.DeepHandedRow
import Derived.Lib.LaidTab
import Derived.Lib.LaidU8
import Derived.LaidMore
import Derived.Lay
import Derived.PinnedBridge
import Derived.SevenTiedAt
import Derived.Stop.Joined
namespace Go.Proofs.YthejfkkmcbdlhaaGreatDoor
set_option linter.unusedVariables false
open Go.RowKit Go.Lib
theorem u8x : U8Extra Tryz.prog Tryz.lays260_ren where
  n3 := by kernel_rfl
  n4 := by kernel_rfl
  y3 := by kernel_rfl
  y4 := by kernel_rfl
  c5 := by kernel_rfl
  c119 := by kernel_rfl
  c138 := by kernel_rfl
theorem gAscii : Tryz.prog.globalNamed "strings.asciiSpace" = some 2 := by kernel_rfl
theorem gAsciiType : (Tryz.prog.globals[2]?).map (·.type) = some 135 := by kernel_rfl
theorem cellsU8s : Tryz.prog.cellsOf 5 = 1 := by kernel_rfl
theorem cellsAscii : Tryz.prog.cellsOf 135 = 256 := by kernel_rfl
theorem ascii_of_reads {w : World} (h : VarReads Tryz.prog w "strings.asciiSpace" Rows.laid_strings_asciiSpace) : Lib.TabIs Tryz.prog w "strings.asciiSpace" .u8 Lib.asciiSpaceTab := by
  obtain ⟨g, t, cs, fuel, p, hg, hty, hvar, hd⟩ := h
  obtain rfl := Option.some.inj (gAscii.symm.trans hg)
  obtain rfl := Option.some.inj (gAsciiType.symm.trans hty)
  have e : (Rows.laid_strings_asciiSpace : DataW Unit) = Lib.tabData .u8 Lib.asciiSpaceTab := by kernel_rfl
  rw [e] at hd
  unfold Lib.TabIs
  rw [hvar, ← Lib.cells_of_tab Tryz.underlying135 Tryz.underlying5 cellsU8s cellsAscii hd]
theorem tabs_of_laid {W : World} {l : List (String × DataW Unit)} (hp : (l.all fun x => x.2.handleName?.isNone) = true) (m1 : ("unicode/utf8.first", (Go.Pinned.utf8First : DataW Unit)) ∈ l) (m2 : ("unicode/utf8.acceptRanges", (Rows.laid_unicode_utf8_acceptRanges : DataW Unit)) ∈ l)
    (m3 : ("proctor/code.names", (Rows.laid_proctor_code_names : DataW Unit)) ∈ l) (m4 : ("strings.asciiSpace", (Rows.laid_strings_asciiSpace : DataW Unit)) ∈ l) (h : laidMetH Tryz.prog l W) : Look.Ground W := by
  rw [MakeChecks.laidMetH_plain _ _ _ hp] at h
  have h1 := laidMet.reads h m1
  have h2 := laidMet.reads h m2
  have h3 := laidMet.reads h m3
  have h4 := laidMet.reads h m4
  refine ⟨⟨namesAt_of_reads h3, ?_⟩, ascii_of_reads h4⟩
  have e1 : (Go.Pinned.utf8First : DataW Unit) = firstData := by kernel_rfl
  have e2 : (Rows.laid_unicode_utf8_acceptRanges : DataW Unit) = acceptData := by kernel_rfl
  rw [e1] at h1
  rw [e2] at h2
  exact utf8Tabs_of_reads Tryz.lays260 u8x h1 h2
theorem ground_of_row {W : World} (h : laidMetH Tryz.prog [("unicode/utf8.acceptRanges", Rows.laid_unicode_utf8_acceptRanges), ("unicode.White_Space", Rows.laid_unicode_White_Space), ("strings.asciiSpace", Rows.laid_strings_asciiSpace), ("proctor/code.names", Rows.laid_proctor_code_names), ("unicode/utf8.first", Rows.laid_unicode_utf8_first)] W) : Look.Ground W :=
  tabs_of_laid (by kernel_rfl) (by simp [Rows.laid_unicode_utf8_first]) (by simp) (by simp) (by simp) h
/-- the witness of a row over a pinned table of many cells -/
theorem witness_row_zip {H : Type} {enc : TypeId × Value → H} {C : Checked} {os : Os} {f : FuncId} {fn : Func} {s : OpenSpec} {conds : List PathCond} {apart : Bool} {laid : List (String × DataW Unit)} (modest : Bool) (w0 : World) (args : Array Value) (hos : w0.os = os)
    (hv : (w0.forCall (fun _ _ => 0) ⟨#[], args, []⟩).variablesZipB C.prog = true)
    (hr : ((w0.forCall (fun _ _ => 0) ⟨#[], args, []⟩).heap.toList.drop C.prog.globals.size).take ((begin C.prog (fun _ _ => 0) default).world.heap.size - C.prog.globals.size) =
      (begin C.prog (fun _ _ => 0) default).world.heap.toList.drop C.prog.globals.size)
    (hok : Input.okWideB C.prog (w0.forCall (fun _ _ => 0) ⟨#[], args, []⟩) f ⟨#[], args, []⟩ = true)
    (hrow : s.preRow enc C.prog fn conds apart laid (w0.forCall (fun _ _ => 0) ⟨#[], args, []⟩).memory args) :
    ∃ (w : World) (tape : Tape) (i : Input), w.os = os ∧ (w.forCall tape i).Shaped C.prog ∧ i.vars = [] ∧ Input.okWide C.prog (w.forCall tape i) .any w.heap.size f i ∧
      s.preRow enc C.prog fn conds apart laid (w.forCall tape i).memory i.args ∧ ({ modest := modest } : Assume).holds C.prog (lone (Frame.enter C.prog f i.args .normal) [] (w.forCall tape i)) :=
  ⟨w0, fun _ _ => 0, ⟨#[], args, []⟩, hos, World.shaped_of_ZipB hv hr, (Input.okWide_of_okWideB (base := 0) hok).1, (Input.okWide_of_okWideB hok).2, hrow, by
    simp only [Assume.holds]
    exact ⟨by simp, by simp, fun _ => Modest.zero, by simp, by simp⟩⟩
end Go.Proofs.YthejfkkmcbdlhaaGreatDoor
