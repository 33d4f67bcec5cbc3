/- What the rows' lists of package-level variables give the walks: the tables lie as their initialisers lay them. No condition. -/
import Derived.Test.YtanpbphgmnjdeaaDoorCode7
import Derived.Test.YtanpbphgmnjdeaaDoorList1
import Derived.Test.YtanpbphgmnjdeaaDoorFrame
import Derived.Test.YtanpbphgmnjdeaaDoorCards
import Derived.Test.YtanpbphgmnjdeaaDoorTie
import Derived.ProofKit
import Derived.OpenShut
import Derived.Deep.DeepHandedRow
import Derived.Lib.LaidTab
import Derived.LaidMore
import Derived.Lay
import Derived.PinnedBridge
import Derived.SevenTiedAt
import Derived.Stop.Joined
namespace Go.Proofs.YtanpbphgmnjdeaaDoor
set_option linter.unusedVariables false
open Go.RowKit Go.Lib
theorem u8x : U8Extra Tryd.prog Tryd.lays260_ren where
  n3 := by kernel_rfl
  n4 := by kernel_rfl
  y3 := by kernel_rfl
  y4 := by kernel_rfl
  c5 := by kernel_rfl
  c119 := by kernel_rfl
  c138 := by kernel_rfl
theorem tabs_of_laid {W : World} {l : List (String × DataW Unit)} (hp : (l.all fun x => x.2.handleName?.isNone) = true) (m1 : ("unicode/utf8.first", (Go.Pinned.utf8First : DataW Unit)) ∈ l) (m2 : ("unicode/utf8.acceptRanges", (Rows.laid_unicode_utf8_acceptRanges : DataW Unit)) ∈ l)
    (m3 : ("proctor/code.names", (Rows.laid_proctor_code_names : DataW Unit)) ∈ l) (h : laidMetH Tryd.prog l W) : Tabs W := by
  rw [MakeChecks.laidMetH_plain _ _ _ hp] at h
  have h1 := laidMet.reads h m1
  have h2 := laidMet.reads h m2
  have h3 := laidMet.reads h m3
  refine ⟨namesAt_of_reads h3, ?_⟩
  have e1 : (Go.Pinned.utf8First : DataW Unit) = firstData := by kernel_rfl
  have e2 : (Rows.laid_unicode_utf8_acceptRanges : DataW Unit) = acceptData := by kernel_rfl
  rw [e1] at h1
  rw [e2] at h2
  exact utf8Tabs_of_reads Tryd.lays260 u8x h1 h2
theorem gPow : Tryd.prog.globalNamed "internal/strconv.uint64pow10" = some 3 := by kernel_rfl
theorem gPowType : (Tryd.prog.globals[3]?).map (·.type) = some 147 := by kernel_rfl
theorem cellsU64 : Tryd.prog.cellsOf 61 = 1 := by kernel_rfl
theorem cellsPow : Tryd.prog.cellsOf 147 = 20 := by kernel_rfl
theorem pow_of_reads {w : World} (h : VarReads Tryd.prog w "internal/strconv.uint64pow10" Rows.laid_internal_strconv_uint64pow10) : Pow w := by
  obtain ⟨g, t, cs, fuel, p, hg, hty, hvar, hd⟩ := h
  obtain rfl := Option.some.inj (gPow.symm.trans hg)
  obtain rfl := Option.some.inj (gPowType.symm.trans hty)
  have e : (Rows.laid_internal_strconv_uint64pow10 : DataW Unit) = Lib.tabData .u64 Lib.pow10Tab := by kernel_rfl
  rw [e] at hd
  unfold Pow Lib.TabIs
  rw [hvar, ← Lib.cells_of_tab Tryd.underlying147 Tryd.underlying61 cellsU64 cellsPow hd]
theorem pow_of_laid {W : World} {l : List (String × DataW Unit)} (hp : (l.all fun x => x.2.handleName?.isNone) = true) (m1 : ("internal/strconv.uint64pow10", (Rows.laid_internal_strconv_uint64pow10 : DataW Unit)) ∈ l) (h : laidMetH Tryd.prog l W) : Pow W := by
  rw [MakeChecks.laidMetH_plain _ _ _ hp] at h
  exact pow_of_reads (laidMet.reads h m1)
theorem tabs_of_row2 {W : World} (h : laidMetH Tryd.prog [("math/bits.deBruijn32tab", Rows.laid_math_bits_deBruijn32tab), ("math/bits.deBruijn64tab", Rows.laid_math_bits_deBruijn64tab), ("internal/strconv.uint64pow10", Rows.laid_internal_strconv_uint64pow10), ("unicode/utf8.acceptRanges", Rows.laid_unicode_utf8_acceptRanges), ("proctor/code.names", Rows.laid_proctor_code_names), ("unicode/utf8.first", Rows.laid_unicode_utf8_first)] W) : Tabs W ∧ Pow W :=
  ⟨tabs_of_laid (by kernel_rfl) (by simp [Rows.laid_unicode_utf8_first]) (by simp) (by simp) h, pow_of_laid (by kernel_rfl) (by simp) h⟩
theorem tabs_of_row {W : World} (h : laidMetH Tryd.prog [("unicode/utf8.acceptRanges", Rows.laid_unicode_utf8_acceptRanges), ("proctor/code.names", Rows.laid_proctor_code_names), ("unicode/utf8.first", Rows.laid_unicode_utf8_first)] W) : Tabs W :=
  tabs_of_laid (by kernel_rfl) (by simp [Rows.laid_unicode_utf8_first]) (by simp) (by simp) h
end Go.Proofs.YtanpbphgmnjdeaaDoor
