/- What the cards of chapter 11 want of the library's tables: they lie as their initialisers lay them. No condition. -/
import Derived.Test.YteaijdgnagkllaaGreatDoorZd37
import Derived.Test.YteaijdgnagkllaaGreatDoorZd12
open Go.Proofs.Tryz
namespace Go.Proofs.YteaijdgnagkllaaGreatDoor
set_option linter.unusedVariables false
set_option linter.unusedSimpArgs false
open Go.RowKit Go.Lib
theorem gPows:prog.globalNamed "internal/strconv.uint64pow10" = some 1:=by kernel_rfl
theorem gPowsType: (prog.globals[1]?).map (·.type)=some 267:=by kernel_rfl
theorem cellsU64':prog.cellsOf 204=1:=by kernel_rfl
theorem cellsPows:prog.cellsOf 267=20:=by kernel_rfl
theorem gBruijnType: (prog.globals[6]?).map (·.type)=some 320:=by kernel_rfl
theorem cellsU8':prog.cellsOf 5=1:=by kernel_rfl
theorem cellsBruijn:prog.cellsOf 320=64:=by kernel_rfl
theorem pows_of_reads{w:World}(h:VarReads prog w "internal/strconv.uint64pow10" Rows.laid_internal_strconv_uint64pow10):Pows w:=by
 obtain⟨g,t,cs,fuel,p,hg,hty,hvar,hd⟩:=h
 obtain rfl:=Option.some.inj (gPows.symm.trans hg)
 obtain rfl:=Option.some.inj (gPowsType.symm.trans hty)
 have e: (Rows.laid_internal_strconv_uint64pow10:DataW Unit)=Lib.tabData .u64 Lib.pow10Tab:=by kernel_rfl
 rw[e]at hd
 unfold Pows Lib.TabIs
 rw[hvar,<-Lib.cells_of_tab underlying267 underlying204 cellsU64' cellsPows hd]
theorem bruijn_of_reads{w:World}(h:VarReads prog w "math/bits.deBruijn64tab" Rows.laid_math_bits_deBruijn64tab):Bruijn w:=by
 obtain⟨g,t,cs,fuel,p,hg,hty,hvar,hd⟩:=h
 obtain rfl:=Option.some.inj (gBruijn.symm.trans hg)
 obtain rfl:=Option.some.inj (gBruijnType.symm.trans hty)
 have e: (Rows.laid_math_bits_deBruijn64tab:DataW Unit)=Lib.tabData .u8 dbTab:=by kernel_rfl
 rw[e]at hd
 unfold Bruijn Lib.TabIs
 rw[hvar,<-Lib.cells_of_tab underlying320 underlying5 cellsU8' cellsBruijn hd]
theorem vtabs_of_laid{W:World}{l:List (String×DataW Unit)}(hp: (l.all λx=>x.2.handleName?.isNone)=true)(m1: ("internal/strconv.uint64pow10",(Rows.laid_internal_strconv_uint64pow10:DataW Unit))∈l)(m2: ("math/bits.deBruijn64tab",(Rows.laid_math_bits_deBruijn64tab:DataW Unit))∈l)
 (h:laidMetH prog l W):Pows W∧Bruijn W:=by
 rw[MakeChecks.laidMetH_plain _ _ _ hp]at h
 exact⟨pows_of_reads (laidMet.reads h m1),bruijn_of_reads (laidMet.reads h m2)⟩
end Go.Proofs.YteaijdgnagkllaaGreatDoor
