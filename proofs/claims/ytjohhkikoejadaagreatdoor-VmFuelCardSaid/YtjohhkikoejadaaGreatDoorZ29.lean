/- What the cards of chapter 11 want: the witness of a row over a pinned table. No condition. -/
import Derived.Test.YtjohhkikoejadaaGreatDoorZ13
import Derived.Test.YtjohhkikoejadaaGreatDoorZ25
import Derived.Test.YtjohhkikoejadaaGreatDoorCards
import Derived.Test.YtjohhkikoejadaaGreatDoorTie
import Derived.ProofKit
import Derived.OpenShut
import Derived.Deep.DeepHandedRow
import Derived.Lib.LaidTab
import Derived.Lib.LaidU8
import Derived.LaidMore
import Derived.Lay
import Derived.PinnedBridge
import Derived.SevenTiedAt
import Derived.Stop.Joined
import Derived.Test.YtjohhkikoejadaaGreatDoorZ10
namespace Go.Proofs.YtjohhkikoejadaaGreatDoor
set_option linter.unusedVariables false
open Go.RowKit Go.Lib
theorem Vm.v64_of{n:Int}(h:LawF.yC n) :Vm.V64 n:=by
 unfold LawF.yC at h
 unfold Vm.V64
 omega
theorem witness_row_zip{H:Type}{enc:TypeId×Value->H}{C:Checked}{os:Os}{f:FuncId}{fn:Func}{s:OpenSpec}{conds:List PathCond}{apart:Bool}{laid:List (String×DataW Unit)}(modest:Bool)(w0:World)(args:Array Value)(hos:w0.os=os)
 (hv: (w0.forCall (λ_ _=>0) ⟨#[],args,[]⟩).variablesZipB C.prog=true)
 (hr: ((w0.forCall (λ_ _=>0) ⟨#[],args,[]⟩).heap.toList.drop C.prog.globals.size).take ((begin C.prog (λ_ _=>0) default).world.heap.size-C.prog.globals.size) =
  (begin C.prog (λ_ _=>0) default).world.heap.toList.drop C.prog.globals.size)
 (hok:Input.okWideB C.prog (w0.forCall (λ_ _=>0) ⟨#[],args,[]⟩) f ⟨#[],args,[]⟩ =true)
 (hrow:s.preRow enc C.prog fn conds apart laid (w0.forCall (λ_ _=>0) ⟨#[],args,[]⟩).memory args) :
 ∃(w:World) (tape:Tape) (i:Input),w.os=os∧(w.forCall tape i).Shaped C.prog∧i.vars = []∧Input.okWide C.prog (w.forCall tape i) .any w.heap.size f i∧
  s.preRow enc C.prog fn conds apart laid (w.forCall tape i).memory i.args∧({ modest:=modest }:Assume).holds C.prog (lone (Frame.enter C.prog f i.args .normal) [] (w.forCall tape i)):=
 ⟨w0,λ_ _=>0,⟨#[],args,[]⟩,hos,World.shaped_of_ZipB hv hr,(Input.okWide_of_okWideB (base:=0) hok).1,(Input.okWide_of_okWideB hok).2,hrow,by
  simp only[Assume.holds]
  exact⟨by simp,by simp,λ_=>Modest.zero,by simp,by simp⟩⟩
theorem Nn:Tryz.prog.globalNamed "internal/strconv.uint64pow10" = some 4:=by kernel_rfl
theorem C1: (Tryz.prog.globals[4]?).map (·.type) =some 313:=by kernel_rfl
theorem Eb:Tryz.prog.cellsOf 178=1:=by kernel_rfl
theorem Dq:Tryz.prog.cellsOf 313=20:=by kernel_rfl
theorem xe: (Tryz.prog.globals[9]?).map (·.type) =some 343:=by kernel_rfl
theorem FQ:Tryz.prog.cellsOf 5=1:=by kernel_rfl
theorem wR:Tryz.prog.cellsOf 343=64:=by kernel_rfl
theorem sE{w:World}(h:VarReads Tryz.prog w "internal/strconv.uint64pow10" Rows.laid_internal_strconv_uint64pow10) :Pows w:=by
 obtain⟨g,t,cs,fuel,p,hg,hty,hvar,hd⟩:=h
 obtain rfl:=Option.some.inj (Nn.symm.trans hg)
 obtain rfl:=Option.some.inj (C1.symm.trans hty)
 have e: (Rows.laid_internal_strconv_uint64pow10:DataW Unit) =Lib.tabData .u64 Lib.pow10Tab:=by kernel_rfl
 rw[e]at hd
 unfold Pows Lib.TabIs
 rw[hvar,<-Lib.cells_of_tab Tryz.underlying313 Tryz.underlying178 Eb Dq hd]
theorem pz{w:World}(h:VarReads Tryz.prog w "math/bits.deBruijn64tab" Rows.laid_math_bits_deBruijn64tab) :Bruijn w:=by
 obtain⟨g,t,cs,fuel,p,hg,hty,hvar,hd⟩:=h
 obtain rfl:=Option.some.inj (Cs.symm.trans hg)
 obtain rfl:=Option.some.inj (xe.symm.trans hty)
 have e: (Rows.laid_math_bits_deBruijn64tab:DataW Unit) =Lib.tabData .u8 oP:=by kernel_rfl
 rw[e]at hd
 unfold Bruijn Lib.TabIs
 rw[hvar,<-Lib.cells_of_tab Tryz.underlying343 Tryz.underlying5 FQ wR hd]
theorem vtabs_of_laid{W:World}{l:List (String×DataW Unit)}(hp: (l.all λx=>x.2.handleName?.isNone) =true)(m1: ("internal/strconv.uint64pow10",(Rows.laid_internal_strconv_uint64pow10:DataW Unit))∈l)(m2: ("math/bits.deBruijn64tab",(Rows.laid_math_bits_deBruijn64tab:DataW Unit))∈l)
 (h:laidMetH Tryz.prog l W) :Pows W∧Bruijn W:=by
 rw[MakeChecks.laidMetH_plain _ _ _ hp]at h
 exact⟨sE (laidMet.reads h m1),pz (laidMet.reads h m2)⟩
end Go.Proofs.YtjohhkikoejadaaGreatDoor
