/- What the cards of chapter 11 want. No condition. -/
import Derived.Test.YtilaogbkdbbdkaaGreatDoorZ13
import Derived.Test.YtilaogbkdbbdkaaGreatDoorCards
import Derived.Test.YtilaogbkdbbdkaaGreatDoorTie
import Derived.Deep.DeepHandedRow
import Derived.LaidMore
import Derived.Lay
import Derived.PinnedBridge
import Derived.Test.YtilaogbkdbbdkaaGreatDoorZ10
open Go.Proofs.Tryz
namespace Go.Proofs.YtilaogbkdbbdkaaGreatDoor
set_option linter.unusedVariables false
open Go.RowKit Go.Lib
theorem Vm.v64_of{n:Int}(h:LawF.yI n):Vm.V64 n:=by
 unfold LawF.yI at h
 unfold Vm.V64
 omega
theorem witness_row_zip{H:Type}{enc:TypeId×Value->H}{C:Checked}{os:Os}{f:FuncId}{fn:Func}{s:OpenSpec}{conds:List PathCond}{apart:Bool}{laid:List (String×DataW Unit)}(modest:Bool)(w0:World)(args:Array Value)(hos:w0.os=os)
 (hv: (w0.forCall (λ_ _=>0) ⟨#[],args,[]⟩).variablesZipB C.prog=true)
 (hr: ((w0.forCall (λ_ _=>0) ⟨#[],args,[]⟩).heap.toList.drop C.prog.globals.size).take ((begin C.prog (λ_ _=>0) default).world.heap.size-C.prog.globals.size)=
  (begin C.prog (λ_ _=>0) default).world.heap.toList.drop C.prog.globals.size)
 (Rv:Input.okWideB C.prog (w0.forCall (λ_ _=>0) ⟨#[],args,[]⟩) f ⟨#[],args,[]⟩=true)
 (An:s.preRow enc C.prog fn conds apart laid (w0.forCall (λ_ _=>0) ⟨#[],args,[]⟩).memory args):
 ∃(w:World) (tape:Tape) (i:Input),w.os=os∧(w.forCall tape i).Shaped C.prog∧i.vars = []∧Input.okWide C.prog (w.forCall tape i) .any w.heap.size f i∧
  s.preRow enc C.prog fn conds apart laid (w.forCall tape i).memory i.args∧({ modest:=modest }:Assume).holds C.prog (lone (Frame.enter C.prog f i.args .normal) [] (w.forCall tape i)):=
 ⟨w0,λ_ _=>0,⟨#[],args,[]⟩,hos,World.shaped_of_ZipB hv hr,(Input.okWide_of_okWideB (base:=0) Rv).1,(Input.okWide_of_okWideB Rv).2,An,by
  simp only[Assume.holds]
  exact⟨by simp,by simp,λ_=>Modest.zero,by simp,by simp⟩⟩
theorem PU:prog.globalNamed "internal/strconv.uint64pow10" = some 4:=by kernel_rfl
theorem EH: (prog.globals[4]?).map (·.type)=some 359:=by kernel_rfl
theorem D4:prog.cellsOf 209=1:=by kernel_rfl
theorem Fw:prog.cellsOf 359=20:=by kernel_rfl
theorem xB: (prog.globals[9]?).map (·.type)=some 392:=by kernel_rfl
theorem Hx:prog.cellsOf 5=1:=by kernel_rfl
theorem zk:prog.cellsOf 392=64:=by kernel_rfl
theorem tt{w:World}(h:VarReads prog w "internal/strconv.uint64pow10" Rows.laid_internal_strconv_uint64pow10):Pows w:=by
 obtain⟨g,t,cs,aZ,p,hg,hty,hdT,hd⟩:=h
 obtain rfl:=Option.some.inj (PU.symm.trans hg)
 obtain rfl:=Option.some.inj (EH.symm.trans hty)
 have e: (Rows.laid_internal_strconv_uint64pow10:DataW Unit)=Lib.tabData .u64 Lib.pow10Tab:=by kernel_rfl
 rw[e]at hd
 unfold Pows Lib.TabIs
 rw[hdT,<-Lib.cells_of_tab underlying359 underlying209 D4 Fw hd]
theorem ql{w:World}(h:VarReads prog w "math/bits.deBruijn64tab" Rows.laid_math_bits_deBruijn64tab):Bruijn w:=by
 obtain⟨g,t,cs,aZ,p,hg,hty,hdT,hd⟩:=h
 obtain rfl:=Option.some.inj (Cz.symm.trans hg)
 obtain rfl:=Option.some.inj (xB.symm.trans hty)
 have e: (Rows.laid_math_bits_deBruijn64tab:DataW Unit)=Lib.tabData .u8 qd:=by kernel_rfl
 rw[e]at hd
 unfold Bruijn Lib.TabIs
 rw[hdT,<-Lib.cells_of_tab underlying392 underlying5 Hx zk hd]
theorem vtabs_of_laid{W:World}{l:List (String×DataW Unit)}(hp: (l.all λx=>x.2.handleName?.isNone)=true)(m1: ("internal/strconv.uint64pow10",(Rows.laid_internal_strconv_uint64pow10:DataW Unit))∈l)(m2: ("math/bits.deBruijn64tab",(Rows.laid_math_bits_deBruijn64tab:DataW Unit))∈l)
 (h:laidMetH prog l W):Pows W∧Bruijn W:=by
 rw[MakeChecks.laidMetH_plain _ _ _ hp]at h
 exact⟨tt (laidMet.reads h m1),ql (laidMet.reads h m2)⟩
