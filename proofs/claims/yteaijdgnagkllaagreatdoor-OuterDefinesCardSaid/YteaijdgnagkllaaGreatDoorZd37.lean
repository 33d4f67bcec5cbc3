/- What the cards of chapter 11 want: the witness of a row over a pinned table. No condition. -/
import Derived.Test.YteaijdgnagkllaaGreatDoorZd16
import Derived.Test.YteaijdgnagkllaaGreatDoorZdFrame
import Derived.Test.YteaijdgnagkllaaGreatDoorCards
import Derived.Test.YteaijdgnagkllaaGreatDoorTie
import Derived.Deep.DeepHandedRow
import Derived.LaidMore
import Derived.Lay
import Derived.PinnedBridge
namespace Go.Proofs.YteaijdgnagkllaaGreatDoor
set_option linter.unusedVariables false
set_option linter.unusedSimpArgs false
open Go.RowKit Go.Lib
theorem Vm.v64_of{n:Int}(h:LawF.i64ok n):Vm.V64 n:=by
 unfold LawF.i64ok at h
 unfold Vm.V64
 omega
theorem witness_row_zip{H:Type}{enc:TypeId×Value->H}{C:Checked}{os:Os}{f:FuncId}{fn:Func}{s:OpenSpec}{conds:List PathCond}{apart:Bool}{laid:List (String×DataW Unit)}(modest:Bool)(w0:World)(args:Array Value)(hos:w0.os=os)
 (hv: (w0.forCall (λ_ _=>0) ⟨#[],args,[]⟩).variablesZipB C.prog=true)
 (hr: ((w0.forCall (λ_ _=>0) ⟨#[],args,[]⟩).heap.toList.drop C.prog.globals.size).take ((begin C.prog (λ_ _=>0) default).world.heap.size-C.prog.globals.size)=
  (begin C.prog (λ_ _=>0) default).world.heap.toList.drop C.prog.globals.size)
 (hok:Input.okWideB C.prog (w0.forCall (λ_ _=>0) ⟨#[],args,[]⟩) f ⟨#[],args,[]⟩=true)
 (hrow:s.preRow enc C.prog fn conds apart laid (w0.forCall (λ_ _=>0) ⟨#[],args,[]⟩).memory args):
 ∃(w:World) (tape:Tape) (i:Input),w.os=os∧(w.forCall tape i).Shaped C.prog∧i.vars = []∧Input.okWide C.prog (w.forCall tape i) .any w.heap.size f i∧
  s.preRow enc C.prog fn conds apart laid (w.forCall tape i).memory i.args∧({ modest:=modest }:Assume).holds C.prog (lone (Frame.enter C.prog f i.args .normal) [] (w.forCall tape i)):=
 ⟨w0,λ_ _=>0,⟨#[],args,[]⟩,hos,World.shaped_of_ZipB hv hr,(Input.okWide_of_okWideB (base:=0) hok).1,(Input.okWide_of_okWideB hok).2,hrow,by
  simp only[Assume.holds]
  exact⟨by simp,by simp,λ_=>Modest.zero,by simp,by simp⟩⟩
set_option maxRecDepth 100000
open Go.RowKit Go.Lib Go.Deep
namespace Img
variable (S:Img)
def moveF(m a b n:Int):Int:=if n<0 then 19 else if S.rowOk m a n.toNat false=true∧S.rowOk m b n.toNat true=true then 0 else 5
def move(m a b n:Int):Img:=if S.moveF m a b n=0 then S.put b.toNat (S.bytes a n.toNat)else S
def fillF(m a n:Int):Int:=if n<0 then 19 else if S.rowOk m a n.toNat true=true then 0 else 5
def fill(m a n:Int)(c:UInt8):Img:=if S.fillF m a n=0 then S.put a.toNat (List.replicate n.toNat c)else S
end Img
namespace Vm
section
variable {w:World}{F:Nat->Prop}{g:Nat}{S:Img}
end
end Vm
end Go.Proofs.YteaijdgnagkllaaGreatDoor
