/- The law OuterDefines: the given card. No condition. -/
import Derived.Test.YteaijdgnagkllaaGreatDoorZdOuterDefinesSaid
import Derived.Test.YteaijdgnagkllaaGreatDoorZdOuterDefinesCell
namespace Go.Proofs.YteaijdgnagkllaaGreatDoor.outerDefines
open Go.ChangeShapes Go.WideShapes Go.ChangeAt Go.RowKit LawF
set_option linter.unusedVariables false
set_option linter.unusedSimpArgs false
theorem plain(looks:Bool)(hl:looks=Tryz.pinned.checked.prog.looks [])(f:FuncId)(fn:Func)(hf:Tryz.pinned.checked.prog.funcNamed "proctor/proctorlaw13.OuterDefines" = some f)(hfn:Tryz.pinned.checked.prog.funcs[f]? = some fn):
 looks=Tryz.pinned.checked.prog.looks []∧∀(j:Nat) t,fn.params[j]? = some t->Tryz.pinned.checked.prog.wantsStandIn t=false:=by
 obtain rfl:f=4:=Option.some.inj ((show Tryz.prog.funcNamed "proctor/proctorlaw13.OuterDefines" = some 4 by kernel_rfl).symm.trans hf) |>.symm
 obtain rfl:fn=Tryz.f4:=(Option.some.inj (Tryz.func4.symm.trans hfn)).symm
 refine⟨hl,λj t ht=> ?_⟩
 have hm:t∈Tryz.f4.params.toList:=by simpa using Array.mem_of_getElem? ht
 have hall: (Tryz.f4.params.toList.all λu=> !Tryz.prog.wantsStandIn u)=true:=by kernel_rfl
 exact(show Tryz.prog.wantsStandIn t=false by simpa using List.all_eq_true.1 hall t hm)
theorem proved:Rows.OuterDefinesCardSaid:=
 Claim7.holds_tied_plain_at .later [] _ _ _ _ said (λ_ h=>by cases h) textual (λ_ h=>by cases h) outerDefines_row_tie rfl ⟨rfl,rfl⟩ mains rfl (plain _ looked) goesNot
end Go.Proofs.YteaijdgnagkllaaGreatDoor.outerDefines
