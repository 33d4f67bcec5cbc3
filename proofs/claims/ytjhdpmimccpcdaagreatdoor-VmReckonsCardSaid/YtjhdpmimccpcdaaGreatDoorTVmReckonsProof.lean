/- The law VmReckons: the given card. No condition. -/
import Derived.Test.YtjhdpmimccpcdaaGreatDoorTVmReckonsSaid
import Derived.Test.YtjhdpmimccpcdaaGreatDoorTVmReckonsCell
namespace Go.Proofs.YtjhdpmimccpcdaaGreatDoor.vmReckons
open Go.ChangeShapes Go.WideShapes Go.ChangeAt Go.RowKit LawF
set_option linter.unusedVariables false
theorem plain (looks : Bool) (hl : looks = Tryz.pinned.checked.prog.looks []) (f : FuncId) (fn : Func) (hf : Tryz.pinned.checked.prog.funcNamed "proctor/proctorlaw11.VmReckons" = some f) (hfn : Tryz.pinned.checked.prog.funcs[f]? = some fn) :
    looks = Tryz.pinned.checked.prog.looks [] ∧ ∀ (j : Nat) t, fn.params[j]? = some t → Tryz.pinned.checked.prog.wantsStandIn t = false := by
  obtain rfl : f = 6 := Option.some.inj ((show Tryz.prog.funcNamed "proctor/proctorlaw11.VmReckons" = some 6 by kernel_rfl).symm.trans hf) |>.symm
  obtain rfl : fn = Tryz.f6 := (Option.some.inj (Tryz.func6.symm.trans hfn)).symm
  refine ⟨hl, fun j t ht => ?_⟩
  have hm : t ∈ Tryz.f6.params.toList := by simpa using Array.mem_of_getElem? ht
  have hall : (Tryz.f6.params.toList.all fun u => !Tryz.prog.wantsStandIn u) = true := by kernel_rfl
  exact (show Tryz.prog.wantsStandIn t = false by simpa using List.all_eq_true.1 hall t hm)
theorem proved : Rows.VmReckonsCardSaid :=
  Claim7.holds_tied_plain_at .later [] _ _ _ _ said (fun _ h => by cases h) textual (fun _ h => by cases h) vmReckons_row_tie rfl ⟨rfl, rfl⟩ mains rfl (plain _ looked) goesNot
end Go.Proofs.YtjhdpmimccpcdaaGreatDoor.vmReckons
