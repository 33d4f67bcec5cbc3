/- The law LookComposes: the given card, from its walk. No condition. -/
import Derived.Test.YthejfkkmcbdlhaaGreatDoorQLookLw3
import Derived.Test.YthejfkkmcbdlhaaGreatDoorQTabs
namespace Go.Proofs.YthejfkkmcbdlhaaGreatDoor.lookComposes
open Go.ChangeShapes Go.WideShapes Go.ChangeAt Go.RowKit LawF
set_option linter.unusedVariables false
theorem laid_met (os : Os) : laidMet Tryz.prog Rows.lookComposesRow.laid ((World.laidAll Tryz.prog os Rows.lookComposesRow.laid).forCall (fun _ _ => 0) ⟨#[], #[.string ⟨#[]⟩, .string ⟨#[]⟩], []⟩).memory :=
  laidMet_laidAll _ (by kernel_rfl) (by kernel_rfl)
theorem reads (os : Os) {H : Type} (enc : TypeId × Value → H) : ∃ places, DataW.whole enc Tryz.prog ((World.laidAll Tryz.prog os Rows.lookComposesRow.laid).forCall (fun _ _ => 0) ⟨#[], #[.string ⟨#[]⟩, .string ⟨#[]⟩], []⟩).memory Tryz.f6.params.toList Rows.lookComposesSpec.vars false (#[.string ⟨#[]⟩, .string ⟨#[]⟩] : Array Value).toList 8 = some ([.lit (.string []), .lit (.string [])], [], places) :=
  ⟨[], by kernel_rfl⟩
set_option maxRecDepth 100000 in
theorem lifted (os : Os) (started : os.Started) (H : Type) (enc : TypeId × Value → H) (F : Stop.Interp) :
    ReturnsInHanded {} Tryz.checked os 6 .any ((OpenSpec.ofChange Rows.lookComposesSpec).preRow enc Tryz.prog Tryz.f6 Rows.lookComposesRow.domain false Rows.lookComposesRow.laid) (((OpenSpec.ofChange Rows.lookComposesSpec).at F).post enc Tryz.prog Tryz.f6 false true false false) := by
  obtain ⟨places, hx⟩ := reads os enc
  refine returnsInHanded_of_row (C := Tryz.checked) (s := (OpenSpec.ofChange Rows.lookComposesSpec)) LawF.own started (by kernel_rfl) Tryz.func6
    (witness_row_zip (enc := enc) (C := Tryz.checked) false (World.laidAll Tryz.prog os Rows.lookComposesRow.laid) #[.string ⟨#[]⟩, .string ⟨#[]⟩] (World.laidAll_os _ _ _) (by kernel_rfl) (by kernel_rfl) (by kernel_rfl)
      (OpenSpec.preRow_of_cond 8 hx (by kernel_rfl) (fun k hk => by cases hk) (by kernel_rfl) (by first | exact laid_met os | (rw [MakeChecks.laidMetH_plain _ _ _ (by kernel_rfl)]; exact laid_met os)))) ?_
  intro W base args ds gs before hval0 hW _ hcond hsz hL _ _
  have hT : Look.Ground W := ground_of_row hL
  have hval : ∀ (j : Nat) t v, Tryz.f6.params[j]? = some t → args[j]? = some v → Value.okWide Tryz.prog W .any base t v := hval0
  have hW' := hW
  obtain ⟨p, q, hA0, hV, rfl, hfz, hnd⟩ := hW
  have hA : DataW.TrodAll enc Tryz.prog W 0 (fun _ => true) true Tryz.f6.params.toList args.toList ds p := hA0
  rw [Tryz.params6] at hA hval
  obtain ⟨v0, vs0, d0, ds0, p0, q0, hargs, rfl, rfl, h0, r0⟩ := trodAll_cons hA
  obtain ⟨v1, vs1, d1, ds1, p1, q1, rfl, rfl, rfl, h1, r1⟩ := trodAll_cons r0
  obtain ⟨rfl, rfl, rfl⟩ := trodAll_nil r1
  obtain rfl : args = #[v0, v1] := by cases args; simp_all
  obtain ⟨rfl, rfl⟩ := trodVars_none hV
  obtain ⟨a0, rfl, w0, e0⟩ := arg_string Tryz.underlying9 (hval 0 _ v0 rfl rfl) h0
  obtain ⟨a1, rfl, w1, e1⟩ := arg_string Tryz.underlying9 (hval 1 _ v1 rfl rfl) h1
  have hz0 : ∀ n ∈ d0.weights Tryz.prog 9, n ≤ reachBytes := fun n hn => by simpa using List.all_eq_true.1 hsz n (DataW.weights_mem_each (j := 0) rfl rfl n hn)
  have hb0 : a0.size ≤ 140737488355327 := by have h := hz0 a0.data.toList.length (by rw [e0]; simp [DataW.weights]); rw [size_data] at h; unfold reachBytes at h; omega
  have hz1 : ∀ n ∈ d1.weights Tryz.prog 9, n ≤ reachBytes := fun n hn => by simpa using List.all_eq_true.1 hsz n (DataW.weights_mem_each (j := 1) rfl rfl n hn)
  have hb1 : a1.size ≤ 140737488355327 := by have h := hz1 a1.data.toList.length (by rw [e1]; simp [DataW.weights]); rw [size_data] at h; unfold reachBytes at h; omega
  clear hA0 hval0
  refine (Look.composes_any a0 a1 hb0 hb1 W hT).mono fun e W2 ⟨he, hb⟩ => ⟨_, he, ?_⟩
  exact LawF.law_post LawF.laidOut rfl rfl Tryz.underlying4 (LawF.all_readable (by kernel_rfl)) hW' rfl rfl rfl hb

theorem said : Rows.LookComposesSaid :=
  OpenClaim.holds_of_cond 6 Tryz.f6 rfl rfl rfl rfl rfl rfl rfl ⟨rfl, rfl, rfl, rfl, rfl⟩ rfl rfl rfl rfl rfl (by kernel_rfl) Tryz.func6 (by kernel_rfl)
    (of_decide_eq_true (by kernel_rfl)) (by unfold Func.isWrapper; first | (rw [if_pos (by decide +kernel)]; kernel_rfl) | (rw [if_neg (by decide +kernel)]; exact ⟨rfl, rfl⟩))
    (fun os started H enc _ F => by rw [OpenClaim.pre_eq_preRow]; exact lifted os started H enc F)
theorem plain (looks : Bool) (hl : looks = Tryz.pinned.checked.prog.looks []) (f : FuncId) (fn : Func) (hf : Tryz.pinned.checked.prog.funcNamed "proctor/proctorlaw19.LookComposes" = some f) (hfn : Tryz.pinned.checked.prog.funcs[f]? = some fn) :
    looks = Tryz.pinned.checked.prog.looks [] ∧ ∀ (j : Nat) t, fn.params[j]? = some t → Tryz.pinned.checked.prog.wantsStandIn t = false := by
  obtain rfl : f = 6 := Option.some.inj ((show Tryz.prog.funcNamed "proctor/proctorlaw19.LookComposes" = some 6 by kernel_rfl).symm.trans hf) |>.symm
  obtain rfl : fn = Tryz.f6 := (Option.some.inj (Tryz.func6.symm.trans hfn)).symm
  refine ⟨hl, fun j t ht => ?_⟩
  have hm : t ∈ Tryz.f6.params.toList := by simpa using Array.mem_of_getElem? ht
  have hall : (Tryz.f6.params.toList.all fun u => !Tryz.prog.wantsStandIn u) = true := by kernel_rfl
  exact (show Tryz.prog.wantsStandIn t = false by simpa using List.all_eq_true.1 hall t hm)
theorem proved : Rows.LookComposesCardSaid :=
  Claim7.holds_tied_plain_at .later [] _ _ _ _ said (fun _ h => by cases h) (by kernel_rfl) (fun _ h => by cases h) lookComposes_row_tie rfl ⟨rfl, rfl⟩ (by kernel_rfl) rfl (plain _ (by kernel_rfl)) (by kernel_rfl)
end Go.Proofs.YthejfkkmcbdlhaaGreatDoor.lookComposes
