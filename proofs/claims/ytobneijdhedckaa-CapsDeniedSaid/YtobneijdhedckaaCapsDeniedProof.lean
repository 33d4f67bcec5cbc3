/- The law CapsDenied: the given statement, from its walk. No condition. -/
import Derived.Test.YtobneijdhedckaaCapsDenied
import Derived.Test.YtobneijdhedckaaFrame
namespace Go.Proofs.Ytobneijdhedckaa.capsDenied
open Go.ChangeShapes Go.WideShapes Go.ChangeAt Go.RowKit LawF
set_option linter.unusedVariables false
set_option maxRecDepth 100000 in
theorem lifted (os : Os) (started : os.Started) (H : Type) (enc : TypeId × Value → H) :
    ReturnsInHanded {} Try.checked os 8 .any (Rows.capsDeniedSpec.pre6 enc Try.prog Try.f8 Rows.capsDeniedRow.domain false) (Rows.capsDeniedSpec.post enc Try.prog Try.f8 false true false false) := by
  refine returnsInHanded_of_change (C := Try.checked) LawF.own started (by kernel_rfl) Try.func8
    (ChangeSpec.witness6 (enc := enc) (C := Try.checked) false ⟨#[], #[.string ⟨#[]⟩, .slice none 0 0], []⟩ 8 (by kernel_rfl) (by kernel_rfl) (by kernel_rfl) (by kernel_rfl)) ?_
  intro W base args ds gs before hval0 hW hcnd _
  have hval : ∀ (j : Nat) t v, Try.f8.params[j]? = some t → args[j]? = some v → Value.okWide Try.prog W .any base t v := hval0
  have hW' := hW
  obtain ⟨p, q, hA0, hV, rfl, hfz, hnd⟩ := hW
  have hA : DataW.TrodAll enc Try.prog W 0 (fun _ => true) true Try.f8.params.toList args.toList ds p := hA0
  rw [Try.params8] at hA hval
  obtain ⟨v0, vs0, d0, ds0, p0, q0, hargs, rfl, rfl, h0, r0⟩ := trodAll_cons hA
  obtain ⟨v1, vs1, d1, ds1, p1, q1, rfl, rfl, rfl, h1, r1⟩ := trodAll_cons r0
  obtain ⟨rfl, rfl, rfl⟩ := trodAll_nil r1
  obtain rfl : args = #[v0, v1] := by cases args; simp_all
  obtain ⟨rfl, rfl⟩ := trodVars_none hV
  obtain ⟨a0, rfl, w0, e0⟩ := arg_string Try.underlying9 (hval 0 _ v0 rfl rfl) h0
  obtain ⟨A1, n1, c1, rfl, l1, m1, w1⟩ := arg_ops (hval 1 _ v1 rfl rfl) h1
  clear hA0 hval0
  refine (denied_any a0 A1 n1 c1 W (Nat.le_trans l1 m1) w1).mono fun e W2 ⟨he, hb⟩ => ⟨_, he, ?_⟩
  exact LawF.law_post LawF.laidOut rfl rfl Try.underlying4 (LawF.all_readable (by kernel_rfl)) hW' rfl rfl rfl hb

theorem over : Rows.capsDeniedRow.holds Try.pinned (OpenSpec.ofChange Rows.capsDeniedSpec) :=
  OpenClaim.holds_of_wide 8 Try.f8 rfl rfl rfl rfl rfl rfl rfl ⟨rfl, rfl, rfl, rfl, rfl⟩ rfl rfl rfl rfl rfl (by kernel_rfl) Try.func8 (by kernel_rfl)
    (of_decide_eq_true (by kernel_rfl)) (by unfold Func.isWrapper; first | (rw [if_pos (by decide +kernel)]; kernel_rfl) | (rw [if_neg (by decide +kernel)]; exact ⟨rfl, rfl⟩))
    (fun os started H enc _ => lifted os started H enc)
theorem proved : Rows.CapsDeniedSaid :=
  over
end Go.Proofs.Ytobneijdhedckaa.capsDenied
