/- The law OuterDefines: the given card, from its walk. No condition. -/
import Derived.Test.YteaijdgnagkllaaGreatDoorZd47
import Derived.Test.YteaijdgnagkllaaGreatDoorZdVTabsF
namespace Go.Proofs.YteaijdgnagkllaaGreatDoor.outerDefines
open Go.ChangeShapes Go.WideShapes Go.ChangeAt Go.RowKit LawF
set_option linter.unusedVariables false
set_option linter.unusedSimpArgs false
theorem laid_met(os:Os):laidMet Tryz.prog Rows.outerDefinesRow.laid ((World.laidAll Tryz.prog os Rows.outerDefinesRow.laid).forCall (λ_ _=>0) ⟨#[],#[.string ⟨#[]⟩,.int .i64 0,.int .i64 0],[]⟩).memory:=
 laidMet_laidAll _ (by kernel_rfl) (by kernel_rfl)
theorem reads(os:Os){H:Type}(enc:TypeId×Value->H): ∃places,DataW.whole enc Tryz.prog ((World.laidAll Tryz.prog os Rows.outerDefinesRow.laid).forCall (λ_ _=>0) ⟨#[],#[.string ⟨#[]⟩,.int .i64 0,.int .i64 0],[]⟩).memory Tryz.f4.params.toList Rows.outerDefinesSpec.vars false (#[.string ⟨#[]⟩,.int .i64 0,.int .i64 0]:Array Value).toList 8=some ([.lit (.string []),.lit (.int .i64 0),.lit (.int .i64 0)],[],places):=
 ⟨[],by kernel_rfl⟩
set_option maxRecDepth 100000 in
theorem lifted(os:Os)(started:os.Started)(H:Type)(enc:TypeId×Value->H)(F:Stop.Interp):
 ReturnsInHanded {} Tryz.checked os 4 .any ((OpenSpec.ofChange Rows.outerDefinesSpec).preRow enc Tryz.prog Tryz.f4 Rows.outerDefinesRow.domain false Rows.outerDefinesRow.laid) (((OpenSpec.ofChange Rows.outerDefinesSpec).at F).post enc Tryz.prog Tryz.f4 false true false false):=by
 obtain⟨places,hx⟩:=reads os enc
 refine returnsInHanded_of_row (C:=Tryz.checked) (s:=(OpenSpec.ofChange Rows.outerDefinesSpec)) LawF.own started (by kernel_rfl) Tryz.func4
  (witness_row_zip (enc:=enc) (C:=Tryz.checked) false (World.laidAll Tryz.prog os Rows.outerDefinesRow.laid) #[.string ⟨#[]⟩,.int .i64 0,.int .i64 0] (World.laidAll_os _ _ _) (by kernel_rfl) (by kernel_rfl) (by kernel_rfl)
   (OpenSpec.preRow_of_cond 8 hx (by kernel_rfl) (λk hk=>by cases hk) (by kernel_rfl) (by first|exact laid_met os| (rw[MakeChecks.laidMetH_plain _ _ _ (by kernel_rfl)];exact laid_met os)))) ?_
 intro W base args ds gs before hval0 hW _ hcond hsz hL _ _
 have hT:Pows W∧Bruijn W:=(vtabs_of_laid (by kernel_rfl) (.tail _ (.tail _ (.head _))) (.tail _ (.head _))) hL
 have hval: ∀(j:Nat) t v,Tryz.f4.params[j]? = some t->args[j]? = some v->Value.okWide Tryz.prog W .any base t v:=hval0
 have hW':=hW
 obtain⟨p,q,hA0,hV,rfl,hfz,hnd⟩:=hW
 have hA:DataW.TrodAll enc Tryz.prog W 0 (λ_=>true) true Tryz.f4.params.toList args.toList ds p:=hA0
 rw[Tryz.params4]at hA hval
 obtain⟨v0,vs0,d0,ds0,p0,q0,hargs,rfl,rfl,h0,r0⟩:=trodAll_cons hA
 obtain⟨v1,vs1,d1,ds1,p1,q1,rfl,rfl,rfl,h1,r1⟩:=trodAll_cons r0
 obtain⟨v2,vs2,d2,ds2,p2,q2,rfl,rfl,rfl,h2,r2⟩:=trodAll_cons r1
 obtain⟨rfl,rfl,rfl⟩:=trodAll_nil r2
 obtain rfl:args=#[v0,v1,v2]:=by cases args;simp_all
 obtain⟨rfl,rfl⟩:=trodVars_none hV
 obtain⟨a0,rfl,w0,e0⟩:=arg_string Tryz.underlying9 (hval 0 _ v0 rfl rfl) h0
 obtain⟨a1,rfl,w1⟩:=arg_int Tryz.underlying3 (hval 1 _ v1 rfl rfl) h1
 obtain⟨a2,rfl,w2⟩:=arg_int Tryz.underlying3 (hval 2 _ v2 rfl rfl) h2
 have hz0: ∀n∈d0.weights Tryz.prog 9,n<=reachBytes:=λn hn=>by simpa using List.all_eq_true.1 hsz n (DataW.weights_mem_each (j:=0) rfl rfl n hn)
 have hb0:a0.size<=140737488355327:=by have h:=hz0 a0.data.toList.length (by rw[e0];simp[DataW.weights]);rw[size_data]at h;unfold reachBytes at h;omega
 clear hA0 hval0
 refine(Vm.odef_any a0 a1 a2 hb0 (Vm.v64_of w1) (Vm.v64_of w2) W hT.1 hT.2).mono λe W2 ⟨he,hb⟩=>⟨_,he,?_⟩
 exact LawF.law_post LawF.laidOut rfl rfl Tryz.underlying4 (LawF.all_readable (by kernel_rfl)) hW' rfl rfl rfl hb
end Go.Proofs.YteaijdgnagkllaaGreatDoor.outerDefines
