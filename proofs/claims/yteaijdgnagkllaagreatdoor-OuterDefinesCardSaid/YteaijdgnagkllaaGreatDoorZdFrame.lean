/- The frame of a law's proof: arguments opened, and what a walk owes in the end. No condition. -/
import Derived.Test.YteaijdgnagkllaaGreatDoorZd03
import Derived.ProofKit
import Derived.OpenShut
import Derived.Deep.Fields
namespace Go.Proofs.YteaijdgnagkllaaGreatDoor.LawF
set_option linter.unusedVariables false
set_option linter.unusedSimpArgs false
open Go.ChangeShapes Go.WideShapes Go.ChangeAt Go.RowKit Go.Deep
open Go.WideMaps Go.WideElems
open Go.ChangeMaps (open_string)
theorem own:ownKnob Tryz.prog.godebug=none:=by kernel_rfl
theorem laidOut:laidOutB Tryz.prog=true:=by kernel_rfl
section
variable {H:Type}{enc:TypeId×Value->H}{P:Program}{w:World}
theorem trodAll_below(hl:laidOutB P=true){W W':World}(hb:Below W.heap.size W W'): ∀(ts:List TypeId) (vs:List Value) (ds:List (DataW H)) (ps:List MemPlace),(∀t∈ts,P.readableRec t=true∧t<P.types.size)->
 DataW.TrodAll enc P W 0 (λ_=>true) true ts vs ds ps->(∀x∈ps,x.block<W.heap.size)->DataW.TrodAll enc P W' 0 (λb=>decide (b<W.heap.size)) true ts vs ds ps
 | [],[],[],_,_,h,_=>h
 | t::ts,v::vs,d::ds,ps,hr,h,hlt=>by
   obtain⟨p,q,h1,h2,rfl⟩:=h
   exact⟨p,q,Below.trod hl (hr t (by simp)).1 (hr t (by simp)).2 h1 hb (λx hx=>hlt x (by simp[hx])),trodAll_below hl hb ts vs ds q (λt ht=>hr t (by simp[ht])) h2 (λx hx=>hlt x (by simp[hx])),rfl⟩
 | [],_::_,_,_,_,h,_=>h.elim
 | [],[],_::_,_,_,h,_=>h.elim
 | _::_,[],_,_,_,h,_=>h.elim
 | _::_,_::_,[],_,_,h,_=>h.elim
theorem law_post(hl:laidOutB P=true){f:Func}{s:ChangeSpec}{tb:TypeId}(hv:s.vars = [])(hres:f.resultTypes=#[tb])(hb:P.underlying tb=some .bool)(hr: ∀t∈f.params.toList,P.readableRec t=true∧t<P.types.size)
 {W W':World} {args:Array Value} {ds gs:List (DataW H)} {before:List MemPlace} (hW:DataW.Whole enc P f.params.toList s.vars false W args.toList ds gs before)
 (h1: (s.fn H (ds++gs)).results = [.lit (.bool true)]) (h2: (s.fn H (ds++gs)).args=ds) (h3: (s.fn H (ds++gs)).vars = []) (hbl:Below W.heap.size W W'):
 s.post enc P f false true false false W args (.bool true) W':=by
 obtain⟨p,q,hA,hV,hpq,hfz,hnd⟩:=hW
 have hlt: ∀x∈p,x.block<W.heap.size:=λx hx=>DataW.Whole.lt (enc:=enc) (P:=P) (vars:=s.vars) (apart:=false) ⟨p,q,hA,hV,rfl,hpq▸hfz,λh=>by cases h⟩ x (by simp[hx])
 refine⟨ds,gs,before,[],p,[],⟨p,q,hA,hV,hpq,hfz,hnd⟩,?_,?_,?_,hbl.frame _,λh=>by cases h⟩
 ·rw[h1,hres]
  exact trodAll_mk1 (shut_bool hb true)
 ·rw[h2]
  exact trodAll_below hl hbl _ _ _ _ hr hA hlt
 ·rw[hv,h3]
  rfl
theorem all_readable{P:Program}{l:List TypeId}(h: (l.all λt=>P.readableRec t&&decide (t<P.types.size))=true): ∀t∈l,P.readableRec t=true∧t<P.types.size:=by
 intro t ht
 have:=List.all_eq_true.1 h t ht
 simpa using this
def i64ok(n:Int):Prop:= -9223372036854775808<=n∧n<=9223372036854775807
theorem i64ok_of{n:Int}(h: (Lit.int .i64 n).wf=true):i64ok n:=by
 simpa [i64ok,Lit.wf,IntKind.min,IntKind.max,IntKind.signed,IntKind.bits]using h
theorem arg_int{base:Nat}{t:TypeId}{v:Value}{d:DataW H}{ps:List MemPlace}(ht:P.underlying t=some (.int .i64))(hval:Value.okWide P w .any base t v)(hd:DataW.Trod enc P w 0 (λ_=>true) true t v d ps):
 ∃n,v = .int .i64 n∧i64ok n:=by
 obtain⟨n,rfl,_,_,hn⟩:=open_int ht hval hd
 exact⟨n,rfl,i64ok_of hn⟩
theorem arg_string{base:Nat}{t:TypeId}{v:Value}{d:DataW H}{ps:List MemPlace}(ht:P.underlying t=some .string)(hval:Value.okWide P w .any base t v)(hd:DataW.Trod enc P w 0 (λ_=>true) true t v d ps):
 ∃s:ByteArray,v = .string s∧s.size<=maxLen∧d = .lit (.string s.data.toList):=by
 obtain⟨s,rfl,hd',_,hs⟩:=open_string ht hval hd
 exact⟨s,rfl,hs,hd'⟩
end
end Go.Proofs.YteaijdgnagkllaaGreatDoor.LawF
