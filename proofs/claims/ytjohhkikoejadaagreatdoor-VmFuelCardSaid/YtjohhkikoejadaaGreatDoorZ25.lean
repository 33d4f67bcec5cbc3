/- Maps as objects: what each key holds, in plain words. Plain lemmas over the kit's World.ownsMap. -/
import Derived.Test.YtjohhkikoejadaaGreatDoorOm
import Derived.Test.YtjohhkikoejadaaGreatDoorZ03
import Derived.Maps.OwnSet
import Derived.Maps.Ext
import Derived.Deep.Quiet
import Derived.ProofKit
import Derived.OpenShut
import Derived.JoinedCond
import Derived.SliceStrings
import Derived.SizedLaws
import Derived.Deep.Slices
import Derived.Deep.Fields
namespace Go.Proofs.YtjohhkikoejadaaGreatDoor
set_option linter.unusedVariables false
open Go.RowKit Go.Lib
open Go.Maps (Keyed)
namespace Vm
abbrev Dt:=DataW Unit
def Reads(D:Dt)(f:Lit->Option Dt) :Prop:= ∀kl,Maps.has D kl= (f kl).isSome∧∀d,f kl=some d->∀z,D.atKey kl z=d
structure Upd(f f':Lit->Option Dt)(k:Lit)(d:Dt) :Prop where
 here:f' k=some d
 far : ∀k',k'≠k->f' k'=f k'
theorem Reads.none_:Reads (.map []) (λ_=>none):=λkl=>⟨rfl,λ_ h=>by cases h⟩
theorem Reads.put{D:Dt}{f f':Lit->Option Dt}(h:Reads D f)(hD:Maps.IsMap D){k:Lit}(hk:WideAt.IsKeyLit k){d:Dt}(hu:Upd f f' k d) :Reads (D.put k d) f':=by
 intro kl
 by_cases he:kl=k
 ·subst he
  rw[hu.here]
  exact⟨Maps.has_put_same hD hk d,λd' hd' z=>by cases hd';exact Maps.atKey_put_same hD hk d z⟩
 ·rw[hu.far kl he,Maps.has_put_other he]
  exact⟨(h kl).1,λd' hd' z=>by rw[Maps.atKey_put_other he];exact(h kl).2 d' hd' z⟩
theorem Reads.at_{D:Dt}{f:Lit->Option Dt}(h:Reads D f)(k:Lit)(z:Dt) :D.atKey k z= (f k).getD z:=by
 rcases hf:f k with _|d
 ·exact Maps.atKey_of_not_has (by rw[(h k).1,hf];rfl) z
 ·exact(h k).2 d hf z
def fX(K:TypeId)(R:Value->Option (Dt×List MemPlace))(b n:Nat)(f:Lit->Option Dt) :Asr where
 holds w F:=(∃D,w.ownsMap Tryz.prog K R b n D∧Reads D f)∧∀k,F k↔k=b
 lt h hk:=by have:=(h.2 _).1 hk;subst this;obtain⟨⟨D,h1,_⟩,_⟩:=h;exact h1.lt
 kept h hk hT:=by
  obtain⟨⟨D,h1,h2⟩,hF⟩:=h
  refine⟨⟨D,?_,h2⟩,hF⟩
  have hb:=hk.block _ h1.lt (hT _ ((hF _).2 rfl))
  obtain⟨es,clock,h3,r⟩:=h1
  exact⟨es,clock,hb.trans h3,r⟩
theorem fX.look{w:World}{F:Nat->Prop}{K t e:TypeId}{R:Value->Option (Dt×List MemPlace)}{b n:Nat}{f:Lit->Option Dt}(h: (fX K R b n f).holds w F)(Kd:Keyed Tryz.prog K)(ht:Tryz.prog.underlying t=some (.map K e)){z:Value}(hz: (zeroValue e).run Tryz.prog w = .ok z w){zd:Dt}{zp:List MemPlace}(hzd:R z=some (zd,zp))
 {key:Value} {kl:Lit} (hkey:keyOf Tryz.prog K key=some kl) : ∃v ps,(Instr.lookup t (.map (some b)) key true).run Tryz.prog w = .ok (.tuple #[v,.bool (f kl).isSome]) w∧R v=some ((f kl).getD zd,ps):=by
 obtain⟨⟨D,h1,h2⟩,_⟩:=h
 obtain⟨v,ps,h3,h4⟩:=h1.look_ok Kd ht hz hzd hkey
 rw[(h2 kl).1]at h3
 rw[h2.at_]at h4
 exact⟨v,ps,h3,h4⟩
theorem fX.N7{w:World}{F:Nat->Prop}{K t e:TypeId}{R:Value->Option (Dt×List MemPlace)}{b n:Nat}{f:Lit->Option Dt}(h: (fX K R b n f).holds w F)(Kd:Keyed Tryz.prog K)(ht:Tryz.prog.underlying t=some (.map K e)){z:Value}(hz: (zeroValue e).run Tryz.prog w = .ok z w){zd:Dt}{zp:List MemPlace}(hzd:R z=some (zd,zp))
 {key:Value} {kl:Lit} (hkey:keyOf Tryz.prog K key=some kl) : ∃v ps,(Instr.lookup t (.map (some b)) key false).run Tryz.prog w = .ok v w∧R v=some ((f kl).getD zd,ps):=by
 obtain⟨⟨D,h1,h2⟩,_⟩:=h
 obtain⟨v,ps,h3,h4⟩:=h1.lookup Kd ht hz hzd hkey
 rw[h2.at_]at h4
 exact⟨v,ps,h3,h4⟩
theorem fX.store{w:World}{F:Nat->Prop}{K t e:TypeId}{R:Value->Option (Dt×List MemPlace)}{b n:Nat}{f:Lit->Option Dt}(h: (fX K R b n f).holds w F)(Kd:Keyed Tryz.prog K)(ht:Tryz.prog.underlying t=some (.map K e))(hn:n<maxLen){key val:Value}{kl:Lit}{d:Dt}{ps:List MemPlace}
 (hkey:keyOf Tryz.prog K key=some kl) (hv:R val=some (d,ps)) {f':Lit->Option Dt} (hu:Upd f f' kl d) : ∃w',(Instr.mapUpdate t (.map (some b)) key val).run Tryz.prog w = .ok () w'∧(fX K R b (n+1) f').holds w' F∧Kept F w w':=by
 obtain⟨⟨D,h1,h2⟩,hF⟩:=h
 obtain⟨w',h3,h4,h5⟩:=h1.update Kd ht hn hkey hv
 refine⟨w',h3,⟨⟨_,h4,h2.put h1.isMap (Kd.key hkey) hu⟩,hF⟩,?_⟩
 exact(Kept.refl F w).grown h5 (λk hk=>by cases hk;exact .inl ((hF _).2 rfl))
theorem fX.new(w:World)(K:TypeId)(R:Value->Option (Dt×List MemPlace)) : (fX K R w.heap.size 0 (λ_=>none)).holds (w.alloc (.map #[] 0)) (λk=>k=w.heap.size):=
 ⟨⟨_,World.ownsMap_made w Tryz.prog K R,Reads.none_⟩,λ_=>Iff.rfl⟩
theorem On.mapA{w w':World}{F:Nat->Prop}{L:List Asr}(h:On F w (aa L) w')(K:TypeId)(R:Value->Option (Dt×List MemPlace)) :On F w (aa (fX K R w'.heap.size 0 (λ_=>none) ::L)) (w'.alloc (.map #[] 0)):=by
 refine h.step λF' ha=> ?_
 refine⟨λk=>k=w'.heap.size∨F' k,⟨λk=>k=w'.heap.size,F',fX.new w' K R,ha.kept ((Kept.refl Nob w').alloc _) (λ_ _ h=>h),λk a b=> ?_,λ_=>Iff.rfl⟩,(Kept.refl F' w').alloc _,?_⟩
 ·have:=All.lt ha b;omega
 ·rintro k (h|h)
  ·exact .inr oM
  ·exact .inl h
theorem On.cg{w w':World}{A:Asr}(h:On Nob w A w') :Below w.heap.size w w':=let⟨_,_,hk,_⟩:=h;hk.rD
end Vm
open Go
def sx(n k:Nat) :Array Bool:=(List.replicate k true++List.replicate (n-k) false).toArray
theorem HJ(n k:Nat)(h:k<n) : (sx n k).setIfInBounds k true=sx n (k+1):=by
 unfold sx
 apply Array.ext'
 rw[Array.toList_setIfInBounds]
 apply List.ext_getElem?
 intro i
 rw[List.getElem?_set]
 by_cases hik:k=i
 ·subst hik
  rw[if_pos rfl,if_pos (by simp;omega)]
  rw[List.getElem?_append_left (by simp),List.getElem?_replicate,if_pos oM]
 ·rw[if_neg hik]
  by_cases hlt:i<k
  ·rw[List.getElem?_append_left (by simpa using hlt),List.getElem?_append_left (by simp;omega),List.getElem?_replicate,List.getElem?_replicate,if_pos hlt,if_pos oM]
  ·rw[List.getElem?_append_right (by simp;omega),List.getElem?_append_right (by simp;omega),List.getElem?_replicate,List.getElem?_replicate]
   simp only[List.length_replicate]
   by_cases hin:i<n
   ·rw[if_pos oM,if_pos oM]
   ·rw[if_neg oM,if_neg oM]
def vh(ops:Array Oper)(n k:Nat) :Bool:=(Region.ready .any ops (sx n k)).contains k&&Region.free .any ops (sx n k) k
def fN(ops:Array Oper)(n a b:Nat) :Bool:=(List.range b).all λi=>vh ops n (a+i)
theorem p6(ops:Array Oper)(n:Nat)(he: (Region.ready .any ops (sx n n)).isEmpty=true) : ∀(m k:Nat),k+m=n->(∀j,k<=j->j<n->vh ops n j=true)->Region.lexFrom .any ops m k (sx n k) =true
 | 0,k,h,_=>by
   obtain rfl:k=n:=by omega
   exact he
 | m+1,k,h,hj=>by
   unfold Region.lexFrom
   have h1:=hj k (Nat.le_refl _) oM
   unfold vh at h1
   rw[h1,Bool.true_and,HJ n k oM]
   exact p6 ops n he m (k+1) oM λj h2 h3=>hj j oM h3
theorem dX{ops:Array Oper}{n a b:Nat}(h:fN ops n a b=true)(j:Nat)(h1:a<=j)(h2:j<a+b) :vh ops n j=true:=by
 unfold fN at h
 have h3:=List.all_eq_true.1 h (j-a) (by simp;omega)
 rwa[show a+ (j-a) =j by omega]at h3
theorem Ji{ops:Array Oper}(hn:ops.size=96)(hs:Region.noSelect ops=true)(c0:fN ops 96 0 12=true)(c1:fN ops 96 12 12=true)(c2:fN ops 96 24 12=true)(c3:fN ops 96 36 12=true)(c4:fN ops 96 48 12=true)(c5:fN ops 96 60 12=true)(c6:fN ops 96 72 12=true)(c7:fN ops 96 84 12=true)
 (he: (Region.ready .any ops (sx 96 96)).isEmpty=true) :Region.lexB .any ops=true:=by
 unfold Region.lexB
 rw[hs,Bool.true_and,hn]
 have e: (Array.replicate 96 false) =sx 96 0:=by
  unfold sx
  apply Array.ext'
  simp
 rw[e]
 refine p6 ops 96 he 96 0 oM λj h1 h2=> ?_
 rcases(show j<12∨(12<=j∧j<24)∨(24<=j∧j<36)∨(36<=j∧j<48)∨(48<=j∧j<60)∨(60<=j∧j<72)∨(72<=j∧j<84)∨(84<=j∧j<96)by omega)with h|h|h|h|h|h|h|h
 ·exact dX c0 j oM oM
 ·exact dX c1 j oM oM
 ·exact dX c2 j oM oM
 ·exact dX c3 j oM oM
 ·exact dX c4 j oM oM
 ·exact dX c5 j oM oM
 ·exact dX c6 j oM oM
 ·exact dX c7 j oM oM
end Go.Proofs.YtjohhkikoejadaaGreatDoor
namespace Go.Proofs.YtjohhkikoejadaaGreatDoor.LawF
open Go.ChangeShapes Go.WideShapes Go.ChangeAt Go.RowKit Go.Deep
open Go.WideMaps Go.WideElems
open Go.ChangeMaps (open_string)
theorem own:ownKnob Tryz.prog.godebug=none:=by kernel_rfl
theorem laidOut:laidOutB Tryz.prog=true:=by kernel_rfl
section
variable {H:Type}{enc:TypeId×Value->H}{P:Program}{w:World}
theorem lD(hl:laidOutB P=true){W W':World}(hb:Below W.heap.size W W') : ∀(ts:List TypeId) (vs:List Value) (ds:List (DataW H)) (ps:List MemPlace),(∀t∈ts,P.readableRec t=true∧t<P.types.size)->
 DataW.TrodAll enc P W 0 (λ_=>true) true ts vs ds ps->(∀x∈ps,x.block<W.heap.size)->DataW.TrodAll enc P W' 0 (λb=>decide (b<W.heap.size)) true ts vs ds ps
 | [],[],[],_,_,h,_=>h
 | t::ts,v::vs,d::ds,ps,hr,h,hlt=>by
   obtain⟨p,q,h1,h2,rfl⟩:=h
   exact⟨p,q,Below.trod hl (hr t (by simp)).1 (hr t (by simp)).2 h1 hb (λx hx=>hlt x (by simp[hx])),lD hl hb ts vs ds q (λt ht=>hr t (by simp[ht])) h2 (λx hx=>hlt x (by simp[hx])),rfl⟩
 | [],_::_,_,_,_,h,_=>h.elim
 | [],[],_::_,_,_,h,_=>h.elim
 | _::_,[],_,_,_,h,_=>h.elim
 | _::_,_::_,[],_,_,h,_=>h.elim
theorem law_post(hl:laidOutB P=true){f:Func}{s:ChangeSpec}{tb:TypeId}(hv:s.vars = [])(hres:f.resultTypes = #[tb])(hb:P.underlying tb=some .bool)(hr : ∀t∈f.params.toList,P.readableRec t=true∧t<P.types.size)
 {W W':World} {args:Array Value} {ds gs:List (DataW H)} {before:List MemPlace} (hW:DataW.Whole enc P f.params.toList s.vars false W args.toList ds gs before)
 (h1: (s.fn H (ds++gs)).results = [.lit (.bool true)]) (h2: (s.fn H (ds++gs)).args=ds) (h3: (s.fn H (ds++gs)).vars = []) (hbl:Below W.heap.size W W') :
 s.post enc P f false true false false W args (.bool true) W':=by
 obtain⟨p,q,hA,hV,hpq,hfz,hnd⟩:=hW
 have hlt : ∀x∈p,x.block<W.heap.size:=λx hx=>DataW.Whole.lt (enc:=enc) (P:=P) (vars:=s.vars) (apart:=false) ⟨p,q,hA,hV,rfl,hpq▸hfz,λh=>by cases h⟩ x (by simp[hx])
 refine⟨ds,gs,before,[],p,[],⟨p,q,hA,hV,hpq,hfz,hnd⟩,?_,?_,?_,hbl.frame _,λh=>by cases h⟩
 ·rw[h1,hres]
  exact trodAll_mk1 (shut_bool hb true)
 ·rw[h2]
  exact lD hl hbl _ _ _ _ hr hA hlt
 ·rw[hv,h3]
  rfl
theorem all_readable{P:Program}{l:List TypeId}(h: (l.all λt=>P.readableRec t&&decide (t<P.types.size)) =true) : ∀t∈l,P.readableRec t=true∧t<P.types.size:=by
 intro t ht
 have:=List.all_eq_true.1 h t ht
 simpa using this
def yC(n:Int) :Prop:= -9223372036854775808<=n∧n<=9223372036854775807
theorem fR{n:Int}(h: (Lit.int .i64 n).wf=true) :yC n:=by
 simpa [yC,Lit.wf,IntKind.min,IntKind.max,IntKind.signed,IntKind.bits]using h
theorem arg_int{base:Nat}{t:TypeId}{v:Value}{d:DataW H}{ps:List MemPlace}(ht:P.underlying t=some (.int .i64))(hval:Value.okWide P w .any base t v)(hd:DataW.Trod enc P w 0 (λ_=>true) true t v d ps) :
 ∃n,v = .int .i64 n∧yC n:=by
 obtain⟨n,rfl,_,_,hn⟩:=open_int ht hval hd
 exact⟨n,rfl,fR hn⟩
end
end Go.Proofs.YtjohhkikoejadaaGreatDoor.LawF
