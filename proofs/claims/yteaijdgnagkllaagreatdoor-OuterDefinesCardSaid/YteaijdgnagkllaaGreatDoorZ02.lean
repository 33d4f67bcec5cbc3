/- Steps of the walk of a region that draws, taken by hand, with the side conditions as arguments that fill themselves. Conditions: those of the kit's laws. -/
import Derived.Deep.RegionHeld
import Derived.Test.YteaijdgnagkllaaGreatDoorProg
namespace Go.Proofs.YteaijdgnagkllaaGreatDoor
set_option linter.unusedVariables false
set_option linter.unusedSimpArgs false
section
variable {P:Program}{ops:Array Oper}{Q:Exit->Act->World->Prop}{md:Region.Mode}{S:World->Prop}
theorem tkL(i:Nat){oi:Oper}{v:Value}{fuel:Nat}{listed:Array Bool}{a:Act}{w:World}
 (h:wpAnyH P md ops Q S fuel (listed.setIfInBounds i true) (a.put oi.dst v) w) (hi:ops[i]? = some oi:=by exact rfl)
 (hs:Region.noSelect ops=true:=by kernel_rfl) (hf:Region.free md ops listed i=true:=by kernel_rfl)
 (hr: (Region.ready md ops listed).contains i=true:=by kernel_rfl)
 (hQ: ∀c a w,Q (.panic c) (a.put oi.dst v) w->Q (.panic c) a w:=by first|exact λ_ _ _ h=>h|exact λ_ _ _ h=>(by cases h.1))
 (hy:YieldsIf P ops S oi v a:=by exact Or.inl ⟨by kernel_rfl,by intro w hSw;(try dsimp only at hSw);go_simp;try with_reducible rfl⟩)
 (hS:S w:=by assumption):wpAnyH P md ops Q S (fuel+1) listed a w:=wpAnyH_take hi hs hf hr hQ hy hS h
theorem tkU(i:Nat){oi:Oper}{fuel:Nat}{listed:Array Bool}{a:Act}{w:World}
 (h:wpAnyH P md ops Q S fuel (listed.setIfInBounds i true) (a.put oi.dst undef) w) (hi:ops[i]? = some oi:=by exact rfl)
 (hs:Region.noSelect ops=true:=by kernel_rfl) (hf:Region.free md ops listed i=true:=by kernel_rfl)
 (hr: (Region.ready md ops listed).contains i=true:=by kernel_rfl)
 (hQ: ∀c a w,Q (.panic c) (a.put oi.dst undef) w->Q (.panic c) a w:=by first|exact λ_ _ _ h=>h|exact λ_ _ _ h=>(by cases h.1))
 (hy:YieldsIf P ops S oi undef a:=by exact Or.inr ⟨by kernel_rfl,rfl⟩)
 (hS:S w:=by assumption):wpAnyH P md ops Q S (fuel+1) listed a w:=wpAnyH_take hi hs hf hr hQ hy hS h
end
theorem pt{p q:Prop}(h:q)(f:q->p:=by intro q;(try simp only[Act.put]);(try simp only[List.setIfInBounds_toArray]);(try simp only[List.set_cons_succ]);(try simp only[List.set_cons_zero]);exact q):p:=f h
theorem dd{p:Prop}(h:p:=by first|decide| (dsimp only;decide)):p:=h
theorem eli{α:Type}{c:Prop}{d:Decidable c}{a q:α}{b:Option α}{P:α->Prop}(h1:c->P a)(h2:b=some q->P q):
 (if c then some a else b)=some q->P q:=by
 intro hq
 by_cases h:c
 ·rw[if_pos h]at hq;obtain rfl:=Option.some.inj hq;exact h1 h
 ·rw[if_neg h]at hq;exact h2 hq
namespace Caps
structure Tab where
 pupil:Int
 room:Int
 inp:ByteArray
 out:ByteArray
 log:ByteArray
 points:Int
 said:Bool
def isCap(c:Int):Bool:=c==1||c==2||c==4||c==8||c==16
def has(p m c:Int):Bool:=isCap c&& (if m==1 then p/c % 2==1 else(m==0||m==2))
def made(p r:Int)(s:ByteArray):Tab:=⟨p,r,s,⟨#[]⟩,⟨#[]⟩,0,false⟩
def newErr(p r:Int)(s:ByteArray):Int:=if p<0∨31<p∨r<0∨65536<r then 1 else if 4096<s.size then 2 else 0
structure Tab.Ok(S:Tab):Prop where
 p0:0<=S.pupil
 p1:S.pupil<=31
 r0:0<=S.room
 r1:S.room<=65536
 inp:S.inp.size<=4096
 out: (S.out.size:Int)<=S.room
 log: (S.log.size:Int)<=S.room
 n0:0<=S.points
 n1:S.points<=100
def fit(r:Int)(was s:ByteArray):Nat:=min s.size (r.toNat-was.size)
def behind(r:Int)(was s:ByteArray):ByteArray:=was++s.extract 0 (fit r was s)
def typE(S:Tab)(m:Int)(s:ByteArray):Int:=
 if has S.pupil m 1 then(if m==1&&decide ((S.room-S.out.size:Int) <s.size)then 12 else 0)else 11
def typS(S:Tab)(m:Int)(s:ByteArray):Tab:=
 if has S.pupil m 1 then(if m==1 then { S with out:=behind S.room S.out s } else { S with log:=behind S.room S.log s })else S
def keyB(S:Tab)(m:Int):Int:=if has S.pupil m 2 then(match S.inp.data.toList with | []=>0|c::_=>c.toNat)else 0
def keyE(S:Tab)(m:Int):Int:=if has S.pupil m 2 then(if S.inp.size=0 then 18 else 0)else 11
def keyS(S:Tab)(m:Int):Tab:=if has S.pupil m 2 then { S with inp:=S.inp.extract 1 S.inp.size } else S
def nl:List UInt8->Nat->Nat
 | [],_=>0
 | _::_,0=>0
 | c::l,n+1=>if c=10 then 0 else nl l n+1
def cut(s:ByteArray)(n:Int):Nat:=nl s.data.toList n.toNat
def taken(s:ByteArray)(n:Int):Nat:=if cut s n<min n.toNat s.size then cut s n+1 else cut s n
theorem size_data(s:ByteArray):s.data.toList.length=s.size:=by rw[Array.length_toList];rfl
theorem ext(s t:ByteArray)(h:s.data.toList=t.data.toList):s=t:=by
 cases s;cases t;simp at h;subst h;rfl
theorem made_ok{p r:Int}{s:ByteArray}(h:newErr p r s=0): (made p r s).Ok:=by
 unfold newErr at h
 split at h
 ·omega
 ·split at h
  ·omega
  ·rename_i h1 h2
   have e: (ByteArray.mk #[]).size=0:=rfl
   constructor<;>simp[made,e]<;>omega
theorem behind_size(r:Int)(was s:ByteArray)(h: (was.size:Int)<=r): ((behind r was s).size:Int)<=r:=by
 have:fit r was s<=r.toNat-was.size:=Nat.min_le_right _ _
 have h2:fit r was s<=s.size:=Nat.min_le_left _ _
 have e: (behind r was s).size=was.size+fit r was s:=by
  unfold behind
  rw[ByteArray.size_append,ByteArray.size_extract]
  omega
 omega
theorem typ_ok{S:Tab}(h:S.Ok)(m:Int)(s:ByteArray): (typS S m s).Ok:=by
 unfold typS
 split
 ·split
  ·exact⟨h.p0,h.p1,h.r0,h.r1,h.inp,behind_size _ _ _ h.out,h.log,h.n0,h.n1⟩
  ·exact⟨h.p0,h.p1,h.r0,h.r1,h.inp,h.out,behind_size _ _ _ h.log,h.n0,h.n1⟩
 ·exact h
theorem inp_ok{S:Tab}(h:S.Ok)(k:Nat): ({ S with inp:=S.inp.extract k S.inp.size }:Tab).Ok:=by
 have:=h.inp
 exact⟨h.p0,h.p1,h.r0,h.r1,by simp only[ByteArray.size_extract];omega,h.out,h.log,h.n0,h.n1⟩
theorem key_ok{S:Tab}(h:S.Ok)(m:Int): (keyS S m).Ok:=by
 unfold keyS;split
 ·exact inp_ok h 1
 ·exact h
end Caps
abbrev Vl:=Value
instance:Coe Nat Value:=⟨λn=> .pointer (some ⟨n,0,none⟩)⟩
instance:Coe Nat (Option Addr):=⟨λn=>some ⟨n,0,none⟩⟩
instance:Coe Int Value:=⟨λn=> .int .i64 n⟩
instance (a b:Nat):CoeDep (Nat×Nat) (a,b) Addr:=⟨⟨a,b,none⟩⟩
end Go.Proofs.YteaijdgnagkllaaGreatDoor
