/- Maps as objects: what each key holds, in plain words. Plain lemmas over the kit's World.ownsMap. -/
import Derived.Test.YtngdikikclfgjaaGreatDoorZ02
import Derived.Maps.Ext
import Derived.Lib.ItoaNum
namespace Go.Proofs.YtngdikikclfgjaaGreatDoor
set_option linter.unusedVariables false
set_option linter.unusedSimpArgs false
open Go.RowKit Go.Lib
open Go.Maps (Keyed)
namespace Vm
abbrev Dt:=DataW Unit
def Reads(D:Dt)(f:Lit->Option Dt):Prop:= ∀kl,Maps.has D kl= (f kl).isSome∧∀d,f kl=some d->∀z,D.atKey kl z=d
structure Upd(f f':Lit->Option Dt)(k:Lit)(d:Dt):Prop where
 here:f' k=some d
 far: ∀k',k'≠k->f' k'=f k'
theorem Reads.none_:Reads (.map []) (λ_=>none):=λkl=>⟨rfl,λ_ h=>by cases h⟩
theorem Reads.put{D:Dt}{f f':Lit->Option Dt}(h:Reads D f)(hD:Maps.IsMap D){k:Lit}(hk:WideAt.IsKeyLit k){d:Dt}(hu:Upd f f' k d):Reads (D.put k d) f':=by
 intro kl
 by_cases he:kl=k
 ·subst he
  rw[hu.here]
  exact⟨Maps.has_put_same hD hk d,λd' hd' z=>by cases hd';exact Maps.atKey_put_same hD hk d z⟩
 ·rw[hu.far kl he,Maps.has_put_other he]
  exact⟨(h kl).1,λd' hd' z=>by rw[Maps.atKey_put_other he];exact(h kl).2 d' hd' z⟩
theorem Reads.at_{D:Dt}{f:Lit->Option Dt}(h:Reads D f)(k:Lit)(z:Dt):D.atKey k z= (f k).getD z:=by
 rcases hf:f k with _|d
 ·exact Maps.atKey_of_not_has (by rw[(h k).1,hf];rfl) z
 ·exact(h k).2 d hf z
def MapG(K:TypeId)(R:Value->Option (Dt×List MemPlace))(b n:Nat)(f:Lit->Option Dt):Asr where
 holds w F:=(∃D,w.ownsMap Tryz.prog K R b n D∧Reads D f)∧∀k,F k↔k=b
 lt h hk:=by have:=(h.2 _).1 hk;subst this;obtain⟨⟨D,h1,_⟩,_⟩:=h;exact h1.lt
 kept h hk hT:=by
  obtain⟨⟨D,h1,h2⟩,hF⟩:=h
  refine⟨⟨D,?_,h2⟩,hF⟩
  have hb:=hk.block _ h1.lt (hT _ ((hF _).2 rfl))
  obtain⟨es,clock,h3,r⟩:=h1
  exact⟨es,clock,hb.trans h3,r⟩
theorem MapG.look1{w:World}{F:Nat->Prop}{K t e:TypeId}{R:Value->Option (Dt×List MemPlace)}{b n:Nat}{f:Lit->Option Dt}(h: (MapG K R b n f).holds w F)(Kd:Keyed Tryz.prog K)(ht:Tryz.prog.underlying t=some (.map K e)){z:Value}(hz: (zeroValue e).run Tryz.prog w = .ok z w){zd:Dt}{zp:List MemPlace}(hzd:R z=some (zd,zp))
 {key:Value} {kl:Lit} (hkey:keyOf Tryz.prog K key=some kl): ∃v ps,(Instr.lookup t (.map (some b)) key false).run Tryz.prog w = .ok v w∧R v=some ((f kl).getD zd,ps):=by
 obtain⟨⟨D,h1,h2⟩,_⟩:=h
 obtain⟨v,ps,h3,h4⟩:=h1.lookup Kd ht hz hzd hkey
 rw[h2.at_]at h4
 exact⟨v,ps,h3,h4⟩
theorem MapG.store{w:World}{F:Nat->Prop}{K t e:TypeId}{R:Value->Option (Dt×List MemPlace)}{b n:Nat}{f:Lit->Option Dt}(h: (MapG K R b n f).holds w F)(Kd:Keyed Tryz.prog K)(ht:Tryz.prog.underlying t=some (.map K e))(hn:n<maxLen){key val:Value}{kl:Lit}{d:Dt}{ps:List MemPlace}
 (hkey:keyOf Tryz.prog K key=some kl) (hv:R val=some (d,ps)) {f':Lit->Option Dt} (hu:Upd f f' kl d): ∃w',(Instr.mapUpdate t (.map (some b)) key val).run Tryz.prog w = .ok () w'∧(MapG K R b (n+1) f').holds w' F∧Kept F w w':=by
 obtain⟨⟨D,h1,h2⟩,hF⟩:=h
 obtain⟨w',h3,h4,h5⟩:=h1.update Kd ht hn hkey hv
 refine⟨w',h3,⟨⟨_,h4,h2.put h1.isMap (Kd.key hkey) hu⟩,hF⟩,?_⟩
 exact(Kept.refl F w).grown h5 (λk hk=>by cases hk;exact .inl ((hF _).2 rfl))
theorem MapG.new(w:World)(K:TypeId)(R:Value->Option (Dt×List MemPlace)): (MapG K R w.heap.size 0 (λ_=>none)).holds (w.alloc (.map #[] 0)) (λk=>k=w.heap.size):=
 ⟨⟨_,World.ownsMap_made w Tryz.prog K R,Reads.none_⟩,λ_=>Iff.rfl⟩
theorem On.mapA{w w':World}{F:Nat->Prop}{L:List Asr}(h:On F w (AllA L) w')(K:TypeId)(R:Value->Option (Dt×List MemPlace)):On F w (AllA (MapG K R w'.heap.size 0 (λ_=>none)::L)) (w'.alloc (.map #[] 0)):=by
 refine h.step λF' ha=> ?_
 refine⟨λk=>k=w'.heap.size∨F' k,⟨λk=>k=w'.heap.size,F',MapG.new w' K R,ha.kept ((Kept.refl Nob w').alloc _) (λ_ _ h=>h),λk a b=> ?_,λ_=>Iff.rfl⟩,(Kept.refl F' w').alloc _,?_⟩
 ·have:=All.lt ha b;omega
 ·rintro k (h|h)
  ·exact .inr (by omega)
  ·exact .inl h
theorem On.outB{w w':World}{A:Asr}(h:On Nob w A w'):Below w.heap.size w w':=let⟨_,_,hk,_⟩:=h;hk.below0
end Vm
def digC(k:Nat):UInt8:=UInt8.ofNat (if k<10 then 48+k else 55+k)
def digitsU(b u:Nat):List UInt8:=
 if h:u<b∨b<2 then [digC u]else digitsU b (u/b)++ [digC (u % b)]
termination_by u
decreasing_by exact Nat.div_lt_self (by omega) (by omega)
theorem digitsU_small{b u:Nat}(h:u<b):digitsU b u = [digC u]:=by rw[digitsU,dif_pos (.inl h)]
theorem digitsU_big{b u:Nat}(hb:2<=b)(h:b<=u):digitsU b u=digitsU b (u/b)++ [digC (u % b)]:=by rw[digitsU,dif_neg (by omega)]
theorem digits_step{b u:Nat}(hb:2<=b)(s r:List UInt8)(h:digitsU b u++s=r): (u/b=0->digC (u % b)::s=r)∧(0<u/b->digitsU b (u/b)++digC (u % b)::s=r):=by
 constructor
 ·intro h0
  have hlt:u<b:=by
   rcases Nat.lt_or_ge u b with h1|h1
   ·exact h1
   ·have:=Nat.div_pos h1 (by omega);omega
  rw[digitsU_small hlt]at h
  rw[Nat.mod_eq_of_lt hlt]
  exact h
 ·intro h0
  have hge:b<=u:=by
   rcases Nat.lt_or_ge u b with h1|h1
   ·rw[Nat.div_eq_of_lt h1]at h0;omega
   ·exact h1
  rw[digitsU_big hb hge]at h
  simpa using h
def NoMark(l:List UInt8):Prop:= ∀c∈l,48<=c.toNat
theorem NoMark.head{l:List UInt8}(h:NoMark l)(x:UInt8)(hx:x.toNat<48):l.head? ≠some x:=by
 cases l with
 | nil=>simp
 | cons c l=>
   intro e
   have:c=x:=by simpa using e
   have:=h c (by simp)
   subst_vars
   omega
theorem NoMark.append{l m:List UInt8}(h:NoMark l)(k:NoMark m):NoMark (l++m):=λc hc=>by
 rcases List.mem_append.1 hc with hc|hc
 ·exact h c hc
 ·exact k c hc
end Go.Proofs.YtngdikikclfgjaaGreatDoor
