/- Maps as objects: what each key holds, in plain words. Plain lemmas over the kit's World.ownsMap. -/
import Derived.Test.YtjhdpmimccpcdaaGreatDoorT00
import Derived.Maps.OwnSet
import Derived.Maps.Ext
namespace Go.Proofs.YtjhdpmimccpcdaaGreatDoor
set_option linter.unusedVariables false
open Go.RowKit Go.Lib
open Go.Maps (Keyed)
namespace Vm
abbrev Dt := DataW Unit
/-- a map read: which keys it holds, and what -/
def Reads (D : Dt) (f : Lit → Option Dt) : Prop := ∀ kl, Maps.has D kl = (f kl).isSome ∧ ∀ d, f kl = some d → ∀ z, D.atKey kl z = d
/-- f' is f but for the key k, which holds d -/
structure Upd (f f' : Lit → Option Dt) (k : Lit) (d : Dt) : Prop where
  here : f' k = some d
  far : ∀ k', k' ≠ k → f' k' = f k'
theorem Reads.none_ : Reads (.map []) (fun _ => none) := fun kl => ⟨rfl, fun _ h => by cases h⟩
theorem Reads.put {D : Dt} {f f' : Lit → Option Dt} (h : Reads D f) (hD : Maps.IsMap D) {k : Lit} (hk : WideAt.IsKeyLit k) {d : Dt} (hu : Upd f f' k d) : Reads (D.put k d) f' := by
  intro kl
  by_cases he : kl = k
  · subst he
    rw [hu.here]
    exact ⟨Maps.has_put_same hD hk d, fun d' hd' z => by cases hd'; exact Maps.atKey_put_same hD hk d z⟩
  · rw [hu.far kl he, Maps.has_put_other he]
    exact ⟨(h kl).1, fun d' hd' z => by rw [Maps.atKey_put_other he]; exact (h kl).2 d' hd' z⟩
theorem Reads.at_ {D : Dt} {f : Lit → Option Dt} (h : Reads D f) (k : Lit) (z : Dt) : D.atKey k z = (f k).getD z := by
  rcases hf : f k with _ | d
  · exact Maps.atKey_of_not_has (by rw [(h k).1, hf]; rfl) z
  · exact (h k).2 d hf z
/-- the map in block b, of at most n entries -/
def MapG (K : TypeId) (R : Value → Option (Dt × List MemPlace)) (b n : Nat) (f : Lit → Option Dt) : Asr where
  holds w F := (∃ D, w.ownsMap Tryz.prog K R b n D ∧ Reads D f) ∧ ∀ k, F k ↔ k = b
  lt h hk := by have := (h.2 _).1 hk; subst this; obtain ⟨⟨D, h1, _⟩, _⟩ := h; exact h1.lt
  kept h hk hT := by
    obtain ⟨⟨D, h1, h2⟩, hF⟩ := h
    refine ⟨⟨D, ?_, h2⟩, hF⟩
    have hb := hk.block _ h1.lt (hT _ ((hF _).2 rfl))
    obtain ⟨es, clock, h3, r⟩ := h1
    exact ⟨es, clock, hb.trans h3, r⟩
theorem MapG.look1 {w : World} {F : Nat → Prop} {K t e : TypeId} {R : Value → Option (Dt × List MemPlace)} {b n : Nat} {f : Lit → Option Dt} (h : (MapG K R b n f).holds w F) (Kd : Keyed Tryz.prog K) (ht : Tryz.prog.underlying t = some (.map K e)) {z : Value} (hz : (zeroValue e).run Tryz.prog w = .ok z w) {zd : Dt} {zp : List MemPlace} (hzd : R z = some (zd, zp))
    {key : Value} {kl : Lit} (hkey : keyOf Tryz.prog K key = some kl) : ∃ v ps, (Instr.lookup t (.map (some b)) key false).run Tryz.prog w = .ok v w ∧ R v = some ((f kl).getD zd, ps) := by
  obtain ⟨⟨D, h1, h2⟩, _⟩ := h
  obtain ⟨v, ps, h3, h4⟩ := h1.lookup Kd ht hz hzd hkey
  rw [h2.at_] at h4
  exact ⟨v, ps, h3, h4⟩
/-- m[k] = v -/
theorem MapG.store {w : World} {F : Nat → Prop} {K t e : TypeId} {R : Value → Option (Dt × List MemPlace)} {b n : Nat} {f : Lit → Option Dt} (h : (MapG K R b n f).holds w F) (Kd : Keyed Tryz.prog K) (ht : Tryz.prog.underlying t = some (.map K e)) (hn : n < maxLen) {key val : Value} {kl : Lit} {d : Dt} {ps : List MemPlace}
    (hkey : keyOf Tryz.prog K key = some kl) (hv : R val = some (d, ps)) {f' : Lit → Option Dt} (hu : Upd f f' kl d) : ∃ w', (Instr.mapUpdate t (.map (some b)) key val).run Tryz.prog w = .ok () w' ∧ (MapG K R b (n + 1) f').holds w' F ∧ Kept F w w' := by
  obtain ⟨⟨D, h1, h2⟩, hF⟩ := h
  obtain ⟨w', h3, h4, h5⟩ := h1.update Kd ht hn hkey hv
  refine ⟨w', h3, ⟨⟨_, h4, h2.put h1.isMap (Kd.key hkey) hu⟩, hF⟩, ?_⟩
  exact (Kept.refl F w).grown h5 (fun k hk => by cases hk; exact .inl ((hF _).2 rfl))
theorem MapG.new (w : World) (K : TypeId) (R : Value → Option (Dt × List MemPlace)) : (MapG K R w.heap.size 0 (fun _ => none)).holds (w.alloc (.map #[] 0)) (fun k => k = w.heap.size) :=
  ⟨⟨_, World.ownsMap_made w Tryz.prog K R, Reads.none_⟩, fun _ => Iff.rfl⟩
theorem On.mapA {w w' : World} {F : Nat → Prop} {L : List Asr} (h : On F w (AllA L) w') (K : TypeId) (R : Value → Option (Dt × List MemPlace)) : On F w (AllA (MapG K R w'.heap.size 0 (fun _ => none) :: L)) (w'.alloc (.map #[] 0)) := by
  refine h.step fun F' ha => ?_
  refine ⟨fun k => k = w'.heap.size ∨ F' k, ⟨fun k => k = w'.heap.size, F', MapG.new w' K R, ha.kept ((Kept.refl Nob w').alloc _) (fun _ _ h => h), fun k a b => ?_, fun _ => Iff.rfl⟩, (Kept.refl F' w').alloc _, ?_⟩
  · have := All.lt ha b; omega
  · rintro k (h | h)
    · exact .inr (by omega)
    · exact .inl h
theorem On.outB {w w' : World} {A : Asr} (h : On Nob w A w') : Below w.heap.size w w' := let ⟨_, _, hk, _⟩ := h; hk.below0
end Vm
end Go.Proofs.YtjhdpmimccpcdaaGreatDoor
