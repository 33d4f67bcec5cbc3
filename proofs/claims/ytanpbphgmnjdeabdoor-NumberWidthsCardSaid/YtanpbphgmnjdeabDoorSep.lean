/- Objects in memory, each with the blocks that it lies in; several of them apart; what a call does to one of them leaves the others. Plain lemmas. -/
import Derived.Test.YtanpbphgmnjdeabDoorMem
namespace Go.Proofs.YtanpbphgmnjdeabDoor
set_option linter.unusedVariables false
open Go.RowKit Go.Lib

/-- An object: when it lies in a world, over just the blocks F. -/
structure Asr where
  holds : World → (Nat → Prop) → Prop
  lt : ∀ {w F k}, holds w F → F k → k < w.heap.size
  kept : ∀ {w w' F T}, holds w F → Kept T w w' → (∀ k, F k → ¬ T k) → holds w' F

/-- a block that is known whole -/
def BlkA (g : Nat) (t : TypeId) (cs : Array Value) : Asr where
  holds w F := Blk w g t cs ∧ ∀ k, F k ↔ k = g
  lt h hk := by have := (h.2 _).1 hk; subst this; exact h.1.lt
  kept h hk hT := ⟨h.1.kept hk (hT _ ((h.2 _).2 rfl)), h.2⟩

def All : List Asr → World → (Nat → Prop) → Prop
  | [], _, F => ∀ k, ¬ F k
  | A :: L, w, F => ∃ F1 F2, A.holds w F1 ∧ All L w F2 ∧ (∀ k, F1 k → F2 k → False) ∧ ∀ k, F k ↔ F1 k ∨ F2 k

theorem All.lt : ∀ {L : List Asr} {w F k}, All L w F → F k → k < w.heap.size
  | [], _, _, _, h, hk => (h _ hk).elim
  | A :: L, _, _, _, ⟨F1, F2, h1, h2, _, hF⟩, hk => by
    rcases (hF _).1 hk with h | h
    · exact A.lt h1 h
    · exact All.lt h2 h
theorem All.kept : ∀ {L : List Asr} {w w' F T}, All L w F → Kept T w w' → (∀ k, F k → ¬ T k) → All L w' F
  | [], _, _, _, _, h, _, _ => h
  | A :: L, _, _, _, _, ⟨F1, F2, h1, h2, hd, hF⟩, hk, hT =>
    ⟨F1, F2, A.kept h1 hk (fun k h => hT k ((hF k).2 (.inl h))), All.kept h2 hk (fun k h => hT k ((hF k).2 (.inr h))), hd, hF⟩
theorem All.swap {A B : Asr} {L : List Asr} {w F} (h : All (A :: B :: L) w F) : All (B :: A :: L) w F := by
  obtain ⟨F1, F2, h1, ⟨F3, F4, h3, h4, hd2, hF2⟩, hd, hF⟩ := h
  refine ⟨F3, fun k => F1 k ∨ F4 k, h3, ⟨F1, F4, h1, h4, fun k a b => hd k a ((hF2 k).2 (.inr b)), fun k => Iff.rfl⟩, ?_, ?_⟩
  · intro k a b
    rcases b with b | b
    · exact hd k b ((hF2 k).2 (.inl a))
    · exact hd2 k a b
  · intro k
    rw [hF, hF2]
    constructor
    · rintro (h | h | h)
      · exact .inr (.inl h)
      · exact .inl h
      · exact .inr (.inr h)
    · rintro (h | h | h)
      · exact .inr (.inl h)
      · exact .inl h
      · exact .inr (.inr h)

/-- The objects of L lie in w; all of them are younger than w0; of what lay in w0 nothing has turned. -/
def At (w0 w : World) (L : List Asr) : Prop := ∃ F, All L w F ∧ (∀ k, F k → w0.heap.size ≤ k) ∧ Below w0.heap.size w0 w

/-- behind a call that works over the blocks F: some answer, and the object that is there then -/
def Post (R : Value → Asr → Prop) (F : Nat → Prop) (w : World) (e : Ending) (w' : World) : Prop :=
  ∃ v A' F', R v A' ∧ e = .returned v ∧ A'.holds w' F' ∧ Kept F w w' ∧ ∀ k, F' k → F k ∨ w.heap.size ≤ k

section
variable {P : Program} {f : FuncId} {args : Array Value} {w0 w w' : World} {A A' B C D : Asr} {L : List Asr} {R : Value → Asr → Prop}

theorem At.refl (w : World) : At w w [] := ⟨Nob, fun _ h => h, fun _ h => h.elim, Below.refl _ _⟩
theorem At.swap (h : At w0 w (A :: B :: L)) : At w0 w (B :: A :: L) := let ⟨F, h1, h2, h3⟩ := h; ⟨F, h1.swap, h2, h3⟩
theorem At.tail (h : At w0 w (A :: L)) : At w0 w L := by
  obtain ⟨F, ⟨F1, F2, h1, h2, hd, hF⟩, hb, hbl⟩ := h
  exact ⟨F2, h2, fun k hk => hb k ((hF k).2 (.inr hk)), hbl⟩
theorem At.cons {L L' : List Asr} (hL : ∀ w F, All L w F → All L' w F) (h : At w0 w (A :: L)) : At w0 w (A :: L') := by
  obtain ⟨F, ⟨F1, F2, h1, h2, hd, hF⟩, hb, hbl⟩ := h
  exact ⟨F, ⟨F1, F2, h1, hL _ _ h2, hd, hF⟩, hb, hbl⟩
/-- the third to the front -/
theorem At.rot3 (h : At w0 w (A :: B :: C :: L)) : At w0 w (C :: A :: B :: L) := (At.cons (fun _ _ => All.swap) h).swap
theorem At.rot4 (h : At w0 w (A :: B :: C :: D :: L)) : At w0 w (D :: A :: B :: C :: L) :=
  (At.cons (fun _ _ h => by obtain ⟨F1, F2, h1, h2, hd, hF⟩ := h; exact All.swap ⟨F1, F2, h1, h2.swap, hd, hF⟩) h).swap
theorem At.drop3 (h : At w0 w (A :: B :: C :: L)) : At w0 w (A :: B :: L) := h.rot3.tail
theorem At.below (h : At w0 w L) : Below w0.heap.size w0 w := let ⟨_, _, _, h3⟩ := h; h3
theorem At.keptNob (h : At w0 w L) (hk : Kept Nob w w') : At w0 w' L := by
  obtain ⟨F, h1, h2, h3⟩ := h
  exact ⟨F, h1.kept hk (fun _ _ h => h), h2, Below.andKept h3 hk (fun _ h => h.elim) (Nat.le_refl _)⟩
theorem At.drewN (h : At w0 w L) (n : Nat) : At w0 (w.drewN n) L := h.keptNob ((Kept.refl _ _).drewN n)
theorem At.drew (h : At w0 w L) : At w0 w.drew L := h.keptNob (Kept.refl _ _).drew
theorem At.alloc (h : At w0 w L) (o : Obj) : At w0 (w.alloc o) L := h.keptNob ((Kept.refl _ _).alloc o)

/-- a new object beside the others -/
theorem At.add (h : At w0 w L) {F' : Nat → Prop} (ha : A.holds w' F') (hk : Kept Nob w w') (hF' : ∀ k, F' k → w.heap.size ≤ k) : At w0 w' (A :: L) := by
  obtain ⟨F, h1, h2, h3⟩ := h
  refine ⟨fun k => F' k ∨ F k, ⟨F', F, ha, h1.kept hk (fun _ _ h => h), fun k a b => ?_, fun k => Iff.rfl⟩, ?_, Below.andKept h3 hk (fun _ h => h.elim) (Nat.le_refl _)⟩
  · have := hF' k a
    have := h1.lt b
    omega
  · intro k hk'
    rcases hk' with h | h
    · exact Nat.le_trans h3.size (hF' k h)
    · exact h2 k h
/-- the first object changed -/
theorem At.step_aux {F F1 F2 F' : Nat → Prop} (h2 : All L w F2) (hd : ∀ k, F1 k → F2 k → False) (hF : ∀ k, F k ↔ F1 k ∨ F2 k) (hb : ∀ k, F k → w0.heap.size ≤ k) (hbl : Below w0.heap.size w0 w)
    (ha : A'.holds w' F') (hk : Kept F1 w w') (hF' : ∀ k, F' k → F1 k ∨ w.heap.size ≤ k) : At w0 w' (A' :: L) := by
  refine ⟨fun k => F' k ∨ F2 k, ⟨F', F2, ha, h2.kept hk (fun k a b => hd k b a), fun k a b => ?_, fun k => Iff.rfl⟩, ?_, ?_⟩
  · rcases hF' k a with c | c
    · exact hd k c b
    · have := h2.lt b; omega
  · intro k hk'
    rcases hk' with h | h
    · rcases hF' k h with c | c
      · exact hb k ((hF k).2 (.inl c))
      · exact Nat.le_trans hbl.size c
    · exact hb k ((hF k).2 (.inr h))
  · exact Below.andKept hbl hk (fun k hk => hb k ((hF k).2 (.inl hk))) (Nat.le_refl _)
theorem At.step (h : At w0 w (A :: L)) (hs : ∀ F, A.holds w F → ∃ F', A'.holds w' F' ∧ Kept F w w' ∧ ∀ k, F' k → F k ∨ w.heap.size ≤ k) : At w0 w' (A' :: L) := by
  obtain ⟨F, ⟨F1, F2, h1, h2, hd, hF⟩, hb, hbl⟩ := h
  obtain ⟨F', ha, hk, hF'⟩ := hs F1 h1
  exact At.step_aux h2 hd hF hb hbl ha hk hF'

def Got (R : Value → Asr → Prop) (w0 : World) (L : List Asr) (e : Ending) (w' : World) : Prop := ∃ v A', R v A' ∧ e = .returned v ∧ At w0 w' (A' :: L)
/-- the same, of one answer and one object -/
def Got1 (v : Value) (A' : Asr) (w0 : World) (L : List Asr) (e : Ending) (w' : World) : Prop := e = .returned v ∧ At w0 w' (A' :: L)

/-- a call that works over the first object -/
theorem At.call (h : At w0 w (A :: L)) (hc : ∀ F, A.holds w F → Calls P f args w (Post R F w)) : Calls P f args w (Got R w0 L) := by
  obtain ⟨F, ⟨F1, F2, h1, h2, hd, hF⟩, hb, hbl⟩ := h
  refine (hc F1 h1).mono ?_
  rintro e w' ⟨v, A', F', hR, he, ha, hk, hF'⟩
  exact ⟨v, A', hR, he, At.step_aux h2 hd hF hb hbl ha hk hF'⟩
theorem At.call1 {v : Value} (h : At w0 w (A :: L)) (hc : ∀ F, A.holds w F → Calls P f args w (Post (fun u B => u = v ∧ B = A') F w)) : Calls P f args w (Got1 v A' w0 L) := by
  refine (At.call h hc).mono ?_
  rintro e w' ⟨u, B, ⟨rfl, rfl⟩, he, h⟩
  exact ⟨he, h⟩
/-- a call that works over nothing that is there, and makes an object -/
theorem At.make (h : At w0 w L) (hc : Calls P f args w (Post R Nob w)) : Calls P f args w (Got R w0 L) := by
  refine hc.mono ?_
  rintro e w' ⟨v, A', F', hR, he, ha, hk, hF'⟩
  exact ⟨v, A', hR, he, At.add h ha hk (fun k hk => (hF' k hk).elim (fun h => h.elim) id)⟩
/-- a box that the walk has laid -/
theorem At.box (h : At w0 w L) (cs : Array Value) (t : TypeId) : At w0 (w.alloc (.cells cs t)) (BlkA w.heap.size t cs :: L) :=
  h.add (A := BlkA w.heap.size t cs) (F' := fun k => k = w.heap.size) ⟨Blk.new w t cs, fun _ => Iff.rfl⟩ ((Kept.refl _ _).alloc _) (fun k hk => Nat.le_of_eq hk.symm)
theorem At.set {g : Nat} {t : TypeId} {cs : Array Value} (h : At w0 w (BlkA g t cs :: L)) (i : Nat) (u : Value) : At w0 (w.setCell ⟨g, i, none⟩ u) (BlkA g t (cs.setIfInBounds i u) :: L) :=
  h.step fun F hF => ⟨F, ⟨hF.1.set_ i u, hF.2⟩, Kept.setCell (Kept.refl _ _) (.inl ((hF.2 _).2 rfl)) _, fun _ h => .inl h⟩
theorem At.blk {g : Nat} {t : TypeId} {cs : Array Value} (h : At w0 w (BlkA g t cs :: L)) : Blk w g t cs := by
  obtain ⟨F, ⟨F1, F2, h1, _⟩, _⟩ := h
  exact h1.1
/-- the first object, alone -/
theorem At.first (h : At w0 w (A :: L)) : ∃ F, A.holds w F := by
  obtain ⟨F, ⟨F1, F2, h1, _⟩, _⟩ := h
  exact ⟨F1, h1⟩
/-- an old cell -/
theorem At.old (h : At w0 w L) {p : Addr} {v : Value} (hc : w0.cell? p = some v) : w.cell? p = some v :=
  (h.below.cell (World.block_lt_of_cell? w0 p hc)).trans hc
end
end Go.Proofs.YtanpbphgmnjdeabDoor
