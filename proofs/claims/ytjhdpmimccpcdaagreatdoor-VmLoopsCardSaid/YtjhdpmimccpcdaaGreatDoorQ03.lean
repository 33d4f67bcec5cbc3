/- append of one byte to a byte slice of the call's own, and its reading back as a string. No condition beyond those written in each lemma. -/
import Derived.Test.YtjhdpmimccpcdaaGreatDoorQ00
import Derived.Laws.AppendOwn
namespace Go.Proofs.YtjhdpmimccpcdaaGreatDoor
set_option linter.unusedVariables false
open Go.RowKit Go.Lib

theorem bcells_append (l m : List UInt8) : bcells (l ++ m) = bcells l ++ bcells m := by simp [bcells]
/-- a byte slice of the call's own, all of it younger than the block B -/
def Own (B : Nat) (w : World) (e : TypeId) (v : Value) (bs : List UInt8) : Prop := w.ownsRow B e 1 v bs.length (bcells bs)
theorem Own.nil (B : Nat) (w : World) (e : TypeId) : Own B w e (.slice none 0 0) [] := World.ownsRow_nil w B e 1
theorem Own.buf {B : Nat} {w : World} {e : TypeId} {v : Value} {bs : List UInt8} (h : Own B w e v bs) : Buf w e v bs := by
  refine ⟨h.1, ?_⟩
  rcases h.2 with h2 | ⟨g, cap, cur, h1, _, h3⟩
  · exact .inl h2
  · exact .inr ⟨g, cap, cur, h1, Nat.zero_le _, h3⟩

/-- The law of the walk: 'b = append(b, c)'. -/
theorem wpList_append_byte {P : Program} {ops : Array Oper} {rest : List Oper} {o : Oper} {a : Act} {Q : Exit → Act → World → Prop} (hgd : o.guard = none) (s x : Operand) (t : TypeId)
    (ho : o.op = .call { callee := .builtin .append, args := #[s, x], argTypes := #[t, t] })
    (B : Nat) (e : TypeId) (i : TypeInfo) (ht : P.underlying t = some (.slice e)) (hi : P.info? e = some i) (hz : i.zero = some (.int .u8 0)) (hsize : i.size = 1) (hby : i.bytes = 1)
    (v : Value) (bs : List UInt8) (hs : a.eval s = v) (w : World) (hown : Own B w e v bs) (d : Int) (c : UInt8) (hd : d = c.toNat) (hx : a.eval x = .slice (some ⟨w.heap.size, 0, none⟩) 1 1)
    (hn : bs.length + 1 ≤ 140737488355328) (hB : B ≤ w.heap.size)
    (h : ∀ v' w', Own B w' e v' (bs ++ [c]) → Below B w w' → wpList P ops Q rest (a.put o.dst v') w') : wpList P ops Q (o :: rest) a (w.alloc (.cells #[.int .u8 d] e)) := by
  subst hd
  have hcell : ∀ j u, [Value.int .u8 (c.toNat : Int)][j]? = some u → (w.alloc (.cells #[.int .u8 (c.toNat : Int)] e)).cell? ((⟨w.heap.size, 0, none⟩ : Addr).add j) = some u := by
    intro j u hj
    have h1 := (Blk.new w e #[.int .u8 (c.toNat : Int)]).cell j
    have h2 : ((⟨w.heap.size, 0, none⟩ : Addr).add j) = ⟨w.heap.size, j, none⟩ := by simp [Addr.add]; intro h; exact h.symm
    rw [h2, h1]
    simpa using hj
  refine wpList_append_own _ hgd s x t ho B e i (.int .u8 0) 1 1 ht hi hz hsize hby rfl (by decide) v bs.length (bcells bs) hs (hown.alloc _) ⟨w.heap.size, 0, none⟩ 1 1 [.int .u8 (c.toNat : Int)] hx rfl hcell (by simp; rfl) (by unfold maxLen; omega) (by omega) (by simp; omega) ?_
  intro v' w' h1 h2 _
  refine h v' w' ?_ ?_
  · unfold Own
    rw [bcells_append, List.length_append]
    exact h1
  · refine Below.grown ((Below.refl B w).alloc hB _) h2 (by simp; omega) (fun j hj => (World.ownsRow.lt hown j hj).1)
end Go.Proofs.YtjhdpmimccpcdaaGreatDoor
/- Rows of elements of several cells, of the call's own, with room behind them (World.ownsRow of the kit), as objects. Plain lemmas. -/
namespace Go.Proofs.YtjhdpmimccpcdaaGreatDoor
set_option linter.unusedVariables false
open Go.RowKit Go.Lib

theorem ownsRow_of_block {w w' : World} {e : TypeId} {size n : Nat} {v : Value} {xs : List Value} (h : w.ownsRow 0 e size v n xs) (hb : ∀ k, v.ownBlock = some k → w'.heap[k]? = w.heap[k]?) : w'.ownsRow 0 e size v n xs := by
  obtain ⟨hx, h | ⟨g, cap, cur, rfl, hg, hc, r⟩⟩ := h
  · exact ⟨hx, .inl h⟩
  · exact ⟨hx, .inr ⟨g, cap, cur, rfl, hg, (hb g rfl).trans hc, r⟩⟩
theorem ownsRow_drew {w : World} {b : Nat} {e : TypeId} {size n : Nat} {v : Value} {xs : List Value} (h : w.ownsRow b e size v n xs) : w.drew.ownsRow b e size v n xs := h
/-- a row of n elements of 'size' cells -/
def RowK (e : TypeId) (size : Nat) (v : Value) (n : Nat) (xs : List Value) : Asr where
  holds w F := w.ownsRow 0 e size v n xs ∧ ∀ k, F k ↔ v.ownBlock = some k
  lt h hk := (h.1.lt _ ((h.2 _).1 hk)).2
  kept h hk hT := ⟨ownsRow_of_block h.1 fun k hv => hk.block k (h.1.lt _ hv).2 (hT k ((h.2 _).2 hv)), h.2⟩
/-- one element less: s[:len(s)-1] -/
theorem ownsRow_less {w : World} {e : TypeId} {size n : Nat} {g : Nat} {cap : Nat} {xs : List Value} (h : w.ownsRow 0 e size (.slice (some ⟨g, 0, none⟩) (n + 1) cap) (n + 1) xs) : w.ownsRow 0 e size (.slice (some ⟨g, 0, none⟩) n cap) n (xs.take (n * size)) := by
  obtain ⟨hx, ⟨h, _⟩ | ⟨g', cap', cur, hv, hg, hc, h1, h2, h3, h4⟩⟩ := h
  · cases h
  · cases hv
    have hs : n * size ≤ (n + 1) * size := Nat.mul_le_mul_right _ (by omega)
    refine ⟨by rw [List.length_take, hx]; omega, .inr ⟨g, cap, cur, rfl, hg, hc, by omega, h2, h3, ?_⟩⟩
    rw [← h4, List.take_take, Nat.min_eq_left hs]
/-- a cell of an element turned -/
theorem ownsRow_set {w : World} {e : TypeId} {size n g cap i : Nat} {xs : List Value} (h : w.ownsRow 0 e size (.slice (some ⟨g, 0, none⟩) n cap) n xs) (hi : i < xs.length) (u : Value) : (w.setCell ⟨g, i, none⟩ u).ownsRow 0 e size (.slice (some ⟨g, 0, none⟩) n cap) n (xs.set i u) := by
  obtain ⟨hx, ⟨h, _⟩ | ⟨g', cap', cur, hv, hg, hc, h1, h2, h3, h4⟩⟩ := h
  · cases h
  · cases hv
    have hb : Blk w g e cur := hc
    refine ⟨by simp [hx], .inr ⟨g, cap, cur.setIfInBounds i u, rfl, hg, hb.set_ i u, h1, h2, by simp [h3], ?_⟩⟩
    rw [← h4, Array.toList_setIfInBounds, List.take_set]
theorem At.rowK {w0 w : World} {L : List Asr} {e : TypeId} {size n : Nat} {v : Value} {xs : List Value} (h : At w0 w (RowK e size v n xs :: L)) : w.ownsRow 0 e size v n xs := by obtain ⟨F, hF⟩ := h.first; exact hF.1
end Go.Proofs.YtjhdpmimccpcdaaGreatDoor
