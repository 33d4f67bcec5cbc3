/- Chapter 7: plain laws of listings: a line for each instruction; two pieces. No condition beyond those written in each lemma. -/
import Derived.Test.YtanpbphgmnjdeaaDoorList3
namespace Go.Proofs.YtanpbphgmnjdeaaDoor
set_option linter.unusedVariables false
open Go.RowKit Go.Lib Go.Deep

/-- k instructions from a on, as far as b; l: their lines -/
inductive Img.Run (S : Img) (m : Int) : Nat → Int → Int → List UInt8 → Prop
  | zero (a : Int) : Img.Run S m 0 a a []
  | succ {k : Nat} {a b : Int} {l : List UInt8} (h : Img.Run S m k a b l) (hf : (S.fetch m b).2 = 0) : Img.Run S m (k + 1) a (b + 8 * (S.fetch m b).1.cells) (l ++ S.lineL m b (S.fetch m b).1)
section
variable {S : Img} {m : Int} {k : Nat} {a b : Int} {l : List UInt8}
theorem Run.le (hS : S.Ok) (h : Img.Run S m k a b l) : a ≤ b ∧ (k = 0 → b = a ∧ l = []) ∧ (0 < k → 0 ≤ a ∧ a < b ∧ b ≤ 300000) := by
  induction h with
  | zero a => exact ⟨Int.le_refl _, fun _ => ⟨rfl, rfl⟩, fun h => by omega⟩
  | @succ k a b l h hf ih =>
    have hn := fetch_next hS hf
    refine ⟨by omega, fun h => by omega, fun _ => ⟨?_, by omega, by omega⟩⟩
    rcases Nat.eq_zero_or_pos k with h0 | h0
    · have := (ih.2.1 h0).1; omega
    · exact (ih.2.2 h0).1
theorem Run.list_to (hS : S.Ok) (h : Img.Run S m k a b l) : ∀ t acc, b ≤ t → S.listL m t a acc = S.listL m t b (acc ++ l) := by
  induction h with
  | zero a => intro t acc _; simp
  | @succ k a b l h hf ih =>
    intro t acc ht
    have hn := fetch_next hS hf
    rw [ih t acc (by omega), listL_next hS (by omega) hf, List.append_assoc]
theorem Run.list (hS : S.Ok) (h : Img.Run S m k a b l) : S.listL m b a [] = (l, 0) := by
  rw [Run.list_to hS h b [] (Int.le_refl _), listL_end (Int.le_refl _)]
  simp
theorem Run.head (hS : S.Ok) (h : Img.Run S m (k + 1) a b l) : (S.fetch m a).2 = 0 ∧ ∃ l', l = S.lineL m a (S.fetch m a).1 ++ l' ∧ Img.Run S m k (a + 8 * (S.fetch m a).1.cells) b l' := by
  generalize hk : k + 1 = k1 at h
  induction h generalizing k with
  | zero => omega
  | @succ k2 a b l h hf ih =>
    obtain rfl : k = k2 := by omega
    cases k with
    | zero =>
      have h0 := (Run.le hS h).2.1 rfl
      obtain ⟨rfl, rfl⟩ := h0
      exact ⟨hf, [], by simp, .zero _⟩
    | succ k =>
      obtain ⟨h1, l', rfl, h3⟩ := ih rfl
      exact ⟨h1, l' ++ S.lineL m b (S.fetch m b).1, by simp, h3.succ hf⟩
/-- one instruction alone -/
theorem list_one (hS : S.Ok) (hf : (S.fetch m a).2 = 0) : S.listL m (a + 8) a [] = (S.lineL m a (S.fetch m a).1, 0) := by
  have hn := fetch_next hS hf
  rw [listL_next hS (by omega) hf, listL_end (by omega)]
  simp

/-! ### line feeds -/
def feeds (l : List UInt8) : Nat := l.countP (· == 10)
theorem feeds_append (l m : List UInt8) : feeds (l ++ m) = feeds l + feeds m := by simp [feeds]
theorem feeds_none {l : List UInt8} (h : ∀ c ∈ l, c ≠ 10) : feeds l = 0 := by
  unfold feeds
  rw [List.countP_eq_zero]
  intro c hc
  simpa using h c hc
theorem itoa_no10 (n : Int) : ∀ c ∈ itoa n, c ≠ 10 := by
  rw [← printB_10]
  have hd : ∀ u, ∀ c ∈ digitsU 10 u, c ≠ 10 := by
    intro u
    induction u using Nat.strongRecOn with
    | ind u ih =>
      have hdc : ∀ k : Fin 10, digC k.val ≠ 10 := by decide
      by_cases h : u < 10
      · rw [digitsU_small h]
        intro c hc
        have := hdc ⟨u, h⟩
        simp at hc
        rw [hc]
        exact this
      · rw [digitsU_big (by omega) (by omega)]
        intro c hc
        rcases List.mem_append.1 hc with hc | hc
        · exact ih (u / 10) (by omega) c hc
        · have := hdc ⟨u % 10, by omega⟩
          simp at hc
          rw [hc]
          exact this
  unfold printB
  split
  · exact hd _
  · intro c hc
    rcases List.mem_cons.1 hc with rfl | hc
    · decide
    · exact hd _ c hc
theorem name_no10 : ∀ i : Fin 106, ∀ c ∈ (Code.name i.val).data.toList, c ≠ 10 := by decide +kernel
theorem nameOf_no10 (op : Int) : ∀ c ∈ (Code.nameOf op).data.toList, c ≠ 10 := by
  unfold Code.nameOf
  split
  · rename_i h
    have h2 := (Code.inOps_iff op).1 h
    exact name_no10 ⟨(op - 1).toNat, by omega⟩
  · simp
theorem hex_no10 (l : List UInt8) : ∀ c ∈ hexB l, c ≠ 10 := by
  intro c hc
  have hh : ∀ k : Fin 16, hexC k.val ≠ 10 := by decide
  obtain ⟨x, _, hx⟩ := List.mem_flatMap.1 hc
  have hx' := x.toNat_lt
  have h1 := hh ⟨x.toNat / 16, by omega⟩
  have h2 := hh ⟨x.toNat % 16, by omega⟩
  simp at hx
  rcases hx with rfl | rfl
  · exact h1
  · exact h2
theorem tail_no10 (S : Img) (m a : Int) (i : Inst) : ∀ c ∈ S.tailL m a i, c ≠ 10 := by
  have hcons : ∀ (l : List UInt8), (∀ c ∈ l, c ≠ 10) → ∀ c ∈ 32 :: l, c ≠ 10 := by
    intro l h c hc
    rcases List.mem_cons.1 hc with rfl | hc
    · decide
    · exact h c hc
  unfold Img.tailL
  split
  · exact hcons _ (itoa_no10 _)
  · split
    · intro c hc
      rcases List.mem_append.1 hc with hc | hc
      · exact hcons _ (itoa_no10 _) c hc
      · split at hc
        · exact hcons _ (hex_no10 _) c hc
        · simp at hc
    · split
      · simp
      · exact hcons _ (itoa_no10 _)
theorem line_feeds (S : Img) (m a : Int) (i : Inst) : feeds (S.lineL m a i) = 1 := by
  have h : ∀ c ∈ itoa a ++ 32 :: (Code.nameOf i.op).data.toList ++ S.tailL m a i, c ≠ 10 := by
    intro c hc
    rcases List.mem_append.1 hc with hc | hc
    · rcases List.mem_append.1 hc with hc | hc
      · exact itoa_no10 _ c hc
      · rcases List.mem_cons.1 hc with rfl | hc
        · decide
        · exact nameOf_no10 _ c hc
    · exact tail_no10 S m a i c hc
  have hl : S.lineL m a i = (itoa a ++ 32 :: (Code.nameOf i.op).data.toList ++ S.tailL m a i) ++ [10] := rfl
  rw [hl, feeds_append, feeds_none h]
  rfl
theorem Run.feeds (h : Img.Run S m k a b l) : feeds l = k := by
  induction h with
  | zero => rfl
  | succ h hf ih => rw [feeds_append, ih, line_feeds]
theorem Run.len (hS : S.Ok) (h : Img.Run S m k a b l) : l.length ≤ 300000 * k := by
  induction h with
  | zero => simp
  | succ h hf ih =>
    have := lineL_len hS (fetch_lineok hS hf)
    rw [List.length_append]
    omega
end
theorem feeds_take (l : List UInt8) (j : Nat) (hj : j < l.length) : feeds (l.take (j + 1)) = feeds (l.take j) + (if l.getD j 0 = 10 then 1 else 0) := by
  rw [List.take_succ_eq_append_getElem hj, feeds_append]
  have : l.getD j 0 = l[j] := by simp [List.getD, hj]
  rw [this]
  by_cases h : l[j] = 10 <;> simp [feeds, h]
theorem feeds_le (l : List UInt8) : feeds l ≤ l.length := List.countP_le_length
end Go.Proofs.YtanpbphgmnjdeaaDoor
