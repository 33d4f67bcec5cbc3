/- The law CapsPieces: what is accepted in two pieces is what is accepted in one. Conditions: as written. -/
import Derived.Test.YtobneijdhedckaaCapsInput
namespace Go.Proofs.Ytobneijdhedckaa
set_option linter.unusedVariables false
open Go.RowKit Go.Lib LawF

theorem nl_more : ∀ (l : List UInt8) (n m : Nat), Caps.nl l n < min n l.length → Caps.nl l (n + m) = Caps.nl l n
  | [], n, m, h => by simp [Caps.nl]
  | c :: l, 0, m, h => by simp at h
  | c :: l, n + 1, m, h => by
    rw [show n + 1 + m = (n + m) + 1 by omega]
    simp only [Caps.nl] at *
    by_cases hc : c = 10
    · simp [hc]
    · simp only [if_neg hc, List.length_cons] at *
      rw [nl_more l n m (by omega)]
theorem nl_full : ∀ (l : List UInt8) (n m : Nat), Caps.nl l n = l.length → Caps.nl l (n + m) = l.length
  | [], n, m, h => by simp [Caps.nl]
  | c :: l, 0, m, h => by simp [Caps.nl] at h
  | c :: l, n + 1, m, h => by
    rw [show n + 1 + m = (n + m) + 1 by omega]
    simp only [Caps.nl] at *
    by_cases hc : c = 10
    · simp [hc] at h
    · simp only [if_neg hc, List.length_cons] at *
      rw [nl_full l n m (by omega)]
theorem nl_add : ∀ (l : List UInt8) (n m : Nat), Caps.nl l n = n → Caps.nl l (n + m) = n + Caps.nl (l.drop n) m
  | l, 0, m, h => by simp
  | [], n + 1, m, h => by simp [Caps.nl] at h
  | c :: l, n + 1, m, h => by
    rw [show n + 1 + m = (n + m) + 1 by omega]
    simp only [Caps.nl, List.drop_succ_cons] at *
    by_cases hc : c = 10
    · simp [hc] at h
    · simp only [if_neg hc] at *
      rw [nl_add l n m (by omega)]
      omega

def cutN (s : ByteArray) (n : Nat) : Nat := Caps.cut s n
def takN (s : ByteArray) (n : Nat) : Nat := Caps.taken s n
theorem cutN_le (s : ByteArray) (n : Nat) : cutN s n ≤ min n s.size := by have := Caps.cut_le s n; simpa [cutN] using this
theorem takN_eq (s : ByteArray) (n : Nat) : takN s n = if cutN s n < min n s.size then cutN s n + 1 else cutN s n := by unfold takN cutN Caps.taken; rw [Int.toNat_natCast]
theorem cutN_eq (s : ByteArray) (n : Nat) : cutN s n = Caps.nl s.data.toList n := by simp [cutN, Caps.cut]
theorem piece_one (s : ByteArray) (n m : Nat) (h : cutN s n < takN s n ∨ takN s n = s.size) : cutN s (n + m) = cutN s n ∧ takN s (n + m) = takN s n := by
  have hl := cutN_le s n
  have h1 := takN_eq s n
  have h2 := takN_eq s (n + m)
  by_cases hc : cutN s n < min n s.size
  · have e : cutN s (n + m) = cutN s n := by
      rw [cutN_eq, cutN_eq, nl_more _ _ _ (by rw [← cutN_eq, Caps.size_data]; exact hc)]
    rw [e] at h2
    rw [if_pos hc] at h1
    rw [if_pos (by omega)] at h2
    exact ⟨e, by omega⟩
  · rw [if_neg hc] at h1
    have hz : cutN s n = s.size := by omega
    have e : cutN s (n + m) = cutN s n := by
      rw [cutN_eq, nl_full _ _ _ (by rw [← cutN_eq, Caps.size_data]; exact hz), Caps.size_data, hz]
    rw [e] at h2
    rw [if_neg (by omega)] at h2
    exact ⟨e, by omega⟩
theorem piece_two (s : ByteArray) (n m : Nat) (h : ¬ (cutN s n < takN s n ∨ takN s n = s.size)) : cutN s n = n ∧ takN s n = n ∧ n < s.size ∧
    cutN s (n + m) = n + cutN (s.extract n s.size) m ∧ takN s (n + m) = n + takN (s.extract n s.size) m := by
  have hl := cutN_le s n
  have h1 := takN_eq s n
  have h2 := takN_eq s (n + m)
  have h3 := takN_eq (s.extract n s.size) m
  have hsz : (s.extract n s.size).size = s.size - n := by simp
  rw [hsz] at h3
  by_cases hc : cutN s n < min n s.size
  · rw [if_pos hc] at h1
    exact absurd (.inl (by omega)) h
  · rw [if_neg hc] at h1
    have hn : cutN s n = n := by omega
    have e : cutN s (n + m) = n + cutN (s.extract n s.size) m := by
      rw [cutN_eq, nl_add _ _ _ (by rw [← cutN_eq]; exact hn), cutN_eq, drop_end]
    refine ⟨hn, by omega, by omega, e, ?_⟩
    rw [h2, h3, e]
    by_cases hk : cutN (s.extract n s.size) m < min m (s.size - n)
    · rw [if_pos hk, if_pos (by omega)]; omega
    · rw [if_neg hk, if_neg (by omega)]

theorem in_accN (s : ByteArray) (j q : Nat) (hj : j < s.size) (hq : 0 < q) : Caps.accB (inS s j) 1 q = (s.extract j s.size).extract 0 (cutN (s.extract j s.size) q) ∧ Caps.accE (inS s j) 1 q = 0 ∧ Caps.accS (inS s j) 1 q = inS s (j + takN (s.extract j s.size) q) := by
  have hh : Caps.has 2 1 2 = true := has_2 1 (by omega)
  have hqi : (0 : Int) < (q : Int) := by omega
  refine ⟨?_, ?_, ?_⟩
  · show (if Caps.has 2 1 2 = true ∧ (0 : Int) < (q : Int) then _ else _) = _
    rw [if_pos ⟨hh, hqi⟩]
    rfl
  · unfold Caps.accE inS
    simp only [hh, if_true]
    rw [if_neg (by omega), if_neg (by omega), if_neg (by simp; omega)]
  · show (if Caps.has 2 1 2 = true ∧ (0 : Int) < (q : Int) then _ else _) = _
    rw [if_pos ⟨hh, hqi⟩]
    show Caps.Tab.mk _ _ ((s.extract j s.size).extract (takN (s.extract j s.size) q) (s.extract j s.size).size) _ _ _ _ = _
    rw [ext_ext]
    rfl
theorem in_acc0 (s : ByteArray) (q : Nat) (hs : s.size = 0) : Caps.accE (inS s 0) 1 q = if q = 0 then 0 else 18 := by
  have hh : Caps.has 2 1 2 = true := has_2 1 (by omega)
  unfold Caps.accE inS
  simp only [hh, if_true]
  by_cases h : q = 0
  · subst h; simp
  · rw [if_neg (by omega), if_neg (by omega), if_pos (by rw [ByteArray.size_extract]; omega), if_neg h]

section
variable {w0 w : World} {g j : Nat} {s : ByteArray} {L : List Asr}
theorem p_acc (h : At w0 w (TabA g (inS s j) :: L)) (hj : j < s.size) (q : Nat) (hq : 0 < q) : Calls Try.prog 22 #[.pointer (some ⟨g, 0, none⟩), .int .i64 1, .int .i64 q] w
    (Got1 (.tuple #[.string ((s.extract j s.size).extract 0 (cutN (s.extract j s.size) q)), .int .i64 0]) (TabA g (inS s (j + takN (s.extract j s.size) q))) w0 L) := by
  have := t_accept h 1 q
  obtain ⟨e0, e1, e2⟩ := in_accN s j q hj hq
  rw [e0, e1, e2] at this; exact this
theorem p_acc0 (h : At w0 w (TabA g (inS s 0) :: L)) (q : Nat) (hq : 0 < q) (hs : 0 < s.size) : Calls Try.prog 22 #[.pointer (some ⟨g, 0, none⟩), .int .i64 1, .int .i64 q] w
    (Got1 (.tuple #[.string (s.extract 0 (cutN s q)), .int .i64 0]) (TabA g (inS s (takN s q))) w0 L) := by
  have := p_acc h hs q hq
  have e : s.extract 0 s.size = s := by simp
  rw [e, Nat.zero_add] at this; exact this
/-- some answer -/
theorem p_any (h : At w0 w (TabA g (inS s 0) :: L)) (q : Int) : Calls Try.prog 22 #[.pointer (some ⟨g, 0, none⟩), .int .i64 1, .int .i64 q] w
    (Got1 (.tuple #[.string (Caps.accB (inS s 0) 1 q), .int .i64 (Caps.accE (inS s 0) 1 q)]) (TabA g (Caps.accS (inS s 0) 1 q)) w0 L) := t_accept h 1 q
theorem p_empty (h : At w0 w (TabA g (inS s 0) :: L)) (q : Nat) (hs : s.size = 0) : Calls Try.prog 22 #[.pointer (some ⟨g, 0, none⟩), .int .i64 1, .int .i64 q] w
    (Got1 (.tuple #[.string (Caps.accB (inS s 0) 1 q), .int .i64 (if q = 0 then 0 else 18)]) (TabA g (Caps.accS (inS s 0) 1 q)) w0 L) := by
  have := t_accept h 1 q
  rw [in_acc0 s q hs] at this; exact this
end

end Go.Proofs.Ytobneijdhedckaa
