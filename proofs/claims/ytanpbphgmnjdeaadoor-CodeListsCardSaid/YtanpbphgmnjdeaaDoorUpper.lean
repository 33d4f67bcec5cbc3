/- Plain laws of capital letters: rune by rune (strings.Map) and byte by byte say the same of texts in ASCII. No condition. -/
import Derived.Test.YtanpbphgmnjdeaaDoorMem
import Derived.Lib.MapLaws
import Derived.Lib.TrimAscii
import Derived.Lib.TrimUEq
namespace Go.Proofs.YtanpbphgmnjdeaaDoor
set_option linter.unusedVariables false
open Go.Lib
def Code.up (x : Int) : Int := if 97 ≤ x ∧ x ≤ 122 then x - 32 else x
def Code.upB (c : UInt8) : UInt8 := if 97 ≤ c.toNat ∧ c.toNat ≤ 122 then c - 32 else c
theorem Code.upB_nat (c : UInt8) : ((Code.upB c).toNat : Int) = Code.up c.toNat := by
  unfold Code.upB Code.up
  have h256 : c.toNat < 256 := c.toNat_lt
  by_cases h : 97 ≤ c.toNat ∧ c.toNat ≤ 122
  · rw [if_pos h, if_pos (by omega), UInt8.toNat_sub_of_le _ _ (by rw [UInt8.le_iff_toNat_le]; show 32 ≤ c.toNat; omega)]
    show ((c.toNat - 32 : Nat) : Int) = _
    omega
  · rw [if_neg h, if_neg (by omega)]
theorem decodeN_big (n b0 b1 b2 b3 : Nat) (h : 128 ≤ b0) : 128 ≤ (decodeN n b0 b1 b2 b3).1 := by
  unfold decodeN
  rw [if_neg (by omega)]
  repeat' split
  all_goals (simp; try omega)
theorem encodeRuneZ_head (r : Int) (h : 128 ≤ r) : ∃ x l, encodeRuneZ r = x :: l ∧ 192 ≤ x ∧ x ≤ 255 := by
  unfold encodeRuneZ
  rw [if_neg (by omega)]
  split
  · exact ⟨_, _, rfl, by omega, by omega⟩
  · split
    · exact ⟨_, _, rfl, by omega, by omega⟩
    · split
      · exact ⟨_, _, rfl, by omega, by omega⟩
      · exact ⟨_, _, rfl, by omega, by omega⟩
theorem encodeRune_head (r : Int) (h : 128 ≤ r) : ∃ x l, encodeRune r = x :: l ∧ 192 ≤ x.toNat := by
  obtain ⟨x, l, h1, h2, h3⟩ := encodeRuneZ_head r h
  refine ⟨x.toNat.toUInt8, _, by unfold encodeRune; rw [h1]; rfl, ?_⟩
  rw [Nat.toUInt8, UInt8.toNat_ofNat']
  omega
theorem mapD_upper : ∀ (n : Nat) (l T : List UInt8), l.length ≤ n → (∀ b ∈ T, b.toNat < 128) → (mapD Code.up l = T ↔ l.map Code.upB = T)
  | 0, l, T, hl, hT => by
    obtain rfl : l = [] := List.eq_nil_of_length_eq_zero (by omega)
    simp [mapD_nil]
  | n + 1, [], T, hl, hT => by simp [mapD_nil]
  | n + 1, b :: t, T, hl, hT => by
    rw [mapD_step _ _ (by simp)]
    by_cases hb : b.toNat < 128
    · rw [decodeL_ascii b t hb]
      have h0 : 0 ≤ Code.up (b.toNat : Int) := by unfold Code.up; split <;> omega
      have h1 : Code.up (b.toNat : Int) ≤ 127 := by unfold Code.up; split <;> omega
      have he : encodeRune (Code.up (b.toNat : Int)) = [Code.upB b] := by
        unfold encodeRune
        rw [encodeRuneZ_one h0 h1, ← Code.upB_nat]
        simp
      simp only [if_pos h0, he, List.drop_succ_cons, List.drop_zero, List.map_cons, List.cons_append, List.nil_append]
      cases T with
      | nil => simp
      | cons c T =>
        have := mapD_upper n t T (by simpa using hl) (fun x hx => hT x (by simp [hx]))
        simp only [List.cons.injEq]
        rw [this]
    · have hr : 128 ≤ (decodeL (b :: t)).1 := by
        rw [decodeL_N]
        exact decodeN_big _ _ _ _ _ (by simp; omega)
      have hu : Code.up ((decodeL (b :: t)).1 : Int) = ((decodeL (b :: t)).1 : Int) := by
        unfold Code.up
        by_cases h : 97 ≤ ((decodeL (b :: t)).1 : Int) ∧ ((decodeL (b :: t)).1 : Int) ≤ 122
        · omega
        · rw [if_neg h]
      rw [hu, if_pos (by omega)]
      obtain ⟨x, l', h1, h2⟩ := encodeRune_head ((decodeL (b :: t)).1 : Int) (by omega)
      have hbb : Code.upB b = b := by unfold Code.upB; rw [if_neg (by omega)]
      rw [h1]
      constructor
      · rintro rfl
        have := hT x (by simp)
        omega
      · intro h
        rw [← h] at hT
        have := hT b (by simp [hbb])
        omega
end Go.Proofs.YtanpbphgmnjdeaaDoor
