/- Chapter 5: numbers in order are written in order. No condition beyond those written in each lemma. -/
import Derived.Test.YtanpbphgmnjdeabDoorNumLaw
namespace Go.Proofs.YtanpbphgmnjdeabDoor
set_option linter.unusedVariables false
open Go.RowKit Go.Lib

theorem valB_acc (b : Nat) : ∀ (l : List UInt8) (n : Nat), valB b n l = n * b ^ l.length + valB b 0 l
  | [], n => by simp [valB]
  | c :: l, n => by
    have h1 : valB b n (c :: l) = valB b (n * b + digV c) l := by simp [valB]
    have h2 : valB b 0 (c :: l) = valB b (digV c) l := by simp [valB]
    rw [h1, h2, valB_acc b l, valB_acc b l (digV c), List.length_cons, Nat.pow_succ, Nat.add_mul, Nat.mul_assoc, Nat.mul_comm b, Nat.add_assoc]
theorem valB_lt {b : Nat} (hb : 1 ≤ b) : ∀ (l : List UInt8), (∀ c ∈ l, digV c < b) → valB b 0 l < b ^ l.length
  | [], _ => by simp [valB]
  | c :: l, h => by
    have h2 : valB b 0 (c :: l) = valB b (digV c) l := by simp [valB]
    have hc := h c (by simp)
    have ih := valB_lt hb l (fun x hx => h x (by simp [hx]))
    have hm : (digV c + 1) * b ^ l.length ≤ b * b ^ l.length := Nat.mul_le_mul_right _ (by omega)
    rw [h2, valB_acc, List.length_cons, Nat.pow_succ, Nat.mul_comm (b ^ l.length)]
    rw [Nat.add_mul] at hm
    omega
def Digs (b : Nat) (l : List UInt8) : Prop := ∀ c ∈ l, ∃ k, k < b ∧ c = digC k
theorem digC_lt {i j : Nat} (hi : i < 36) (hj : j < 36) : digC i < digC j ↔ i < j := by
  rw [UInt8.lt_iff_toNat_lt, digC_nat hi, digC_nat hj]
  repeat' split
  all_goals omega
theorem digC_inj {i j : Nat} (hi : i < 36) (hj : j < 36) (h : digC i = digC j) : i = j := by
  have h1 := digV_digC hi
  have h2 := digV_digC hj
  rw [h] at h1
  omega
theorem digs_order {b : Nat} (hb : 1 ≤ b) (hb36 : b ≤ 36) : ∀ (l m : List UInt8), Digs b l → Digs b m → l.length = m.length → Op.bytesLess l m = decide (valB b 0 l < valB b 0 m)
  | [], [], _, _, _ => by simp [Op.bytesLess, valB]
  | [], _ :: _, _, _, h => by simp at h
  | _ :: _, [], _, _, h => by simp at h
  | x :: l, y :: m, hl, hm, h => by
    obtain ⟨i, hi, rfl⟩ := hl x (by simp)
    obtain ⟨j, hj, rfl⟩ := hm y (by simp)
    have hl' : Digs b l := fun c hc => hl c (by simp [hc])
    have hm' : Digs b m := fun c hc => hm c (by simp [hc])
    have hlen : l.length = m.length := by simpa using h
    have ih := digs_order hb hb36 l m hl' hm' hlen
    have v1 : valB b 0 (digC i :: l) = i * b ^ l.length + valB b 0 l := by
      have : valB b 0 (digC i :: l) = valB b (digV (digC i)) l := by simp [valB]
      rw [this, valB_acc, digV_digC (by omega)]
    have v2 : valB b 0 (digC j :: m) = j * b ^ l.length + valB b 0 m := by
      have : valB b 0 (digC j :: m) = valB b (digV (digC j)) m := by simp [valB]
      rw [this, valB_acc, digV_digC (by omega), hlen]
    have b1 := valB_lt hb l (fun c hc => by obtain ⟨k, hk, rfl⟩ := hl' c hc; rw [digV_digC (by omega)]; exact hk)
    have b2 := valB_lt hb m (fun c hc => by obtain ⟨k, hk, rfl⟩ := hm' c hc; rw [digV_digC (by omega)]; exact hk)
    rw [← hlen] at b2
    rw [v1, v2, Op.bytesLess, ih]
    rcases Nat.lt_trichotomy i j with hlt | rfl | hgt
    · have e1 : (digC i < digC j) := (digC_lt (by omega) (by omega)).2 hlt
      have hmul : (i + 1) * b ^ l.length ≤ j * b ^ l.length := Nat.mul_le_mul_right _ hlt
      rw [Nat.add_mul] at hmul
      have e2 : i * b ^ l.length + valB b 0 l < j * b ^ l.length + valB b 0 m := by omega
      simp [e1, e2]
    · have e1 : ¬ (digC i < digC i) := by rw [digC_lt (by omega) (by omega)]; omega
      simp [e1]
    · have e1 : ¬ (digC i < digC j) := by rw [digC_lt (by omega) (by omega)]; omega
      have e3 : digC i ≠ digC j := fun e => by have := digC_inj (by omega) (by omega) e; omega
      have hmul : (j + 1) * b ^ l.length ≤ i * b ^ l.length := Nat.mul_le_mul_right _ hgt
      rw [Nat.add_mul] at hmul
      have e2 : ¬ i * b ^ l.length + valB b 0 l < j * b ^ l.length + valB b 0 m := by omega
      simp [e1, e2, e3]
theorem digits_len_mono {b : Nat} (hb : 2 ≤ b) : ∀ (v u : Nat), u ≤ v → (digitsU b u).length ≤ (digitsU b v).length := by
  intro v
  induction v using Nat.strongRecOn with
  | ind v ih =>
    intro u huv
    by_cases hv : v < b
    · rw [digitsU_small (show u < b by omega), digitsU_small hv]; simp
    · by_cases hu : u < b
      · rw [digitsU_small hu]
        have := List.length_pos_iff.2 (digitsU_ne b v)
        simp; omega
      · rw [digitsU_big hb (show b ≤ u by omega), digitsU_big hb (show b ≤ v by omega)]
        have := ih (v / b) (Nat.div_lt_self (by omega) (by omega)) (u / b) (Nat.div_le_div_right huv)
        simp; omega
theorem digits_order {b : Nat} (hb : 2 ≤ b) (hb36 : b ≤ 36) (u v : Nat) :
    (decide ((digitsU b u).length < (digitsU b v).length) || (decide ((digitsU b u).length = (digitsU b v).length) && Op.bytesLess (digitsU b u) (digitsU b v))) = decide (u < v) := by
  have hu := digits_val hb hb36 u 0
  have hv := digits_val hb hb36 v 0
  simp only [Nat.zero_mul, Nat.zero_add] at hu hv
  by_cases hlen : (digitsU b u).length = (digitsU b v).length
  · rw [digs_order (by omega) hb36 _ _ (digits_dig hb hb36 u) (digits_dig hb hb36 v) hlen, hu, hv]
    simp [hlen]
  · by_cases huv : u < v
    · have := digits_len_mono hb v u (by omega)
      have hl : (digitsU b u).length < (digitsU b v).length := by omega
      simp [hl, huv]
    · have := digits_len_mono hb u v (by omega)
      have hl : ¬ (digitsU b u).length < (digitsU b v).length := by omega
      simp [hl, hlen, huv]
theorem digits_inj {b : Nat} (hb : 2 ≤ b) (hb36 : b ≤ 36) {u v : Nat} (h : digitsU b u = digitsU b v) : u = v := by
  have hu := digits_val hb hb36 u 0
  have hv := digits_val hb hb36 v 0
  simp only [Nat.zero_mul, Nat.zero_add] at hu hv
  rw [h] at hu
  omega
theorem unsig_inj {n m : Int} (hn : -9223372036854775808 ≤ n ∧ n ≤ 9223372036854775807) (hm : -9223372036854775808 ≤ m ∧ m ≤ 9223372036854775807) (h : unsig n = unsig m) : n = m := by
  unfold unsig at h
  omega
theorem unsigned_inj {b : Nat} (hb : 2 ≤ b) (hb36 : b ≤ 36) {n m : Int} (hn : -9223372036854775808 ≤ n ∧ n ≤ 9223372036854775807) (hm : -9223372036854775808 ≤ m ∧ m ≤ 9223372036854775807) :
    unsignedB n b = unsignedB m b ↔ n = m :=
  ⟨fun h => unsig_inj hn hm (digits_inj hb hb36 h), fun h => by rw [h]⟩
theorem print_inj {b : Nat} (hb : 2 ≤ b) (hb36 : b ≤ 36) {n m : Int} (hn : -9223372036854775808 ≤ n ∧ n ≤ 9223372036854775807) (hm : -9223372036854775808 ≤ m ∧ m ≤ 9223372036854775807) :
    printB n b = printB m b ↔ n = m := by
  constructor
  · intro h
    have h1 := body_print hn hb hb36
    have h2 := body_print hm hb hb36
    rw [h, h2] at h1
    injection h1 with h1
    exact h1.symm
  · intro h; rw [h]
theorem print_len {b : Nat} (hb : 2 ≤ b) {n : Int} (hn : -9223372036854775808 ≤ n ∧ n ≤ 9223372036854775807) : (printB n b).length ≤ 65 := by
  unfold printB
  split
  · have := digitsU_64 hb (show n.toNat < 18446744073709551616 by omega); omega
  · have := digitsU_64 hb (show n.natAbs < 18446744073709551616 by omega); simp; omega
end Go.Proofs.YtanpbphgmnjdeabDoor
