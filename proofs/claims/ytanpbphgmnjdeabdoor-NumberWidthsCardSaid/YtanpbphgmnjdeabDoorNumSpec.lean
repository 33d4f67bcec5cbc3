/- The plain specification of chapter 5 (numbers as texts): digits by a base. No condition. -/
import Derived.Test.YtanpbphgmnjdeabDoorMem
import Derived.Lib.ItoaNum
namespace Go.Proofs.YtanpbphgmnjdeabDoor
set_option linter.unusedVariables false
open Go.RowKit Go.Lib

/-- a digit's sign: 0 to 9, A to Z -/
def digC (k : Nat) : UInt8 := UInt8.ofNat (if k < 10 then 48 + k else 55 + k)
/-- the digits of a number, the first ahead -/
def digitsU (b u : Nat) : List UInt8 :=
  if h : u < b ∨ b < 2 then [digC u] else digitsU b (u / b) ++ [digC (u % b)]
termination_by u
decreasing_by exact Nat.div_lt_self (by omega) (by omega)
theorem digitsU_small {b u : Nat} (h : u < b) : digitsU b u = [digC u] := by rw [digitsU, dif_pos (.inl h)]
theorem digitsU_big {b u : Nat} (hb : 2 ≤ b) (h : b ≤ u) : digitsU b u = digitsU b (u / b) ++ [digC (u % b)] := by rw [digitsU, dif_neg (by omega)]
theorem digitsU_ne (b u : Nat) : digitsU b u ≠ [] := by
  rw [digitsU]
  split <;> simp
theorem digitsU_10 : ∀ u, digitsU 10 u = decDigits u := by
  intro u
  induction u using Nat.strongRecOn with
  | ind u ih =>
    by_cases h : u < 10
    · rw [digitsU_small h, decDigits, dif_pos h]
      unfold digC
      rw [if_pos h]
    · rw [digitsU_big (by omega) (by omega), decDigits, dif_neg h, ih (u / 10) (by omega)]
      unfold digC
      rw [if_pos (by omega)]
theorem digitsU_len {b : Nat} (hb : 2 ≤ b) : ∀ (n u : Nat), u < b ^ (n + 1) → (digitsU b u).length ≤ n + 1
  | 0, u, h => by rw [digitsU_small (by simpa using h)]; simp
  | n + 1, u, h => by
    rcases Nat.lt_or_ge u b with h1 | h1
    · rw [digitsU_small h1]; simp
    · rw [digitsU_big hb h1, List.length_append]
      have : u / b < b ^ (n + 1) := by
        rw [Nat.div_lt_iff_lt_mul (by omega)]
        rw [Nat.pow_succ] at h
        exact h
      have := digitsU_len hb n (u / b) this
      simp
      omega
theorem digitsU_64 {b u : Nat} (hb : 2 ≤ b) (hu : u < 18446744073709551616) : (digitsU b u).length ≤ 64 := by
  refine digitsU_len hb 63 u ?_
  have h1 : (2 : Nat) ^ 64 ≤ b ^ 64 := Nat.pow_le_pow_left hb 64
  have h2 : (2 : Nat) ^ 64 = 18446744073709551616 := by decide
  show u < b ^ 64
  omega
/-- one round of the document's loop -/
theorem digits_step {b u : Nat} (hb : 2 ≤ b) (s r : List UInt8) (h : digitsU b u ++ s = r) : (u / b = 0 → digC (u % b) :: s = r) ∧ (0 < u / b → digitsU b (u / b) ++ digC (u % b) :: s = r) := by
  constructor
  · intro h0
    have hlt : u < b := by
      rcases Nat.lt_or_ge u b with h1 | h1
      · exact h1
      · have := Nat.div_pos h1 (by omega); omega
    rw [digitsU_small hlt] at h
    rw [Nat.mod_eq_of_lt hlt]
    exact h
  · intro h0
    have hge : b ≤ u := by
      rcases Nat.lt_or_ge u b with h1 | h1
      · rw [Nat.div_eq_of_lt h1] at h0; omega
      · exact h1
    rw [digitsU_big hb hge] at h
    simpa using h
/-- a cell without its sign -/
def unsig (n : Int) : Nat := (n % 18446744073709551616).toNat
def unsignedB (n : Int) (b : Nat) : List UInt8 := digitsU b (unsig n)
def printB (n : Int) (b : Nat) : List UInt8 := if 0 ≤ n then digitsU b n.toNat else 45 :: digitsU b n.natAbs
theorem printB_10 (n : Int) : printB n 10 = itoa n := by
  unfold printB itoa
  by_cases h : 0 ≤ n
  · rw [if_pos h, if_neg (by omega), digitsU_10]
  · rw [if_neg h, if_pos (by omega), digitsU_10]
end Go.Proofs.YtanpbphgmnjdeabDoor
