/- Chapter 5: the document's Base, Unsigned, Print. Conditions: a base from 2 to 36 where digits are asked for. -/
import Derived.Test.YtanpbphgmnjdeabDoorNumSpec
import Derived.Test.YtanpbphgmnjdeabDoorSame
import Derived.Laws.Bits64
namespace Go.Proofs.YtanpbphgmnjdeabDoor
set_option linter.unusedVariables false
open Go.RowKit Go.Lib

theorem digC_at : ∀ k : Fin 36, (⟨#[48, 49, 50, 51, 52, 53, 54, 55, 56, 57, 65, 66, 67, 68, 69, 70, 71, 72, 73, 74, 75, 76, 77, 78, 79, 80, 81, 82, 83, 84, 85, 86, 87, 88, 89, 90]⟩ : ByteArray).extract k.val (k.val + 1) = ⟨#[digC k.val]⟩ := by decide +kernel
/-- what holds at a round's head of the document's loop: k is left, l is written -/
def DigRel (b u0 : Nat) (R : List UInt8) (k : Nat) (l : List UInt8) : Prop := (l = [] ∧ k = u0) ∨ (l ≠ [] ∧ ((k = 0 ∧ l = R) ∨ (0 < k ∧ digitsU b k ++ l = R)))
def emptyW : Value → Nat
  | .string s => if s.size = 0 then 1 else 0
  | _ => 0
theorem emptyW_some (c : UInt8) (s : ByteArray) : emptyW (.string ((⟨#[c]⟩ : ByteArray) ++ s)) = 0 := by
  unfold emptyW
  have h : ((⟨#[c]⟩ : ByteArray) ++ s).size = 1 + s.size := by rw [ByteArray.size_append]; rfl
  simp only [h]
  rw [if_neg (by omega)]
theorem emptyW_none : emptyW (.string ⟨#[]⟩) = 1 := rfl
theorem DigRel.cases {b u0 : Nat} {R : List UInt8} {k : Nat} {l : List UInt8} (h : DigRel b u0 R k l) (hR : digitsU b u0 = R) : (l ≠ [] ∧ k = 0 ∧ l = R) ∨ ((l = [] ∨ 0 < k) ∧ digitsU b k ++ l = R) := by
  rcases h with ⟨rfl, rfl⟩ | ⟨h1, ⟨rfl, rfl⟩ | ⟨h2, h3⟩⟩
  · exact .inr ⟨.inl rfl, by simpa using hR⟩
  · exact .inl ⟨h1, rfl, rfl⟩
  · exact .inr ⟨.inr h2, h3⟩
theorem DigRel.next {b u0 : Nat} (hb : 2 ≤ b) {R : List UInt8} {k : Nat} {l : List UInt8} (h : digitsU b k ++ l = R) : DigRel b u0 R (k / b) (digC (k % b) :: l) := by
  obtain ⟨h1, h2⟩ := digits_step hb l R h
  refine .inr ⟨by simp, ?_⟩
  rcases Nat.eq_zero_or_pos (k / b) with h0 | h0
  · exact .inl ⟨h0, h1 h0⟩
  · exact .inr ⟨h0, h2 h0⟩
end Go.Proofs.YtanpbphgmnjdeabDoor
