/- Chapter 5: the document's writing at any base; Filled on both sides. Conditions: the tables lie as their initialisers lay them. -/
import Derived.Test.YtanpbphgmnjdeabDoorFmt4
namespace Go.Proofs.YtanpbphgmnjdeabDoor
set_option linter.unusedVariables false
open Go.RowKit Go.Lib

def i64R (n : Int) : Prop := -9223372036854775808 ≤ n ∧ n ≤ 9223372036854775807
theorem printS_len {n : Int} (hn : i64R n) (b : Int) : (printS n b).length ≤ 65 := by
  unfold printS
  split
  · exact print_len (by omega) hn
  · simp
/-- filled up with blanks, as wide as asked, at most 255 -/
def padN (width : Int) (l : List UInt8) : Nat := (min width 255 - l.length).toNat
def filledS (n b width : Int) : List UInt8 := List.replicate (padN width (printS n b)) 32 ++ printS n b
def strLenV : Value → Nat
  | .string s => s.size
  | _ => 0
theorem strLenV_of (l : List UInt8) : strLenV (.string ⟨l.toArray⟩) = l.length := by simp [strLenV, ByteArray.size]
theorem repeat_blank (k : Nat) : Lib.repeatL [32] k = List.replicate k (32 : UInt8) := by
  induction k with
  | zero => rfl
  | succ k ih => rw [List.replicate_succ, ← ih]; rfl
set_option maxRecDepth 100000 in
theorem filled_walk (n : Int) (hn : i64R n) (b width : Int) (hw : i64R width) (w : World) (hP : Pows w) (hB : Bruijn w) :
    Calls Tryd.prog 6 #[.int .i64 n, .int .i64 b, .int .i64 width] w (Fresh' (.string ⟨(filledS n b width).toArray⟩) w) := by
  have hp := print_walk n hn b w hP hB
  have hl := printS_len hn b
  unfold filledS
  generalize printS n b = R at *
  obtain ⟨hw1, hw2⟩ := hw
  replace hp := Lib.hid hp
  clear hP hB
  by_cases h : (R.length : Int) < min width 255
  · have hk : ((padN width R : Nat) : Int) = min width 255 - R.length := by unfold padN; omega
    have hrep := fun w => Tryd.strings_Repeat ⟨#[32]⟩ (padN width R) w (by omega) (by show 1 * _ ≤ _; omega)
    rw [show ({ data := #[32] } : ByteArray).data.toList = [32] from rfl, repeat_blank] at hrep
    rw [hk] at hrep
    have hcat : (⟨(List.replicate (padN width R) 32).toArray⟩ : ByteArray) ++ ⟨R.toArray⟩ = ⟨(List.replicate (padN width R) 32 ++ R).toArray⟩ := by apply bytes_ext; simp
    have hrl : (List.replicate (padN width R) (32 : UInt8)).length ≤ 255 := by simp; omega
    generalize List.replicate (padN width R) (32 : UInt8) = S at *
    have hd : decide ((R.length : Int) < min width 255) = true := by rw [decide_eq_true_iff]; exact h
    replace hrep := Lib.hid hrep
    replace hcat := Lib.hid hcat
    replace hk := Lib.hid hk
    go_enter Tryd.func6, Tryd.ntmps6
    go_wp2_with (first
      | (go_at_call 5; refine hp.out.mono ?_; rintro e w1 ⟨rfl, hk1⟩)
      | (go_at_call 12; refine (hrep.out _).mono ?_; rintro e w2 ⟨rfl, hb2⟩))
    go_ret
    exact ⟨by rw [← hcat.out]; rfl, hk1.trans ⟨hb2.os, hb2.tape, hb2.output, hb2.size, fun k hk _ => hb2.block k hk⟩⟩
  · have hk : padN width R = 0 := by unfold padN; omega
    rw [hk]
    have hd : decide ((R.length : Int) < min width 255) = false := by rw [decide_eq_false_iff_not]; exact h
    clear hk
    go_enter Tryd.func6, Tryd.ntmps6
    go_wp2_with (go_at_call 5; refine hp.out.mono ?_; rintro e w1 ⟨rfl, hk1⟩)
    go_ret
    exact ⟨rfl, hk1⟩
end Go.Proofs.YtanpbphgmnjdeabDoor
