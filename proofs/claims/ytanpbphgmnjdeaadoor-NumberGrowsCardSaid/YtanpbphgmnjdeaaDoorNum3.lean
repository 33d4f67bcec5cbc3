/- Chapter 5: the document's writing at any base; Filled on both sides. Conditions: the tables lie as their initialisers lay them. -/
import Derived.Test.YtanpbphgmnjdeaaDoorFmt4
namespace Go.Proofs.YtanpbphgmnjdeaaDoor
set_option linter.unusedVariables false
open Go.RowKit Go.Lib

def i64R (n : Int) : Prop := -9223372036854775808 ≤ n ∧ n ≤ 9223372036854775807
theorem runsigned_walk (n b : Int) (w : World) : Calls Tryd.prog 42 #[.int .i64 n, .int .i64 b] w (Same (.string ⟨(unsignedS n b).toArray⟩) w) := by
  by_cases hb : 2 ≤ b ∧ b ≤ 36
  · have h := unsigned_ref n b.toNat (by omega) (by omega) w
    rw [Int.toNat_of_nonneg (by omega)] at h
    have hS : unsignedS n b = unsignedB n b.toNat := by unfold unsignedS; rw [if_pos hb]
    rw [hS]
    exact h
  · have hbw := rbase_walk b w
    have e : (decide (2 ≤ b) && decide (b ≤ 36)) = false := by simp; omega
    rw [e] at hbw
    have hS : unsignedS n b = [63] := by unfold unsignedS; rw [if_neg hb]
    rw [hS]
    replace hbw := Lib.hid hbw
    clear e hS hb
    go_enter Tryd.func42, Tryd.ntmps42
    go_wp2_with (go_at_call 38; refine hbw.out.mono ?_; rintro e w1 ⟨rfl, rfl⟩)
    go_ret
    exact ⟨rfl, rfl⟩
theorem rprint_walk (n : Int) (hn : i64R n) (b : Int) (w : World) : Calls Tryd.prog 40 #[.int .i64 n, .int .i64 b] w (Same (.string ⟨(printS n b).toArray⟩) w) := by
  by_cases hb : 2 ≤ b ∧ b ≤ 36
  · have h := print_ref n hn b.toNat (by omega) (by omega) w
    rw [Int.toNat_of_nonneg (by omega)] at h
    have hS : printS n b = printB n b.toNat := by unfold printS; rw [if_pos hb]
    rw [hS]
    exact h
  · have hbw := rbase_walk b w
    have hu := runsigned_walk n b w
    have e : (decide (2 ≤ b) && decide (b ≤ 36)) = false := by simp; omega
    rw [e] at hbw
    have hS : printS n b = [63] := by unfold printS; rw [if_neg hb]
    have hS2 : unsignedS n b = [63] := by unfold unsignedS; rw [if_neg hb]
    rw [hS]
    rw [hS2] at hu
    replace hbw := Lib.hid hbw
    replace hu := Lib.hid hu
    clear e hS hS2 hb hn
    go_enter Tryd.func40, Tryd.ntmps40
    go_wp2_with (first
      | (go_at_call 38; refine hbw.out.mono ?_; rintro e w1 ⟨rfl, rfl⟩)
      | (go_at_call 42; refine hu.out.mono ?_; rintro e w1 ⟨rfl, rfl⟩))
    all_goals go_ret
    all_goals exact ⟨rfl, rfl⟩
theorem printS_len {n : Int} (hn : i64R n) (b : Int) : (printS n b).length ≤ 65 := by
  unfold printS
  split
  · exact print_len (by omega) hn
  · simp
/-- filled up with blanks, as wide as asked, at most 255 -/
def padN (width : Int) (l : List UInt8) : Nat := (min width 255 - l.length).toNat
def filledS (n b width : Int) : List UInt8 := List.replicate (padN width (printS n b)) 32 ++ printS n b
def strLenV : Value → Nat
  | .string s => s.size
  | _ => 0
theorem strLenV_of (l : List UInt8) : strLenV (.string ⟨l.toArray⟩) = l.length := by simp [strLenV, ByteArray.size]
theorem repeat_blank (k : Nat) : Lib.repeatL [32] k = List.replicate k (32 : UInt8) := by
  induction k with
  | zero => rfl
  | succ k ih => rw [List.replicate_succ, ← ih]; rfl
set_option maxRecDepth 100000 in
theorem filled_walk (n : Int) (hn : i64R n) (b width : Int) (hw : i64R width) (w : World) (hP : Pows w) (hB : Bruijn w) :
    Calls Tryd.prog 43 #[.int .i64 n, .int .i64 b, .int .i64 width] w (Fresh' (.string ⟨(filledS n b width).toArray⟩) w) := by
  have hp := print_walk n hn b w hP hB
  have hl := printS_len hn b
  unfold filledS
  generalize printS n b = R at *
  obtain ⟨hw1, hw2⟩ := hw
  replace hp := Lib.hid hp
  clear hP hB
  by_cases h : (R.length : Int) < min width 255
  · have hk : ((padN width R : Nat) : Int) = min width 255 - R.length := by unfold padN; omega
    have hrep := fun w => Tryd.strings_Repeat ⟨#[32]⟩ (padN width R) w (by omega) (by show 1 * _ ≤ _; omega)
    rw [show ({ data := #[32] } : ByteArray).data.toList = [32] from rfl, repeat_blank] at hrep
    rw [hk] at hrep
    have hcat : (⟨(List.replicate (padN width R) 32).toArray⟩ : ByteArray) ++ ⟨R.toArray⟩ = ⟨(List.replicate (padN width R) 32 ++ R).toArray⟩ := by apply bytes_ext; simp
    have hrl : (List.replicate (padN width R) (32 : UInt8)).length ≤ 255 := by simp; omega
    generalize List.replicate (padN width R) (32 : UInt8) = S at *
    have hd : decide ((R.length : Int) < min width 255) = true := by rw [decide_eq_true_iff]; exact h
    replace hrep := Lib.hid hrep
    replace hcat := Lib.hid hcat
    replace hk := Lib.hid hk
    go_enter Tryd.func43, Tryd.ntmps43
    go_wp2_with (first
      | (go_at_call 39; refine hp.out.mono ?_; rintro e w1 ⟨rfl, hk1⟩)
      | (go_at_call 76; refine (hrep.out _).mono ?_; rintro e w2 ⟨rfl, hb2⟩))
    go_ret
    exact ⟨by rw [← hcat.out]; rfl, hk1.trans ⟨hb2.os, hb2.tape, hb2.output, hb2.size, fun k hk _ => hb2.block k hk⟩⟩
  · have hk : padN width R = 0 := by unfold padN; omega
    rw [hk]
    have hd : decide ((R.length : Int) < min width 255) = false := by rw [decide_eq_false_iff_not]; exact h
    clear hk
    go_enter Tryd.func43, Tryd.ntmps43
    go_wp2_with (go_at_call 39; refine hp.out.mono ?_; rintro e w1 ⟨rfl, hk1⟩)
    go_ret
    exact ⟨rfl, hk1⟩
set_option maxRecDepth 100000 in
set_option maxHeartbeats 1000000 in
theorem rfilled_walk (n : Int) (hn : i64R n) (b width : Int) (hw : i64R width) (w : World) :
    Calls Tryd.prog 44 #[.int .i64 n, .int .i64 b, .int .i64 width] w (Same (.string ⟨(filledS n b width).toArray⟩) w) := by
  have hp := rprint_walk n hn b w
  have hl := printS_len hn b
  unfold filledS
  generalize printS n b = R at *
  obtain ⟨hw1, hw2⟩ := hw
  replace hp := Lib.hid hp
  go_enter Tryd.func44, Tryd.ntmps44
  go_wp2_with (go_at_call 40; refine hp.out.mono ?_; rintro e w1 ⟨rfl, rfl⟩)
  go_loopw [7] (fun s wr => ∃ j : Nat, j ≤ padN width R ∧ s = .string ⟨(List.replicate j 32 ++ R).toArray⟩ ∧ wr = w1) (fun s _ => 400 - strLenV s)
  case atStart => exact ⟨0, by omega, by simp, rfl⟩
  case round =>
    obtain ⟨j, hj, rfl, rfl⟩ := hrel
    have hjl : (List.replicate j (32 : UInt8) ++ R).length = j + R.length := by simp
    have hpad : padN width R ≤ 255 := by unfold padN; omega
    by_cases hlt : j < padN width R
    · have h1 : decide (((List.replicate j (32 : UInt8) ++ R).length : Int) < width) = true := by rw [decide_eq_true_iff, hjl]; unfold padN at hlt; omega
      have h2 : decide (((List.replicate j (32 : UInt8) ++ R).length : Int) < 255) = true := by rw [decide_eq_true_iff, hjl]; unfold padN at hlt; omega
      have h2' : decide ((List.replicate j (32 : UInt8) ++ R).length < 255) = true := by rw [decide_eq_true_iff, hjl]; unfold padN at hlt; omega
      have hcat : (⟨#[32]⟩ : ByteArray) ++ ⟨(List.replicate j (32 : UInt8) ++ R).toArray⟩ = ⟨(List.replicate (j + 1) (32 : UInt8) ++ R).toArray⟩ := by apply bytes_ext; simp [List.replicate_succ]
      have hm0 := strLenV_of (List.replicate j (32 : UInt8) ++ R)
      have hm1 := strLenV_of (List.replicate (j + 1) (32 : UInt8) ++ R)
      have hal : (List.replicate j (32 : UInt8) ++ R).length ≤ 400 := by rw [hjl]; omega
      have hml : (List.replicate (j + 1) (32 : UInt8) ++ R).length = (List.replicate j (32 : UInt8) ++ R).length + 1 := by simp; omega
      have hal3 : (List.replicate j (32 : UInt8) ++ R).length < 400 := by rw [hjl]; omega
      rw [← hcat] at hm1
      generalize hY : List.replicate j (32 : UInt8) ++ R = Y at *
      replace hcat := Lib.hid hcat
      replace hm0 := Lib.hid hm0
      replace hm1 := Lib.hid hm1
      replace hml := Lib.hid hml
      replace hjl := Lib.hid hjl
      replace hY := Lib.hid hY
      go_wp2
      go_roundw
      case rel => exact ⟨j + 1, by omega, by rw [← hcat.out], trivial⟩
      case measure => rw [hm0.out, hm1.out, hml.out]; omega
    · have hje : j = padN width R := by omega
      have h1 : decide (((List.replicate j (32 : UInt8) ++ R).length : Int) < width) = false ∨ (decide (((List.replicate j (32 : UInt8) ++ R).length : Int) < width) = true ∧ decide (((List.replicate j (32 : UInt8) ++ R).length : Int) < 255) = false ∧ decide ((List.replicate j (32 : UInt8) ++ R).length < 255) = false) := by
        rw [hjl]
        by_cases hc : ((j + R.length : Nat) : Int) < width
        · refine .inr ⟨by simpa using hc, ?_, ?_⟩
          · rw [decide_eq_false_iff_not]; rw [hje] at hc ⊢; unfold padN at hc ⊢; omega
          · rw [decide_eq_false_iff_not]; rw [hje] at hc ⊢; unfold padN at hc ⊢; omega
        · exact .inl (by simpa using hc)
      have hfin : List.replicate (padN width R) (32 : UInt8) ++ R = List.replicate j 32 ++ R := by rw [hje]
      generalize List.replicate j (32 : UInt8) ++ R = Y at *
      replace hfin := Lib.hid hfin
      clear hjl hje
      rcases h1 with h1 | ⟨h1, h2, h3⟩
      all_goals
        go_wp2
        go_ret
        exact ⟨by rw [hfin.out]; rfl, rfl⟩
end Go.Proofs.YtanpbphgmnjdeaaDoor
