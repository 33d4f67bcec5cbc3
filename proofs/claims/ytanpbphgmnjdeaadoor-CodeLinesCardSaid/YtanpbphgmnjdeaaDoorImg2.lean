/- Chapter 3: the program's image in memory: a row of bytes. Conditions: as written. -/
import Derived.Test.YtanpbphgmnjdeaaDoorImg1
namespace Go.Proofs.YtanpbphgmnjdeaaDoor
set_option linter.unusedVariables false
open Go.RowKit Go.Lib

set_option maxHeartbeats 1000000 in
theorem i_row {w : World} {g gb : Nat} {S : Img} (h : IRep w g gb S) (m a : Int) (n : Nat) (hn : n ≤ 9223372036854775807) (wr : Bool) :
    Calls Tryd.prog 81 #[.pointer (some ⟨g, 0, none⟩), .int .i64 m, .int .i64 a, .int .i64 (n : Int), .int .i64 (rightOf wr)] w (Same (rowV S gb m a n wr) w) := by
  unfold rowV
  by_cases h0 : n = 0
  · subst h0
    rw [if_pos rfl]
    clear hn h
    go_enter Tryd.func81, Tryd.ntmps81
    go_wp2
    go_ret2
    exact ⟨rfl, rfl⟩
  rw [if_neg h0]
  have hreg := Lib.hid (i_region h a)
  have hn0 : ((n : Int) == 0) = false := by rw [beq_eq_false_iff_ne]; omega
  by_cases hr : S.region a = 0
  · have hk : S.rowOk m a n wr = false := by unfold Img.rowOk; simp [h0, hr]
    rw [hk]
    rw [hr] at hreg
    clear h hr hk
    go_enter Tryd.func81, Tryd.ntmps81
    go_wp2_with fail
    refine hreg.out.mono ?_
    rintro e w1 ⟨rfl, rfl⟩
    go_wp2
    go_ret2
    exact ⟨rfl, rfl⟩
  obtain ⟨ha0, hlo, hhi, h6, hr1, hr5⟩ := S.region_in hr
  have hcell := h.beg_cell (S.region a + 1) (by omega)
  have hall := h.all_cell
  have hmay := Lib.hid (i_may h m (S.region a) hr5)
  have hsm := h.ok.small
  have hlet := lets_bits S m (S.region a) wr
  have hkk : S.rowOk m a n wr = (decide ((n : Int) ≤ S.beg (S.region a + 1) - a) && S.lets m (S.region a) wr) := by
    unfold Img.rowOk
    rw [show (n == 0) = false by simpa using h0, show (S.region a != 0) = true by simpa using hr, Bool.false_or, Bool.true_and]
  rw [hkk]
  clear h hkk
  generalize S.region a = r at *
  generalize S.beg (r + 1) = z at *
  generalize S.beg 6 = N at *
  generalize S.may m r = x at *
  generalize rightOf wr = y at *
  have hr0 : ((r : Int) == 0) = false := by rw [beq_eq_false_iff_ne]; omega
  replace hlet := Lib.hid hlet
  replace hr1 := Lib.hid hr1
  by_cases hle : (n : Int) ≤ z - a
  · cases hl : S.lets m r wr
    · replace hlet : (bits .and .i64 x y == 0) = true := by rw [hlet.out, hl]; rfl
      have hle2 : decide ((z : Int) - a < (n : Int)) = false := by rw [decide_eq_false_iff_not]; omega
      simp only [Bool.and_false, Bool.false_eq_true, if_false]
      clear hl hle
      go_enter Tryd.func81, Tryd.ntmps81
      go_wp2_with fail
      refine hreg.out.mono ?_
      rintro e w1 ⟨rfl, rfl⟩
      go_wp2_with fail
      refine hmay.out.mono ?_
      rintro e w1 ⟨rfl, rfl⟩
      go_wp2
      go_ret2
      exact ⟨rfl, rfl⟩
    · replace hlet : (bits .and .i64 x y == 0) = false := by rw [hlet.out, hl]; rfl
      obtain ⟨k, rfl⟩ := Int.eq_ofNat_of_zero_le ha0
      have hle2 : decide ((z : Int) - (k : Int) < (n : Int)) = false := by rw [decide_eq_false_iff_not]; omega
      have hkn : k + n - k = n := by omega
      simp only [Bool.and_true, decide_eq_true hle, if_true]
      clear hl
      go_enter Tryd.func81, Tryd.ntmps81
      go_wp2_with fail
      refine hreg.out.mono ?_
      rintro e w1 ⟨rfl, rfl⟩
      go_wp2_with fail
      refine hmay.out.mono ?_
      rintro e w1 ⟨rfl, rfl⟩
      go_wp2
      go_ret2
      refine ⟨congrArg Ending.returned ?_, rfl⟩
      show Value.tuple #[Value.slice (some ⟨gb, k, none⟩) (k + n - k) (k + n - k), .bool true] = _
      rw [hkn]
      rfl
  · have hkf : (decide ((n : Int) ≤ z - a)) = false := by simpa using hle
    simp only [hkf, Bool.false_and, Bool.false_eq_true, if_false]
    clear hkf
    go_enter Tryd.func81, Tryd.ntmps81
    go_wp2_with fail
    refine hreg.out.mono ?_
    rintro e w1 ⟨rfl, rfl⟩
    go_wp2
    go_ret2
    exact ⟨rfl, rfl⟩
end Go.Proofs.YtanpbphgmnjdeaaDoor
