/- Chapters 1 and 3: the document's rows; a cell as bytes and back. Conditions: as written. -/
import Derived.Test.YtanpbphgmnjdeaaDoorRimg1
namespace Go.Proofs.YtanpbphgmnjdeaaDoor
set_option linter.unusedVariables false
open Go.RowKit Go.Lib Go.Deep

theorem lets_pos (S : Img) (m : Int) (r : Nat) (wr : Bool) : (decide (0 < bits .and .i64 (S.may m r) (rightOf wr))) = S.lets m r wr := by
  unfold Img.lets rightOf
  rcases may_cases S m r with h | h | h <;> rw [h] <;> cases wr <;> decide
theorem may_zero (S : Img) (m : Int) : S.may m 0 = 0 := by unfold Img.may; rw [if_pos (by omega)]
set_option maxHeartbeats 1000000 in
theorem r_row {w : World} {g gb : Nat} {S : Img} (h : RRep w g gb S) (m a : Int) (n : Nat) (hn : n ≤ 9223372036854775807) (wr : Bool) :
    Calls Tryd.prog 83 #[.pointer (some ⟨g, 0, none⟩), .int .i64 m, .int .i64 a, .int .i64 (n : Int), .int .i64 (rightOf wr)] w (Gives (.bool (S.rowOk m a n wr)) w) := by
  by_cases h0 : n = 0
  · subst h0
    have hk : S.rowOk m a 0 wr = true := by unfold Img.rowOk; rfl
    rw [hk]
    clear hn h hk
    go_enter Tryd.func83, Tryd.ntmps83
    go_wp2
    go_ret
    exact ⟨rfl, Below.refl _ _⟩
  have hn0 : ((n : Int) == 0) = false := by rw [beq_eq_false_iff_ne]; omega
  have hreg := Lib.hid (r_region h a)
  have hlet := lets_pos S m (S.region a) wr
  have hsm := h.ok.small
  have hkk : S.rowOk m a n wr = (S.region a != 0 && decide ((n : Int) ≤ S.beg (S.region a + 1) - a) && S.lets m (S.region a) wr) := by
    unfold Img.rowOk
    rw [show (n == 0) = false by simpa using h0, Bool.false_or]
  by_cases hr : S.region a = 0
  · have hk : S.rowOk m a n wr = false := by rw [hkk, hr]; rfl
    rw [hk]
    rw [hr] at hreg
    replace h := Lib.hid h
    clear hkk hk hr hlet hsm
    generalize rightOf wr = y at *
    go_enter Tryd.func83, Tryd.ntmps83
    go_wp2_with fail
    refine hreg.out.mono ?_
    rintro e w1 ⟨rfl, h1⟩
    have hR1 := Lib.hid (h.out.below h1)
    have hspan := r_span hR1.out 0
    obtain ⟨e1, e2⟩ := span_zero S
    rw [e1, e2] at hspan
    replace hspan := Lib.hid hspan
    replace h1 := Lib.hid h1
    clear e1 e2
    go_wp2_with fail
    refine hspan.out.mono ?_
    rintro e w2 ⟨rfl, h2⟩
    have hR2 := Lib.hid (hR1.out.below h2)
    have hmay := Lib.hid (r_may hR2.out m 0 (by omega))
    replace h2 := Lib.hid (h1.out.trans (h2.mono h1.out.size))
    go_wp2_with fail
    refine hmay.out.mono ?_
    rintro e w3 ⟨rfl, rfl⟩
    go_wp2
    go_ret
    exact ⟨rfl, h2.out⟩
  obtain ⟨ha0, hlo, hhi, h6, hr1, hr5⟩ := S.region_in hr
  rw [hkk]
  replace h := Lib.hid h
  have hrr : (S.region a != 0) = true := by simpa using hr
  rw [hrr, Bool.true_and]
  obtain ⟨e1, e2⟩ := span_nat S (S.region a) hr1 hr5
  have e1 := Lib.hid e1
  have e2 := Lib.hid e2
  have hzr0 : 0 ≤ (S.beg (S.region a + 1) : Int) - a := by omega
  clear hkk hrr hr hlo hhi
  generalize hrd : S.region a = r at *
  replace hrd := Lib.hid hrd
  generalize hz : S.beg (r + 1) = z at *
  replace hz := Lib.hid hz
  generalize hy : rightOf wr = y at *
  replace hy := Lib.hid hy
  generalize hl : S.lets m r wr = l at *
  replace hl := Lib.hid hl
  generalize hx : S.may m r = x at *
  replace hx := Lib.hid hx
  have hzr : (z : Int) - a ≤ 143360 := by omega
  have hq : (decide ((n : Int) ≤ z - a)) = true ∨ (decide ((n : Int) ≤ z - a)) = false := by cases decide ((n : Int) ≤ z - a) <;> simp
  replace hr1 := Lib.hid hr1
  have hr0 : decide (0 < (r : Int)) = true := by have := hr1.out; simp; omega
  rcases hq with hq | hq
  all_goals
    rw [hq]
    go_enter Tryd.func83, Tryd.ntmps83
    go_wp2_with fail
    refine hreg.out.mono ?_
    rintro e w1 ⟨rfl, h1⟩
    have hR1 := Lib.hid (h.out.below h1)
    have hspan := r_span hR1.out r
    rw [e1.out, e2.out] at hspan
    replace hspan := Lib.hid hspan
    replace h1 := Lib.hid h1
    go_wp2_with fail
    refine hspan.out.mono ?_
    rintro e w2 ⟨rfl, h2⟩
    have hR2 := Lib.hid (hR1.out.below h2)
    have hmay := r_may hR2.out m r hr5
    rw [hx.out] at hmay
    replace hmay := Lib.hid hmay
    replace h2 := Lib.hid (h1.out.trans (h2.mono h1.out.size))
    go_wp2_with fail
    refine hmay.out.mono ?_
    rintro e w3 ⟨rfl, rfl⟩
    go_wp2
    all_goals go_ret
    all_goals exact ⟨by simp, h2.out⟩
end Go.Proofs.YtanpbphgmnjdeaaDoor
