/- Chapter 3: the program's image in memory: rights, regions. Conditions: as written. -/
import Derived.Test.YtanpbphgmnjdeaaDoorImgSpec
import Derived.Test.YtanpbphgmnjdeaaDoorSep
import Derived.Test.YtanpbphgmnjdeaaDoorSame
import Derived.OwnWalk
import Derived.Deep.RegionHeld
namespace Go.Proofs.YtanpbphgmnjdeaaDoor
set_option linter.unusedVariables false
open Go.RowKit Go.Lib

def imgCells (gb : Nat) (S : Img) : Array Value :=
  #[.int .i64 (S.k : Int), .int .i64 (S.s : Int), .int .i64 (S.u : Int), .int .i64 (S.d : Int), .int .i64 (S.r : Int),
    .int .i64 0, .int .i64 0, .int .i64 (S.beg 2 : Int), .int .i64 (S.beg 3 : Int), .int .i64 (S.beg 4 : Int), .int .i64 (S.beg 5 : Int), .int .i64 (S.beg 6 : Int),
    .slice (some ⟨gb, 0, none⟩) (S.beg 6) (S.beg 6), .bool S.op, .bool S.cl]
structure IRep (w : World) (g gb : Nat) (S : Img) : Prop where
  blk : Blk w g 108 (imgCells gb S)
  row : Blk w gb 5 (bcells S.b).toArray
  ok : S.Ok
theorem IRep.beg_cell {w : World} {g gb : Nat} {S : Img} (h : IRep w g gb S) (i : Nat) (hi : i ≤ 6) : w.cell? ⟨g, 5 + i, none⟩ = some (.int .i64 (S.beg i : Int)) := by
  rw [h.blk.cell]
  have : i = 0 ∨ i = 1 ∨ i = 2 ∨ i = 3 ∨ i = 4 ∨ i = 5 ∨ i = 6 := by omega
  rcases this with rfl | rfl | rfl | rfl | rfl | rfl | rfl <;> rfl
theorem IRep.all_cell {w : World} {g gb : Nat} {S : Img} (h : IRep w g gb S) : w.cell? ⟨g, 12, none⟩ = some (.slice (some ⟨gb, 0, none⟩) (S.beg 6) (S.beg 6)) := by rw [h.blk.cell]; rfl
theorem IRep.op_cell {w : World} {g gb : Nat} {S : Img} (h : IRep w g gb S) : w.cell? ⟨g, 13, none⟩ = some (.bool S.op) := by rw [h.blk.cell]; rfl
theorem IRep.cl_cell {w : World} {g gb : Nat} {S : Img} (h : IRep w g gb S) : w.cell? ⟨g, 14, none⟩ = some (.bool S.cl) := by rw [h.blk.cell]; rfl

theorem i_may {w : World} {g gb : Nat} {S : Img} (h : IRep w g gb S) (m : Int) (r : Nat) (hr : r ≤ 5) : Calls Tryd.prog 108 #[.pointer (some ⟨g, 0, none⟩), .int .i64 m, .int .i64 (r : Int)] w (Same (.int .i64 (S.may m r)) w) := by
  have hop := h.op_cell
  have hcl := h.cl_cell
  clear h
  have hr : r = 0 ∨ r = 1 ∨ r = 2 ∨ r = 3 ∨ r = 4 ∨ r = 5 := by omega
  have hm : m = 0 ∨ m = 1 ∨ m = 2 ∨ ((m == 0) = false ∧ (m == 1) = false ∧ (m == 2) = false) := by
    simp only [beq_eq_false_iff_ne]
    omega
  rcases hr with rfl | rfl | rfl | rfl | rfl | rfl
  all_goals
    rcases hm with rfl | rfl | rfl | ⟨hm0, hm1, hm2⟩
    all_goals
      go_enter Tryd.func108, Tryd.ntmps108
      go_wp2
      all_goals go_ret
      all_goals refine ⟨congrArg (fun n => Ending.returned (.int .i64 n)) ?_, rfl⟩
      all_goals first
        | rfl
        | (simp [Img.may, *]; done)
        | (simp only [beq_eq_false_iff_ne] at *; unfold Img.may; rw [if_pos (by omega)]; done)


theorem i_region {w : World} {g gb : Nat} {S : Img} (h : IRep w g gb S) (a : Int) : Calls Tryd.prog 107 #[.pointer (some ⟨g, 0, none⟩), .int .i64 a] w (Same (.int .i64 (S.region a : Int)) w) := by
  by_cases ha : a < 0
  · rw [S.region_out (.inl ha)]
    clear h
    go_enter Tryd.func107, Tryd.ntmps107
    go_wp2
    all_goals go_ret
    all_goals exact ⟨rfl, rfl⟩
  · have ha0 : 0 ≤ a := by omega
    have hb := Lib.hid h.beg_cell
    clear h ha
    go_enter Tryd.func107, Tryd.ntmps107
    go_wp2
    go_loop [5] (fun i => ∃ j : Nat, 1 ≤ j ∧ j ≤ 6 ∧ i = .int .i64 j ∧ (S.beg j : Int) ≤ a) (fun i => 7 - (RowKit.intOf i).toNat)
    case atStart => exact ⟨1, by omega, by omega, rfl, by simp [Img.beg]; omega⟩
    case round =>
      obtain ⟨j, hj1, hj6, rfl, hlo⟩ := hrel
      by_cases hlt : j < 6
      · have hcell := hb.out (j + 1) (by omega)
        by_cases hhi : a < (S.beg (j + 1) : Int)
        · have hr := Lib.hid (S.region_eq ha0 hj1 (by omega) hlo hhi)
          go_wp2
          go_ret
          exact ⟨by rw [hr.out]; rfl, rfl⟩
        · go_wp2
          go_round
          case rel => exact ⟨j + 1, by omega, by omega, by go_num, by omega⟩
          case measure => simp [RowKit.intOf]; omega
      · obtain rfl : j = 6 := by omega
        have hr := Lib.hid (S.region_out (.inr hlo))
        go_wp2
        go_ret
        exact ⟨by rw [hr.out]; rfl, rfl⟩

theorem i_span {w : World} {g gb : Nat} {S : Img} (h : IRep w g gb S) (r : Nat) (h1 : 1 ≤ r) (h5 : r ≤ 5) : Calls Tryd.prog 87 #[.pointer (some ⟨g, 0, none⟩), .int .i64 (r : Int)] w
    fun e w' => e = .returned (.tuple #[.int .i64 (S.beg r : Int), .int .i64 (S.beg (r + 1) : Int)]) ∧ ∃ n, w' = w.drewN n := by
  have ha := h.beg_cell r (by omega)
  have hb := h.beg_cell (r + 1) (by omega)
  clear h
  generalize S.beg r = x at *
  generalize S.beg (r + 1) = y at *
  have hr : r = 1 ∨ r = 2 ∨ r = 3 ∨ r = 4 ∨ r = 5 := by omega
  clear h1 h5
  rcases hr with rfl | rfl | rfl | rfl | rfl
  all_goals
    go_enter Tryd.func87, Tryd.ntmps87
    go_wp2
    go_quiet (fail)
    go_wp2
    go_ret2
    exact ⟨rfl, nq, rfl⟩
theorem i_span_out (p : Value) (r : Int) (hr : r < 1 ∨ 5 < r) (w : World) : Calls Tryd.prog 87 #[p, .int .i64 r] w (Same (.tuple #[.int .i64 0, .int .i64 0]) w) := by
  go_enter Tryd.func87, Tryd.ntmps87
  go_wp2
  all_goals go_ret2
  all_goals exact ⟨rfl, rfl⟩

/-- the row's answer: the bytes themselves, if a mode may do that with them -/
def rowV (S : Img) (gb : Nat) (m a : Int) (n : Nat) (wr : Bool) : Value :=
  if n = 0 then .tuple #[.slice none 0 0, .bool true] else if S.rowOk m a n wr = true then .tuple #[.slice (some ⟨gb, a.toNat, none⟩) n n, .bool true] else .tuple #[.slice none 0 0, .bool false]
def rightOf (wr : Bool) : Int := if wr then 2 else 1
theorem may_cases (S : Img) (m : Int) (r : Nat) : S.may m r = 0 ∨ S.may m r = 1 ∨ S.may m r = 3 := by
  unfold Img.may
  repeat' split
  all_goals simp
theorem lets_bits (S : Img) (m : Int) (r : Nat) (wr : Bool) : (bits .and .i64 (S.may m r) (rightOf wr) == 0) = !S.lets m r wr := by
  unfold Img.lets rightOf
  rcases may_cases S m r with h | h | h <;> rw [h] <;> cases wr <;> decide
end Go.Proofs.YtanpbphgmnjdeaaDoor
