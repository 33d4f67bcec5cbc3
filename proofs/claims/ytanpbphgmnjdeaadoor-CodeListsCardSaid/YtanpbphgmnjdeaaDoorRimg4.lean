/- Chapter 3: the document's image: reading cells. Conditions: as written. -/
import Derived.Test.YtanpbphgmnjdeaaDoorRimg3
namespace Go.Proofs.YtanpbphgmnjdeaaDoor
set_option linter.unusedVariables false
open Go.RowKit Go.Lib Go.Deep

theorem RRep.byte {w : World} {g gb : Nat} {S : Img} (h : RRep w g gb S) (i : Nat) (hi : i < S.beg 6) : w.cell? ⟨gb, i, none⟩ = some (.int .u8 ((S.b.getD i 0).toNat : Int)) := by
  rw [h.row.cell]
  have : i < S.b.length := by rw [h.ok.len]; exact hi
  simp [bcells, List.getD, this]
/-- the cells of an array into which j of eight bytes have been copied -/
def copied (l : List UInt8) (j : Nat) : Array Value := (bcells (l.take j ++ List.replicate (8 - j) 0)).toArray
theorem copied_at (l : List UInt8) (hl : l.length = 8) (j : Nat) (hj : j < 8) : (copied l j)[j]? = some (.int .u8 0) := by
  match l, hl with
  | [a, b, c, d, e, f, g, h], _ =>
    have : j = 0 ∨ j = 1 ∨ j = 2 ∨ j = 3 ∨ j = 4 ∨ j = 5 ∨ j = 6 ∨ j = 7 := by omega
    rcases this with rfl | rfl | rfl | rfl | rfl | rfl | rfl | rfl <;> rfl
theorem copied_set (l : List UInt8) (hl : l.length = 8) (j : Nat) (hj : j < 8) : (copied l j).setIfInBounds j (.int .u8 ((l.getD j 0).toNat : Int)) = copied l (j + 1) := by
  match l, hl with
  | [a, b, c, d, e, f, g, h], _ =>
    have : j = 0 ∨ j = 1 ∨ j = 2 ∨ j = 3 ∨ j = 4 ∨ j = 5 ∨ j = 6 ∨ j = 7 := by omega
    rcases this with rfl | rfl | rfl | rfl | rfl | rfl | rfl | rfl <;> rfl
theorem copied_all (l : List UInt8) (hl : l.length = 8) : copied l 8 = (bcells l).toArray := by
  unfold copied
  rw [List.take_of_length_le (by omega)]
  simp
theorem tmod8 (a : Int) : (a.tmod 8 = 0) ↔ a % 8 = 0 := by rw [Int.tmod_eq_emod]; split <;> omega
theorem r_cell_mis (p : Value) (m a : Int) (w : World) (hal : a % 8 ≠ 0) : Calls Tryd.prog 62 #[p, .int .i64 m, .int .i64 a] w (Gives (.tuple #[.int .i64 0, .int .i64 6]) w) := by
  have hal1 : (a.tmod 8 == 0) = false := by rw [beq_eq_false_iff_ne]; exact fun h => hal ((tmod8 a).1 h)
  clear hal
  go_enter Tryd.func62, Tryd.ntmps62
  go_wp2
  go_ret2
  exact ⟨rfl, Below.refl _ _⟩
theorem r_cell_no (p : Value) (m a : Int) (w : World) (hal : a % 8 = 0) (hrow : Calls Tryd.prog 83 #[p, .int .i64 m, .int .i64 a, .int .i64 8, .int .i64 1] w (Gives (.bool false) w)) :
    Calls Tryd.prog 62 #[p, .int .i64 m, .int .i64 a] w (Gives (.tuple #[.int .i64 0, .int .i64 5]) w) := by
  have hal1 : a.tmod 8 = 0 := (tmod8 a).2 hal
  replace hrow := Lib.hid hrow
  clear hal
  go_enter Tryd.func62, Tryd.ntmps62
  go_wp2_with fail
  refine hrow.out.mono ?_
  rintro e w1 ⟨rfl, h1⟩
  replace h1 := Lib.hid h1
  go_wp2
  go_ret2
  exact ⟨rfl, h1.out⟩
set_option maxRecDepth 100000 in
set_option maxHeartbeats 2000000 in
theorem r_cell_yes {w : World} {g gb : Nat} {S : Img} (h : RRep w g gb S) (m : Int) (k : Nat) (hle : k + 8 ≤ S.beg 6) (hal : (k : Int) % 8 = 0)
    (hrow : Calls Tryd.prog 83 #[.pointer (some ⟨g, 0, none⟩), .int .i64 m, .int .i64 k, .int .i64 8, .int .i64 1] w (Gives (.bool true) w)) :
    Calls Tryd.prog 62 #[.pointer (some ⟨g, 0, none⟩), .int .i64 m, .int .i64 k] w (Gives (.tuple #[.int .i64 (ofB (S.bytes k 8)), .int .i64 0]) w) := by
  have hal1 : (k : Int).tmod 8 = 0 := (tmod8 _).2 hal
  have hl := bytes_len S h.ok k 8 hle
  have hby := bytes_getD S k 8
  have hsm := h.ok.small
  generalize hld : S.bytes (k : Int) 8 = l at *
  replace hrow := Lib.hid hrow
  replace h := Lib.hid h
  replace hl := Lib.hid hl
  replace hby := Lib.hid hby
  clear hal hld
  go_enter Tryd.func62, Tryd.ntmps62
  go_wp2_with fail
  refine hrow.out.mono ?_
  rintro e w1 ⟨rfl, h1⟩
  have hR1 := Lib.hid (h.out.below h1)
  replace h1 := Lib.hid h1
  go_wp2
  go_loopw [10] (fun i wr => ∃ j : Nat, j ≤ 8 ∧ i = .int .i64 j ∧ Blk wr w1.heap.size 112 (copied l j) ∧ Below w1.heap.size w1 wr) (fun i _ => 8 - (RowKit.intOf i).toNat)
  case atStart => exact ⟨0, by omega, rfl, Blk.new _ _ _, (Below.refl _ _).alloc (Nat.le_refl _) _⟩
  case round =>
    obtain ⟨j, hj8, rfl, hb, hbl⟩ := hrel
    have hr := hR1.out.below hbl
    by_cases hlt : j < 8
    · have hc : wr.cell? ⟨w1.heap.size, j, none⟩ = some (.int .u8 0) := by rw [hb.cell, copied_at l hl.out j hlt]
      have hf := hb.frozen j
      have hsrc := hr.byte (k + j) (by omega)
      rw [← hby.out j hlt] at hsrc
      have hall := hr.all_cell
      have hb1 := hb.set_ j (.int .u8 ((l.getD j 0).toNat : Int))
      rw [copied_set l hl.out j hlt] at hb1
      generalize ((l.getD j 0).toNat : Int) = c at *
      generalize S.beg 6 = N at *
      replace hb1 := Lib.hid hb1
      replace hbl := Lib.hid hbl
      clear hb hr
      go_wp2
      go_roundw
      case rel => exact ⟨j + 1, by omega, by go_num, hb1.out, hbl.out.setCell (Nat.le_refl _) _⟩
      case measure => simp [RowKit.intOf]; omega
    · obtain rfl : j = 8 := by omega
      have hb' : Blk wr w1.heap.size 112 (bcells l).toArray := by rw [← copied_all l hl.out]; exact hb
      have hof := Of_walk l hl.out wr
      rw [bcells8 _ hl.out] at hof
      have e8 := eight_of hb' hl.out
      dsimp only [Eight] at e8
      obtain ⟨c0, c1, c2, c3, c4, c5, c6, c7⟩ := e8
      generalize ofB l = z at *
      generalize ((l.getD 0 0).toNat : Int) = x0 at *
      generalize ((l.getD 1 0).toNat : Int) = x1 at *
      generalize ((l.getD 2 0).toNat : Int) = x2 at *
      generalize ((l.getD 3 0).toNat : Int) = x3 at *
      generalize ((l.getD 4 0).toNat : Int) = x4 at *
      generalize ((l.getD 5 0).toNat : Int) = x5 at *
      generalize ((l.getD 6 0).toNat : Int) = x6 at *
      generalize ((l.getD 7 0).toNat : Int) = x7 at *
      replace hof := Lib.hid hof
      replace hbl := Lib.hid hbl
      clear hb hb' hr
      go_wp2_with fail
      refine hof.out.mono ?_
      rintro e w2 ⟨rfl, h2⟩
      replace h2 := Lib.hid (h1.out.trans ((hbl.out.trans (h2.mono hbl.out.size)).mono h1.out.size))
      go_wp2
      go_ret2
      exact ⟨rfl, h2.out⟩
end Go.Proofs.YtanpbphgmnjdeaaDoor
