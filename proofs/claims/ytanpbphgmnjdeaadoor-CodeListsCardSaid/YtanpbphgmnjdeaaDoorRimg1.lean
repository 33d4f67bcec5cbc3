/- Chapter 3: the document's image in memory: rights, regions, rows. Conditions: as written. -/
import Derived.Test.YtanpbphgmnjdeaaDoorImg7
namespace Go.Proofs.YtanpbphgmnjdeaaDoor
set_option linter.unusedVariables false
open Go.RowKit Go.Lib Go.Deep

def rimgCells (gb : Nat) (S : Img) : Array Value :=
  #[.int .i64 (S.k : Int), .int .i64 (S.s : Int), .int .i64 (S.u : Int), .int .i64 (S.d : Int), .int .i64 (S.r : Int), .slice (some ⟨gb, 0, none⟩) (S.beg 6) (S.beg 6), .bool S.op, .bool S.cl]
structure RRep (w : World) (g gb : Nat) (S : Img) : Prop where
  blk : Blk w g 78 (rimgCells gb S)
  row : Blk w gb 5 (bcells S.b).toArray
  ok : S.Ok
namespace Img
def size (S : Img) : Nat → Nat
  | 0 => S.k
  | 1 => S.s
  | 2 => S.u
  | 3 => S.d
  | 4 => S.r
  | _ => 0
theorem beg_size (S : Img) (j : Nat) (hj : j < 5) : S.beg (j + 1) + S.size j = S.beg (j + 2) := by
  have : j = 0 ∨ j = 1 ∨ j = 2 ∨ j = 3 ∨ j = 4 := by omega
  rcases this with rfl | rfl | rfl | rfl | rfl <;> simp [beg, size]
end Img
def sizesC (S : Img) : Array Value := #[.int .i64 (S.k : Int), .int .i64 (S.s : Int), .int .i64 (S.u : Int), .int .i64 (S.d : Int), .int .i64 (S.r : Int)]
theorem sizes_at (S : Img) (j : Nat) (hj : j < 5) : (sizesC S)[j]? = some (.int .i64 (S.size j : Int)) := by
  have : j = 0 ∨ j = 1 ∨ j = 2 ∨ j = 3 ∨ j = 4 := by omega
  rcases this with rfl | rfl | rfl | rfl | rfl <;> rfl
theorem RRep.cells {w : World} {g gb : Nat} {S : Img} (h : RRep w g gb S) : w.cell? ⟨g, 0, none⟩ = some (.int .i64 (S.k : Int)) ∧ w.cell? ⟨g, 1, none⟩ = some (.int .i64 (S.s : Int)) ∧ w.cell? ⟨g, 2, none⟩ = some (.int .i64 (S.u : Int)) ∧ w.cell? ⟨g, 3, none⟩ = some (.int .i64 (S.d : Int)) ∧ w.cell? ⟨g, 4, none⟩ = some (.int .i64 (S.r : Int)) := by
  refine ⟨?_, ?_, ?_, ?_, ?_⟩ <;> rw [h.blk.cell] <;> rfl
theorem RRep.all_cell {w : World} {g gb : Nat} {S : Img} (h : RRep w g gb S) : w.cell? ⟨g, 5, none⟩ = some (.slice (some ⟨gb, 0, none⟩) (S.beg 6) (S.beg 6)) := by rw [h.blk.cell]; rfl
theorem RRep.op_cell {w : World} {g gb : Nat} {S : Img} (h : RRep w g gb S) : w.cell? ⟨g, 6, none⟩ = some (.bool S.op) := by rw [h.blk.cell]; rfl
theorem RRep.cl_cell {w : World} {g gb : Nat} {S : Img} (h : RRep w g gb S) : w.cell? ⟨g, 7, none⟩ = some (.bool S.cl) := by rw [h.blk.cell]; rfl
theorem RRep.below {w w' : World} {g gb : Nat} {S : Img} (h : RRep w g gb S) (hb : Below w.heap.size w w') : RRep w' g gb S := ⟨h.blk.below hb h.blk.lt, h.row.below hb h.row.lt, h.ok⟩
def Gives (v : Value) (w : World) (e : Ending) (w' : World) : Prop := e = .returned v ∧ Below w.heap.size w w'
theorem Below.dN {B : Nat} {w w' : World} (h : Below B w w') (n : Nat) : Below B w (w'.drewN n) := ⟨h.os, h.tape, h.output, h.size, h.block⟩
def spanFrom (S : Img) (r : Int) : Int := if 1 ≤ r ∧ r ≤ 5 then (S.beg r.toNat : Int) else 0
def spanTo (S : Img) (r : Int) : Int := if 1 ≤ r ∧ r ≤ 5 then (S.beg (r.toNat + 1) : Int) else 0
set_option maxRecDepth 100000 in
set_option maxHeartbeats 1000000 in
theorem r_span {w : World} {g gb : Nat} {S : Img} (h : RRep w g gb S) (r : Int) : Calls Tryd.prog 27 #[.pointer (some ⟨g, 0, none⟩), .int .i64 r] w (Gives (.tuple #[.int .i64 (spanFrom S r), .int .i64 (spanTo S r)]) w) := by
  obtain ⟨c0, c1, c2, c3, c4⟩ := h.cells
  have hsm := h.ok.small
  clear h
  go_enter Tryd.func27, Tryd.ntmps27
  go_wp2
  go_region
  obtain ⟨wa, hwa⟩ : ∃ wa, (w.alloc (Obj.cells (sizesC S) 3)).drew = wa := ⟨_, rfl⟩
  rw [show (w.alloc (Obj.cells #[Value.int .i64 (S.k : Int), .int .i64 (S.s : Int), .int .i64 (S.u : Int), .int .i64 (S.d : Int), .int .i64 (S.r : Int)] 3)).drew = wa from hwa]
  have hblk : Blk wa w.heap.size 3 (sizesC S) := by rw [← hwa]; exact (Blk.new _ _ _).drew
  have hbw : Below w.heap.size w wa := by rw [← hwa]; exact ((Below.refl _ _).alloc (Nat.le_refl _) _).drew
  have hat : ∀ j, j < 5 → wa.cell? ⟨w.heap.size, j, none⟩ = some (.int .i64 (S.size j : Int)) := fun j hj => by rw [hblk.cell, sizes_at S j hj]
  have hbm : ∀ j, j < 5 → S.beg (j + 2) ≤ 143360 := fun j hj => by have := S.beg_mono (i := j + 2) (j := 6) (by omega) (by omega) (by omega); omega
  replace hat := Lib.hid hat
  replace hbw := Lib.hid hbw
  replace hbm := Lib.hid hbm
  clear hwa hblk c0 c1 c2 c3 c4 hsm
  go_wp2
  go_loop [7, 8] (fun a i => ∃ j : Nat, j ≤ 5 ∧ i = .int .i64 j ∧ a = .int .i64 (S.beg (j + 1) : Int) ∧ (∀ q : Nat, q < j → r ≠ (q : Int) + 1)) (fun _ i => 5 - (RowKit.intOf i).toNat)
  case atStart => exact ⟨0, by omega, rfl, rfl, fun q hq => by omega⟩
  case round =>
    obtain ⟨j, hj5, rfl, rfl, hno⟩ := hrel
    replace hno := Lib.hid hno
    by_cases hlt : j < 5
    · have hc := hat.out j hlt
      have hsz := S.beg_size j hlt
      have hb2 := hbm.out j hlt
      by_cases hr : r = (j : Int) + 1
      · have hfrom : spanFrom S r = (S.beg (j + 1) : Int) := by
          unfold spanFrom
          rw [if_pos (by omega)]
          have : r.toNat = j + 1 := by omega
          rw [this]
        have hto : spanTo S r = (S.beg (j + 1) + S.size j : Nat) := by
          unfold spanTo
          rw [if_pos (by omega), hsz]
          have : r.toNat + 1 = j + 2 := by omega
          rw [this]
        replace hfrom := Lib.hid hfrom
        replace hto := Lib.hid hto
        have hsz' : S.beg (j + 1) + S.size j ≤ 143360 := by omega
        clear hsz hb2
        generalize S.beg (j + 1) = x at *
        generalize S.size j = y at *
        subst hr
        go_wp2
        go_quiet (fail)
        go_wp2
        go_ret2
        exact ⟨by rw [hfrom.out, hto.out]; rfl, Below.dN hbw.out _⟩
      · have hne : (r == (j : Int) + 1) = false := by rw [beq_eq_false_iff_ne]; exact hr
        have hsz' : S.beg (j + 1) + S.size j ≤ 143360 := by omega
        replace hsz := Lib.hid hsz
        go_wp2
        go_round
        case rel =>
          refine ⟨j + 1, by omega, by go_num, ?_, fun q hq => ?_⟩
          · have := hsz.out
            rw [← this]
            go_num
          · rcases Nat.lt_succ_iff_lt_or_eq.1 hq with h | rfl
            · exact hno.out q h
            · exact hr
        case measure => simp [RowKit.intOf]; omega
    · obtain rfl : j = 5 := by omega
      have hn : ¬ (1 ≤ r ∧ r ≤ 5) := fun hh => hno.out (r - 1).toNat (by omega) (by omega)
      have hfrom : spanFrom S r = 0 := by unfold spanFrom; rw [if_neg hn]
      have hto : spanTo S r = 0 := by unfold spanTo; rw [if_neg hn]
      replace hfrom := Lib.hid hfrom
      replace hto := Lib.hid hto
      go_wp2
      go_ret2
      exact ⟨by rw [hfrom.out, hto.out]; rfl, hbw.out⟩

theorem span_nat (S : Img) (r : Nat) (h1 : 1 ≤ r) (h5 : r ≤ 5) : spanFrom S (r : Int) = (S.beg r : Int) ∧ spanTo S (r : Int) = (S.beg (r + 1) : Int) := by
  unfold spanFrom spanTo
  rw [if_pos (by omega), if_pos (by omega), Int.toNat_natCast]
  exact ⟨rfl, rfl⟩
theorem span_zero (S : Img) : spanFrom S 0 = 0 ∧ spanTo S 0 = 0 := by
  unfold spanFrom spanTo
  rw [if_neg (by omega), if_neg (by omega)]
  exact ⟨rfl, rfl⟩
set_option maxHeartbeats 1000000 in
theorem r_region {w : World} {g gb : Nat} {S : Img} (h : RRep w g gb S) (a : Int) : Calls Tryd.prog 109 #[.pointer (some ⟨g, 0, none⟩), .int .i64 a] w (Gives (.int .i64 (S.region a : Int)) w) := by
  replace h := Lib.hid h
  go_enter Tryd.func109, Tryd.ntmps109
  go_wp2
  go_loopw [5] (fun i wr => ∃ j : Nat, 1 ≤ j ∧ j ≤ 6 ∧ i = .int .i64 j ∧ (a < 0 ∨ (S.beg j : Int) ≤ a) ∧ Below w.heap.size w wr) (fun i _ => 7 - (RowKit.intOf i).toNat)
  case atStart => exact ⟨1, by omega, by omega, rfl, by simp [Img.beg]; omega, Below.refl _ _⟩
  case round =>
    obtain ⟨j, hj1, hj6, rfl, hlo, hbl⟩ := hrel
    have hr := h.out.below hbl
    replace hbl := Lib.hid hbl
    replace hlo := Lib.hid hlo
    by_cases hlt : j < 6
    · have hspan := r_span hr j
      obtain ⟨e1, e2⟩ := span_nat S j hj1 (by omega)
      rw [e1, e2] at hspan
      replace hspan := Lib.hid hspan
      have hmon := Lib.hid (S.beg_mono (i := j) (j := j + 1) hj1 (by omega) (by omega))
      clear e1 e2 hr
      have hcase : (a < 0 ∧ decide ((S.beg j : Int) ≤ a) = false) ∨ (0 ≤ a ∧ decide ((S.beg j : Int) ≤ a) = true ∧ decide (a < (S.beg (j + 1) : Int)) = true) ∨ (0 ≤ a ∧ decide ((S.beg j : Int) ≤ a) = true ∧ decide (a < (S.beg (j + 1) : Int)) = false) := by
        simp only [decide_eq_true_eq, decide_eq_false_iff_not]
        rcases hlo.out with h | h <;> omega
      rcases hcase with ⟨ha, hd1⟩ | ⟨ha, hd1, hd2⟩ | ⟨ha, hd1, hd2⟩
      · go_wp2_with fail
        refine hspan.out.mono ?_
        rintro e w2 ⟨rfl, h2⟩
        replace h2 := Lib.hid h2
        go_wp2
        go_roundw
        case rel => exact ⟨j + 1, by omega, by omega, by go_num, .inl ha, hbl.out.trans (h2.out.mono hbl.out.size)⟩
        case measure => simp [RowKit.intOf]; omega
      · have hreg := Lib.hid (S.region_eq ha hj1 (by omega) (by simpa using hd1) (by simpa using hd2))
        go_wp2_with fail
        refine hspan.out.mono ?_
        rintro e w2 ⟨rfl, h2⟩
        replace h2 := Lib.hid h2
        go_wp2
        go_ret
        exact ⟨by rw [hreg.out]; rfl, hbl.out.trans (h2.out.mono hbl.out.size)⟩
      · have hge : (S.beg (j + 1) : Int) ≤ a := by simp only [decide_eq_false_iff_not] at hd2; omega
        replace hge := Lib.hid hge
        go_wp2_with fail
        refine hspan.out.mono ?_
        rintro e w2 ⟨rfl, h2⟩
        replace h2 := Lib.hid h2
        go_wp2
        go_roundw
        case rel => exact ⟨j + 1, by omega, by omega, by go_num, .inr hge.out, hbl.out.trans (h2.out.mono hbl.out.size)⟩
        case measure => simp [RowKit.intOf]; omega
    · obtain rfl : j = 6 := by omega
      have hreg := Lib.hid (S.region_out hlo.out)
      go_wp2
      go_ret
      exact ⟨by rw [hreg.out]; rfl, hbl.out⟩
theorem r_may {w : World} {g gb : Nat} {S : Img} (h : RRep w g gb S) (m : Int) (r : Nat) (hr : r ≤ 5) : Calls Tryd.prog 110 #[.pointer (some ⟨g, 0, none⟩), .int .i64 m, .int .i64 (r : Int)] w (Same (.int .i64 (S.may m r)) w) := by
  have hop := h.op_cell
  have hcl := h.cl_cell
  clear h
  have hr : r = 0 ∨ r = 1 ∨ r = 2 ∨ r = 3 ∨ r = 4 ∨ r = 5 := by omega
  have hm : m = 0 ∨ m = 1 ∨ m = 2 ∨ m < 0 ∨ 2 < m := by omega
  rcases hr with rfl | rfl | rfl | rfl | rfl | rfl
  all_goals
    rcases hm with rfl | rfl | rfl | hm | hm
    all_goals
      go_enter Tryd.func110, Tryd.ntmps110
      go_wp2
      all_goals go_ret
      all_goals refine ⟨congrArg (fun n => Ending.returned (.int .i64 n)) ?_, rfl⟩
      all_goals first
        | rfl
        | (simp [Img.may, *]; done)
        | (unfold Img.may; rw [if_pos (by omega)]; done)
end Go.Proofs.YtanpbphgmnjdeaaDoor
