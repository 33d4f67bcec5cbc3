/- Chapter 1: a cell as bytes, bytes as a cell: the document's functions. Condition: eight bytes. -/
import Derived.Test.YtanpbphgmnjdeaaDoorRimg2
import Derived.Laws.Bits64
namespace Go.Proofs.YtanpbphgmnjdeaaDoor
set_option linter.unusedVariables false
open Go.RowKit Go.Lib Go.Deep

theorem leN_drop (l : List UInt8) (j : Nat) (hj : j < l.length) : leN (l.drop j) = (l.getD j 0).toNat + 256 * leN (l.drop (j + 1)) := by
  rw [List.drop_eq_getElem_cons hj, List.getD_eq_getElem?_getD, List.getElem?_eq_getElem hj]
  rfl
def restOf (l : List UInt8) (j : Nat) : Int := (leN (l.drop j) : Nat)
set_option maxRecDepth 100000 in
theorem Of_walk (l : List UInt8) (hl : l.length = 8) (w : World) : Calls Tryd.prog 86 #[.agg (bcells l).toArray] w (Gives (.int .i64 (ofB l)) w) := by
  have hcell : ∀ j, j < 8 → (w.alloc (.cells (bcells l).toArray 112)).cell? ⟨w.heap.size, j, none⟩ = some (.int .u8 ((l.getD j 0).toNat : Int)) := by
    intro j hj
    rw [(Blk.new w _ _).cell]
    have : j < l.length := by omega
    simp [bcells, List.getD, this]
  replace hcell := Lib.hid hcell
  go_enter Tryd.func86, Tryd.ntmps86
  go_wp2
  go_loop [3, 4] (fun a i => ∃ j : Nat, j ≤ 8 ∧ i = .int .i64 ((j : Int) - 1) ∧ a = .int .u64 (restOf l j)) (fun _ i => (RowKit.intOf i + 1).toNat)
  case atStart => exact ⟨8, by omega, rfl, by unfold restOf; rw [List.drop_of_length_le (by omega)]; rfl⟩
  case round =>
    obtain ⟨j, hj8, rfl, rfl⟩ := hrel
    by_cases hlt : 0 < j
    · obtain ⟨j, rfl⟩ : ∃ q, j = q + 1 := ⟨j - 1, by omega⟩
      have e1 : ((j + 1 : Nat) : Int) - 1 = j := by omega
      rw [e1]
      have hget := hcell.out j (by omega)
      have hd := leN_drop l j (by omega)
      have hb := leN_lt (l.drop (j + 1))
      have hb2 := leN_lt (l.drop j)
      rw [List.length_drop, hl] at hb hb2
      have p1 : 256 ^ (8 - (j + 1)) ≤ 256 ^ 7 := Nat.pow_le_pow_right (by decide) (by omega)
      have p2 : (256 : Nat) ^ 7 = 72057594037927936 := by decide
      rw [p2] at p1
      have hr : restOf l j = 256 * restOf l (j + 1) + ((l.getD j 0).toNat : Int) := by unfold restOf; omega
      have hr0 : 0 ≤ restOf l (j + 1) ∧ restOf l (j + 1) < 72057594037927936 := by unfold restOf; omega
      generalize (l.getD j 0) = c at *
      have h256 : (c.toNat : Int) < 256 := by have := c.toNat_lt; omega
      generalize restOf l (j + 1) = x at *
      obtain ⟨hr0, hr1⟩ := hr0
      replace hr := Lib.hid hr
      clear hd hb hb2 p1 p2 e1 hlt
      go_wp2
      go_round
      case rel => exact ⟨j, by omega, rfl, by rw [hr.out]⟩
      case measure => simp [RowKit.intOf]
    · obtain rfl : j = 0 := by omega
      have h0 : restOf l 0 = (leN l : Nat) := rfl
      go_wp2
      go_ret
      exact ⟨rfl, (Below.refl _ _).alloc (Nat.le_refl _) _⟩

def quotOf (v : Int) (j : Nat) : Int := (v % 18446744073709551616) / 256 ^ j
theorem quot_succ (v : Int) (j : Nat) : quotOf v j / 256 = quotOf v (j + 1) := by
  unfold quotOf
  rw [Int.pow_succ, Int.ediv_ediv_of_nonneg (Int.pow_nonneg (by decide))]
theorem quot_nonneg (v : Int) (j : Nat) : 0 ≤ quotOf v j := by
  unfold quotOf
  exact Int.ediv_nonneg (Int.emod_nonneg _ (by decide)) (Int.pow_nonneg (by decide))
theorem quot_le (v : Int) (j : Nat) : quotOf v j ≤ 18446744073709551615 := by
  unfold quotOf
  have h1 : 0 ≤ v % 18446744073709551616 := Int.emod_nonneg _ (by decide)
  have h2 : v % 18446744073709551616 < 18446744073709551616 := Int.emod_lt_of_pos _ (by decide)
  have := Int.ediv_le_self (256 ^ j) h1
  omega
theorem quot_byte (v : Int) (j : Nat) (hj : j < 8) : quotOf v j % 256 = v / 2 ^ (8 * j) % 256 := by
  unfold quotOf
  have : j = 0 ∨ j = 1 ∨ j = 2 ∨ j = 3 ∨ j = 4 ∨ j = 5 ∨ j = 6 ∨ j = 7 := by omega
  rcases this with rfl | rfl | rfl | rfl | rfl | rfl | rfl | rfl <;> simp only [Int.reducePow, Nat.reduceMul, Int.ediv_one] <;> omega
set_option maxRecDepth 100000 in
theorem Bytes_walk (v : Int) (hv : -9223372036854775808 ≤ v ∧ v ≤ 9223372036854775807) (w : World) : Calls Tryd.prog 84 #[.int .i64 v] w (Gives (.agg (bcells (toB v)).toArray) w) := by
  have hq0 : quotOf v 0 = v % 18446744073709551616 := by unfold quotOf; simp
  replace hq0 := Lib.hid hq0
  go_enter Tryd.func84, Tryd.ntmps84
  go_wp2
  go_loopw [4, 5] (fun u i wr => ∃ j : Nat, j ≤ 8 ∧ i = .int .i64 j ∧ u = .int .u64 (quotOf v j) ∧ Blk wr (w.heap.size + 1) 112 (filled v j) ∧ Blk wr w.heap.size 112 (filled v 0) ∧ Below w.heap.size w wr) (fun _ i _ => 8 - (RowKit.intOf i).toNat)
  case atStart =>
    exact ⟨0, by omega, rfl, by rw [hq0.out, ← IntKind.wrap_u64], Blk.new' (by simp), (Blk.new _ _ _).alloc _, ((Below.refl _ _).alloc (Nat.le_refl _) _).alloc (by simp) _⟩
  case round =>
    obtain ⟨j, hj8, rfl, rfl, hb, hb0, hbl⟩ := hrel
    by_cases hlt : j < 8
    · have hc : wr.cell? ⟨w.heap.size + 1, j, none⟩ = some (.int .u8 0) := by rw [hb.cell, filled_at v j hlt]
      have hf := hb.frozen j
      have hb1 := hb.set_ j (.int .u8 (v / 2 ^ (8 * j) % 256))
      rw [filled_set v j hlt, ← quot_byte v j hlt] at hb1
      have hb2 := hb0.far (p := ⟨w.heap.size + 1, j, none⟩) (by simp) (.int .u8 (v / 2 ^ (8 * j) % 256))
      rw [← quot_byte v j hlt] at hb2
      have hs := quot_succ v j
      have h0 := quot_nonneg v j
      have h1 := quot_le v j
      generalize hx : quotOf v j = x at *
      replace hb1 := Lib.hid hb1
      replace hb2 := Lib.hid hb2
      replace hs := Lib.hid hs
      clear hb hb0 hx
      replace hbl := Lib.hid hbl
      go_wp2
      go_roundw
      case rel => exact ⟨j + 1, by omega, by go_num, by rw [← hs.out], hb1.out, hb2.out, hbl.out.setCell (by simp) _⟩
      case measure => simp [RowKit.intOf]; omega
    · obtain rfl : j = 8 := by omega
      have hb' : Blk wr (w.heap.size + 1) 112 (bcells (toB v)).toArray := hb
      have e8 : Eight wr (w.heap.size + 1) (fun i => .int .u8 (tn v i)) := eight_of hb' (toB_len v)
      obtain ⟨c0, c1, c2, c3, c4, c5, c6, c7⟩ := e8
      obtain ⟨d0, d1, d2, d3, d4, d5, d6, d7⟩ := eight_of (l := List.replicate 8 0) hb0 (by simp)
      have f0 := hb0.frozen 0
      have f1 := hb0.frozen 1
      have f2 := hb0.frozen 2
      have f3 := hb0.frozen 3
      have f4 := hb0.frozen 4
      have f5 := hb0.frozen 5
      have f6 := hb0.frozen 6
      have f7 := hb0.frozen 7
      clear hb hb0 hb'
      replace hbl := Lib.hid hbl
      go_wp2
      refine bodyPost_ret (v := .agg #[.int .u8 (tn v 0), .int .u8 (tn v 1), .int .u8 (tn v 2), .int .u8 (tn v 3), .int .u8 (tn v 4), .int .u8 (tn v 5), .int .u8 (tn v 6), .int .u8 (tn v 7)]) (by simp [results, Tryd.results84, go_sem, d0, d1, d2, d3, d4, d5, d6, d7]) rfl ⟨by rw [tn_all], ?_⟩
      exact (((((((hbl.out.setCell (Nat.le_refl _) _).setCell (Nat.le_refl _) _).setCell (Nat.le_refl _) _).setCell (Nat.le_refl _) _).setCell (Nat.le_refl _) _).setCell (Nat.le_refl _) _).setCell (Nat.le_refl _) _).setCell (Nat.le_refl _) _
end Go.Proofs.YtanpbphgmnjdeaaDoor
