/- Chapter 1: a cell as bytes, bytes as a cell: the document's functions. Condition: eight bytes. -/
import Derived.Test.YtjhdpmimccpcdaaGreatDoorQ05
import Derived.Laws.Bits64
namespace Go.Proofs.YtjhdpmimccpcdaaGreatDoor
set_option linter.unusedVariables false
open Go.RowKit Go.Lib Go.Deep

theorem leN_drop (l : List UInt8) (j : Nat) (hj : j < l.length) : leN (l.drop j) = (l.getD j 0).toNat + 256 * leN (l.drop (j + 1)) := by
  rw [List.drop_eq_getElem_cons hj, List.getD_eq_getElem?_getD, List.getElem?_eq_getElem hj]
  rfl
def restOf (l : List UInt8) (j : Nat) : Int := (leN (l.drop j) : Nat)
set_option maxRecDepth 100000 in
theorem Of_walk (l : List UInt8) (hl : l.length = 8) (w : World) : Calls Tryz.prog 262 #[.agg (bcells l).toArray] w (Gives (.int .i64 (ofB l)) w) := by
  have hcell : ∀ j, j < 8 → (w.alloc (.cells (bcells l).toArray 137)).cell? ⟨w.heap.size, j, none⟩ = some (.int .u8 ((l.getD j 0).toNat : Int)) := by
    intro j hj
    rw [(Blk.new w _ _).cell]
    have : j < l.length := by omega
    simp [bcells, List.getD, this]
  replace hcell := Lib.hid hcell
  go_enter Tryz.func262, Tryz.ntmps262
  go_wp2
  go_loop [3, 4] (fun a i => ∃ j : Nat, j ≤ 8 ∧ i = .int .i64 ((j : Int) - 1) ∧ a = .int .u64 (restOf l j)) (fun _ i => (RowKit.intOf i + 1).toNat)
  case atStart => exact ⟨8, by omega, rfl, by unfold restOf; rw [List.drop_of_length_le (by omega)]; rfl⟩
  case round =>
    obtain ⟨j, hj8, rfl, rfl⟩ := hrel
    by_cases hlt : 0 < j
    · obtain ⟨j, rfl⟩ : ∃ q, j = q + 1 := ⟨j - 1, by omega⟩
      have e1 : ((j + 1 : Nat) : Int) - 1 = j := by omega
      rw [e1]
      have hget := hcell.out j (by omega)
      have hd := leN_drop l j (by omega)
      have hb := leN_lt (l.drop (j + 1))
      have hb2 := leN_lt (l.drop j)
      rw [List.length_drop, hl] at hb hb2
      have p1 : 256 ^ (8 - (j + 1)) ≤ 256 ^ 7 := Nat.pow_le_pow_right (by decide) (by omega)
      have p2 : (256 : Nat) ^ 7 = 72057594037927936 := by decide
      rw [p2] at p1
      have hr : restOf l j = 256 * restOf l (j + 1) + ((l.getD j 0).toNat : Int) := by unfold restOf; omega
      have hr0 : 0 ≤ restOf l (j + 1) ∧ restOf l (j + 1) < 72057594037927936 := by unfold restOf; omega
      generalize (l.getD j 0) = c at *
      have h256 : (c.toNat : Int) < 256 := by have := c.toNat_lt; omega
      generalize restOf l (j + 1) = x at *
      obtain ⟨hr0, hr1⟩ := hr0
      replace hr := Lib.hid hr
      clear hd hb hb2 p1 p2 e1 hlt
      go_wp2
      go_round
      case rel => exact ⟨j, by omega, rfl, by rw [hr.out]⟩
      case measure => simp [RowKit.intOf]
    · obtain rfl : j = 0 := by omega
      have h0 : restOf l 0 = (leN l : Nat) := rfl
      go_wp2
      go_ret
      exact ⟨rfl, (Below.refl _ _).alloc (Nat.le_refl _) _⟩

def quotOf (v : Int) (j : Nat) : Int := (v % 18446744073709551616) / 256 ^ j
theorem quot_succ (v : Int) (j : Nat) : quotOf v j / 256 = quotOf v (j + 1) := by
  unfold quotOf
  rw [Int.pow_succ, Int.ediv_ediv_of_nonneg (Int.pow_nonneg (by decide))]
theorem quot_nonneg (v : Int) (j : Nat) : 0 ≤ quotOf v j := by
  unfold quotOf
  exact Int.ediv_nonneg (Int.emod_nonneg _ (by decide)) (Int.pow_nonneg (by decide))
theorem quot_le (v : Int) (j : Nat) : quotOf v j ≤ 18446744073709551615 := by
  unfold quotOf
  have h1 : 0 ≤ v % 18446744073709551616 := Int.emod_nonneg _ (by decide)
  have h2 : v % 18446744073709551616 < 18446744073709551616 := Int.emod_lt_of_pos _ (by decide)
  have := Int.ediv_le_self (256 ^ j) h1
  omega
theorem quot_byte (v : Int) (j : Nat) (hj : j < 8) : quotOf v j % 256 = v / 2 ^ (8 * j) % 256 := by
  unfold quotOf
  have : j = 0 ∨ j = 1 ∨ j = 2 ∨ j = 3 ∨ j = 4 ∨ j = 5 ∨ j = 6 ∨ j = 7 := by omega
  rcases this with rfl | rfl | rfl | rfl | rfl | rfl | rfl | rfl <;> simp only [Int.reducePow, Nat.reduceMul, Int.ediv_one] <;> omega
set_option maxRecDepth 100000 in
theorem Bytes_walk (v : Int) (hv : -9223372036854775808 ≤ v ∧ v ≤ 9223372036854775807) (w : World) : Calls Tryz.prog 102 #[.int .i64 v] w (Gives (.agg (bcells (toB v)).toArray) w) := by
  have hq0 : quotOf v 0 = v % 18446744073709551616 := by unfold quotOf; simp
  replace hq0 := Lib.hid hq0
  go_enter Tryz.func102, Tryz.ntmps102
  go_wp2
  go_loopw [4, 5] (fun u i wr => ∃ j : Nat, j ≤ 8 ∧ i = .int .i64 j ∧ u = .int .u64 (quotOf v j) ∧ Blk wr (w.heap.size + 1) 137 (filled v j) ∧ Blk wr w.heap.size 137 (filled v 0) ∧ Below w.heap.size w wr) (fun _ i _ => 8 - (RowKit.intOf i).toNat)
  case atStart =>
    exact ⟨0, by omega, rfl, by rw [hq0.out, ← IntKind.wrap_u64], Blk.new' (by simp), (Blk.new _ _ _).alloc _, ((Below.refl _ _).alloc (Nat.le_refl _) _).alloc (by simp) _⟩
  case round =>
    obtain ⟨j, hj8, rfl, rfl, hb, hb0, hbl⟩ := hrel
    by_cases hlt : j < 8
    · have hc : wr.cell? ⟨w.heap.size + 1, j, none⟩ = some (.int .u8 0) := by rw [hb.cell, filled_at v j hlt]
      have hf := hb.frozen j
      have hb1 := hb.set_ j (.int .u8 (v / 2 ^ (8 * j) % 256))
      rw [filled_set v j hlt, ← quot_byte v j hlt] at hb1
      have hb2 := hb0.far (p := ⟨w.heap.size + 1, j, none⟩) (by simp) (.int .u8 (v / 2 ^ (8 * j) % 256))
      rw [← quot_byte v j hlt] at hb2
      have hs := quot_succ v j
      have h0 := quot_nonneg v j
      have h1 := quot_le v j
      generalize hx : quotOf v j = x at *
      replace hb1 := Lib.hid hb1
      replace hb2 := Lib.hid hb2
      replace hs := Lib.hid hs
      clear hb hb0 hx
      replace hbl := Lib.hid hbl
      go_wp2
      go_roundw
      case rel => exact ⟨j + 1, by omega, by go_num, by rw [← hs.out], hb1.out, hb2.out, hbl.out.setCell (by simp) _⟩
      case measure => simp [RowKit.intOf]; omega
    · obtain rfl : j = 8 := by omega
      have hb' : Blk wr (w.heap.size + 1) 137 (bcells (toB v)).toArray := hb
      have e8 : Eight wr (w.heap.size + 1) (fun i => .int .u8 (tn v i)) := eight_of hb' (toB_len v)
      obtain ⟨c0, c1, c2, c3, c4, c5, c6, c7⟩ := e8
      obtain ⟨d0, d1, d2, d3, d4, d5, d6, d7⟩ := eight_of (l := List.replicate 8 0) hb0 (by simp)
      have f0 := hb0.frozen 0
      have f1 := hb0.frozen 1
      have f2 := hb0.frozen 2
      have f3 := hb0.frozen 3
      have f4 := hb0.frozen 4
      have f5 := hb0.frozen 5
      have f6 := hb0.frozen 6
      have f7 := hb0.frozen 7
      clear hb hb0 hb'
      replace hbl := Lib.hid hbl
      go_wp2
      refine bodyPost_ret (v := .agg #[.int .u8 (tn v 0), .int .u8 (tn v 1), .int .u8 (tn v 2), .int .u8 (tn v 3), .int .u8 (tn v 4), .int .u8 (tn v 5), .int .u8 (tn v 6), .int .u8 (tn v 7)]) (by simp [results, Tryz.results102, go_sem, d0, d1, d2, d3, d4, d5, d6, d7]) rfl ⟨by rw [tn_all], ?_⟩
      exact (((((((hbl.out.setCell (Nat.le_refl _) _).setCell (Nat.le_refl _) _).setCell (Nat.le_refl _) _).setCell (Nat.le_refl _) _).setCell (Nat.le_refl _) _).setCell (Nat.le_refl _) _).setCell (Nat.le_refl _) _).setCell (Nat.le_refl _) _
end Go.Proofs.YtjhdpmimccpcdaaGreatDoor
/- Chapter 3: the document's image: reading cells. Conditions: as written. -/
namespace Go.Proofs.YtjhdpmimccpcdaaGreatDoor
set_option linter.unusedVariables false
open Go.RowKit Go.Lib Go.Deep

theorem IRRep.byte {w : World} {g gb : Nat} {S : Img} (h : IRRep w g gb S) (i : Nat) (hi : i < S.beg 6) : w.cell? ⟨gb, i, none⟩ = some (.int .u8 ((S.b.getD i 0).toNat : Int)) := by
  rw [h.row.cell]
  have : i < S.b.length := by rw [h.ok.len]; exact hi
  simp [bcells, List.getD, this]
/-- the cells of an array into which j of eight bytes have been copied -/
def copied (l : List UInt8) (j : Nat) : Array Value := (bcells (l.take j ++ List.replicate (8 - j) 0)).toArray
theorem copied_at (l : List UInt8) (hl : l.length = 8) (j : Nat) (hj : j < 8) : (copied l j)[j]? = some (.int .u8 0) := by
  match l, hl with
  | [a, b, c, d, e, f, g, h], _ =>
    have : j = 0 ∨ j = 1 ∨ j = 2 ∨ j = 3 ∨ j = 4 ∨ j = 5 ∨ j = 6 ∨ j = 7 := by omega
    rcases this with rfl | rfl | rfl | rfl | rfl | rfl | rfl | rfl <;> rfl
theorem copied_set (l : List UInt8) (hl : l.length = 8) (j : Nat) (hj : j < 8) : (copied l j).setIfInBounds j (.int .u8 ((l.getD j 0).toNat : Int)) = copied l (j + 1) := by
  match l, hl with
  | [a, b, c, d, e, f, g, h], _ =>
    have : j = 0 ∨ j = 1 ∨ j = 2 ∨ j = 3 ∨ j = 4 ∨ j = 5 ∨ j = 6 ∨ j = 7 := by omega
    rcases this with rfl | rfl | rfl | rfl | rfl | rfl | rfl | rfl <;> rfl
theorem copied_all (l : List UInt8) (hl : l.length = 8) : copied l 8 = (bcells l).toArray := by
  unfold copied
  rw [List.take_of_length_le (by omega)]
  simp
theorem tmod8 (a : Int) : (a.tmod 8 = 0) ↔ a % 8 = 0 := by rw [Int.tmod_eq_emod]; split <;> omega
theorem r_cell_mis (p : Value) (m a : Int) (w : World) (hal : a % 8 ≠ 0) : Calls Tryz.prog 223 #[p, .int .i64 m, .int .i64 a] w (Gives (.tuple #[.int .i64 0, .int .i64 6]) w) := by
  have hal1 : (a.tmod 8 == 0) = false := by rw [beq_eq_false_iff_ne]; exact fun h => hal ((tmod8 a).1 h)
  clear hal
  go_enter Tryz.func223, Tryz.ntmps223
  go_wp2
  go_ret2
  exact ⟨rfl, Below.refl _ _⟩
theorem r_cell_no (p : Value) (m a : Int) (w : World) (hal : a % 8 = 0) (hrow : Calls Tryz.prog 101 #[p, .int .i64 m, .int .i64 a, .int .i64 8, .int .i64 1] w (Gives (.bool false) w)) :
    Calls Tryz.prog 223 #[p, .int .i64 m, .int .i64 a] w (Gives (.tuple #[.int .i64 0, .int .i64 5]) w) := by
  have hal1 : a.tmod 8 = 0 := (tmod8 a).2 hal
  replace hrow := Lib.hid hrow
  clear hal
  go_enter Tryz.func223, Tryz.ntmps223
  go_wp2_with fail
  refine hrow.out.mono ?_
  rintro e w1 ⟨rfl, h1⟩
  replace h1 := Lib.hid h1
  go_wp2
  go_ret2
  exact ⟨rfl, h1.out⟩
set_option maxRecDepth 100000 in
set_option maxHeartbeats 2000000 in
theorem r_cell_yes {w : World} {g gb : Nat} {S : Img} (h : IRRep w g gb S) (m : Int) (k : Nat) (hle : k + 8 ≤ S.beg 6) (hal : (k : Int) % 8 = 0)
    (hrow : Calls Tryz.prog 101 #[.pointer (some ⟨g, 0, none⟩), .int .i64 m, .int .i64 k, .int .i64 8, .int .i64 1] w (Gives (.bool true) w)) :
    Calls Tryz.prog 223 #[.pointer (some ⟨g, 0, none⟩), .int .i64 m, .int .i64 k] w (Gives (.tuple #[.int .i64 (ofB (S.bytes k 8)), .int .i64 0]) w) := by
  have hal1 : (k : Int).tmod 8 = 0 := (tmod8 _).2 hal
  have hl := bytes_len S h.ok k 8 hle
  have hby := bytes_getD S k 8
  have hsm := h.ok.small
  generalize hld : S.bytes (k : Int) 8 = l at *
  replace hrow := Lib.hid hrow
  replace h := Lib.hid h
  replace hl := Lib.hid hl
  replace hby := Lib.hid hby
  clear hal hld
  go_enter Tryz.func223, Tryz.ntmps223
  go_wp2_with fail
  refine hrow.out.mono ?_
  rintro e w1 ⟨rfl, h1⟩
  have hR1 := Lib.hid (h.out.below h1)
  replace h1 := Lib.hid h1
  go_wp2
  go_loopw [10] (fun i wr => ∃ j : Nat, j ≤ 8 ∧ i = .int .i64 j ∧ Blk wr w1.heap.size 137 (copied l j) ∧ Below w1.heap.size w1 wr) (fun i _ => 8 - (RowKit.intOf i).toNat)
  case atStart => exact ⟨0, by omega, rfl, Blk.new _ _ _, (Below.refl _ _).alloc (Nat.le_refl _) _⟩
  case round =>
    obtain ⟨j, hj8, rfl, hb, hbl⟩ := hrel
    have hr := hR1.out.below hbl
    by_cases hlt : j < 8
    · have hc : wr.cell? ⟨w1.heap.size, j, none⟩ = some (.int .u8 0) := by rw [hb.cell, copied_at l hl.out j hlt]
      have hf := hb.frozen j
      have hsrc := hr.byte (k + j) (by omega)
      rw [← hby.out j hlt] at hsrc
      have hall := hr.all_cell
      have hb1 := hb.set_ j (.int .u8 ((l.getD j 0).toNat : Int))
      rw [copied_set l hl.out j hlt] at hb1
      generalize ((l.getD j 0).toNat : Int) = c at *
      generalize S.beg 6 = N at *
      replace hb1 := Lib.hid hb1
      replace hbl := Lib.hid hbl
      clear hb hr
      go_wp2
      go_roundw
      case rel => exact ⟨j + 1, by omega, by go_num, hb1.out, hbl.out.setCell (Nat.le_refl _) _⟩
      case measure => simp [RowKit.intOf]; omega
    · obtain rfl : j = 8 := by omega
      have hb' : Blk wr w1.heap.size 137 (bcells l).toArray := by rw [← copied_all l hl.out]; exact hb
      have hof := Of_walk l hl.out wr
      rw [bcells8 _ hl.out] at hof
      have e8 := eight_of hb' hl.out
      dsimp only [Eight] at e8
      obtain ⟨c0, c1, c2, c3, c4, c5, c6, c7⟩ := e8
      generalize ofB l = z at *
      generalize ((l.getD 0 0).toNat : Int) = x0 at *
      generalize ((l.getD 1 0).toNat : Int) = x1 at *
      generalize ((l.getD 2 0).toNat : Int) = x2 at *
      generalize ((l.getD 3 0).toNat : Int) = x3 at *
      generalize ((l.getD 4 0).toNat : Int) = x4 at *
      generalize ((l.getD 5 0).toNat : Int) = x5 at *
      generalize ((l.getD 6 0).toNat : Int) = x6 at *
      generalize ((l.getD 7 0).toNat : Int) = x7 at *
      replace hof := Lib.hid hof
      replace hbl := Lib.hid hbl
      clear hb hb' hr
      go_wp2_with fail
      refine hof.out.mono ?_
      rintro e w2 ⟨rfl, h2⟩
      replace h2 := Lib.hid (h1.out.trans ((hbl.out.trans (h2.mono hbl.out.size)).mono h1.out.size))
      go_wp2
      go_ret2
      exact ⟨rfl, h2.out⟩
end Go.Proofs.YtjhdpmimccpcdaaGreatDoor
/- Chapter 3: the document's image: writing cells, texts and parts, the seal; as an object. Conditions: as written. -/
namespace Go.Proofs.YtjhdpmimccpcdaaGreatDoor
set_option linter.unusedVariables false
open Go.RowKit Go.Lib Go.Deep

theorem r_set_mis (p : Value) (m a v : Int) (w : World) (hal : a % 8 ≠ 0) : Calls Tryz.prog 75 #[p, .int .i64 m, .int .i64 a, .int .i64 v] w (Gives (.int .i64 6) w) := by
  have hal1 : (a.tmod 8 == 0) = false := by rw [beq_eq_false_iff_ne]; exact fun h => hal ((tmod8 a).1 h)
  clear hal
  go_enter Tryz.func75, Tryz.ntmps75
  go_wp2
  go_ret
  exact ⟨rfl, Below.refl _ _⟩
theorem r_set_no (p : Value) (m a v : Int) (w : World) (hal : a % 8 = 0) (hrow : Calls Tryz.prog 101 #[p, .int .i64 m, .int .i64 a, .int .i64 8, .int .i64 2] w (Gives (.bool false) w)) :
    Calls Tryz.prog 75 #[p, .int .i64 m, .int .i64 a, .int .i64 v] w (Gives (.int .i64 5) w) := by
  have hal1 : a.tmod 8 = 0 := (tmod8 a).2 hal
  replace hrow := Lib.hid hrow
  clear hal
  go_enter Tryz.func75, Tryz.ntmps75
  go_wp2_with fail
  refine hrow.out.mono ?_
  rintro e w1 ⟨rfl, h1⟩
  replace h1 := Lib.hid h1
  go_wp2
  go_ret
  exact ⟨rfl, h1.out⟩
/-- j of eight bytes laid over some -/
theorem putL_snoc (b : List UInt8) (k : Nat) (l : List UInt8) (j : Nat) (hj : j < l.length) (hk : k + j < b.length) : (bcells (putL b k (l.take j))).toArray.setIfInBounds (k + j) (.int .u8 ((l.getD j 0).toNat : Int)) = (bcells (putL b k (l.take (j + 1)))).toArray := by
  have hlt : l.take (j + 1) = l.take j ++ [l.getD j 0] := by
    rw [List.take_succ_eq_append_getElem hj, List.getD_eq_getElem?_getD, List.getElem?_eq_getElem hj]
    rfl
  have htl : (l.take j).length = j := by rw [List.length_take]; omega
  apply Array.ext_getElem?
  intro i
  rw [hlt]
  unfold putL
  rw [List.length_append, htl, List.length_singleton]
  generalize l.getD j 0 = c
  have hdrop : b.drop (k + j) = b[k + j] :: b.drop (k + (j + 1)) := List.drop_eq_getElem_cons hk
  rw [hdrop]
  have h1 : (b.take k).length = k := by rw [List.length_take]; omega
  have e1 : bcells (b.take k ++ (l.take j ++ b[k + j] :: b.drop (k + (j + 1)))) = (bcells (b.take k ++ l.take j)) ++ (Value.int .u8 (b[k + j].toNat : Int) :: bcells (b.drop (k + (j + 1)))) := by simp [bcells]
  have e2 : bcells (b.take k ++ (l.take j ++ [c] ++ b.drop (k + (j + 1)))) = (bcells (b.take k ++ l.take j)) ++ (Value.int .u8 (c.toNat : Int) :: bcells (b.drop (k + (j + 1)))) := by simp [bcells]
  have hlen : (bcells (b.take k ++ l.take j)).length = k + j := by unfold bcells; rw [List.length_map, List.length_append, h1, htl]
  rw [e1, e2]
  generalize bcells (b.take k ++ l.take j) = A at *
  generalize bcells (b.drop (k + (j + 1))) = B at *
  generalize (Value.int .u8 (b[k + j].toNat : Int)) = y
  rw [← hlen]
  simp
set_option maxRecDepth 100000 in
set_option maxHeartbeats 2000000 in
theorem r_set_yes {w : World} {g gb : Nat} {S : Img} (h : IRRep w g gb S) (m v : Int) (hv : -9223372036854775808 ≤ v ∧ v ≤ 9223372036854775807) (k : Nat) (hle : k + 8 ≤ S.beg 6) (hal : (k : Int) % 8 = 0)
    (hrow : Calls Tryz.prog 101 #[.pointer (some ⟨g, 0, none⟩), .int .i64 m, .int .i64 k, .int .i64 8, .int .i64 2] w (Gives (.bool true) w)) :
    Calls Tryz.prog 75 #[.pointer (some ⟨g, 0, none⟩), .int .i64 m, .int .i64 k, .int .i64 v] w fun e w' => e = .returned (.int .i64 0) ∧ Blk w' gb 5 (bcells (putL S.b k (toB v))).toArray ∧ Kept (fun i => i = gb) w w' := by
  have hal1 : (k : Int).tmod 8 = 0 := (tmod8 _).2 hal
  have hsm := h.ok.small
  have hlen := h.ok.len
  have hby := fun w => Bytes_walk v hv w
  have htl := toB_len v
  rw [← tn_all] at hby
  replace hrow := Lib.hid hrow
  replace h := Lib.hid h
  replace hby := Lib.hid hby
  replace htl := Lib.hid htl
  replace hlen := Lib.hid hlen
  clear hal
  go_enter Tryz.func75, Tryz.ntmps75
  go_wp2_with fail
  refine hrow.out.mono ?_
  rintro e w1 ⟨rfl, h1⟩
  have hR1 := Lib.hid (h.out.below h1)
  have hk1 := Lib.hid (Kept.ofBelow0 h1)
  clear h1
  go_wp2_with fail
  refine (hby.out w1).mono ?_
  rintro e w2 ⟨rfl, h2⟩
  have hR2 := Lib.hid (hR1.out.below h2)
  have hk2 := Lib.hid (hk1.out.trans (Kept.ofBelow0 h2))
  clear h2
  go_wp2
  go_loopw [11] (fun i wr => ∃ j : Nat, j ≤ 8 ∧ i = .int .i64 j ∧ Blk wr w2.heap.size 137 (bcells (toB v)).toArray ∧ Blk wr g 152 (rimgCells gb S) ∧ Blk wr gb 5 (bcells (putL S.b k ((toB v).take j))).toArray ∧ Kept (fun i => i = gb) w wr) (fun i _ => 8 - (RowKit.intOf i).toNat)
  case atStart =>
    refine ⟨0, by omega, rfl, ?_, hR2.out.blk.alloc _, ?_, (hk2.out.mono (fun _ h => h.elim)).alloc _⟩
    · rw [← tn_all]; exact Blk.new _ _ _
    · have : putL S.b k ((toB v).take 0) = S.b := by unfold putL; simp
      rw [this]
      exact hR2.out.row.alloc _
  case round =>
    obtain ⟨j, hj8, rfl, hb, hg, hr, hk⟩ := hrel
    by_cases hlt : j < 8
    · have hc : wr.cell? ⟨w2.heap.size, j, none⟩ = some (.int .u8 (((toB v).getD j 0).toNat : Int)) := by
        rw [hb.cell]
        have := htl.out
        have : j < (toB v).length := by omega
        simp [bcells, List.getD, this]
      have hall : wr.cell? ⟨g, 5, none⟩ = some (.slice (some ⟨gb, 0, none⟩) (S.beg 6) (S.beg 6)) := by rw [hg.cell]; rfl
      have hold : ∃ x, wr.cell? ⟨gb, k + j, none⟩ = some (.int .u8 x) := by
        rw [hr.cell]
        have hl2 : k + j < (putL S.b k ((toB v).take j)).length := by
          rw [putL_len _ _ _ (by rw [List.length_take, hlen.out]; omega), hlen.out]; omega
        exact ⟨_, by simp [bcells, hl2]; rfl⟩
      obtain ⟨x, hx⟩ := hold
      have hf := hr.frozen (k + j)
      have hset := hr.set_ (k + j) (.int .u8 (((toB v).getD j 0).toNat : Int))
      rw [putL_snoc S.b k (toB v) j (by rw [htl.out]; exact hlt) (by rw [hlen.out]; omega)] at hset
      have q1 : w2.heap.size ≠ gb := fun e => by have := hR2.out.row.lt; omega
      have q2 : g ≠ gb := hg.ne_ hr (by decide)
      replace q1 := Lib.hid q1
      replace q2 := Lib.hid q2
      replace hb := Lib.hid hb
      replace hg := Lib.hid hg
      replace hset := Lib.hid hset
      replace hk := Lib.hid hk
      generalize (((toB v).getD j 0).toNat : Int) = c at *
      generalize S.beg 6 = N at *
      clear hr
      go_wp2
      go_region
      go_wp2
      go_roundw
      case rel => exact ⟨j + 1, by omega, by go_num, (hb.out.far (p := ⟨gb, k + j, none⟩) q1.out _).drew, (hg.out.far (p := ⟨gb, k + j, none⟩) q2.out _).drew, hset.out.drew, (hk.out.setCell (.inl rfl) _).drew⟩
      case measure => simp [RowKit.intOf]; omega
    · obtain rfl : j = 8 := by omega
      have hlast : (toB v).take 8 = toB v := List.take_of_length_le (by rw [htl.out]; omega)
      rw [hlast] at hr
      replace hr := Lib.hid hr
      replace hk := Lib.hid hk
      clear hb hg hlast
      go_wp2
      go_ret
      exact ⟨rfl, hr.out, hk.out⟩
end Go.Proofs.YtjhdpmimccpcdaaGreatDoor
/- Chapter 3: the document's image as an object: texts, parts, the seal, a new one. Conditions: as written. -/
namespace Go.Proofs.YtjhdpmimccpcdaaGreatDoor
set_option linter.unusedVariables false
open Go.RowKit Go.Lib Go.Deep

def RimgA (g : Nat) (S : Img) : Asr where
  holds w F := ∃ gb, IRRep w g gb S ∧ ∀ k, F k ↔ k = g ∨ k = gb
  lt h hk := by
    obtain ⟨gb, h, hF⟩ := h
    rcases (hF _).1 hk with rfl | rfl
    · exact h.blk.lt
    · exact h.row.lt
  kept h hk hT := by
    obtain ⟨gb, h, hF⟩ := h
    exact ⟨gb, ⟨h.blk.kept hk (hT _ ((hF _).2 (.inl rfl))), h.row.kept hk (hT _ ((hF _).2 (.inr rfl))), h.ok⟩, hF⟩
theorem IRRep.ne {w : World} {g gb : Nat} {S : Img} (h : IRRep w g gb S) : g ≠ gb := h.blk.ne_ h.row (by decide)
theorem r_row_of {w : World} {g gb : Nat} {S : Img} (h : IRRep w g gb S) (m a : Int) (n : Nat) (hn : n ≠ 0) (hn2 : n ≤ 9223372036854775807) (wr : Bool) :
    (S.rowOk m a n wr = false ∧ Calls Tryz.prog 101 #[.pointer (some ⟨g, 0, none⟩), .int .i64 m, .int .i64 a, .int .i64 (n : Int), .int .i64 (rightOf wr)] w (Gives (.bool false) w)) ∨
    (S.rowOk m a n wr = true ∧ ∃ k : Nat, a = k ∧ k + n ≤ S.beg 6 ∧ Calls Tryz.prog 101 #[.pointer (some ⟨g, 0, none⟩), .int .i64 m, .int .i64 (k : Int), .int .i64 (n : Int), .int .i64 (rightOf wr)] w (Gives (.bool true) w)) := by
  have hrow := r_row h m a n hn2 wr
  cases hk : S.rowOk m a n wr
  · rw [hk] at hrow
    exact .inl ⟨rfl, hrow⟩
  · obtain ⟨h0, h1⟩ := S.row_in hk hn
    obtain ⟨k, rfl⟩ := Int.eq_ofNat_of_zero_le h0
    rw [hk] at hrow
    exact .inr ⟨rfl, k, rfl, by omega, hrow⟩
theorem convR {w : World} {g gb : Nat} {S : Img} (h : IRRep w g gb S) (k n cap : Nat) (hle : k + n ≤ S.beg 6) : (convert 123 9 (.slice (some ⟨gb, k, none⟩) n cap)).run Tryz.prog w = .ok (.string ⟨(S.bytes k n).toArray⟩) w := by
  have hl := bytes_len S h.ok k n hle
  have := run_convert_bytes_back (P := Tryz.prog) w 123 9 5 ⟨gb, k, none⟩ cap (S.bytes k n) Tryz.underlying123 Tryz.underlying5 Tryz.underlying9 (fun j hj => by
    have h2 : ((⟨gb, k, none⟩ : Addr).add j) = ⟨gb, k + j, none⟩ := by simp [Addr.add]
    rw [h2, h.byte (k + j) (by omega)]
    have h3 := bytes_getD S k n j (by omega)
    rw [← h3, List.getD_eq_getElem?_getD, List.getElem?_eq_getElem hj]
    rfl)
  rw [hl] at this
  exact this
section
variable {w0 w : World} {g : Nat} {S : Img} {L : List Asr}
theorem RimgA.rep (h : At w0 w (RimgA g S :: L)) : ∃ gb, IRRep w g gb S := by obtain ⟨F, gb, h, _⟩ := h.first; exact ⟨gb, h⟩
theorem b_cell (h : At w0 w (RimgA g S :: L)) (m a : Int) : Calls Tryz.prog 223 #[.pointer (some ⟨g, 0, none⟩), .int .i64 m, .int .i64 a] w (Got1 (.tuple #[.int .i64 (S.cellV m a), .int .i64 (S.cellF m a false)]) (RimgA g S) w0 L) := by
  obtain ⟨gb, hr⟩ := RimgA.rep h
  by_cases hal : a % 8 = 0
  · have h80 : (8 : Nat) ≠ 0 := by omega
    have h8 : (8 : Nat) ≤ 9223372036854775807 := by omega
    rcases r_row_of hr m a 8 h80 h8 false with ⟨hk, hrow⟩ | ⟨hk, k, rfl, hle, hrow⟩
    · have hF : S.cellF m a false = 5 := by unfold Img.cellF; simp [hal, hk]
      have hV : S.cellV m a = 0 := by unfold Img.cellV; simp [hF]
      rw [hF, hV]
      exact (r_cell_no _ m a w hal hrow).mono fun e w' h' => ⟨h'.1, h.ofBelow h'.2⟩
    · have hF : S.cellF m k false = 0 := by unfold Img.cellF; simp [hal, hk]
      have hV : S.cellV m k = ofB (S.bytes k 8) := by unfold Img.cellV; simp [hF]
      rw [hF, hV]
      exact (r_cell_yes hr m k hle hal hrow).mono fun e w' h' => ⟨h'.1, h.ofBelow h'.2⟩
  · have hF : S.cellF m a false = 6 := by unfold Img.cellF; simp [hal]
    have hV : S.cellV m a = 0 := by unfold Img.cellV; simp [hF]
    rw [hF, hV]
    exact (r_cell_mis _ m a w hal).mono fun e w' h' => ⟨h'.1, h.ofBelow h'.2⟩
theorem gives_post {v : Value} {F : Nat → Prop} {gb : Nat} {e : Ending} {w' : World} (hr : IRRep w g gb S) (hFk : ∀ k, F k ↔ k = g ∨ k = gb) (h : Gives v w e w') : Post (fun u B => u = v ∧ B = RimgA g S) F w e w' :=
  ⟨v, RimgA g S, F, ⟨rfl, rfl⟩, h.1, ⟨gb, hr.below h.2, hFk⟩, (Kept.ofBelow0 h.2).mono (fun _ h => h.elim), fun _ hk => .inl hk⟩
theorem b_setCell (h : At w0 w (RimgA g S :: L)) (m a v : Int) (hv : -9223372036854775808 ≤ v ∧ v ≤ 9223372036854775807) :
    Calls Tryz.prog 75 #[.pointer (some ⟨g, 0, none⟩), .int .i64 m, .int .i64 a, .int .i64 v] w (Got1 (.int .i64 (S.cellF m a true)) (RimgA g (S.setCell m a v)) w0 L) := by
  refine h.call1 fun F hF => ?_
  obtain ⟨gb, hr, hFk⟩ := hF
  by_cases hal : a % 8 = 0
  · have h80 : (8 : Nat) ≠ 0 := by omega
    have h8 : (8 : Nat) ≤ 9223372036854775807 := by omega
    rcases r_row_of hr m a 8 h80 h8 true with ⟨hk, hrow⟩ | ⟨hk, k, rfl, hle, hrow⟩
    · have hC : S.cellF m a true = 5 := by unfold Img.cellF; simp [hal, hk]
      have hS : S.setCell m a v = S := by unfold Img.setCell; simp [hC]
      rw [hC, hS]
      exact (r_set_no _ m a v w hal hrow).mono fun e w' h' => gives_post hr hFk h'
    · have hC : S.cellF m k true = 0 := by unfold Img.cellF; simp [hal, hk]
      have hS : S.setCell m k v = S.put k (toB v) := by unfold Img.setCell; simp [hC]
      rw [hC, hS]
      refine (r_set_yes hr m v hv k hle hal hrow).mono ?_
      rintro e w' ⟨rfl, hb', hk'⟩
      refine ⟨_, _, F, ⟨rfl, rfl⟩, rfl, ⟨gb, ⟨?_, hb', hr.ok.put k _ (by rw [toB_len]; exact hle)⟩, hFk⟩, hk'.mono (fun i hi => (hFk i).2 (.inr hi)), fun k hk => .inl hk⟩
      exact hr.blk.kept hk' hr.ne
  · have hC : S.cellF m a true = 6 := by unfold Img.cellF; simp [hal]
    have hS : S.setCell m a v = S := by unfold Img.setCell; simp [hC]
    rw [hC, hS]
    exact (r_set_mis _ m a v w hal).mono fun e w' h' => gives_post hr hFk h'
end
end Go.Proofs.YtjhdpmimccpcdaaGreatDoor
/- Chapter 3: the document's image: texts, parts, the seal, a new one. Conditions: as written. -/
namespace Go.Proofs.YtjhdpmimccpcdaaGreatDoor
set_option linter.unusedVariables false
open Go.RowKit Go.Lib Go.Deep

theorem r_text_neg (p : Value) (m a n : Int) (hn : n < 0) (w : World) : Calls Tryz.prog 225 #[p, .int .i64 m, .int .i64 a, .int .i64 n] w (Gives (.tuple #[.string ⟨#[]⟩, .int .i64 19]) w) := by
  go_enter Tryz.func225, Tryz.ntmps225
  go_wp2
  go_ret2
  exact ⟨rfl, Below.refl _ _⟩
theorem r_text_no (p : Value) (m a : Int) (n : Nat) (hn : n ≤ 9223372036854775807) (w : World) (hrow : Calls Tryz.prog 101 #[p, .int .i64 m, .int .i64 a, .int .i64 (n : Int), .int .i64 1] w (Gives (.bool false) w)) :
    Calls Tryz.prog 225 #[p, .int .i64 m, .int .i64 a, .int .i64 (n : Int)] w (Gives (.tuple #[.string ⟨#[]⟩, .int .i64 5]) w) := by
  replace hrow := Lib.hid hrow
  go_enter Tryz.func225, Tryz.ntmps225
  go_wp2_with fail
  refine hrow.out.mono ?_
  rintro e w1 ⟨rfl, h1⟩
  replace h1 := Lib.hid h1
  go_wp2
  go_ret2
  exact ⟨rfl, h1.out⟩
theorem r_text_0 (p : Value) (m a : Int) (w : World) (hrow : Calls Tryz.prog 101 #[p, .int .i64 m, .int .i64 a, .int .i64 0, .int .i64 1] w (Gives (.bool true) w)) :
    Calls Tryz.prog 225 #[p, .int .i64 m, .int .i64 a, .int .i64 0] w (Gives (.tuple #[.string ⟨#[]⟩, .int .i64 0]) w) := by
  replace hrow := Lib.hid hrow
  go_enter Tryz.func225, Tryz.ntmps225
  go_wp2_with fail
  refine hrow.out.mono ?_
  rintro e w1 ⟨rfl, h1⟩
  replace h1 := Lib.hid h1
  go_wp2
  go_ret2
  exact ⟨rfl, h1.out⟩
set_option maxRecDepth 100000 in
theorem r_text_yes {w : World} {g gb : Nat} {S : Img} (h : IRRep w g gb S) (m : Int) (k n : Nat) (hn0 : 0 < n) (hle : k + n ≤ S.beg 6)
    (hrow : Calls Tryz.prog 101 #[.pointer (some ⟨g, 0, none⟩), .int .i64 m, .int .i64 (k : Int), .int .i64 (n : Int), .int .i64 1] w (Gives (.bool true) w)) :
    Calls Tryz.prog 225 #[.pointer (some ⟨g, 0, none⟩), .int .i64 m, .int .i64 (k : Int), .int .i64 (n : Int)] w (Gives (.tuple #[.string ⟨(S.bytes k n).toArray⟩, .int .i64 0]) w) := by
  have hsm := h.ok.small
  replace hrow := Lib.hid hrow
  replace h := Lib.hid h
  have hne : ((n : Int) == 0) = false := by rw [beq_eq_false_iff_ne]; omega
  have hkn : k + n - k = n := by omega
  go_enter Tryz.func225, Tryz.ntmps225
  go_wp2_with fail
  refine hrow.out.mono ?_
  rintro e w1 ⟨rfl, h1⟩
  have hR := h.out.below h1
  have hall := hR.all_cell
  have hc := fun cap => convR hR k n cap hle
  generalize (S.bytes (k : Int) n) = l at *
  generalize S.beg 6 = N at *
  replace h1 := Lib.hid h1
  clear hR
  go_wp2
  go_ret2
  exact ⟨rfl, h1.out⟩
theorem r_text {w : World} {g gb : Nat} {S : Img} (h : IRRep w g gb S) (m a n : Int) (hn : n ≤ 9223372036854775807) :
    Calls Tryz.prog 225 #[.pointer (some ⟨g, 0, none⟩), .int .i64 m, .int .i64 a, .int .i64 n] w (Gives (.tuple #[.string (S.text m a n), .int .i64 (S.textF m a n)]) w) := by
  by_cases h0 : n < 0
  · have hF : S.textF m a n = 19 := by unfold Img.textF; simp [h0]
    have hT : S.text m a n = ⟨#[]⟩ := by unfold Img.text; simp [hF]
    rw [hF, hT]
    exact r_text_neg _ m a n h0 w
  obtain ⟨k, rfl⟩ := Int.eq_ofNat_of_zero_le (Int.not_lt.1 h0)
  have hF : S.textF m a k = if S.rowOk m a k false = true then 0 else 5 := by unfold Img.textF; rw [if_neg h0]; simp
  by_cases hk0 : k = 0
  · subst hk0
    have hrow := r_row h m a 0 (by omega) false
    have hk : S.rowOk m a 0 false = true := by unfold Img.rowOk; rfl
    rw [hk] at hrow
    rw [hk, if_pos rfl] at hF
    have hT : S.text m a ((0 : Nat) : Int) = ⟨#[]⟩ := by unfold Img.text; rw [if_pos hF]; simp [Img.bytes]
    rw [hF, hT]
    exact r_text_0 _ m a w hrow
  · rcases r_row_of h m a k hk0 (by omega) false with ⟨hk, hrow⟩ | ⟨hk, j, rfl, hle, hrow⟩
    · rw [hk, if_neg (by decide)] at hF
      have hT : S.text m a k = ⟨#[]⟩ := by unfold Img.text; simp [hF]
      rw [hF, hT]
      exact r_text_no _ m a k (by omega) w hrow
    · rw [hk, if_pos rfl] at hF
      have hT : S.text m j k = ⟨(S.bytes j k).toArray⟩ := by unfold Img.text; rw [if_pos hF]; simp
      rw [hF, hT]
      exact r_text_yes h m j k (by omega) hle hrow
theorem rimgCells_op (gb : Nat) (S : Img) : (rimgCells gb S).setIfInBounds 6 (.bool true) = rimgCells gb { S with op := true } := rfl
theorem rimgCells_cl (gb : Nat) (S : Img) : (rimgCells gb S).setIfInBounds 7 (.bool true) = rimgCells gb { S with cl := true } := rfl
theorem r_open_shut {w : World} {g gb : Nat} {S : Img} (h : IRRep w g gb S) (hc : S.cl = true) : Calls Tryz.prog 71 #[.pointer (some ⟨g, 0, none⟩)] w (Same (.int .i64 5) w) := by
  have hcl := h.cl_cell
  rw [hc] at hcl
  clear h hc
  go_enter Tryz.func71, Tryz.ntmps71
  go_wp2
  go_ret
  exact ⟨rfl, rfl⟩
theorem r_open {w : World} {g gb : Nat} {S : Img} (h : IRRep w g gb S) (hc : S.cl = false) : Calls Tryz.prog 71 #[.pointer (some ⟨g, 0, none⟩)] w (Same (.int .i64 0) (w.setCell ⟨g, 6, none⟩ (.bool true))) := by
  have hcl := h.cl_cell
  have hop := h.op_cell
  have hf := h.blk.frozen 6
  rw [hc] at hcl
  generalize S.op = o at hop
  clear h hc
  go_enter Tryz.func71, Tryz.ntmps71
  go_wp2
  go_ret
  exact ⟨rfl, rfl⟩
theorem r_seal_shut {w : World} {g gb : Nat} {S : Img} (h : IRRep w g gb S) (hc : S.cl = true) : Calls Tryz.prog 72 #[.pointer (some ⟨g, 0, none⟩)] w (Same (.int .i64 5) w) := by
  have hcl := h.cl_cell
  rw [hc] at hcl
  clear h hc
  go_enter Tryz.func72, Tryz.ntmps72
  go_wp2
  go_ret
  exact ⟨rfl, rfl⟩
theorem r_seal {w : World} {g gb : Nat} {S : Img} (h : IRRep w g gb S) (hc : S.cl = false) : Calls Tryz.prog 72 #[.pointer (some ⟨g, 0, none⟩)] w (Same (.int .i64 0) (w.setCell ⟨g, 7, none⟩ (.bool true))) := by
  have hcl := h.cl_cell
  have hf := h.blk.frozen 7
  rw [hc] at hcl
  clear h hc
  go_enter Tryz.func72, Tryz.ntmps72
  go_wp2
  go_ret
  exact ⟨rfl, rfl⟩
section
variable {w0 w : World} {g : Nat} {S : Img} {L : List Asr}
theorem b_text (h : At w0 w (RimgA g S :: L)) (m a n : Int) (hn : n ≤ 9223372036854775807) : Calls Tryz.prog 225 #[.pointer (some ⟨g, 0, none⟩), .int .i64 m, .int .i64 a, .int .i64 n] w (Got1 (.tuple #[.string (S.text m a n), .int .i64 (S.textF m a n)]) (RimgA g S) w0 L) := by
  obtain ⟨gb, hr⟩ := RimgA.rep h
  exact (r_text hr m a n hn).mono fun e w' h' => ⟨h'.1, h.ofBelow h'.2⟩
theorem b_span (h : At w0 w (RimgA g S :: L)) (r : Int) : Calls Tryz.prog 52 #[.pointer (some ⟨g, 0, none⟩), .int .i64 r] w (Got1 (.tuple #[.int .i64 (spanFrom S r), .int .i64 (spanTo S r)]) (RimgA g S) w0 L) := by
  obtain ⟨gb, hr⟩ := RimgA.rep h
  exact (r_span hr r).mono fun e w' h' => ⟨h'.1, h.ofBelow h'.2⟩
theorem b_open (h : At w0 w (RimgA g S :: L)) : Calls Tryz.prog 71 #[.pointer (some ⟨g, 0, none⟩)] w (Got1 (.int .i64 S.openF) (RimgA g S.opened) w0 L) := by
  refine h.call1 fun F hF => ?_
  obtain ⟨gb, hr, hFk⟩ := hF
  unfold Img.openF Img.opened
  rcases Bool.eq_false_or_eq_true S.cl with hc | hc
  rotate_left
  · rw [if_neg (by rw [hc]; decide), if_neg (by rw [hc]; decide)]
    refine (r_open hr hc).mono ?_
    rintro e w' ⟨rfl, rfl⟩
    refine ⟨_, _, F, ⟨rfl, rfl⟩, rfl, ⟨gb, ⟨?_, hr.row.far (p := ⟨g, 6, none⟩) hr.ne.symm _, hr.ok.op true⟩, hFk⟩, (Kept.refl _ _).setCell (.inl ((hFk _).2 (.inl rfl))) _, fun k hk => .inl hk⟩
    rw [← rimgCells_op]
    exact hr.blk.set_ 6 _
  · rw [if_pos hc, if_pos hc]
    refine (r_open_shut hr hc).mono ?_
    rintro e w' ⟨rfl, rfl⟩
    exact ⟨_, _, F, ⟨rfl, rfl⟩, rfl, ⟨gb, hr, hFk⟩, Kept.refl _ _, fun k hk => .inl hk⟩
theorem b_seal (h : At w0 w (RimgA g S :: L)) : Calls Tryz.prog 72 #[.pointer (some ⟨g, 0, none⟩)] w (Got1 (.int .i64 S.openF) (RimgA g S.sealed) w0 L) := by
  refine h.call1 fun F hF => ?_
  obtain ⟨gb, hr, hFk⟩ := hF
  unfold Img.openF Img.sealed
  rcases Bool.eq_false_or_eq_true S.cl with hc | hc
  rotate_left
  · rw [if_neg (by rw [hc]; decide)]
    refine (r_seal hr hc).mono ?_
    rintro e w' ⟨rfl, rfl⟩
    refine ⟨_, _, F, ⟨rfl, rfl⟩, rfl, ⟨gb, ⟨?_, hr.row.far (p := ⟨g, 7, none⟩) hr.ne.symm _, hr.ok.cl true⟩, hFk⟩, (Kept.refl _ _).setCell (.inl ((hFk _).2 (.inl rfl))) _, fun k hk => .inl hk⟩
    rw [← rimgCells_cl]
    exact hr.blk.set_ 7 _
  · rw [if_pos hc]
    refine (r_seal_shut hr hc).mono ?_
    rintro e w' ⟨rfl, rfl⟩
    have hS : ({ S with cl := true } : Img) = S := by cases S; simp at hc; simp [hc]
    rw [hS]
    exact ⟨_, _, F, ⟨rfl, rfl⟩, rfl, ⟨gb, hr, hFk⟩, Kept.refl _ _, fun k hk => .inl hk⟩
end

theorem fits_yes (n lo hi : Int) (h1 : lo ≤ n) (h2 : n ≤ hi) (h8 : n % 8 = 0) (w : World) : Calls Tryz.prog 128 #[.int .i64 n, .int .i64 lo, .int .i64 hi] w (Same (.bool true) w) := by
  have h3 : n.tmod 8 = 0 := (tmod8 n).2 h8
  clear h8
  go_enter Tryz.func128, Tryz.ntmps128
  go_wp2
  go_ret
  exact ⟨rfl, rfl⟩
set_option maxRecDepth 100000 in
theorem Fits_yes {k s u d r : Nat} (hf : Fits k s u d r) (w : World) : Calls Tryz.prog 91 #[layoutV k s u d r] w (Gives (.bool true) w) := by
  have f1 := Lib.hid fun w => fits_yes k 16384 65536 (by have := hf.k1; omega) (by have := hf.k2; omega) (by have := hf.k8; omega) w
  have f2 := Lib.hid fun w => fits_yes s 0 4096 (by omega) (by have := hf.s2; omega) (by have := hf.s8; omega) w
  have f3 := Lib.hid fun w => fits_yes u 256 65536 (by have := hf.u1; omega) (by have := hf.u2; omega) (by have := hf.u8; omega) w
  have f4 := Lib.hid fun w => fits_yes d 64 4096 (by have := hf.d1; omega) (by have := hf.d2; omega) (by have := hf.d8; omega) w
  have f5 := Lib.hid fun w => fits_yes r 64 4096 (by have := hf.r1; omega) (by have := hf.r2; omega) (by have := hf.r8; omega) w
  clear hf
  unfold layoutV
  go_enter Tryz.func91, Tryz.ntmps91
  go_wp2_with fail
  refine (f1.out _).mono ?_
  rintro e w1 ⟨rfl, rfl⟩
  go_wp2_with fail
  refine (f2.out _).mono ?_
  rintro e w1 ⟨rfl, rfl⟩
  go_wp2_with fail
  refine (f3.out _).mono ?_
  rintro e w1 ⟨rfl, rfl⟩
  go_wp2_with fail
  refine (f4.out _).mono ?_
  rintro e w1 ⟨rfl, rfl⟩
  go_wp2_with fail
  refine (f5.out _).mono ?_
  rintro e w1 ⟨rfl, rfl⟩
  go_wp2
  go_ret
  exact ⟨rfl, (Below.refl _ _).alloc (Nat.le_refl _) _⟩
def IRNewPost (S : Img) (w : World) (e : Ending) (w' : World) : Prop := ∃ g gb, e = .returned (.tuple #[.pointer (some ⟨g, 0, none⟩), .bool true]) ∧ w.heap.size ≤ g ∧ w.heap.size ≤ gb ∧ IRRep w' g gb S ∧ Below w.heap.size w w'
set_option maxRecDepth 100000 in
set_option maxHeartbeats 2000000 in
theorem ir_new (k s u d r : Nat) (hf : Fits k s u d r) (w : World) : Calls Tryz.prog 65 #[layoutV k s u d r] w (IRNewPost (newImg k s u d r) w) := by
  have hfits := Lib.hid fun w => Fits_yes hf w
  have hok := Lib.hid (newImg_ok hf)
  obtain ⟨k1, k2, k8, s2, s8, u1, u2, u8, d1, d2, d8, r1, r2, r8⟩ := hf
  clear k1 k8 s8 u1 u8 d1 d8 r1 r8
  obtain ⟨n, hn⟩ : ∃ n, k + s + u + d + r = n := ⟨_, rfl⟩
  have hmk := fun w => run_make_row' (P := Tryz.prog) 123 5 (.int .u8 0) 1 Tryz.underlying123 (by kernel_rfl) rfl .i64 .i64 n (by omega) (by omega) w
  simp only [made0] at hmk
  have hsum : ((n : Nat) : Int) = (k : Int) + s + u + d + r := by omega
  rw [hsum] at hmk
  clear hsum
  replace hn := Lib.hid hn
  unfold layoutV at *
  go_enter Tryz.func65, Tryz.ntmps65
  go_wp2_with fail
  refine (hfits.out _).mono ?_
  rintro e w1 ⟨rfl, h1⟩
  have hb1 : Blk w1 w.heap.size 90 #[.int .i64 (k : Int), .int .i64 (s : Int), .int .i64 (u : Int), .int .i64 (d : Int), .int .i64 (r : Int)] := (Blk.new w _ _).below h1 (by simp)
  have hbl := Lib.hid (((Below.refl w.heap.size w).alloc (Nat.le_refl _) _).trans (h1.mono (by simp)))
  have hsz : w.heap.size < w1.heap.size := by have := h1.size; simp at this; omega
  have c0 : w1.cell? ⟨w.heap.size, 0, none⟩ = some (.int .i64 (k : Int)) := hb1.cell 0
  have c1 : w1.cell? ⟨w.heap.size, 1, none⟩ = some (.int .i64 (s : Int)) := hb1.cell 1
  have c2 : w1.cell? ⟨w.heap.size, 2, none⟩ = some (.int .i64 (u : Int)) := hb1.cell 2
  have c3 : w1.cell? ⟨w.heap.size, 3, none⟩ = some (.int .i64 (d : Int)) := hb1.cell 3
  have c4 : w1.cell? ⟨w.heap.size, 4, none⟩ = some (.int .i64 (r : Int)) := hb1.cell 4
  clear h1 hb1
  go_wp2
  go_region
  go_wp2
  go_ret2
  refine ⟨w1.heap.size + 1, w1.heap.size, rfl, by omega, by omega, ⟨?_, ?_, hok.out⟩, ((hbl.out.alloc (by omega) _).alloc (by simp; omega) _).drew⟩
  · have hn := hn.out
    subst hn
    exact (Blk.new' (by simp)).drew
  · have hn := hn.out
    subst hn
    exact ((Blk.new _ _ _).alloc _).drew
theorem b_new {w0 w : World} {L : List Asr} (h : At w0 w L) (k s u d r : Nat) (hf : Fits k s u d r) : Calls Tryz.prog 65 #[layoutV k s u d r] w fun e w' => ∃ g, e = .returned (.tuple #[.pointer (some ⟨g, 0, none⟩), .bool true]) ∧ At w0 w' (RimgA g (newImg k s u d r) :: L) := by
  refine (ir_new k s u d r hf w).mono ?_
  rintro e w' ⟨g, gb, he, h1, h2, hr, hb⟩
  exact ⟨g, he, h.add (A := RimgA g (newImg k s u d r)) (F' := fun i => i = g ∨ i = gb) ⟨gb, hr, fun _ => Iff.rfl⟩ (Kept.ofBelow0 hb) (fun i hi => by rcases hi with rfl | rfl <;> assumption)⟩
end Go.Proofs.YtjhdpmimccpcdaaGreatDoor
