/- Chapter 1: a cell as bytes, bytes as a cell: the program's functions. Condition: eight bytes. -/
import Derived.Test.YtanpbphgmnjdeaaDoorImg2
namespace Go.Proofs.YtanpbphgmnjdeaaDoor
set_option linter.unusedVariables false
open Go.RowKit Go.Lib

theorem or_add (x c p e : Nat) (hp : 2 ^ e = p) (hx : x < p) (hp56 : p ≤ 72057594037927936) (hc : c < 256) : bits .or .i64 (wrap64 (x : Int)) (wrap64 ((p * c : Nat) : Int)) = wrap64 ((x + p * c : Nat) : Int) := by
  have hc2 : p * c ≤ 72057594037927936 * 255 := Nat.mul_le_mul hp56 (by omega)
  have n1 : (BitVec.ofInt 64 (wrap64 (x : Int))).toNat = x := by
    rw [BitVec.toNat_ofInt]; unfold wrap64; omega
  have n2 : (BitVec.ofInt 64 (wrap64 ((p * c : Nat) : Int))).toNat = p * c := by
    rw [BitVec.toNat_ofInt]; unfold wrap64
    generalize p * c = y at *
    omega
  have hor : (BitVec.ofInt 64 (wrap64 (x : Int)) ||| BitVec.ofInt 64 (wrap64 ((p * c : Nat) : Int))).toNat = x + p * c := by
    rw [BitVec.toNat_or, n1, n2, Nat.or_comm, ← hp, ← Nat.two_pow_add_eq_or_of_lt (by rw [hp]; exact hx), Nat.add_comm]
  show IntKind.i64.wrap ((BitVec.ofInt 64 (wrap64 (x : Int)) ||| BitVec.ofInt 64 (wrap64 ((p * c : Nat) : Int))).toNat : Nat) = _
  rw [hor, IntKind.wrap_i64]
  unfold wrap64
  omega
theorem or_step (x c j : Nat) (hj : j < 8) (hx : x < 256 ^ j) (hc : c < 256) : bits .or .i64 (wrap64 (x : Int)) (wrap64 (wrap64 (c : Int) * 2 ^ (8 * j))) = wrap64 ((x + 256 ^ j * c : Nat) : Int) := by
  have hw : wrap64 (c : Int) = c := by unfold wrap64; omega
  have hpow : (256 : Nat) ^ j = 2 ^ (8 * j) := by rw [Nat.pow_mul]
  have hci : ((c : Int) * 2 ^ (8 * j)) = ((256 ^ j * c : Nat) : Int) := by rw [hpow, Int.natCast_mul, Int.natCast_pow, Int.mul_comm]; rfl
  have h56 : 256 ^ j ≤ 72057594037927936 := by
    have h7 : (256 : Nat) ^ j ≤ 256 ^ 7 := Nat.pow_le_pow_right (by decide) (by omega)
    have h8 : (256 : Nat) ^ 7 = 72057594037927936 := by decide
    omega
  rw [hw, hci]
  exact or_add x c (256 ^ j) (8 * j) hpow.symm hx h56 hc
theorem leN_snoc (l : List UInt8) (j : Nat) (hj : j < l.length) : leN (l.take (j + 1)) = leN (l.take j) + 256 ^ j * (l.getD j 0).toNat := by
  have : l.take (j + 1) = l.take j ++ [l.getD j 0] := by
    rw [List.take_succ_eq_append_getElem hj, List.getD_eq_getElem?_getD, List.getElem?_eq_getElem hj]
    rfl
  rw [this, leN_append, List.length_take, Nat.min_eq_left (by omega)]
  simp [leN]
def partOf (l : List UInt8) (j : Nat) : Int := wrap64 (leN (l.take j) : Nat)

set_option maxRecDepth 100000 in
theorem of_walk (l : List UInt8) (hl : l.length = 8) (w : World) : Calls Tryd.prog 85 #[.agg (bcells l).toArray] w fun e w' => e = .returned (.int .i64 (ofB l)) ∧ Below w.heap.size w w' := by
  have hcell : ∀ j, j < 8 → (w.alloc (.cells (bcells l).toArray 112)).cell? ⟨w.heap.size, j, none⟩ = some (.int .u8 ((l.getD j 0).toNat : Int)) := by
    intro j hj
    rw [(Blk.new w _ _).cell]
    have : j < l.length := by omega
    simp [bcells, List.getD, this]
  replace hcell := Lib.hid hcell
  go_enter Tryd.func85, Tryd.ntmps85
  go_wp2
  go_loop [3, 5] (fun a i => ∃ j : Nat, j ≤ 8 ∧ i = .int .i64 j ∧ a = .int .i64 (partOf l j)) (fun _ i => 8 - (RowKit.intOf i).toNat)
  case atStart => exact ⟨0, by omega, rfl, by unfold partOf; simp [leN, wrap64]⟩
  case round =>
    obtain ⟨j, hj8, rfl, rfl⟩ := hrel
    by_cases hlt : j < 8
    · have hget := hcell.out j hlt
      have hsn := leN_snoc l j (by omega)
      have hlt2 := leN_lt (l.take j)
      rw [List.length_take, Nat.min_eq_left (by omega)] at hlt2
      obtain ⟨c, hc⟩ : ∃ c, l.getD j 0 = c := ⟨_, rfl⟩
      rw [hc] at hget hsn
      have hst := or_step (leN (l.take j)) c.toNat j hlt hlt2 c.toNat_lt
      rw [← hsn] at hst
      replace hst : bits .or .i64 (partOf l j) (wrap64 (wrap64 (c.toNat : Int) * 2 ^ (8 * j))) = partOf l (j + 1) := hst
      clear hsn hlt2 hc
      go_wp2
      go_round
      case rel => exact ⟨j + 1, by omega, by go_num, rfl⟩
      case measure => simp [RowKit.intOf]; omega
    · obtain rfl : j = 8 := by omega
      go_wp2
      go_ret
      refine ⟨?_, (Below.refl _ _).alloc (Nat.le_refl _) _⟩
      have : partOf l 8 = ofB l := by unfold partOf ofB; rw [List.take_of_length_le (by omega)]
      show Ending.returned (Value.int .i64 (partOf l 8)) = _
      rw [this]

/-- the cells of an array of which the first j have been filled -/
def filled (v : Int) (j : Nat) : Array Value := (bcells (((List.range j).map (byteAt v)) ++ List.replicate (8 - j) 0)).toArray
theorem byteAt_nat (v : Int) (i : Nat) : ((byteAt v i).toNat : Int) = v / 2 ^ (8 * i) % 256 := by
  unfold byteAt
  have : (256 : Int) ^ i = 2 ^ (8 * i) := by rw [show (256 : Int) = 2 ^ 8 by decide, ← Int.pow_mul]
  rw [this]
  generalize v / 2 ^ (8 * i) = x
  rw [UInt8.toNat_ofNat']
  omega
theorem filled_at (v : Int) (j : Nat) (hj : j < 8) : (filled v j)[j]? = some (.int .u8 0) := by
  have : j = 0 ∨ j = 1 ∨ j = 2 ∨ j = 3 ∨ j = 4 ∨ j = 5 ∨ j = 6 ∨ j = 7 := by omega
  rcases this with rfl | rfl | rfl | rfl | rfl | rfl | rfl | rfl <;> rfl
theorem filled_set (v : Int) (j : Nat) (hj : j < 8) : (filled v j).setIfInBounds j (.int .u8 (v / 2 ^ (8 * j) % 256)) = filled v (j + 1) := by
  rw [← byteAt_nat]
  have : j = 0 ∨ j = 1 ∨ j = 2 ∨ j = 3 ∨ j = 4 ∨ j = 5 ∨ j = 6 ∨ j = 7 := by omega
  rcases this with rfl | rfl | rfl | rfl | rfl | rfl | rfl | rfl <;> rfl
/-- eight cells of a block that is known whole -/
def Eight (w : World) (g : Nat) (x : Nat → Value) : Prop :=
  (w.cell? ⟨g, 0, none⟩ = some (x 0) ∧ w.cell? ⟨g, 1, none⟩ = some (x 1) ∧ w.cell? ⟨g, 2, none⟩ = some (x 2) ∧ w.cell? ⟨g, 3, none⟩ = some (x 3) ∧ w.cell? ⟨g, 4, none⟩ = some (x 4) ∧ w.cell? ⟨g, 5, none⟩ = some (x 5) ∧ w.cell? ⟨g, 6, none⟩ = some (x 6) ∧ w.cell? ⟨g, 7, none⟩ = some (x 7))
theorem eight_of {w : World} {g : Nat} {t : TypeId} {l : List UInt8} (h : Blk w g t (bcells l).toArray) (hl : l.length = 8) : Eight w g (fun i => .int .u8 ((l.getD i 0).toNat : Int)) := by
  have key : ∀ i, i < 8 → w.cell? ⟨g, i, none⟩ = some (.int .u8 ((l.getD i 0).toNat : Int)) := by
    intro i hi
    rw [h.cell]
    have : i < l.length := by omega
    simp [bcells, List.getD, this]
  exact ⟨key 0 (by omega), key 1 (by omega), key 2 (by omega), key 3 (by omega), key 4 (by omega), key 5 (by omega), key 6 (by omega), key 7 (by omega)⟩
def tn (v : Int) (i : Nat) : Int := (((toB v).getD i 0).toNat : Int)
theorem tn_all (v : Int) : (#[.int .u8 (tn v 0), .int .u8 (tn v 1), .int .u8 (tn v 2), .int .u8 (tn v 3), .int .u8 (tn v 4), .int .u8 (tn v 5), .int .u8 (tn v 6), .int .u8 (tn v 7)] : Array Value) = (bcells (toB v)).toArray := rfl
set_option maxRecDepth 100000 in
theorem bytes_walk (v : Int) (hv : -9223372036854775808 ≤ v ∧ v ≤ 9223372036854775807) (w : World) : Calls Tryd.prog 82 #[.int .i64 v] w fun e w' => e = .returned (.agg (bcells (toB v)).toArray) ∧ Below w.heap.size w w' := by
  go_enter Tryd.func82, Tryd.ntmps82
  go_wp2
  go_loopw [5] (fun i wr => ∃ j : Nat, j ≤ 8 ∧ i = .int .i64 j ∧ Blk wr (w.heap.size + 1) 112 (filled v j) ∧ Blk wr w.heap.size 112 (filled v 0) ∧ Below w.heap.size w wr) (fun i _ => 8 - (RowKit.intOf i).toNat)
  case atStart =>
    exact ⟨0, by omega, rfl, Blk.new' (by simp), (Blk.new _ _ _).alloc _, ((Below.refl _ _).alloc (Nat.le_refl _) _).alloc (by simp) _⟩
  case round =>
    obtain ⟨j, hj8, rfl, hb, hb0, hbl⟩ := hrel
    by_cases hlt : j < 8
    · have hc : wr.cell? ⟨w.heap.size + 1, j, none⟩ = some (.int .u8 0) := by rw [hb.cell, filled_at v j hlt]
      have hf := hb.frozen j
      have hb1 := hb.set_ j (.int .u8 (v / 2 ^ (8 * j) % 256))
      rw [filled_set v j hlt] at hb1
      have hb2 := hb0.far (p := ⟨w.heap.size + 1, j, none⟩) (by simp) (.int .u8 (v / 2 ^ (8 * j) % 256))
      replace hb1 := Lib.hid hb1
      replace hb2 := Lib.hid hb2
      clear hb hb0
      replace hbl := Lib.hid hbl
      go_wp2
      go_roundw
      case rel => exact ⟨j + 1, by omega, by go_num, hb1.out, hb2.out, hbl.out.setCell (by simp) _⟩
      case measure => simp [RowKit.intOf]; omega
    · obtain rfl : j = 8 := by omega
      have hb' : Blk wr (w.heap.size + 1) 112 (bcells (toB v)).toArray := hb
      have e8 : Eight wr (w.heap.size + 1) (fun i => .int .u8 (tn v i)) := eight_of hb' (toB_len v)
      obtain ⟨c0, c1, c2, c3, c4, c5, c6, c7⟩ := e8
      obtain ⟨d0, d1, d2, d3, d4, d5, d6, d7⟩ := eight_of (l := List.replicate 8 0) hb0 (by simp)
      have f0 := hb0.frozen 0
      have f1 := hb0.frozen 1
      have f2 := hb0.frozen 2
      have f3 := hb0.frozen 3
      have f4 := hb0.frozen 4
      have f5 := hb0.frozen 5
      have f6 := hb0.frozen 6
      have f7 := hb0.frozen 7
      clear hb hb0 hb'
      replace hbl := Lib.hid hbl
      go_wp2
      refine bodyPost_ret (v := .agg #[.int .u8 (tn v 0), .int .u8 (tn v 1), .int .u8 (tn v 2), .int .u8 (tn v 3), .int .u8 (tn v 4), .int .u8 (tn v 5), .int .u8 (tn v 6), .int .u8 (tn v 7)]) (by simp [results, Tryd.results82, go_sem, d0, d1, d2, d3, d4, d5, d6, d7]) rfl ⟨by rw [tn_all], ?_⟩
      exact (((((((hbl.out.setCell (Nat.le_refl _) _).setCell (Nat.le_refl _) _).setCell (Nat.le_refl _) _).setCell (Nat.le_refl _) _).setCell (Nat.le_refl _) _).setCell (Nat.le_refl _) _).setCell (Nat.le_refl _) _).setCell (Nat.le_refl _) _
end Go.Proofs.YtanpbphgmnjdeaaDoor
