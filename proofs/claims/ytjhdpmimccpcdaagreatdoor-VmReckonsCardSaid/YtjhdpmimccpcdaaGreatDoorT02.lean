/- Chapter 3: the program's image in memory: rights, regions. Conditions: as written. -/
import Derived.Test.YtjhdpmimccpcdaaGreatDoorT01
import Derived.Test.YtjhdpmimccpcdaaGreatDoorT00
import Derived.OwnWalk
import Derived.Deep.RegionHeld
namespace Go.Proofs.YtjhdpmimccpcdaaGreatDoor
set_option linter.unusedVariables false
open Go.RowKit Go.Lib

def imgCells (gb : Nat) (S : Img) : Array Value :=
  #[.int .i64 (S.k : Int), .int .i64 (S.s : Int), .int .i64 (S.u : Int), .int .i64 (S.d : Int), .int .i64 (S.r : Int),
    .int .i64 0, .int .i64 0, .int .i64 (S.beg 2 : Int), .int .i64 (S.beg 3 : Int), .int .i64 (S.beg 4 : Int), .int .i64 (S.beg 5 : Int), .int .i64 (S.beg 6 : Int),
    .slice (some ⟨gb, 0, none⟩) (S.beg 6) (S.beg 6), .bool S.op, .bool S.cl]
structure IRep (w : World) (g gb : Nat) (S : Img) : Prop where
  blk : Blk w g 160 (imgCells gb S)
  row : Blk w gb 5 (bcells S.b).toArray
  ok : S.Ok
theorem IRep.beg_cell {w : World} {g gb : Nat} {S : Img} (h : IRep w g gb S) (i : Nat) (hi : i ≤ 6) : w.cell? ⟨g, 5 + i, none⟩ = some (.int .i64 (S.beg i : Int)) := by
  rw [h.blk.cell]
  have : i = 0 ∨ i = 1 ∨ i = 2 ∨ i = 3 ∨ i = 4 ∨ i = 5 ∨ i = 6 := by omega
  rcases this with rfl | rfl | rfl | rfl | rfl | rfl | rfl <;> rfl
theorem IRep.all_cell {w : World} {g gb : Nat} {S : Img} (h : IRep w g gb S) : w.cell? ⟨g, 12, none⟩ = some (.slice (some ⟨gb, 0, none⟩) (S.beg 6) (S.beg 6)) := by rw [h.blk.cell]; rfl
theorem IRep.op_cell {w : World} {g gb : Nat} {S : Img} (h : IRep w g gb S) : w.cell? ⟨g, 13, none⟩ = some (.bool S.op) := by rw [h.blk.cell]; rfl
theorem IRep.cl_cell {w : World} {g gb : Nat} {S : Img} (h : IRep w g gb S) : w.cell? ⟨g, 14, none⟩ = some (.bool S.cl) := by rw [h.blk.cell]; rfl

theorem i_may {w : World} {g gb : Nat} {S : Img} (h : IRep w g gb S) (m : Int) (r : Nat) (hr : r ≤ 5) : Calls Tryz.prog 88 #[.pointer (some ⟨g, 0, none⟩), .int .i64 m, .int .i64 (r : Int)] w (Same (.int .i64 (S.may m r)) w) := by
  have hop := h.op_cell
  have hcl := h.cl_cell
  clear h
  have hr : r = 0 ∨ r = 1 ∨ r = 2 ∨ r = 3 ∨ r = 4 ∨ r = 5 := by omega
  have hm : m = 0 ∨ m = 1 ∨ m = 2 ∨ ((m == 0) = false ∧ (m == 1) = false ∧ (m == 2) = false) := by
    simp only [beq_eq_false_iff_ne]
    omega
  rcases hr with rfl | rfl | rfl | rfl | rfl | rfl
  all_goals
    rcases hm with rfl | rfl | rfl | ⟨hm0, hm1, hm2⟩
    all_goals
      go_enter Tryz.func88, Tryz.ntmps88
      go_wp2
      all_goals go_ret
      all_goals refine ⟨congrArg (fun n => Ending.returned (.int .i64 n)) ?_, rfl⟩
      all_goals first
        | rfl
        | (simp [Img.may, *]; done)
        | (simp only [beq_eq_false_iff_ne] at *; unfold Img.may; rw [if_pos (by omega)]; done)


theorem i_region {w : World} {g gb : Nat} {S : Img} (h : IRep w g gb S) (a : Int) : Calls Tryz.prog 87 #[.pointer (some ⟨g, 0, none⟩), .int .i64 a] w (Same (.int .i64 (S.region a : Int)) w) := by
  by_cases ha : a < 0
  · rw [S.region_out (.inl ha)]
    clear h
    go_enter Tryz.func87, Tryz.ntmps87
    go_wp2
    all_goals go_ret
    all_goals exact ⟨rfl, rfl⟩
  · have ha0 : 0 ≤ a := by omega
    have hb := Lib.hid h.beg_cell
    clear h ha
    go_enter Tryz.func87, Tryz.ntmps87
    go_wp2
    go_loop [5] (fun i => ∃ j : Nat, 1 ≤ j ∧ j ≤ 6 ∧ i = .int .i64 j ∧ (S.beg j : Int) ≤ a) (fun i => 7 - (RowKit.intOf i).toNat)
    case atStart => exact ⟨1, by omega, by omega, rfl, by simp [Img.beg]; omega⟩
    case round =>
      obtain ⟨j, hj1, hj6, rfl, hlo⟩ := hrel
      by_cases hlt : j < 6
      · have hcell := hb.out (j + 1) (by omega)
        by_cases hhi : a < (S.beg (j + 1) : Int)
        · have hr := Lib.hid (S.region_eq ha0 hj1 (by omega) hlo hhi)
          go_wp2
          go_ret
          exact ⟨by rw [hr.out]; rfl, rfl⟩
        · go_wp2
          go_round
          case rel => exact ⟨j + 1, by omega, by omega, by go_num, by omega⟩
          case measure => simp [RowKit.intOf]; omega
      · obtain rfl : j = 6 := by omega
        have hr := Lib.hid (S.region_out (.inr hlo))
        go_wp2
        go_ret
        exact ⟨by rw [hr.out]; rfl, rfl⟩

theorem i_span {w : World} {g gb : Nat} {S : Img} (h : IRep w g gb S) (r : Nat) (h1 : 1 ≤ r) (h5 : r ≤ 5) : Calls Tryz.prog 51 #[.pointer (some ⟨g, 0, none⟩), .int .i64 (r : Int)] w
    fun e w' => e = .returned (.tuple #[.int .i64 (S.beg r : Int), .int .i64 (S.beg (r + 1) : Int)]) ∧ ∃ n, w' = w.drewN n := by
  have ha := h.beg_cell r (by omega)
  have hb := h.beg_cell (r + 1) (by omega)
  clear h
  generalize S.beg r = x at *
  generalize S.beg (r + 1) = y at *
  have hr : r = 1 ∨ r = 2 ∨ r = 3 ∨ r = 4 ∨ r = 5 := by omega
  clear h1 h5
  rcases hr with rfl | rfl | rfl | rfl | rfl
  all_goals
    go_enter Tryz.func51, Tryz.ntmps51
    go_wp2
    go_quiet (fail)
    go_wp2
    go_ret2
    exact ⟨rfl, nq, rfl⟩
/-- the row's answer: the bytes themselves, if a mode may do that with them -/
def rowV (S : Img) (gb : Nat) (m a : Int) (n : Nat) (wr : Bool) : Value :=
  if n = 0 then .tuple #[.slice none 0 0, .bool true] else if S.rowOk m a n wr = true then .tuple #[.slice (some ⟨gb, a.toNat, none⟩) n n, .bool true] else .tuple #[.slice none 0 0, .bool false]
def rightOf (wr : Bool) : Int := if wr then 2 else 1
theorem may_cases (S : Img) (m : Int) (r : Nat) : S.may m r = 0 ∨ S.may m r = 1 ∨ S.may m r = 3 := by
  unfold Img.may
  repeat' split
  all_goals simp
theorem lets_bits (S : Img) (m : Int) (r : Nat) (wr : Bool) : (bits .and .i64 (S.may m r) (rightOf wr) == 0) = !S.lets m r wr := by
  unfold Img.lets rightOf
  rcases may_cases S m r with h | h | h <;> rw [h] <;> cases wr <;> decide
end Go.Proofs.YtjhdpmimccpcdaaGreatDoor
/- Chapter 3: the program's image in memory: a row of bytes. Conditions: as written. -/
namespace Go.Proofs.YtjhdpmimccpcdaaGreatDoor
set_option linter.unusedVariables false
open Go.RowKit Go.Lib

set_option maxHeartbeats 1000000 in
theorem i_row {w : World} {g gb : Nat} {S : Img} (h : IRep w g gb S) (m a : Int) (n : Nat) (hn : n ≤ 9223372036854775807) (wr : Bool) :
    Calls Tryz.prog 60 #[.pointer (some ⟨g, 0, none⟩), .int .i64 m, .int .i64 a, .int .i64 (n : Int), .int .i64 (rightOf wr)] w (Same (rowV S gb m a n wr) w) := by
  unfold rowV
  by_cases h0 : n = 0
  · subst h0
    rw [if_pos rfl]
    clear hn h
    go_enter Tryz.func60, Tryz.ntmps60
    go_wp2
    go_ret2
    exact ⟨rfl, rfl⟩
  rw [if_neg h0]
  have hreg := Lib.hid (i_region h a)
  have hn0 : ((n : Int) == 0) = false := by rw [beq_eq_false_iff_ne]; omega
  by_cases hr : S.region a = 0
  · have hk : S.rowOk m a n wr = false := by unfold Img.rowOk; simp [h0, hr]
    rw [hk]
    rw [hr] at hreg
    clear h hr hk
    go_enter Tryz.func60, Tryz.ntmps60
    go_wp2_with fail
    refine hreg.out.mono ?_
    rintro e w1 ⟨rfl, rfl⟩
    go_wp2
    go_ret2
    exact ⟨rfl, rfl⟩
  obtain ⟨ha0, hlo, hhi, h6, hr1, hr5⟩ := S.region_in hr
  have hcell := h.beg_cell (S.region a + 1) (by omega)
  have hall := h.all_cell
  have hmay := Lib.hid (i_may h m (S.region a) hr5)
  have hsm := h.ok.small
  have hlet := lets_bits S m (S.region a) wr
  have hkk : S.rowOk m a n wr = (decide ((n : Int) ≤ S.beg (S.region a + 1) - a) && S.lets m (S.region a) wr) := by
    unfold Img.rowOk
    rw [show (n == 0) = false by simpa using h0, show (S.region a != 0) = true by simpa using hr, Bool.false_or, Bool.true_and]
  rw [hkk]
  clear h hkk
  generalize S.region a = r at *
  generalize S.beg (r + 1) = z at *
  generalize S.beg 6 = N at *
  generalize S.may m r = x at *
  generalize rightOf wr = y at *
  have hr0 : ((r : Int) == 0) = false := by rw [beq_eq_false_iff_ne]; omega
  replace hlet := Lib.hid hlet
  replace hr1 := Lib.hid hr1
  by_cases hle : (n : Int) ≤ z - a
  · cases hl : S.lets m r wr
    · replace hlet : (bits .and .i64 x y == 0) = true := by rw [hlet.out, hl]; rfl
      have hle2 : decide ((z : Int) - a < (n : Int)) = false := by rw [decide_eq_false_iff_not]; omega
      simp only [Bool.and_false, Bool.false_eq_true, if_false]
      clear hl hle
      go_enter Tryz.func60, Tryz.ntmps60
      go_wp2_with fail
      refine hreg.out.mono ?_
      rintro e w1 ⟨rfl, rfl⟩
      go_wp2_with fail
      refine hmay.out.mono ?_
      rintro e w1 ⟨rfl, rfl⟩
      go_wp2
      go_ret2
      exact ⟨rfl, rfl⟩
    · replace hlet : (bits .and .i64 x y == 0) = false := by rw [hlet.out, hl]; rfl
      obtain ⟨k, rfl⟩ := Int.eq_ofNat_of_zero_le ha0
      have hle2 : decide ((z : Int) - (k : Int) < (n : Int)) = false := by rw [decide_eq_false_iff_not]; omega
      have hkn : k + n - k = n := by omega
      simp only [Bool.and_true, decide_eq_true hle, if_true]
      clear hl
      go_enter Tryz.func60, Tryz.ntmps60
      go_wp2_with fail
      refine hreg.out.mono ?_
      rintro e w1 ⟨rfl, rfl⟩
      go_wp2_with fail
      refine hmay.out.mono ?_
      rintro e w1 ⟨rfl, rfl⟩
      go_wp2
      go_ret2
      refine ⟨congrArg Ending.returned ?_, rfl⟩
      show Value.tuple #[Value.slice (some ⟨gb, k, none⟩) (k + n - k) (k + n - k), .bool true] = _
      rw [hkn]
      rfl
  · have hkf : (decide ((n : Int) ≤ z - a)) = false := by simpa using hle
    simp only [hkf, Bool.false_and, Bool.false_eq_true, if_false]
    clear hkf
    go_enter Tryz.func60, Tryz.ntmps60
    go_wp2_with fail
    refine hreg.out.mono ?_
    rintro e w1 ⟨rfl, rfl⟩
    go_wp2
    go_ret2
    exact ⟨rfl, rfl⟩
end Go.Proofs.YtjhdpmimccpcdaaGreatDoor
/- Chapter 1: a cell as bytes, bytes as a cell: the program's functions. Condition: eight bytes. -/
namespace Go.Proofs.YtjhdpmimccpcdaaGreatDoor
set_option linter.unusedVariables false
open Go.RowKit Go.Lib

theorem or_add (x c p e : Nat) (hp : 2 ^ e = p) (hx : x < p) (hp56 : p ≤ 72057594037927936) (hc : c < 256) : bits .or .i64 (wrap64 (x : Int)) (wrap64 ((p * c : Nat) : Int)) = wrap64 ((x + p * c : Nat) : Int) := by
  have hc2 : p * c ≤ 72057594037927936 * 255 := Nat.mul_le_mul hp56 (by omega)
  have n1 : (BitVec.ofInt 64 (wrap64 (x : Int))).toNat = x := by
    rw [BitVec.toNat_ofInt]; unfold wrap64; omega
  have n2 : (BitVec.ofInt 64 (wrap64 ((p * c : Nat) : Int))).toNat = p * c := by
    rw [BitVec.toNat_ofInt]; unfold wrap64
    generalize p * c = y at *
    omega
  have hor : (BitVec.ofInt 64 (wrap64 (x : Int)) ||| BitVec.ofInt 64 (wrap64 ((p * c : Nat) : Int))).toNat = x + p * c := by
    rw [BitVec.toNat_or, n1, n2, Nat.or_comm, ← hp, ← Nat.two_pow_add_eq_or_of_lt (by rw [hp]; exact hx), Nat.add_comm]
  show IntKind.i64.wrap ((BitVec.ofInt 64 (wrap64 (x : Int)) ||| BitVec.ofInt 64 (wrap64 ((p * c : Nat) : Int))).toNat : Nat) = _
  rw [hor, IntKind.wrap_i64]
  unfold wrap64
  omega
theorem or_step (x c j : Nat) (hj : j < 8) (hx : x < 256 ^ j) (hc : c < 256) : bits .or .i64 (wrap64 (x : Int)) (wrap64 (wrap64 (c : Int) * 2 ^ (8 * j))) = wrap64 ((x + 256 ^ j * c : Nat) : Int) := by
  have hw : wrap64 (c : Int) = c := by unfold wrap64; omega
  have hpow : (256 : Nat) ^ j = 2 ^ (8 * j) := by rw [Nat.pow_mul]
  have hci : ((c : Int) * 2 ^ (8 * j)) = ((256 ^ j * c : Nat) : Int) := by rw [hpow, Int.natCast_mul, Int.natCast_pow, Int.mul_comm]; rfl
  have h56 : 256 ^ j ≤ 72057594037927936 := by
    have h7 : (256 : Nat) ^ j ≤ 256 ^ 7 := Nat.pow_le_pow_right (by decide) (by omega)
    have h8 : (256 : Nat) ^ 7 = 72057594037927936 := by decide
    omega
  rw [hw, hci]
  exact or_add x c (256 ^ j) (8 * j) hpow.symm hx h56 hc
theorem leN_snoc (l : List UInt8) (j : Nat) (hj : j < l.length) : leN (l.take (j + 1)) = leN (l.take j) + 256 ^ j * (l.getD j 0).toNat := by
  have : l.take (j + 1) = l.take j ++ [l.getD j 0] := by
    rw [List.take_succ_eq_append_getElem hj, List.getD_eq_getElem?_getD, List.getElem?_eq_getElem hj]
    rfl
  rw [this, leN_append, List.length_take, Nat.min_eq_left (by omega)]
  simp [leN]
def partOf (l : List UInt8) (j : Nat) : Int := wrap64 (leN (l.take j) : Nat)

set_option maxRecDepth 100000 in
theorem of_walk (l : List UInt8) (hl : l.length = 8) (w : World) : Calls Tryz.prog 126 #[.agg (bcells l).toArray] w fun e w' => e = .returned (.int .i64 (ofB l)) ∧ Below w.heap.size w w' := by
  have hcell : ∀ j, j < 8 → (w.alloc (.cells (bcells l).toArray 137)).cell? ⟨w.heap.size, j, none⟩ = some (.int .u8 ((l.getD j 0).toNat : Int)) := by
    intro j hj
    rw [(Blk.new w _ _).cell]
    have : j < l.length := by omega
    simp [bcells, List.getD, this]
  replace hcell := Lib.hid hcell
  go_enter Tryz.func126, Tryz.ntmps126
  go_wp2
  go_loop [3, 5] (fun a i => ∃ j : Nat, j ≤ 8 ∧ i = .int .i64 j ∧ a = .int .i64 (partOf l j)) (fun _ i => 8 - (RowKit.intOf i).toNat)
  case atStart => exact ⟨0, by omega, rfl, by unfold partOf; simp [leN, wrap64]⟩
  case round =>
    obtain ⟨j, hj8, rfl, rfl⟩ := hrel
    by_cases hlt : j < 8
    · have hget := hcell.out j hlt
      have hsn := leN_snoc l j (by omega)
      have hlt2 := leN_lt (l.take j)
      rw [List.length_take, Nat.min_eq_left (by omega)] at hlt2
      obtain ⟨c, hc⟩ : ∃ c, l.getD j 0 = c := ⟨_, rfl⟩
      rw [hc] at hget hsn
      have hst := or_step (leN (l.take j)) c.toNat j hlt hlt2 c.toNat_lt
      rw [← hsn] at hst
      replace hst : bits .or .i64 (partOf l j) (wrap64 (wrap64 (c.toNat : Int) * 2 ^ (8 * j))) = partOf l (j + 1) := hst
      clear hsn hlt2 hc
      go_wp2
      go_round
      case rel => exact ⟨j + 1, by omega, by go_num, rfl⟩
      case measure => simp [RowKit.intOf]; omega
    · obtain rfl : j = 8 := by omega
      go_wp2
      go_ret
      refine ⟨?_, (Below.refl _ _).alloc (Nat.le_refl _) _⟩
      have : partOf l 8 = ofB l := by unfold partOf ofB; rw [List.take_of_length_le (by omega)]
      show Ending.returned (Value.int .i64 (partOf l 8)) = _
      rw [this]

/-- the cells of an array of which the first j have been filled -/
def filled (v : Int) (j : Nat) : Array Value := (bcells (((List.range j).map (byteAt v)) ++ List.replicate (8 - j) 0)).toArray
theorem byteAt_nat (v : Int) (i : Nat) : ((byteAt v i).toNat : Int) = v / 2 ^ (8 * i) % 256 := by
  unfold byteAt
  have : (256 : Int) ^ i = 2 ^ (8 * i) := by rw [show (256 : Int) = 2 ^ 8 by decide, ← Int.pow_mul]
  rw [this]
  generalize v / 2 ^ (8 * i) = x
  rw [UInt8.toNat_ofNat']
  omega
theorem filled_at (v : Int) (j : Nat) (hj : j < 8) : (filled v j)[j]? = some (.int .u8 0) := by
  have : j = 0 ∨ j = 1 ∨ j = 2 ∨ j = 3 ∨ j = 4 ∨ j = 5 ∨ j = 6 ∨ j = 7 := by omega
  rcases this with rfl | rfl | rfl | rfl | rfl | rfl | rfl | rfl <;> rfl
theorem filled_set (v : Int) (j : Nat) (hj : j < 8) : (filled v j).setIfInBounds j (.int .u8 (v / 2 ^ (8 * j) % 256)) = filled v (j + 1) := by
  rw [← byteAt_nat]
  have : j = 0 ∨ j = 1 ∨ j = 2 ∨ j = 3 ∨ j = 4 ∨ j = 5 ∨ j = 6 ∨ j = 7 := by omega
  rcases this with rfl | rfl | rfl | rfl | rfl | rfl | rfl | rfl <;> rfl
/-- eight cells of a block that is known whole -/
def Eight (w : World) (g : Nat) (x : Nat → Value) : Prop :=
  (w.cell? ⟨g, 0, none⟩ = some (x 0) ∧ w.cell? ⟨g, 1, none⟩ = some (x 1) ∧ w.cell? ⟨g, 2, none⟩ = some (x 2) ∧ w.cell? ⟨g, 3, none⟩ = some (x 3) ∧ w.cell? ⟨g, 4, none⟩ = some (x 4) ∧ w.cell? ⟨g, 5, none⟩ = some (x 5) ∧ w.cell? ⟨g, 6, none⟩ = some (x 6) ∧ w.cell? ⟨g, 7, none⟩ = some (x 7))
theorem eight_of {w : World} {g : Nat} {t : TypeId} {l : List UInt8} (h : Blk w g t (bcells l).toArray) (hl : l.length = 8) : Eight w g (fun i => .int .u8 ((l.getD i 0).toNat : Int)) := by
  have key : ∀ i, i < 8 → w.cell? ⟨g, i, none⟩ = some (.int .u8 ((l.getD i 0).toNat : Int)) := by
    intro i hi
    rw [h.cell]
    have : i < l.length := by omega
    simp [bcells, List.getD, this]
  exact ⟨key 0 (by omega), key 1 (by omega), key 2 (by omega), key 3 (by omega), key 4 (by omega), key 5 (by omega), key 6 (by omega), key 7 (by omega)⟩
def tn (v : Int) (i : Nat) : Int := (((toB v).getD i 0).toNat : Int)
theorem tn_all (v : Int) : (#[.int .u8 (tn v 0), .int .u8 (tn v 1), .int .u8 (tn v 2), .int .u8 (tn v 3), .int .u8 (tn v 4), .int .u8 (tn v 5), .int .u8 (tn v 6), .int .u8 (tn v 7)] : Array Value) = (bcells (toB v)).toArray := rfl
set_option maxRecDepth 100000 in
theorem bytes_walk (v : Int) (hv : -9223372036854775808 ≤ v ∧ v ≤ 9223372036854775807) (w : World) : Calls Tryz.prog 61 #[.int .i64 v] w fun e w' => e = .returned (.agg (bcells (toB v)).toArray) ∧ Below w.heap.size w w' := by
  go_enter Tryz.func61, Tryz.ntmps61
  go_wp2
  go_loopw [5] (fun i wr => ∃ j : Nat, j ≤ 8 ∧ i = .int .i64 j ∧ Blk wr (w.heap.size + 1) 137 (filled v j) ∧ Blk wr w.heap.size 137 (filled v 0) ∧ Below w.heap.size w wr) (fun i _ => 8 - (RowKit.intOf i).toNat)
  case atStart =>
    exact ⟨0, by omega, rfl, Blk.new' (by simp), (Blk.new _ _ _).alloc _, ((Below.refl _ _).alloc (Nat.le_refl _) _).alloc (by simp) _⟩
  case round =>
    obtain ⟨j, hj8, rfl, hb, hb0, hbl⟩ := hrel
    by_cases hlt : j < 8
    · have hc : wr.cell? ⟨w.heap.size + 1, j, none⟩ = some (.int .u8 0) := by rw [hb.cell, filled_at v j hlt]
      have hf := hb.frozen j
      have hb1 := hb.set_ j (.int .u8 (v / 2 ^ (8 * j) % 256))
      rw [filled_set v j hlt] at hb1
      have hb2 := hb0.far (p := ⟨w.heap.size + 1, j, none⟩) (by simp) (.int .u8 (v / 2 ^ (8 * j) % 256))
      replace hb1 := Lib.hid hb1
      replace hb2 := Lib.hid hb2
      clear hb hb0
      replace hbl := Lib.hid hbl
      go_wp2
      go_roundw
      case rel => exact ⟨j + 1, by omega, by go_num, hb1.out, hb2.out, hbl.out.setCell (by simp) _⟩
      case measure => simp [RowKit.intOf]; omega
    · obtain rfl : j = 8 := by omega
      have hb' : Blk wr (w.heap.size + 1) 137 (bcells (toB v)).toArray := hb
      have e8 : Eight wr (w.heap.size + 1) (fun i => .int .u8 (tn v i)) := eight_of hb' (toB_len v)
      obtain ⟨c0, c1, c2, c3, c4, c5, c6, c7⟩ := e8
      obtain ⟨d0, d1, d2, d3, d4, d5, d6, d7⟩ := eight_of (l := List.replicate 8 0) hb0 (by simp)
      have f0 := hb0.frozen 0
      have f1 := hb0.frozen 1
      have f2 := hb0.frozen 2
      have f3 := hb0.frozen 3
      have f4 := hb0.frozen 4
      have f5 := hb0.frozen 5
      have f6 := hb0.frozen 6
      have f7 := hb0.frozen 7
      clear hb hb0 hb'
      replace hbl := Lib.hid hbl
      go_wp2
      refine bodyPost_ret (v := .agg #[.int .u8 (tn v 0), .int .u8 (tn v 1), .int .u8 (tn v 2), .int .u8 (tn v 3), .int .u8 (tn v 4), .int .u8 (tn v 5), .int .u8 (tn v 6), .int .u8 (tn v 7)]) (by simp [results, Tryz.results61, go_sem, d0, d1, d2, d3, d4, d5, d6, d7]) rfl ⟨by rw [tn_all], ?_⟩
      exact (((((((hbl.out.setCell (Nat.le_refl _) _).setCell (Nat.le_refl _) _).setCell (Nat.le_refl _) _).setCell (Nat.le_refl _) _).setCell (Nat.le_refl _) _).setCell (Nat.le_refl _) _).setCell (Nat.le_refl _) _).setCell (Nat.le_refl _) _
end Go.Proofs.YtjhdpmimccpcdaaGreatDoor
/- Chapter 3: reading and writing cells and texts of the program's image. Conditions: as written. -/
namespace Go.Proofs.YtjhdpmimccpcdaaGreatDoor
set_option linter.unusedVariables false
open Go.RowKit Go.Lib

theorem arr8 {w : World} (a : Addr) : (Instr.arrayAt 137 (.slice (some a) 8 8)).run Tryz.prog w = .ok (.pointer (some a)) w := by
  simp [Instr.arrayAt, go_sem, run_underlying Tryz.underlying137]
theorem bcells8 (l : List UInt8) (hl : l.length = 8) : (bcells l).toArray = #[.int .u8 ((l.getD 0 0).toNat : Int), .int .u8 ((l.getD 1 0).toNat : Int), .int .u8 ((l.getD 2 0).toNat : Int), .int .u8 ((l.getD 3 0).toNat : Int), .int .u8 ((l.getD 4 0).toNat : Int), .int .u8 ((l.getD 5 0).toNat : Int), .int .u8 ((l.getD 6 0).toNat : Int), .int .u8 ((l.getD 7 0).toNat : Int)] := by
  match l, hl with
  | [a, b, c, d, e, f, g, h], _ => rfl
theorem i64_and7 (n : Int) : bits .and .i64 n 7 = n % 8 := by
  have h7 : (BitVec.ofInt 64 7).toNat = 2 ^ 3 - 1 := by decide
  have key : (BitVec.ofInt 64 n &&& BitVec.ofInt 64 7).toNat = (n % ((2 ^ 64 : Nat) : Int)).toNat % 2 ^ 3 := by
    rw [BitVec.toNat_and, BitVec.toNat_ofInt, h7, Nat.and_two_pow_sub_one_eq_mod]
  show IntKind.i64.wrap ((BitVec.ofInt 64 n &&& BitVec.ofInt 64 7).toNat : Nat) = n % 8
  rw [key, IntKind.wrap_i64]
  omega
/-- a byte of the image -/
theorem IRep.byte {w : World} {g gb : Nat} {S : Img} (h : IRep w g gb S) (i : Nat) (hi : i < S.beg 6) : w.cell? ⟨gb, i, none⟩ = some (.int .u8 ((S.b.getD i 0).toNat : Int)) := by
  rw [h.row.cell]
  have : i < S.b.length := by rw [h.ok.len]; exact hi
  simp [bcells, List.getD, this]
theorem bytes_getD (S : Img) (k n i : Nat) (hi : i < n) : (S.bytes (k : Int) n).getD i 0 = S.b.getD (k + i) 0 := by
  unfold Img.bytes
  simp [List.getD, hi]
theorem bytes_len (S : Img) (hS : S.Ok) (k n : Nat) (h : k + n ≤ S.beg 6) : (S.bytes (k : Int) n).length = n := by
  unfold Img.bytes
  simp [hS.len]
  omega

theorem i_cell_mis (p : Value) (m a : Int) (w : World) (hal : a % 8 ≠ 0) : Calls Tryz.prog 84 #[p, .int .i64 m, .int .i64 a] w (Same (.tuple #[.int .i64 0, .int .i64 6]) w) := by
  have hal1 : (bits .and .i64 a 7 == 0) = false := by rw [beq_eq_false_iff_ne, i64_and7]; exact hal
  clear hal
  go_enter Tryz.func84, Tryz.ntmps84
  go_wp2
  go_ret2
  exact ⟨rfl, rfl⟩
theorem i_cell_no (p : Value) (m a : Int) (w : World) (hal : a % 8 = 0) (hrow : Calls Tryz.prog 60 #[p, .int .i64 m, .int .i64 a, .int .i64 8, .int .i64 1] w (Same (.tuple #[.slice none 0 0, .bool false]) w)) :
    Calls Tryz.prog 84 #[p, .int .i64 m, .int .i64 a] w (Same (.tuple #[.int .i64 0, .int .i64 5]) w) := by
  have hal1 : bits .and .i64 a 7 = 0 := by rw [i64_and7]; exact hal
  replace hrow := Lib.hid hrow
  clear hal
  go_enter Tryz.func84, Tryz.ntmps84
  go_wp2_with fail
  refine hrow.out.mono ?_
  rintro e w1 ⟨rfl, rfl⟩
  go_wp2
  go_ret2
  exact ⟨rfl, rfl⟩
set_option maxRecDepth 100000 in
set_option maxHeartbeats 1000000 in
theorem i_cell_yes (p : Value) (m : Int) (gb k : Nat) (l : List UInt8) (hl : l.length = 8) (w : World) (hal : (k : Int) % 8 = 0) (hrow : Calls Tryz.prog 60 #[p, .int .i64 m, .int .i64 k, .int .i64 8, .int .i64 1] w (Same (.tuple #[.slice (some ⟨gb, k, none⟩) 8 8, .bool true]) w))
    (hb : ∀ i, i < 8 → w.cell? ⟨gb, k + i, none⟩ = some (.int .u8 ((l.getD i 0).toNat : Int))) :
    Calls Tryz.prog 84 #[p, .int .i64 m, .int .i64 k] w fun e w' => e = .returned (.tuple #[.int .i64 (ofB l), .int .i64 0]) ∧ Below w.heap.size w w' := by
  have hal1 : bits .and .i64 (k : Int) 7 = 0 := by rw [i64_and7]; exact hal
  have hof := of_walk l hl w
  rw [bcells8 _ hl] at hof
  generalize ofB l = z at *
  have c0 : w.cell? ⟨gb, k, none⟩ = some (.int .u8 ((l.getD 0 0).toNat : Int)) := hb 0 (by omega)
  have c1 := hb 1 (by omega)
  have c2 := hb 2 (by omega)
  have c3 := hb 3 (by omega)
  have c4 := hb 4 (by omega)
  have c5 := hb 5 (by omega)
  have c6 := hb 6 (by omega)
  have c7 := hb 7 (by omega)
  clear hb
  generalize ((l.getD 0 0).toNat : Int) = x0 at *
  generalize ((l.getD 1 0).toNat : Int) = x1 at *
  generalize ((l.getD 2 0).toNat : Int) = x2 at *
  generalize ((l.getD 3 0).toNat : Int) = x3 at *
  generalize ((l.getD 4 0).toNat : Int) = x4 at *
  generalize ((l.getD 5 0).toNat : Int) = x5 at *
  generalize ((l.getD 6 0).toNat : Int) = x6 at *
  generalize ((l.getD 7 0).toNat : Int) = x7 at *
  have harr := @arr8 w ⟨gb, k, none⟩
  replace hrow := Lib.hid hrow
  replace hof := Lib.hid hof
  clear hal hl
  go_enter Tryz.func84, Tryz.ntmps84
  go_wp2_with fail
  refine hrow.out.mono ?_
  rintro e w1 ⟨rfl, rfl⟩
  go_wp2_with fail
  refine hof.out.mono ?_
  rintro e w2 ⟨rfl, hb⟩
  replace hb := Lib.hid hb
  go_wp2
  go_ret2
  exact ⟨rfl, hb.out⟩
theorem i_row_of {w : World} {g gb : Nat} {S : Img} (h : IRep w g gb S) (m a : Int) (n : Nat) (hn : n ≠ 0) (hn2 : n ≤ 9223372036854775807) (wr : Bool) :
    (S.rowOk m a n wr = false ∧ Calls Tryz.prog 60 #[.pointer (some ⟨g, 0, none⟩), .int .i64 m, .int .i64 a, .int .i64 (n : Int), .int .i64 (rightOf wr)] w (Same (.tuple #[.slice none 0 0, .bool false]) w)) ∨
    (S.rowOk m a n wr = true ∧ ∃ k : Nat, a = k ∧ k + n ≤ S.beg 6 ∧ Calls Tryz.prog 60 #[.pointer (some ⟨g, 0, none⟩), .int .i64 m, .int .i64 (k : Int), .int .i64 (n : Int), .int .i64 (rightOf wr)] w (Same (.tuple #[.slice (some ⟨gb, k, none⟩) n n, .bool true]) w)) := by
  have hrow := i_row h m a n hn2 wr
  unfold rowV at hrow
  rw [if_neg hn] at hrow
  cases hk : S.rowOk m a n wr
  · rw [hk] at hrow
    exact .inl ⟨rfl, by simpa using hrow⟩
  · obtain ⟨h0, h1⟩ := S.row_in hk hn
    obtain ⟨k, rfl⟩ := Int.eq_ofNat_of_zero_le h0
    rw [hk, if_pos rfl] at hrow
    exact .inr ⟨rfl, k, rfl, by omega, hrow⟩
theorem i_cell {w : World} {g gb : Nat} {S : Img} (h : IRep w g gb S) (m a : Int) :
    Calls Tryz.prog 84 #[.pointer (some ⟨g, 0, none⟩), .int .i64 m, .int .i64 a] w fun e w' => e = .returned (.tuple #[.int .i64 (S.cellV m a), .int .i64 (S.cellF m a false)]) ∧ Below w.heap.size w w' := by
  by_cases hal : a % 8 = 0
  · have h80 : (8 : Nat) ≠ 0 := by omega
    have h8 : (8 : Nat) ≤ 9223372036854775807 := by omega
    rcases i_row_of h m a 8 h80 h8 false with ⟨hk, hrow⟩ | ⟨hk, k, rfl, hle, hrow⟩
    · have hF : S.cellF m a false = 5 := by unfold Img.cellF; simp [hal, hk]
      have hV : S.cellV m a = 0 := by unfold Img.cellV; simp [hF]
      rw [hF, hV]
      exact (i_cell_no _ m a w hal hrow).mono fun e w' h => ⟨h.1, by rw [h.2]; exact Below.refl _ _⟩
    · have hF : S.cellF m k false = 0 := by unfold Img.cellF; simp [hal, hk]
      have hV : S.cellV m k = ofB (S.bytes k 8) := by unfold Img.cellV; simp [hF]
      rw [hF, hV]
      exact i_cell_yes _ m gb k (S.bytes k 8) (bytes_len S h.ok k 8 hle) w hal hrow (fun i hi => by rw [bytes_getD S k 8 i hi]; exact h.byte (k + i) (by omega))
  · have hF : S.cellF m a false = 6 := by unfold Img.cellF; simp [hal]
    have hV : S.cellV m a = 0 := by unfold Img.cellV; simp [hF]
    rw [hF, hV]
    exact (i_cell_mis _ m a w hal).mono fun e w' h => ⟨h.1, by rw [h.2]; exact Below.refl _ _⟩
end Go.Proofs.YtjhdpmimccpcdaaGreatDoor
