/- Chapter 3: reading and writing cells and texts of the program's image. Conditions: as written. -/
import Derived.Test.YtanpbphgmnjdeaaDoorImg3
namespace Go.Proofs.YtanpbphgmnjdeaaDoor
set_option linter.unusedVariables false
open Go.RowKit Go.Lib

theorem arr8 {w : World} (a : Addr) : (Instr.arrayAt 112 (.slice (some a) 8 8)).run Tryd.prog w = .ok (.pointer (some a)) w := by
  simp [Instr.arrayAt, go_sem, run_underlying Tryd.underlying112]
theorem bcells8 (l : List UInt8) (hl : l.length = 8) : (bcells l).toArray = #[.int .u8 ((l.getD 0 0).toNat : Int), .int .u8 ((l.getD 1 0).toNat : Int), .int .u8 ((l.getD 2 0).toNat : Int), .int .u8 ((l.getD 3 0).toNat : Int), .int .u8 ((l.getD 4 0).toNat : Int), .int .u8 ((l.getD 5 0).toNat : Int), .int .u8 ((l.getD 6 0).toNat : Int), .int .u8 ((l.getD 7 0).toNat : Int)] := by
  match l, hl with
  | [a, b, c, d, e, f, g, h], _ => rfl
theorem i64_and7 (n : Int) : bits .and .i64 n 7 = n % 8 := by
  have h7 : (BitVec.ofInt 64 7).toNat = 2 ^ 3 - 1 := by decide
  have key : (BitVec.ofInt 64 n &&& BitVec.ofInt 64 7).toNat = (n % ((2 ^ 64 : Nat) : Int)).toNat % 2 ^ 3 := by
    rw [BitVec.toNat_and, BitVec.toNat_ofInt, h7, Nat.and_two_pow_sub_one_eq_mod]
  show IntKind.i64.wrap ((BitVec.ofInt 64 n &&& BitVec.ofInt 64 7).toNat : Nat) = n % 8
  rw [key, IntKind.wrap_i64]
  omega
/-- a byte of the image -/
theorem IRep.byte {w : World} {g gb : Nat} {S : Img} (h : IRep w g gb S) (i : Nat) (hi : i < S.beg 6) : w.cell? ⟨gb, i, none⟩ = some (.int .u8 ((S.b.getD i 0).toNat : Int)) := by
  rw [h.row.cell]
  have : i < S.b.length := by rw [h.ok.len]; exact hi
  simp [bcells, List.getD, this]
theorem bytes_getD (S : Img) (k n i : Nat) (hi : i < n) : (S.bytes (k : Int) n).getD i 0 = S.b.getD (k + i) 0 := by
  unfold Img.bytes
  simp [List.getD, hi]
theorem bytes_len (S : Img) (hS : S.Ok) (k n : Nat) (h : k + n ≤ S.beg 6) : (S.bytes (k : Int) n).length = n := by
  unfold Img.bytes
  simp [hS.len]
  omega

theorem i_cell_mis (p : Value) (m a : Int) (w : World) (hal : a % 8 ≠ 0) : Calls Tryd.prog 60 #[p, .int .i64 m, .int .i64 a] w (Same (.tuple #[.int .i64 0, .int .i64 6]) w) := by
  have hal1 : (bits .and .i64 a 7 == 0) = false := by rw [beq_eq_false_iff_ne, i64_and7]; exact hal
  clear hal
  go_enter Tryd.func60, Tryd.ntmps60
  go_wp2
  go_ret2
  exact ⟨rfl, rfl⟩
theorem i_cell_no (p : Value) (m a : Int) (w : World) (hal : a % 8 = 0) (hrow : Calls Tryd.prog 81 #[p, .int .i64 m, .int .i64 a, .int .i64 8, .int .i64 1] w (Same (.tuple #[.slice none 0 0, .bool false]) w)) :
    Calls Tryd.prog 60 #[p, .int .i64 m, .int .i64 a] w (Same (.tuple #[.int .i64 0, .int .i64 5]) w) := by
  have hal1 : bits .and .i64 a 7 = 0 := by rw [i64_and7]; exact hal
  replace hrow := Lib.hid hrow
  clear hal
  go_enter Tryd.func60, Tryd.ntmps60
  go_wp2_with fail
  refine hrow.out.mono ?_
  rintro e w1 ⟨rfl, rfl⟩
  go_wp2
  go_ret2
  exact ⟨rfl, rfl⟩
set_option maxRecDepth 100000 in
set_option maxHeartbeats 1000000 in
theorem i_cell_yes (p : Value) (m : Int) (gb k : Nat) (l : List UInt8) (hl : l.length = 8) (w : World) (hal : (k : Int) % 8 = 0) (hrow : Calls Tryd.prog 81 #[p, .int .i64 m, .int .i64 k, .int .i64 8, .int .i64 1] w (Same (.tuple #[.slice (some ⟨gb, k, none⟩) 8 8, .bool true]) w))
    (hb : ∀ i, i < 8 → w.cell? ⟨gb, k + i, none⟩ = some (.int .u8 ((l.getD i 0).toNat : Int))) :
    Calls Tryd.prog 60 #[p, .int .i64 m, .int .i64 k] w fun e w' => e = .returned (.tuple #[.int .i64 (ofB l), .int .i64 0]) ∧ Below w.heap.size w w' := by
  have hal1 : bits .and .i64 (k : Int) 7 = 0 := by rw [i64_and7]; exact hal
  have hof := of_walk l hl w
  rw [bcells8 _ hl] at hof
  generalize ofB l = z at *
  have c0 : w.cell? ⟨gb, k, none⟩ = some (.int .u8 ((l.getD 0 0).toNat : Int)) := hb 0 (by omega)
  have c1 := hb 1 (by omega)
  have c2 := hb 2 (by omega)
  have c3 := hb 3 (by omega)
  have c4 := hb 4 (by omega)
  have c5 := hb 5 (by omega)
  have c6 := hb 6 (by omega)
  have c7 := hb 7 (by omega)
  clear hb
  generalize ((l.getD 0 0).toNat : Int) = x0 at *
  generalize ((l.getD 1 0).toNat : Int) = x1 at *
  generalize ((l.getD 2 0).toNat : Int) = x2 at *
  generalize ((l.getD 3 0).toNat : Int) = x3 at *
  generalize ((l.getD 4 0).toNat : Int) = x4 at *
  generalize ((l.getD 5 0).toNat : Int) = x5 at *
  generalize ((l.getD 6 0).toNat : Int) = x6 at *
  generalize ((l.getD 7 0).toNat : Int) = x7 at *
  have harr := @arr8 w ⟨gb, k, none⟩
  replace hrow := Lib.hid hrow
  replace hof := Lib.hid hof
  clear hal hl
  go_enter Tryd.func60, Tryd.ntmps60
  go_wp2_with fail
  refine hrow.out.mono ?_
  rintro e w1 ⟨rfl, rfl⟩
  go_wp2_with fail
  refine hof.out.mono ?_
  rintro e w2 ⟨rfl, hb⟩
  replace hb := Lib.hid hb
  go_wp2
  go_ret2
  exact ⟨rfl, hb.out⟩
theorem i_row_of {w : World} {g gb : Nat} {S : Img} (h : IRep w g gb S) (m a : Int) (n : Nat) (hn : n ≠ 0) (hn2 : n ≤ 9223372036854775807) (wr : Bool) :
    (S.rowOk m a n wr = false ∧ Calls Tryd.prog 81 #[.pointer (some ⟨g, 0, none⟩), .int .i64 m, .int .i64 a, .int .i64 (n : Int), .int .i64 (rightOf wr)] w (Same (.tuple #[.slice none 0 0, .bool false]) w)) ∨
    (S.rowOk m a n wr = true ∧ ∃ k : Nat, a = k ∧ k + n ≤ S.beg 6 ∧ Calls Tryd.prog 81 #[.pointer (some ⟨g, 0, none⟩), .int .i64 m, .int .i64 (k : Int), .int .i64 (n : Int), .int .i64 (rightOf wr)] w (Same (.tuple #[.slice (some ⟨gb, k, none⟩) n n, .bool true]) w)) := by
  have hrow := i_row h m a n hn2 wr
  unfold rowV at hrow
  rw [if_neg hn] at hrow
  cases hk : S.rowOk m a n wr
  · rw [hk] at hrow
    exact .inl ⟨rfl, by simpa using hrow⟩
  · obtain ⟨h0, h1⟩ := S.row_in hk hn
    obtain ⟨k, rfl⟩ := Int.eq_ofNat_of_zero_le h0
    rw [hk, if_pos rfl] at hrow
    exact .inr ⟨rfl, k, rfl, by omega, hrow⟩
theorem i_cell {w : World} {g gb : Nat} {S : Img} (h : IRep w g gb S) (m a : Int) :
    Calls Tryd.prog 60 #[.pointer (some ⟨g, 0, none⟩), .int .i64 m, .int .i64 a] w fun e w' => e = .returned (.tuple #[.int .i64 (S.cellV m a), .int .i64 (S.cellF m a false)]) ∧ Below w.heap.size w w' := by
  by_cases hal : a % 8 = 0
  · have h80 : (8 : Nat) ≠ 0 := by omega
    have h8 : (8 : Nat) ≤ 9223372036854775807 := by omega
    rcases i_row_of h m a 8 h80 h8 false with ⟨hk, hrow⟩ | ⟨hk, k, rfl, hle, hrow⟩
    · have hF : S.cellF m a false = 5 := by unfold Img.cellF; simp [hal, hk]
      have hV : S.cellV m a = 0 := by unfold Img.cellV; simp [hF]
      rw [hF, hV]
      exact (i_cell_no _ m a w hal hrow).mono fun e w' h => ⟨h.1, by rw [h.2]; exact Below.refl _ _⟩
    · have hF : S.cellF m k false = 0 := by unfold Img.cellF; simp [hal, hk]
      have hV : S.cellV m k = ofB (S.bytes k 8) := by unfold Img.cellV; simp [hF]
      rw [hF, hV]
      exact i_cell_yes _ m gb k (S.bytes k 8) (bytes_len S h.ok k 8 hle) w hal hrow (fun i hi => by rw [bytes_getD S k 8 i hi]; exact h.byte (k + i) (by omega))
  · have hF : S.cellF m a false = 6 := by unfold Img.cellF; simp [hal]
    have hV : S.cellV m a = 0 := by unfold Img.cellV; simp [hF]
    rw [hF, hV]
    exact (i_cell_mis _ m a w hal).mono fun e w' h => ⟨h.1, by rw [h.2]; exact Below.refl _ _⟩
end Go.Proofs.YtanpbphgmnjdeaaDoor
