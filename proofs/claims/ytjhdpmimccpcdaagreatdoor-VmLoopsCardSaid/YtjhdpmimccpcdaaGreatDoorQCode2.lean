/- Chapter 7: packing and unpacking. Conditions: the numbers are of their kind (int). -/
import Derived.Test.YtjhdpmimccpcdaaGreatDoorQ00
import Derived.Laws.BitsLemmas
import Derived.OwnWalk
namespace Go.Proofs.YtjhdpmimccpcdaaGreatDoor
set_option linter.unusedVariables false
open Go.RowKit Go.Lib

theorem i64_and255 (n : Int) : bits .and .i64 n 255 = n % 256 := by
  have h255 : (BitVec.ofInt 64 255).toNat = 2 ^ 8 - 1 := by decide
  have key : (BitVec.ofInt 64 n &&& BitVec.ofInt 64 255).toNat = (n % ((2 ^ 64 : Nat) : Int)).toNat % 2 ^ 8 := by
    rw [BitVec.toNat_and, BitVec.toNat_ofInt, h255, Nat.and_two_pow_sub_one_eq_mod]
  show IntKind.i64.wrap ((BitVec.ofInt 64 n &&& BitVec.ofInt 64 255).toNat : Nat) = n % 256
  rw [key, IntKind.wrap_i64]
  omega
theorem i64_or256 (x y : Int) (hx : -36028797018963968 ≤ x ∧ x < 36028797018963968) (hy : 0 ≤ y ∧ y < 256) : bits .or .i64 (wrap64 (x * 256)) y = 256 * x + y := by
  have hw : wrap64 (x * 256) = x * 256 := by unfold wrap64; omega
  rw [hw]
  have hm : ((x * 256) % ((2 ^ 64 : Nat) : Int)).toNat = 2 ^ 8 * (x % ((2 ^ 56 : Nat) : Int)).toNat := by omega
  have hn : (y % ((2 ^ 64 : Nat) : Int)).toNat < 2 ^ 8 := by omega
  have key : (BitVec.ofInt 64 (x * 256) ||| BitVec.ofInt 64 y).toNat = ((x * 256) % ((2 ^ 64 : Nat) : Int)).toNat + (y % ((2 ^ 64 : Nat) : Int)).toNat := by
    rw [BitVec.toNat_or, BitVec.toNat_ofInt, BitVec.toNat_ofInt, hm, Nat.two_pow_add_eq_or_of_lt hn]
  show IntKind.i64.wrap ((BitVec.ofInt 64 (x * 256) ||| BitVec.ofInt 64 y).toNat : Nat) = 256 * x + y
  rw [key, IntKind.wrap_i64]
  omega

theorem Code.right_ops {op a : Int} (h : Code.right op a = true) : (1 ≤ op ∧ op ≤ 106) ∧ -36028797018963968 ≤ a ∧ a < 36028797018963968 := by
  rw [Code.right_iff] at h
  omega

theorem pack_no (op a : Int) (w : World) (h : Code.right op a = false) : Calls Tryz.prog 196 #[.int .i64 op, .int .i64 a] w (Same (.tuple #[.int .i64 0, .bool false]) w) := by
  go_enter Tryz.func196, Tryz.ntmps196
  go_wp2_with fail
  refine (right_walk op a w).mono ?_
  rintro e w1 ⟨rfl, rfl⟩
  rw [h]
  go_wp2
  go_ret2
  exact ⟨rfl, rfl⟩
theorem pack_yes (op a : Int) (w : World) (h : Code.right op a = true) : Calls Tryz.prog 196 #[.int .i64 op, .int .i64 a] w (Same (.tuple #[.int .i64 (256 * a + op), .bool true]) w) := by
  have hx := Code.right_ops h
  rw [← i64_or256 a op hx.2 (by omega)]
  clear hx
  go_enter Tryz.func196, Tryz.ntmps196
  go_wp2_with fail
  refine (right_walk op a w).mono ?_
  rintro e w1 ⟨rfl, rfl⟩
  rw [h]
  go_wp2
  go_ret2
  exact ⟨rfl, rfl⟩
theorem Pack_no (op a : Int) (w : World) (h : Code.right op a = false) : Calls Tryz.prog 320 #[.int .i64 op, .int .i64 a] w (Same (.tuple #[.int .i64 0, .bool false]) w) := by
  go_enter Tryz.func320, Tryz.ntmps320
  go_wp2_with fail
  refine (Right_walk op a w).mono ?_
  rintro e w1 ⟨rfl, rfl⟩
  rw [h]
  go_wp2
  go_ret2
  exact ⟨rfl, rfl⟩
theorem Pack_yes (op a : Int) (w : World) (h : Code.right op a = true) : Calls Tryz.prog 320 #[.int .i64 op, .int .i64 a] w (Same (.tuple #[.int .i64 (256 * a + op), .bool true]) w) := by
  have hx := Code.right_ops h
  have hw : wrap64 (wrap64 (256 * a) + op) = 256 * a + op := by unfold wrap64; omega
  rw [← hw]
  clear hx hw
  go_enter Tryz.func320, Tryz.ntmps320
  go_wp2_with fail
  refine (Right_walk op a w).mono ?_
  rintro e w1 ⟨rfl, rfl⟩
  rw [h]
  go_wp2
  go_ret2
  exact ⟨rfl, rfl⟩
theorem unpack_walk (v : Int) (w : World) : Calls Tryz.prog 104 #[.int .i64 v] w (Same (.tuple #[.int .i64 (Code.unpack v).1, .int .i64 (Code.unpack v).2.1, .bool (Code.unpack v).2.2]) w) := by
  have h255 := Lib.hid (i64_and255 v)
  obtain ⟨b, hb⟩ : ∃ b, Code.right (v % 256) (v / 256) = b := ⟨_, rfl⟩
  have hb := Lib.hid hb
  have hu : Code.unpack v = if b = true then (v % 256, v / 256, true) else (0, 0, false) := by unfold Code.unpack Code.unOp Code.unArg; rw [hb.out]
  rw [hu]
  clear hu
  cases b
  all_goals
    go_enter Tryz.func104, Tryz.ntmps104
    go_wp2_with fail
    refine (by rw [h255.out]; exact right_walk (v % 256) (v / 256) w : Calls Tryz.prog 143 #[.int .i64 (bits .and .i64 v 255), .int .i64 (v / 256)] w (Same (.bool (Code.right (v % 256) (v / 256))) w)).mono ?_
    rintro e w1 ⟨rfl, rfl⟩
    rw [hb.out]
    go_wp2
    go_ret3
    exact ⟨by first | rfl | (rw [← h255.out]; rfl), rfl⟩
theorem rem_neg (v : Int) (h : v.tmod 256 < 0) : wrap64 (v.tmod 256 + 256) = v % 256 := by
  rw [Int.tmod_eq_emod] at h ⊢
  unfold wrap64
  split at h
  · omega
  · rename_i hc
    rw [if_neg hc]
    omega
theorem rem_pos (v : Int) (h : 0 ≤ v.tmod 256) : v.tmod 256 = v % 256 := by
  rw [Int.tmod_eq_emod] at h ⊢
  split at h
  · rename_i hc
    rw [if_pos hc]
    omega
  · rename_i hc
    omega
theorem quo_ok (v : Int) (hv : -9223372036854775808 ≤ v ∧ v ≤ 9223372036854775807) (hs : -9223372036854775808 ≤ v - v % 256) : wrap64 ((wrap64 (v - v % 256)).tdiv 256) = v / 256 := by
  have h1 : wrap64 (v - v % 256) = v / 256 * 256 := by unfold wrap64; omega
  rw [h1, Int.mul_tdiv_cancel _ (by decide)]
  unfold wrap64
  omega
theorem Unpack_walk (v : Int) (hv : -9223372036854775808 ≤ v ∧ v ≤ 9223372036854775807) (w : World) : Calls Tryz.prog 224 #[.int .i64 v] w (Same (.tuple #[.int .i64 (Code.unpack v).1, .int .i64 (Code.unpack v).2.1, .bool (Code.unpack v).2.2]) w) := by
  have hq := Lib.hid (quo_ok v hv (by omega))
  have hv := Lib.hid hv
  obtain ⟨b, hb⟩ : ∃ b, Code.right (v % 256) (v / 256) = b := ⟨_, rfl⟩
  have hb := Lib.hid hb
  have hu : Code.unpack v = if b = true then (v % 256, v / 256, true) else (0, 0, false) := by unfold Code.unpack Code.unOp Code.unArg; rw [hb.out]
  rw [hu]
  clear hu
  rcases Int.lt_or_le (v.tmod 256) 0 with ht | ht
  · have hm := Lib.hid (rem_neg v ht)
    cases b
    all_goals
      go_enter Tryz.func224, Tryz.ntmps224
      go_wp2_with fail
      rw [hm.out, hq.out]
      refine (Right_walk (v % 256) (v / 256) w).mono ?_
      rintro e w1 ⟨rfl, rfl⟩
      rw [hb.out]
      go_wp2
      go_ret3
      exact ⟨rfl, rfl⟩
  · have hm := Lib.hid (rem_pos v ht)
    cases b
    all_goals
      go_enter Tryz.func224, Tryz.ntmps224
      go_wp2_with fail
      rw [hm.out, hq.out]
      refine (Right_walk (v % 256) (v / 256) w).mono ?_
      rintro e w1 ⟨rfl, rfl⟩
      rw [hb.out]
      go_wp2
      go_ret3
      exact ⟨rfl, rfl⟩
theorem Code.pack_unpack (v : Int) : (∃ p q, Code.unpack v = (p, q, true) ∧ Code.right p q = true ∧ v = 256 * q + p) ∨ Code.unpack v = (0, 0, false) := by
  unfold Code.unpack
  cases h : Code.right (Code.unOp v) (Code.unArg v)
  · right; simp
  · left
    refine ⟨_, _, rfl, h, ?_⟩
    unfold Code.unOp Code.unArg
    omega
end Go.Proofs.YtjhdpmimccpcdaaGreatDoor
