/- Chapter 7: packing and unpacking. Conditions: the numbers are of their kind (int). -/
import Derived.Test.YtjhdpmimccpcdaaGreatDoorT00
import Derived.Laws.BitsLemmas
import Derived.OwnWalk
namespace Go.Proofs.YtjhdpmimccpcdaaGreatDoor
set_option linter.unusedVariables false
open Go.RowKit Go.Lib

theorem i64_and255 (n : Int) : bits .and .i64 n 255 = n % 256 := by
  have h255 : (BitVec.ofInt 64 255).toNat = 2 ^ 8 - 1 := by decide
  have key : (BitVec.ofInt 64 n &&& BitVec.ofInt 64 255).toNat = (n % ((2 ^ 64 : Nat) : Int)).toNat % 2 ^ 8 := by
    rw [BitVec.toNat_and, BitVec.toNat_ofInt, h255, Nat.and_two_pow_sub_one_eq_mod]
  show IntKind.i64.wrap ((BitVec.ofInt 64 n &&& BitVec.ofInt 64 255).toNat : Nat) = n % 256
  rw [key, IntKind.wrap_i64]
  omega
theorem unpack_walk (v : Int) (w : World) : Calls Tryz.prog 104 #[.int .i64 v] w (Same (.tuple #[.int .i64 (Code.unpack v).1, .int .i64 (Code.unpack v).2.1, .bool (Code.unpack v).2.2]) w) := by
  have h255 := Lib.hid (i64_and255 v)
  obtain ⟨b, hb⟩ : ∃ b, Code.right (v % 256) (v / 256) = b := ⟨_, rfl⟩
  have hb := Lib.hid hb
  have hu : Code.unpack v = if b = true then (v % 256, v / 256, true) else (0, 0, false) := by unfold Code.unpack Code.unOp Code.unArg; rw [hb.out]
  rw [hu]
  clear hu
  cases b
  all_goals
    go_enter Tryz.func104, Tryz.ntmps104
    go_wp2_with fail
    refine (by rw [h255.out]; exact right_walk (v % 256) (v / 256) w : Calls Tryz.prog 143 #[.int .i64 (bits .and .i64 v 255), .int .i64 (v / 256)] w (Same (.bool (Code.right (v % 256) (v / 256))) w)).mono ?_
    rintro e w1 ⟨rfl, rfl⟩
    rw [hb.out]
    go_wp2
    go_ret3
    exact ⟨by first | rfl | (rw [← h255.out]; rfl), rfl⟩
theorem Code.pack_unpack (v : Int) : (∃ p q, Code.unpack v = (p, q, true) ∧ Code.right p q = true ∧ v = 256 * q + p) ∨ Code.unpack v = (0, 0, false) := by
  unfold Code.unpack
  cases h : Code.right (Code.unOp v) (Code.unArg v)
  · right; simp
  · left
    refine ⟨_, _, rfl, h, ?_⟩
    unfold Code.unOp Code.unArg
    omega
end Go.Proofs.YtjhdpmimccpcdaaGreatDoor
