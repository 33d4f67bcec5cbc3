/- Chapter 5: strconv's formatBits at a base that is a power of two. Conditions: the table of trailing zeros lies as its initialiser lays it. -/
import Derived.Test.YtanpbphgmnjdeabDoorFmt2
import Derived.Lib.AppendIntMem
namespace Go.Proofs.YtanpbphgmnjdeabDoor
set_option linter.unusedVariables false
open Go.RowKit Go.Lib

theorem isP2_log {b : Nat} (h : isP2 b = true) : 2 ^ logP2 b = b ∧ logP2 b ≤ 5 := by
  have hb : b = 2 ∨ b = 4 ∨ b = 8 ∨ b = 16 ∨ b = 32 := by simpa [isP2, or_assoc] using h
  rcases hb with rfl | rfl | rfl | rfl | rfl <;> decide
theorem u64_and_p2 (k : Nat) (hk : k < 18446744073709551616) {b : Nat} (h : isP2 b = true) : bits BinOp.and IntKind.u64 (k : Int) ((b : Int) - 1) = ((k % b : Nat) : Int) := by
  have hb : b = 2 ∨ b = 4 ∨ b = 8 ∨ b = 16 ∨ b = 32 := by simpa [isP2, or_assoc] using h
  have key : ∀ s : Nat, s ≤ 5 → (BitVec.ofInt 64 ((2 ^ s : Nat) - 1 : Int)).toNat = 2 ^ s - 1 → bits BinOp.and IntKind.u64 (k : Int) (((2 ^ s : Nat) : Int) - 1) = ((k % 2 ^ s : Nat) : Int) := by
    intro s hs hm
    have k1 : (BitVec.ofInt 64 (k : Int) &&& BitVec.ofInt 64 (((2 ^ s : Nat) : Int) - 1)).toNat = k % 2 ^ s := by
      rw [BitVec.toNat_and, BitVec.toNat_ofInt, hm, Nat.and_two_pow_sub_one_eq_mod]
      congr 1
      omega
    show IntKind.u64.wrap ((BitVec.ofInt 64 (k : Int) &&& BitVec.ofInt 64 (((2 ^ s : Nat) : Int) - 1)).toNat : Nat) = _
    rw [k1, IntKind.wrap_u64]
    have : k % 2 ^ s ≤ k := Nat.mod_le _ _
    omega
  rcases hb with rfl | rfl | rfl | rfl | rfl
  · exact key 1 (by omega) (by decide)
  · exact key 2 (by omega) (by decide)
  · exact key 3 (by omega) (by decide)
  · exact key 4 (by omega) (by decide)
  · exact key 5 (by omega) (by decide)
set_option maxRecDepth 100000 in
set_option maxHeartbeats 4000000 in
theorem fmt_p2 (u u0 b : Nat) (neg : Bool) (hu : (neg = false ∧ u0 = u) ∨ (neg = true ∧ IntKind.u64.wrap (-(u : Int)) = (u0 : Int))) (hu64 : u0 < 18446744073709551616) (h2 : 2 ≤ b) (h36 : b ≤ 36) (h10 : b ≠ 10) (hp : isP2 b = true) (w : World) (hBr : Bruijn w) :
    Calls Tryd.prog 41 #[.slice none 0 0, .int .u64 (u : Int), .int .i64 (b : Int), .bool neg, .bool false] w (Fresh' (.tuple #[.slice none 0 0, .string ⟨((if neg then [45] else []) ++ digitsL b u0).toArray⟩]) w) := by
  obtain ⟨R, hR⟩ : ∃ R, digitsL b u0 = R := ⟨_, rfl⟩
  have hRl : R.length ≤ 64 := by rw [← hR, digitsL_len]; exact digitsU_64 h2 hu64
  rw [hR]
  have hp2 := p2_walk b h2 h36
  rw [hp] at hp2
  replace hp2 := Lib.hid hp2
  have htz := fun w hB => tzu_walk b hp w hB
  have hBr1 : Bruijn (w.alloc (.cells Tryd.zeroCells86 86)) := (Lib.tabBelow_of_tabIs hBr) _ ((Below.refl _ _).alloc (Nat.le_refl _) _)
  replace hBr1 := Lib.hid hBr1
  replace htz := Lib.hid htz
  have hpl := Lib.hid (isP2_log hp)
  have hlog5 : logP2 b ≤ 5 := (isP2_log hp).2
  have q1 : decide ((b : Int) < 2) = false := by rw [decide_eq_false_iff_not]; omega
  have q2 : ((b : Int) == 10) = false := by rw [beq_eq_false_iff_ne]; omega
  have q3 : decide ((36 : Int) < (b : Int)) = false := by rw [decide_eq_false_iff_not]; omega
  have hand0 := fun k hk => u64_and_p2 k hk hp
  replace hand0 := Lib.hid hand0
  replace hR := Lib.hid hR
  clear hp h10 hBr
  have hblk : Blk (w.alloc (.cells Tryd.zeroCells86 86)) w.heap.size 86 (bcells (arrL 65 [])).toArray := by rw [← zeros65]; exact Blk.new _ _ _
  have hkept : Kept Nob w (w.alloc (.cells Tryd.zeroCells86 86)) := (Kept.refl _ _).alloc _
  have hgw : w.heap.size ≤ w.heap.size := Nat.le_refl _
  replace hblk := Lib.hid hblk
  replace hkept := Lib.hid hkept
  rcases hu with ⟨rfl, rfl⟩ | ⟨rfl, hu⟩
  all_goals
    go_enter Tryd.func41, Tryd.ntmps41
    go_wp2_with (first | (go_at_call 54; refine (hp2.out _).mono ?_; rintro e w1 ⟨rfl, rfl⟩) | (go_at_call 55; refine (htz.out _ hBr1.out).mono ?_; rintro e w2 ⟨rfl, rfl⟩))
    generalize w.alloc (.cells Tryd.zeroCells86 86) = wa at *
    generalize hgg : w.heap.size = g at *
    replace hgg := Lib.hid hgg
    go_loopw [1, 13] (fun x y wr => ∃ (k i : Nat) (l : List UInt8), x = .int .u64 (k : Int) ∧ y = .int .i64 (i : Int) ∧ k < 18446744073709551616 ∧ FmtRel b R k i l ∧ Blk wr g 86 (bcells (arrL i l)).toArray ∧ Kept Nob w wr) (fun x _ _ => (RowKit.intOf x).toNat)
    case atStart => exact ⟨_, 65, [], rfl, rfl, hu64, ⟨rfl, by simpa using hR.out⟩, hblk.out, hkept.out⟩
    case round =>
      obtain ⟨k, i, l, rfl, rfl, hk, hR2, hB, hK⟩ := hrel
      obtain ⟨hi2, hi65⟩ := hR2.pos hRl
      obtain ⟨i, rfl⟩ : ∃ j, i = j + 1 := ⟨i - 1, by omega⟩
      clear hblk hkept
      have hgwr : w.heap.size ≤ g := Nat.le_of_eq hgg.out
      have hz := hB.zero
      have hfz := hB.frozen i
      have hcast : (((i + 1 : Nat) : Int)) = (i : Int) + 1 := by omega
      by_cases hge : b ≤ k
      · have hnx := hR2.next h2 hge
        have hBd := hB.digit (digLC (k % b))
        have hql : k % b < b := Nat.mod_lt _ (by omega)
        have hix := fun w => lc_idx (k % b) (by omega) w
        have hd : (k : Int) / (b : Int) = ((k / b : Nat) : Int) := by simp
        have hand := hand0.out k hk
        have hsh : (k : Int) / 2 ^ logP2 b = ((k / b : Nat) : Int) := by
          rw [← hd, show ((2 : Int) ^ logP2 b) = ((2 ^ logP2 b : Nat) : Int) from by simp, hpl.out.1]
        replace hsh := Lib.hid hsh
        have hdm := Nat.div_add_mod k b
        have hlt := Nat.div_lt_self (show 0 < k by omega) (show 1 < b by omega)
        have hKd := Kept.setCell (p := ⟨g, i, none⟩) hK (.inr hgwr) (.int .u8 ((digLC (k % b)).toNat : Int))
        generalize digLC (k % b) = ch at *
        generalize k % b = r at *
        generalize k / b = k' at *
        have hgeb : decide ((b : Int) ≤ (k : Int)) = true := by rw [decide_eq_true_iff]; omega
        have hgeb' : decide (b ≤ k) = true := by rw [decide_eq_true_iff]; omega
        replace hdm := Lib.hid hdm
        replace hnx := Lib.hid hnx
        replace hBd := Lib.hid hBd
        replace hKd := Lib.hid hKd
        replace hB := Lib.hid hB
        replace hR2 := Lib.hid hR2
        replace hK := Lib.hid hK
        go_wp2
        go_roundw
        case rel => exact ⟨k', i, _, by rw [hsh.out], by go_num, by omega, hnx.out, hBd.out, hKd.out⟩
        case measure => rw [hsh.out]; simp [RowKit.intOf]; omega
      · have hlt : k < b := by omega
        have hl2 := hR2.last hlt
        have hBd := hB.digit (digLC k)
        have hix := fun w => lc_idx k (by omega) w
        have hKd := Kept.setCell (p := ⟨g, i, none⟩) hK (.inr hgwr) (.int .u8 ((digLC k).toNat : Int))
        have hgeb : decide ((b : Int) ≤ (k : Int)) = false := by rw [decide_eq_false_iff_not]; omega
        have hgeb' : decide (b ≤ k) = false := by rw [decide_eq_false_iff_not]; omega
        have hil : i + (digLC k :: l).length = 65 := by have := hR2.1; simp; omega
        generalize digLC k = ch at *
        rw [hl2] at hBd hil
        replace hB := Lib.hid hB
        replace hR2 := Lib.hid hR2
        replace hK := Lib.hid hK
        replace hl2 := Lib.hid hl2
        obtain ⟨j, rfl⟩ : ∃ j, i = j + 1 := ⟨i - 1, by omega⟩
        have hz2 : (wr.setCell ⟨g, j + 1, none⟩ (.int .u8 (ch.toNat : Int))).cell? ⟨g, j, none⟩ = some (.int .u8 0) := hBd.zero
        have hfz2 := hBd.frozen j
        have hBd2 : Blk ((wr.setCell ⟨g, j + 1, none⟩ (.int .u8 (ch.toNat : Int))).setCell ⟨g, j, none⟩ (.int .u8 45)) g 86 (bcells (arrL j (45 :: R))).toArray := hBd.digit 45
        have hKd2 := Kept.setCell (p := ⟨g, j, none⟩) hKd (.inr hgwr) (.int .u8 45)
        have hsl1 := fun W => arr65_slice g (j + 1) R.length hil (by omega) ((j : Int) + 1) (by omega) W
        have hsl2 := fun W => arr65_slice g j (45 :: R).length (by simp; omega) (by simp) (j : Int) rfl W
        have hcv1 := arr65_conv _ g (j + 1) _ R hBd
        have hcv2 := arr65_conv _ g j _ (45 :: R) hBd2
        simp only [List.length_cons] at hsl2 hcv2
        have hcast2 : (((j + 1 : Nat) : Int)) = (j : Int) + 1 := by omega
        replace hil := Lib.hid hil
        replace hBd := Lib.hid hBd
        replace hBd2 := Lib.hid hBd2
        replace hKd := Lib.hid hKd
        replace hKd2 := Lib.hid hKd2
        go_wp2
        go_ret2
        first | exact ⟨rfl, hKd.out⟩ | exact ⟨rfl, hKd2.out⟩
end Go.Proofs.YtanpbphgmnjdeabDoor
