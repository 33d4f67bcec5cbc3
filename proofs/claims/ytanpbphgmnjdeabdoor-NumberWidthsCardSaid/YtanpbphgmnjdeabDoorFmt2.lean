/- Chapter 5: strconv's formatBits. Conditions: a base from 2 to 36 that is not 10; the table of trailing zeros. -/
import Derived.Test.YtanpbphgmnjdeabDoorFmt1
import Derived.Test.YtanpbphgmnjdeabDoorNum1
import Derived.Test.YtanpbphgmnjdeabDoorRowB
import Derived.Deep.DeepCutAuto
import Derived.Deep.CutBlock
namespace Go.Proofs.YtanpbphgmnjdeabDoor
set_option linter.unusedVariables false
open Go.RowKit Go.Lib

def arrL (i : Nat) (l : List UInt8) : List UInt8 := List.replicate i 0 ++ l
theorem arr_set (i : Nat) (l : List UInt8) (c : UInt8) : (arrL (i + 1) l).set i c = arrL i (c :: l) := by
  unfold arrL
  rw [List.set_append_left _ _ (by simp), List.replicate_succ']
  rw [List.set_append_right _ _ (by simp)]
  simp
theorem bcells_set (l : List UInt8) (i : Nat) (c : UInt8) : (bcells l).toArray.setIfInBounds i (.int .u8 (c.toNat : Int)) = (bcells (l.set i c)).toArray := by
  simp [bcells, List.map_set]
theorem arr_len (i : Nat) (l : List UInt8) : (arrL i l).length = i + l.length := by simp [arrL]
/-- a digit more in the row -/
theorem Blk.digit {w : World} {g : Nat} {t : TypeId} {i : Nat} {l : List UInt8} (h : Blk w g t (bcells (arrL (i + 1) l)).toArray) (c : UInt8) : Blk (w.setCell ⟨g, i, none⟩ (.int .u8 (c.toNat : Int))) g t (bcells (arrL i (c :: l))).toArray := by
  have := h.set_ i (.int .u8 (c.toNat : Int))
  rwa [bcells_set, arr_set] at this
theorem Blk.zero {w : World} {g : Nat} {t : TypeId} {i : Nat} {l : List UInt8} (h : Blk w g t (bcells (arrL (i + 1) l)).toArray) : w.cell? ⟨g, i, none⟩ = some (.int .u8 0) := by
  rw [h.cell i]
  simp [bcells, arrL]
  rw [List.getElem?_append_left (by simp)]
  simp
theorem lc_at : ∀ k : Fin 36, ((⟨#[48, 49, 50, 51, 52, 53, 54, 55, 56, 57, 97, 98, 99, 100, 101, 102, 103, 104, 105, 106, 107, 108, 109, 110, 111, 112, 113, 114, 115, 116, 117, 118, 119, 120, 121, 122]⟩ : ByteArray).data.toList.getD k.val 0) = digLC k.val := by decide +kernel
theorem zeros65 : Tryd.zeroCells86 = (bcells (arrL 65 [])).toArray := by kernel_rfl
theorem lc_idx (k : Nat) (hk : k < 36) (w : World) : (Instr.index 9 (.string ⟨#[48, 49, 50, 51, 52, 53, 54, 55, 56, 57, 97, 98, 99, 100, 101, 102, 103, 104, 105, 106, 107, 108, 109, 110, 111, 112, 113, 114, 115, 116, 117, 118, 119, 120, 121, 122]⟩) (.int .u64 (k : Int))).run Tryd.prog w = .ok (.int .u8 ((digLC k).toNat : Int)) w := by
  rw [run_index_string w _ _ .u64 (k : Int) Tryd.underlying9, dif_pos ⟨by omega, by show (k : Int) < 36; omega⟩]
  have h := lc_at ⟨k, hk⟩
  simp only at h
  rw [← h]
  congr 4
  rw [List.getD_eq_getElem?_getD]
  rw [List.getElem?_eq_getElem (by simpa using hk)]
  rfl
theorem div_mul_parts {k b k' r : Nat} (h : b * k' + r = k) : (k : Int) - (k' : Int) * (b : Int) = (r : Int) ∧ 0 ≤ (k' : Int) * (b : Int) ∧ (k' : Int) * (b : Int) ≤ (k : Int) := by
  have e : (k' : Int) * (b : Int) = ((b * k' : Nat) : Int) := by rw [Int.mul_comm]; simp
  rw [e]
  generalize b * k' = z at *
  omega
theorem arr65_slice (g i l : Nat) (h : i + l = 65) (h0 : 0 < l) (x : Int) (hx : x = (i : Int)) (W : World) : (Instr.sliceAt 86 (.pointer (some ⟨g, 0, none⟩)) (some (.int .i64 x)) none none).run Tryd.prog W = .ok (.slice (some ⟨g, i, none⟩) l l) W := by
  subst hx
  have hal : Tryd.prog.arrayLen 86 = 65 := by kernel_rfl
  rw [run_sliceAt_array_l W 86 ⟨g, 0, none⟩ (by kernel_rfl) .i64 (i : Int) (by omega) (by rw [hal]; omega), hal]
  have hsz : (sizeOf (Tryd.prog.elem 86)).run Tryd.prog W = .ok 1 W := by kernel_rfl
  rw [hsz]
  simp only [Result.andThen, slicedAt, Int.toNat_natCast]
  obtain rfl : l = 65 - i := by omega
  simp [Addr.add]
  rw [if_neg (by omega)]
  split
  · rename_i h; subst h; rfl
  · rfl
theorem arr65_conv (W : World) (g i : Nat) (t : TypeId) (R : List UInt8) (h : Blk W g t (bcells (arrL i R)).toArray) : (convert 41 9 (.slice (some ⟨g, i, none⟩) R.length R.length)).run Tryd.prog W = .ok (.string ⟨R.toArray⟩) W := by
  refine run_convert_bytes_back W 41 9 5 ⟨g, i, none⟩ R.length R Tryd.underlying41 Tryd.underlying5 Tryd.underlying9 fun j hj => ?_
  have hadd : (⟨g, i, none⟩ : Addr).add j = ⟨g, i + j, none⟩ := by unfold Addr.add; split <;> simp_all
  rw [hadd, h.cell]
  simp only [bcells, arrL, List.getElem?_toArray, List.getElem?_map]
  rw [List.getElem?_append_right (by simp)]
  simp [hj]
def FmtRel (b : Nat) (R : List UInt8) (k : Nat) (i : Nat) (l : List UInt8) : Prop := i + l.length = 65 ∧ digitsL b k ++ l = R
theorem FmtRel.pos {b : Nat} {R : List UInt8} {k i : Nat} {l : List UInt8} (h : FmtRel b R k i l) (hR : R.length ≤ 64) : 2 ≤ i ∧ i ≤ 65 := by
  have h1 := congrArg List.length h.2
  have h2 : (digitsL b k).length ≠ 0 := by rw [digitsL_len]; have := List.length_pos_iff.2 (digitsU_ne b k); omega
  rw [List.length_append] at h1
  have := h.1
  omega
theorem FmtRel.next {b : Nat} {R : List UInt8} {k i : Nat} {l : List UInt8} (hb : 2 ≤ b) (h : FmtRel b R k (i + 1) l) (hk : b ≤ k) : FmtRel b R (k / b) i (digLC (k % b) :: l) := by
  refine ⟨by have := h.1; simp; omega, ?_⟩
  rw [← h.2, digitsL_big hb hk]
  simp
theorem FmtRel.last {b : Nat} {R : List UInt8} {k i : Nat} {l : List UInt8} (h : FmtRel b R k (i + 1) l) (hk : k < b) : digLC k :: l = R := by
  rw [← h.2, digitsL_small hk]
  rfl
set_option maxRecDepth 100000 in
set_option maxHeartbeats 4000000 in
theorem fmt_gen (u u0 b : Nat) (neg : Bool) (hu : (neg = false ∧ u0 = u) ∨ (neg = true ∧ IntKind.u64.wrap (-(u : Int)) = (u0 : Int))) (hu64 : u0 < 18446744073709551616) (h2 : 2 ≤ b) (h36 : b ≤ 36) (h10 : b ≠ 10) (hp : isP2 b = false) (w : World) :
    Calls Tryd.prog 41 #[.slice none 0 0, .int .u64 (u : Int), .int .i64 (b : Int), .bool neg, .bool false] w (Fresh' (.tuple #[.slice none 0 0, .string ⟨((if neg then [45] else []) ++ digitsL b u0).toArray⟩]) w) := by
  obtain ⟨R, hR⟩ : ∃ R, digitsL b u0 = R := ⟨_, rfl⟩
  have hRl : R.length ≤ 64 := by rw [← hR, digitsL_len]; exact digitsU_64 h2 hu64
  rw [hR]
  have hp2 := p2_walk b h2 h36
  rw [hp] at hp2
  replace hp2 := Lib.hid hp2
  have q1 : decide ((b : Int) < 2) = false := by rw [decide_eq_false_iff_not]; omega
  have q2 : ((b : Int) == 10) = false := by rw [beq_eq_false_iff_ne]; omega
  have q3 : decide ((36 : Int) < (b : Int)) = false := by rw [decide_eq_false_iff_not]; omega
  replace hR := Lib.hid hR
  clear hp h10
  have hblk : Blk (w.alloc (.cells Tryd.zeroCells86 86)) w.heap.size 86 (bcells (arrL 65 [])).toArray := by rw [← zeros65]; exact Blk.new _ _ _
  have hkept : Kept Nob w (w.alloc (.cells Tryd.zeroCells86 86)) := (Kept.refl _ _).alloc _
  have hgw : w.heap.size ≤ w.heap.size := Nat.le_refl _
  replace hblk := Lib.hid hblk
  replace hkept := Lib.hid hkept
  rcases hu with ⟨rfl, rfl⟩ | ⟨rfl, hu⟩
  all_goals
    go_enter Tryd.func41, Tryd.ntmps41
    go_wp2_with (go_at_call 54; refine (hp2.out _).mono ?_; rintro e w1 ⟨rfl, rfl⟩)
    generalize w.alloc (.cells Tryd.zeroCells86 86) = wa at *
    generalize hgg : w.heap.size = g at *
    replace hgg := Lib.hid hgg
    go_loopw [1, 13] (fun x y wr => ∃ (k i : Nat) (l : List UInt8), x = .int .u64 (k : Int) ∧ y = .int .i64 (i : Int) ∧ k < 18446744073709551616 ∧ FmtRel b R k i l ∧ Blk wr g 86 (bcells (arrL i l)).toArray ∧ Kept Nob w wr) (fun x _ _ => (RowKit.intOf x).toNat)
    case atStart => exact ⟨_, 65, [], rfl, rfl, hu64, ⟨rfl, by simpa using hR.out⟩, hblk.out, hkept.out⟩
    case round =>
      obtain ⟨k, i, l, rfl, rfl, hk, hR2, hB, hK⟩ := hrel
      obtain ⟨hi2, hi65⟩ := hR2.pos hRl
      obtain ⟨i, rfl⟩ : ∃ j, i = j + 1 := ⟨i - 1, by omega⟩
      clear hblk hkept
      have hgwr : w.heap.size ≤ g := Nat.le_of_eq hgg.out
      have hz := hB.zero
      have hfz := hB.frozen i
      have hcast : (((i + 1 : Nat) : Int)) = (i : Int) + 1 := by omega
      by_cases hge : b ≤ k
      · have hnx := hR2.next h2 hge
        have hBd := hB.digit (digLC (k % b))
        have hql : k % b < b := Nat.mod_lt _ (by omega)
        have hix := fun w => lc_idx (k % b) (by omega) w
        have hd : (k : Int) / (b : Int) = ((k / b : Nat) : Int) := by simp
        have hdm := Nat.div_add_mod k b
        have hlt := Nat.div_lt_self (show 0 < k by omega) (show 1 < b by omega)
        have hKd := Kept.setCell (p := ⟨g, i, none⟩) hK (.inr hgwr) (.int .u8 ((digLC (k % b)).toNat : Int))
        generalize digLC (k % b) = ch at *
        generalize k % b = r at *
        generalize k / b = k' at *
        obtain ⟨hmr, hm0, hm1⟩ := div_mul_parts hdm
        have hgeb : decide ((b : Int) ≤ (k : Int)) = true := by rw [decide_eq_true_iff]; omega
        have hgeb' : decide (b ≤ k) = true := by rw [decide_eq_true_iff]; omega
        replace hdm := Lib.hid hdm
        replace hnx := Lib.hid hnx
        replace hBd := Lib.hid hBd
        replace hKd := Lib.hid hKd
        replace hB := Lib.hid hB
        replace hR2 := Lib.hid hR2
        replace hK := Lib.hid hK
        go_wp2
        go_roundw
        case rel => exact ⟨k', i, _, rfl, by go_num, by omega, hnx.out, hBd.out, hKd.out⟩
        case measure => simp [RowKit.intOf]; omega
      · have hlt : k < b := by omega
        have hl2 := hR2.last hlt
        have hBd := hB.digit (digLC k)
        have hix := fun w => lc_idx k (by omega) w
        have hKd := Kept.setCell (p := ⟨g, i, none⟩) hK (.inr hgwr) (.int .u8 ((digLC k).toNat : Int))
        have hgeb : decide ((b : Int) ≤ (k : Int)) = false := by rw [decide_eq_false_iff_not]; omega
        have hgeb' : decide (b ≤ k) = false := by rw [decide_eq_false_iff_not]; omega
        have hil : i + (digLC k :: l).length = 65 := by have := hR2.1; simp; omega
        generalize digLC k = ch at *
        rw [hl2] at hBd hil
        replace hB := Lib.hid hB
        replace hR2 := Lib.hid hR2
        replace hK := Lib.hid hK
        replace hl2 := Lib.hid hl2
        obtain ⟨j, rfl⟩ : ∃ j, i = j + 1 := ⟨i - 1, by omega⟩
        have hz2 : (wr.setCell ⟨g, j + 1, none⟩ (.int .u8 (ch.toNat : Int))).cell? ⟨g, j, none⟩ = some (.int .u8 0) := hBd.zero
        have hfz2 := hBd.frozen j
        have hBd2 : Blk ((wr.setCell ⟨g, j + 1, none⟩ (.int .u8 (ch.toNat : Int))).setCell ⟨g, j, none⟩ (.int .u8 45)) g 86 (bcells (arrL j (45 :: R))).toArray := hBd.digit 45
        have hKd2 := Kept.setCell (p := ⟨g, j, none⟩) hKd (.inr hgwr) (.int .u8 45)
        have hsl1 := fun W => arr65_slice g (j + 1) R.length hil (by omega) ((j : Int) + 1) (by omega) W
        have hsl2 := fun W => arr65_slice g j (45 :: R).length (by simp; omega) (by simp) (j : Int) rfl W
        have hcv1 := arr65_conv _ g (j + 1) _ R hBd
        have hcv2 := arr65_conv _ g j _ (45 :: R) hBd2
        simp only [List.length_cons] at hsl2 hcv2
        have hcast2 : (((j + 1 : Nat) : Int)) = (j : Int) + 1 := by omega
        replace hil := Lib.hid hil
        replace hBd := Lib.hid hBd
        replace hBd2 := Lib.hid hBd2
        replace hKd := Lib.hid hKd
        replace hKd2 := Lib.hid hKd2
        go_wp2
        go_ret2
        first | exact ⟨rfl, hKd.out⟩ | exact ⟨rfl, hKd2.out⟩
end Go.Proofs.YtanpbphgmnjdeabDoor
