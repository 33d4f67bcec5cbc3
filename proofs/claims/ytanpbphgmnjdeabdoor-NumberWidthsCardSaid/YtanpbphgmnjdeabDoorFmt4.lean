/- Chapter 5: writing a number, on both sides. Conditions: the tables of powers and of trailing zeros lie as their initialisers lay them; as written. -/
import Derived.Test.YtanpbphgmnjdeabDoorFmt3
import Derived.Test.YtanpbphgmnjdeabDoorNum2r
import Derived.Test.YtanpbphgmnjdeabDoorNumOrd
import Derived.Test.YtanpbphgmnjdeabDoorShelf
namespace Go.Proofs.YtanpbphgmnjdeabDoor
set_option linter.unusedVariables false
open Go.RowKit Go.Lib

/-- the table of powers of ten -/
def Pows (w : World) : Prop := Lib.TabIs Tryd.prog w "internal/strconv.uint64pow10" .u64 Lib.pow10Tab
theorem Pows.below {w w' : World} (h : Pows w) (hb : Below w.heap.size w w') : Pows w' := (tabBelow_of_tabIs h) w' hb
theorem Bruijn.below {w w' : World} (h : Bruijn w) (hb : Below w.heap.size w w') : Bruijn w' := (tabBelow_of_tabIs h) w' hb
theorem grow_kept' (w : World) (k : Nat) (os : Array Obj) : Kept Nob w (Go.Sort.grow (w.drewN k) os) :=
  ⟨rfl, rfl, rfl, Lib.size_grow w k os, fun j hj _ => Lib.heap_grow_old w k os j hj⟩
set_option maxRecDepth 100000 in
set_option maxHeartbeats 4000000 in
theorem fu10_walk (u : Nat) (hu64 : u < 18446744073709551616) (w : World) (hP : Pows w) :
    Calls Tryd.prog 30 #[.int .u64 (u : Int), .int .i64 10] w (Fresh' (.string ⟨(decDigits u).toArray⟩) w) := by
  by_cases hs : u < 100
  · have h1 := fun w => Tryd.internal_strconv_small u hs w
    replace h1 := Lib.hid h1
    go_enter Tryd.func30, Tryd.ntmps30
    go_wp2_with (go_at_call 38; refine (h1.out _).mono ?_; rintro e w1 ⟨rfl, rfl⟩)
    go_ret
    exact ⟨rfl, Kept.refl _ _⟩
  · have hu1 : 1 ≤ u := by omega
    have hnd20 : Lib.nDigits u ≤ 20 := by have := Lib.numDigits_eq u hu1 hu64; split at this <;> omega
    have hal : Tryd.prog.arrayLen 66 = 24 := by kernel_rfl
    have hsl : ∀ W, (Instr.sliceAt 66 (.pointer (some ⟨w.heap.size, 0, none⟩)) none (some (.int .i64 (Lib.nDigits u : Int))) none).run Tryd.prog W = .ok (.slice (some ⟨w.heap.size, 0, none⟩) (Lib.nDigits u) 24) W := fun W => by
      rw [run_sliceAt_array_h W 66 ⟨w.heap.size, 0, none⟩ (by kernel_rfl) .i64 (Lib.nDigits u : Int) (by omega) (by rw [hal]; omega), hal]
      have hsz : (sizeOf (Tryd.prog.elem 66)).run Tryd.prog W = .ok 1 W := by kernel_rfl
      rw [hsz]
      simp [Result.andThen, slicedAt, Addr.add]
    have hH0 := Lib.holds_zero0 w 66 (Lib.nDigits u) (by omega)
    have hfmt := Tryd.internal_strconv_formatBase10 w.heap.size 0 24 u (Array.replicate (Lib.nDigits u) 0) (w.alloc (.cells Lib.zeros24 66)) hH0 (by rw [Array.size_replicate]; exact Lib.lt_pow_nDigits u) hu64 (by rw [Array.size_replicate]; omega)
    rw [Array.size_replicate] at hfmt
    have hnd := fun w h => Tryd.internal_strconv_numDigits u hu1 hu64 w h
    have hPa : Pows (w.alloc (.cells Lib.zeros24 66)) := hP.below ((Below.refl _ _).alloc (Nat.le_refl _) _)
    have HH0 := Lib.hid hH0
    replace hfmt := Lib.hid hfmt
    replace hnd := Lib.hid hnd
    replace hPa := Lib.hid hPa
    have iu : (100 : Int) ≤ (u : Int) := by omega
    clear hH0 hal
    go_enter Tryd.func30, Tryd.ntmps30
    go_wp2_with (go_at_call 39; refine (hnd.out _ hPa.out).mono ?_; rintro e w1 ⟨rfl, rfl⟩)
    go_at_call 40
    refine hfmt.out.mono ?_
    rintro e w2 ⟨rfl, k, v', dk, rfl, hF⟩
    have hcv : (convert 41 9 (.slice (some ⟨w.heap.size, 0, none⟩) (Lib.nDigits u) 24)).run Tryd.prog ((Go.Sort.putRow (fun (b : UInt8) => Value.int .u8 (b.toNat : Int)) (w.alloc (.cells Lib.zeros24 66)) w.heap.size 0 dk).drewN k) = .ok (.string ⟨(Lib.decDigits u).toArray⟩) ((Go.Sort.putRow (fun (b : UInt8) => Value.int .u8 (b.toNat : Int)) (w.alloc (.cells Lib.zeros24 66)) w.heap.size 0 dk).drewN k) := by
      have h := run_convert_bytes_back (P := Tryd.prog) ((Go.Sort.putRow (fun (b : UInt8) => Value.int .u8 (b.toNat : Int)) (w.alloc (.cells Lib.zeros24 66)) w.heap.size 0 dk).drewN k) 41 9 5 ⟨w.heap.size, 0, none⟩ 24 (Lib.decDigits u) Tryd.underlying41 Tryd.underlying5 Tryd.underlying9 (fun j hj => by
        rw [Lib.row_is_numeral hF j hj, Lib.add_plain, World.cell?_drewN]
        exact Go.Sort.cell?_putRow (fun (b : UInt8) => Value.int .u8 (b.toNat : Int)) _ w.heap.size 0 _ dk HH0.out (by rw [hF.size, Array.size_replicate]) j (by rw [hF.size]; rw [Lib.decDigits_length] at hj; exact hj))
      rw [Lib.decDigits_length] at h
      exact h
    obtain ⟨os, eo⟩ := Lib.fin_at w (.cells Lib.zeros24 66) dk k 0
    have hkk : Kept Nob w ((Go.Sort.putRow (fun (b : UInt8) => Value.int .u8 (b.toNat : Int)) (w.alloc (.cells Lib.zeros24 66)) w.heap.size 0 dk).drewN k) := by rw [eo]; exact grow_kept' w k os
    replace hkk := Lib.hid hkk
    clear eo
    go_wp2
    go_ret
    exact ⟨rfl, hkk.out⟩
theorem digitsL_10 : ∀ u, digitsL 10 u = decDigits u := by
  intro u
  induction u using Nat.strongRecOn with
  | ind u ih =>
    by_cases h : u < 10
    · rw [digitsL_small h, decDigits, dif_pos h]
      unfold digLC
      rw [if_pos h]
    · rw [digitsL_big (by omega) (by omega), decDigits, dif_neg h, ih (u / 10) (by omega)]
      unfold digLC
      rw [if_pos (by omega)]
set_option maxRecDepth 100000 in
theorem fu_walk (u : Nat) (hu64 : u < 18446744073709551616) (b : Nat) (h2 : 2 ≤ b) (h36 : b ≤ 36) (w : World) (hP : Pows w) (hB : Bruijn w) :
    Calls Tryd.prog 30 #[.int .u64 (u : Int), .int .i64 (b : Int)] w (Fresh' (.string ⟨(digitsL b u).toArray⟩) w) := by
  by_cases h10 : b = 10
  · subst h10
    rw [digitsL_10]
    exact fu10_walk u hu64 w hP
  · have hf : Calls Tryd.prog 41 #[.slice none 0 0, .int .u64 (u : Int), .int .i64 (b : Int), .bool false, .bool false] w (Fresh' (.tuple #[.slice none 0 0, .string ⟨(digitsL b u).toArray⟩]) w) := by
      cases hp : isP2 b
      · exact fmt_gen u u b false (.inl ⟨rfl, rfl⟩) hu64 h2 h36 h10 hp w
      · exact fmt_p2 u u b false (.inl ⟨rfl, rfl⟩) hu64 h2 h36 h10 hp w hB
    have h10b : ((b : Int) == 10) = false := by rw [beq_eq_false_iff_ne]; omega
    generalize digitsL b u = R at *
    replace hf := Lib.hid hf
    clear hP hB h10
    go_enter Tryd.func30, Tryd.ntmps30
    go_wp2_with fail
    refine hf.out.mono ?_
    rintro e w1 ⟨rfl, hk⟩
    replace hk := Lib.hid hk
    go_wp2
    go_ret
    exact ⟨rfl, hk.out⟩
def printL (n : Int) (b : Nat) : List UInt8 := (if n < 0 then [45] else []) ++ digitsL b n.natAbs
set_option maxRecDepth 100000 in
theorem fi_walk (n : Int) (hn : -9223372036854775808 ≤ n ∧ n ≤ 9223372036854775807) (b : Nat) (h2 : 2 ≤ b) (h36 : b ≤ 36) (w : World) (hP : Pows w) (hB : Bruijn w) :
    Calls Tryd.prog 23 #[.int .i64 n, .int .i64 (b : Int)] w (Fresh' (.string ⟨(printL n b).toArray⟩) w) := by
  by_cases h10 : b = 10
  · subst h10
    have e : printL n 10 = itoa n := by
      unfold printL itoa
      by_cases h : n < 0
      · rw [if_pos h, if_pos h, digitsL_10]; rfl
      · rw [if_neg h, if_neg h, digitsL_10, show n.natAbs = n.toNat by omega]; rfl
    rw [e]
    refine (Tryd.internal_strconv_FormatInt_10 n hn.1 hn.2 w hP).mono ?_
    rintro e w' ⟨rfl, k, os, rfl⟩
    exact ⟨rfl, grow_kept' w k os⟩
  · have hun : IntKind.u64.wrap n = (((n % 18446744073709551616).toNat : Nat) : Int) := by rw [IntKind.wrap_u64]; omega
    have hu : (decide (n < 0) = false ∧ n.natAbs = (n % 18446744073709551616).toNat) ∨ (decide (n < 0) = true ∧ IntKind.u64.wrap (-(((n % 18446744073709551616).toNat : Nat) : Int)) = (n.natAbs : Int)) := by
      by_cases h : n < 0
      · exact .inr ⟨by simpa using h, by rw [IntKind.wrap_u64]; omega⟩
      · exact .inl ⟨by simpa using h, by omega⟩
    have hf : Calls Tryd.prog 41 #[.slice none 0 0, .int .u64 (((n % 18446744073709551616).toNat : Nat) : Int), .int .i64 (b : Int), .bool (decide (n < 0)), .bool false] w (Fresh' (.tuple #[.slice none 0 0, .string ⟨((if decide (n < 0) = true then [45] else []) ++ digitsL b n.natAbs).toArray⟩]) w) := by
      cases hp : isP2 b
      · exact fmt_gen _ _ b _ hu (by omega) h2 h36 h10 hp w
      · exact fmt_p2 _ _ b _ hu (by omega) h2 h36 h10 hp w hB
    have e : (if decide (n < 0) = true then [45] else []) ++ digitsL b n.natAbs = printL n b := by unfold printL; simp
    rw [e, ← hun] at hf
    have h10b : ((b : Int) == 10) = false := by rw [beq_eq_false_iff_ne]; omega
    generalize printL n b = R at *
    replace hf := Lib.hid hf
    clear hP hB h10 hun hu e
    go_enter Tryd.func23, Tryd.ntmps23
    go_wp2_with fail
    refine hf.out.mono ?_
    rintro e w1 ⟨rfl, hk⟩
    replace hk := Lib.hid hk
    go_wp2
    go_ret
    exact ⟨rfl, hk.out⟩
theorem sfu_walk (u : Nat) (hu64 : u < 18446744073709551616) (b : Nat) (h2 : 2 ≤ b) (h36 : b ≤ 36) (w : World) (hP : Pows w) (hB : Bruijn w) :
    Calls Tryd.prog 16 #[.int .u64 (u : Int), .int .i64 (b : Int)] w (Fresh' (.string ⟨(digitsL b u).toArray⟩) w) := by
  have hf := fu_walk u hu64 b h2 h36 w hP hB
  generalize digitsL b u = R at *
  replace hf := Lib.hid hf
  clear hP hB
  go_enter Tryd.func16, Tryd.ntmps16
  go_wp2_with fail
  refine hf.out.mono ?_
  rintro e w1 ⟨rfl, hk⟩
  replace hk := Lib.hid hk
  go_wp2
  go_ret
  exact ⟨rfl, hk.out⟩
theorem sfi_walk (n : Int) (hn : -9223372036854775808 ≤ n ∧ n ≤ 9223372036854775807) (b : Nat) (h2 : 2 ≤ b) (h36 : b ≤ 36) (w : World) (hP : Pows w) (hB : Bruijn w) :
    Calls Tryd.prog 11 #[.int .i64 n, .int .i64 (b : Int)] w (Fresh' (.string ⟨(printL n b).toArray⟩) w) := by
  have hf := fi_walk n hn b h2 h36 w hP hB
  generalize printL n b = R at *
  replace hf := Lib.hid hf
  clear hP hB
  go_enter Tryd.func11, Tryd.ntmps11
  go_wp2_with fail
  refine hf.out.mono ?_
  rintro e w1 ⟨rfl, hk⟩
  replace hk := Lib.hid hk
  go_wp2
  go_ret
  exact ⟨rfl, hk.out⟩
theorem printL_up (n : Int) {b : Nat} (h2 : 2 ≤ b) (h36 : b ≤ 36) : Lib.toUpperA (printL n b) = printB n b := by
  have h := digitsL_up h2 h36 n.natAbs
  unfold printL printB Lib.toUpperA at *
  by_cases hn : n < 0
  · rw [if_pos hn, if_neg (by omega), List.map_append, h]; rfl
  · rw [if_neg hn, if_pos (by omega), List.map_append, h, show n.natAbs = n.toNat by omega]; rfl
theorem printL_low (n : Int) {b : Nat} (h2 : 2 ≤ b) (h36 : b ≤ 36) : ∀ c ∈ printL n b, c.toNat < 128 := by
  intro c hc
  unfold printL at hc
  rcases List.mem_append.1 hc with hc | hc
  · split at hc
    · simp at hc; subst hc; decide
    · simp at hc
  · exact digitsL_low h2 h36 _ c hc
theorem upper_ascii (l : List UInt8) (hl : l.length ≤ 100) (h : ∀ c ∈ l, c.toNat < 128) (w : World) : Calls Tryd.prog 10 #[.string ⟨l.toArray⟩] w (Fresh' (.string ⟨(Lib.toUpperA l).toArray⟩) w) := by
  refine (Tryd.strings_ToUpper_ascii ⟨l.toArray⟩ w (by simp [ByteArray.size]; omega) (fun j b hb => h b (List.mem_of_getElem? hb))).mono ?_
  rintro e w' ⟨rfl, hb⟩
  exact ⟨rfl, ⟨hb.os, hb.tape, hb.output, hb.size, fun k hk _ => hb.block k hk⟩⟩
def printS (n b : Int) : List UInt8 := if 2 ≤ b ∧ b ≤ 36 then printB n b.toNat else [63]
def unsignedS (n b : Int) : List UInt8 := if 2 ≤ b ∧ b ≤ 36 then unsignedB n b.toNat else [63]
theorem print_walk (n : Int) (hn : -9223372036854775808 ≤ n ∧ n ≤ 9223372036854775807) (b : Int) (w : World) (hP : Pows w) (hB : Bruijn w) :
    Calls Tryd.prog 5 #[.int .i64 n, .int .i64 b] w (Fresh' (.string ⟨(printS n b).toArray⟩) w) := by
  have hbw := base_walk b w
  by_cases hb : 2 ≤ b ∧ b ≤ 36
  · have e : (decide (2 ≤ b) && decide (b ≤ 36)) = true := by simp; omega
    rw [e] at hbw
    have hS : printS n b = printB n b.toNat := by unfold printS; rw [if_pos hb]
    have hf := sfi_walk n hn b.toNat (by omega) (by omega) w hP hB
    have hup := fun w => upper_ascii (printL n b.toNat) (by have := print_len (b := b.toNat) (by omega) hn; rw [← printL_up n (b := b.toNat) (by omega) (by omega)] at this; unfold Lib.toUpperA at this; rw [List.length_map] at this; omega) (printL_low n (by omega) (by omega)) w
    rw [printL_up n (by omega) (by omega), ← hS] at hup
    rw [Int.toNat_of_nonneg (by omega)] at hf
    generalize printS n b = R at *
    generalize printL n b.toNat = R' at *
    replace hbw := Lib.hid hbw
    replace hf := Lib.hid hf
    replace hup := Lib.hid hup
    clear e hS hP hB hb
    go_enter Tryd.func5, Tryd.ntmps5
    go_wp2_with (first
      | (go_at_call 9; refine hbw.out.mono ?_; rintro e w1 ⟨rfl, rfl⟩)
      | (go_at_call 11; refine hf.out.mono ?_; rintro e w2 ⟨rfl, hk2⟩)
      | (go_at_call 10; refine (hup.out _).mono ?_; rintro e w3 ⟨rfl, hk3⟩))
    go_ret
    exact ⟨rfl, hk2.trans hk3⟩
  · have e : (decide (2 ≤ b) && decide (b ≤ 36)) = false := by simp; omega
    rw [e] at hbw
    have hS : printS n b = [63] := by unfold printS; rw [if_neg hb]
    rw [hS]
    replace hbw := Lib.hid hbw
    go_enter Tryd.func5, Tryd.ntmps5
    go_wp2_with (go_at_call 9; refine hbw.out.mono ?_; rintro e w1 ⟨rfl, rfl⟩)
    go_ret
    exact ⟨rfl, Kept.refl _ _⟩
theorem unsigned_walk (n : Int) (b : Int) (w : World) (hP : Pows w) (hB : Bruijn w) :
    Calls Tryd.prog 8 #[.int .i64 n, .int .i64 b] w (Fresh' (.string ⟨(unsignedS n b).toArray⟩) w) := by
  have hbw := base_walk b w
  by_cases hb : 2 ≤ b ∧ b ≤ 36
  · have e : (decide (2 ≤ b) && decide (b ≤ 36)) = true := by simp; omega
    rw [e] at hbw
    have hu64 : unsig n < 18446744073709551616 := by unfold unsig; omega
    have hun : IntKind.u64.wrap n = ((unsig n : Nat) : Int) := by rw [IntKind.wrap_u64]; unfold unsig; omega
    have hS : unsignedS n b = digitsU b.toNat (unsig n) := by unfold unsignedS unsignedB; rw [if_pos hb]
    have hf := sfu_walk (unsig n) hu64 b.toNat (by omega) (by omega) w hP hB
    have hup := fun w => upper_ascii (digitsL b.toNat (unsig n)) (by rw [digitsL_len]; have := digitsU_64 (b := b.toNat) (by omega) hu64; omega) (digitsL_low (by omega) (by omega) _) w
    rw [digitsL_up (by omega) (by omega), ← hS] at hup
    rw [Int.toNat_of_nonneg (by omega), ← hun] at hf
    generalize unsignedS n b = R at *
    generalize digitsL b.toNat (unsig n) = R' at *
    replace hbw := Lib.hid hbw
    replace hf := Lib.hid hf
    replace hup := Lib.hid hup
    clear e hS hP hB hb hun hu64
    go_enter Tryd.func8, Tryd.ntmps8
    go_wp2_with (first
      | (go_at_call 9; refine hbw.out.mono ?_; rintro e w1 ⟨rfl, rfl⟩)
      | (go_at_call 16; refine hf.out.mono ?_; rintro e w2 ⟨rfl, hk2⟩)
      | (go_at_call 10; refine (hup.out _).mono ?_; rintro e w3 ⟨rfl, hk3⟩))
    go_ret
    exact ⟨rfl, hk2.trans hk3⟩
  · have e : (decide (2 ≤ b) && decide (b ≤ 36)) = false := by simp; omega
    rw [e] at hbw
    have hS : unsignedS n b = [63] := by unfold unsignedS; rw [if_neg hb]
    rw [hS]
    replace hbw := Lib.hid hbw
    go_enter Tryd.func8, Tryd.ntmps8
    go_wp2_with (go_at_call 9; refine hbw.out.mono ?_; rintro e w1 ⟨rfl, rfl⟩)
    go_ret
    exact ⟨rfl, Kept.refl _ _⟩
end Go.Proofs.YtanpbphgmnjdeabDoor
