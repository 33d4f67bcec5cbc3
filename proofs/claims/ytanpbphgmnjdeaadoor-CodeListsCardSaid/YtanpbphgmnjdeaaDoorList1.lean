/- Chapter 7: an instruction's line, as the program writes it. Conditions: the table of powers lies as its initialiser lays it; as written. -/
import Derived.Test.YtanpbphgmnjdeaaDoorListSpec
import Derived.Test.YtanpbphgmnjdeaaDoorRowB
import Derived.Test.YtanpbphgmnjdeaaDoorShelf
import Derived.Deep.RegionWith
import Derived.Deep.DeepCutAuto
import Derived.Deep.DrawnRows
import Derived.Lib.AppendIntMem
namespace Go.Proofs.YtanpbphgmnjdeaaDoor
set_option linter.unusedVariables false
open Go.RowKit Go.Lib Go.Deep Go.Shelf
attribute [local go_sem ↓] Go.wp_at_zero Go.wp_at_succ

/-- the table of powers of ten -/
def Pow (w : World) : Prop := Lib.TabIs Tryd.prog w "internal/strconv.uint64pow10" .u64 Lib.pow10Tab
theorem Pow.below {w w' : World} (h : Pow w) (hb : Below w.heap.size w w') : Pow w' := (tabBelow_of_tabIs h) w' hb
theorem Pow.kept {w w' : World} (h : Pow w) (hk : Kept Nob w w') : Pow w' := h.below hk.below0
theorem Pow.at_ {w0 w : World} {L : List Asr} (h : Pow w0) (hA : At w0 w L) : Pow w := h.below hA.below
theorem NamesAt.below {w w' : World} (h : NamesAt w) (hb : Below w.heap.size w w') : NamesAt w' := fun i hi => (hb.cell (World.block_lt_of_cell? w _ (h i hi))).trans (h i hi)
theorem NamesAt.at_ {w0 w : World} {L : List Asr} (h : NamesAt w0) (hA : At w0 w L) : NamesAt w := h.below hA.below
theorem grow_kept (w : World) (k : Nat) (os : Array Obj) : Kept Nob w (Go.Sort.grow (w.drewN k) os) :=
  ⟨rfl, rfl, rfl, size_grow w k os, fun j hj _ => heap_grow_old w k os j hj⟩
def i64r (n : Int) : Prop := -9223372036854775808 ≤ n ∧ n ≤ 9223372036854775807
theorem itoa_fresh (n : Int) (hn : i64r n) (w : World) (hP : Pow w) : Calls Tryd.prog 89 #[.int .i64 n] w (Fresh (.string ⟨(itoa n).toArray⟩) w) := by
  refine (Tryd.strconv_Itoa n hn.1 hn.2 w hP).mono ?_
  rintro e w' ⟨rfl, k, os, rfl⟩
  exact ⟨rfl, grow_kept w k os⟩
theorem itoa_len (n : Int) (hn : i64r n) : (itoa n).length ≤ 65 := by
  rw [← printB_10]
  unfold printB
  split
  · have := digitsU_64 (b := 10) (by omega) (show n.toNat < 18446744073709551616 by unfold i64r at hn; omega); omega
  · have := digitsU_64 (b := 10) (by omega) (show n.natAbs < 18446744073709551616 by unfold i64r at hn; omega); simp; omega
theorem strOf_size (l : List UInt8) : (strOf l).size = l.length := by simp [strOf, ByteArray.size]
theorem strOf_app (l m : List UInt8) : strOf l ++ strOf m = strOf (l ++ m) := by
  unfold strOf
  apply ba_ext
  simp
theorem strOf_data (s : ByteArray) : strOf s.data.toList = s := by unfold strOf; apply ba_ext; simp
theorem text_size {S : Img} {m a n : Int} (hS : S.Ok) (h : S.textF m a n = 0) : (S.text m a n).size ≤ 143360 := by
  unfold Img.text
  rw [if_pos h]
  have := hS.small
  have := hS.len
  simp [ByteArray.size, Img.bytes]
  omega
/-- what an instruction must be for its line -/
structure LineOk (S : Img) (m a : Int) (i : Inst) : Prop where
  at_ : -9223372036854775808 ≤ a ∧ a ≤ 9000000000000000000
  arg : i64r i.arg
  lit : i64r i.lit
  text : i.op = 19 → 0 ≤ i.arg ∧ S.textF m (a + 8) i.arg = 0
theorem tail_lit {S : Img} {m a : Int} {i : Inst} (h : i.op = 2) : S.tailL m a i = 32 :: itoa i.lit := by unfold Img.tailL; rw [if_pos h]
theorem tail_text0 {S : Img} {m a : Int} {i : Inst} (h : i.op = 19) (h0 : ¬ 0 < i.arg) : S.tailL m a i = 32 :: itoa i.arg := by unfold Img.tailL; rw [if_neg (by omega), if_pos h, if_neg h0]; simp
theorem tail_text {S : Img} {m a : Int} {i : Inst} (h : i.op = 19) (h0 : 0 < i.arg) : S.tailL m a i = (32 :: itoa i.arg) ++ 32 :: hexB (S.text m (a + 8) i.arg).data.toList := by unfold Img.tailL; rw [if_neg (by omega), if_pos h, if_pos h0]
theorem tail_arg {S : Img} {m a : Int} {i : Inst} (h : i.op ≠ 2) (h1 : i.op ≠ 19) (h0 : Code.form i.op ≠ 0) : S.tailL m a i = 32 :: itoa i.arg := by unfold Img.tailL; rw [if_neg h, if_neg h1, if_neg h0]
theorem tail_none {S : Img} {m a : Int} {i : Inst} (h : i.op ≠ 2) (h1 : i.op ≠ 19) (h0 : Code.form i.op = 0) : S.tailL m a i = [] := by unfold Img.tailL; rw [if_neg h, if_neg h1, if_pos h0]
theorem idx_u8 (s : ByteArray) (i : Nat) (hi : i < s.size) (w : World) : (Instr.index 9 (.string s) (.int .u8 (i : Int))).run Tryd.prog w = .ok (.int .u8 ((s.data.toList.getD i 0).toNat : Int)) w := by
  rw [run_index_string w _ s .u8 (i : Int) Tryd.underlying9, dif_pos ⟨by omega, by omega⟩]
  have h2 : i < s.data.toList.length := by rw [← Lib.size_eq]; exact hi
  congr 4
  rw [List.getD_eq_getElem?_getD, List.getElem?_eq_getElem h2]
  rfl
theorem hex_at : ∀ k : Fin 16, ((⟨#[48, 49, 50, 51, 52, 53, 54, 55, 56, 57, 97, 98, 99, 100, 101, 102]⟩ : ByteArray).data.toList.getD k.val 0) = hexC k.val := by decide +kernel
theorem hex_idx (k : Nat) (hk : k < 16) (w : World) : (Instr.index 9 (.string ⟨#[48, 49, 50, 51, 52, 53, 54, 55, 56, 57, 97, 98, 99, 100, 101, 102]⟩) (.int .u8 (k : Int))).run Tryd.prog w = .ok (.int .u8 ((hexC k).toNat : Int)) w := by
  rw [idx_u8 ⟨#[48, 49, 50, 51, 52, 53, 54, 55, 56, 57, 97, 98, 99, 100, 101, 102]⟩ k hk w, hex_at ⟨k, hk⟩]
theorem hex_snoc (l : List UInt8) (j : Nat) (hj : j < l.length) : hexB (l.take (j + 1)) = hexB (l.take j) ++ [hexC ((l.getD j 0).toNat / 16), hexC ((l.getD j 0).toNat % 16)] := by
  rw [List.take_succ_eq_append_getElem hj]
  unfold hexB
  rw [List.flatMap_append]
  simp [List.getD, hj]
theorem info_u8 : (Tryd.prog.info? 5).map (fun i => (i.zero, i.size, i.bytes)) = some (some (.int .u8 0), 1, 1) := by kernel_rfl
theorem u8_and15 (c : UInt8) : bits BinOp.and IntKind.u8 (c.toNat : Int) 15 = (c.toNat : Int) % 16 := by
  have h15 : (BitVec.ofInt 8 15).toNat = 2 ^ 4 - 1 := by decide
  have key : (BitVec.ofInt 8 (c.toNat : Int) &&& BitVec.ofInt 8 15).toNat = ((c.toNat : Int) % ((2 ^ 8 : Nat) : Int)).toNat % 2 ^ 4 := by
    rw [BitVec.toNat_and, BitVec.toNat_ofInt, h15, Nat.and_two_pow_sub_one_eq_mod]
  have hc := c.toNat_lt
  show IntKind.u8.wrap ((BitVec.ofInt 8 (c.toNat : Int) &&& BitVec.ofInt 8 15).toNat : Nat) = (c.toNat : Int) % 16
  rw [key, IntKind.wrap_u8]
  omega
theorem bytes_eq {a : ByteArray} {l : List UInt8} (h : a.data.toList = l) : a = strOf l := by unfold strOf; apply ba_ext; simpa using h
section
variable {w0 w : World} {g : Nat} {S : Img} {L : List Asr}
set_option maxRecDepth 100000 in
set_option maxHeartbeats 4000000 in
theorem line_walk (h : At w0 w (ImgA g S :: L)) (m a : Int) (i : Inst) (hN : NamesAt w0) (hP : Pow w0) (hS : S.Ok) (hL : LineOk S m a i) :
    Calls Tryd.prog 66 #[.pointer (some ⟨g, 0, none⟩), .int .i64 m, .int .i64 a, i.v] w (Got1 (.string (strOf (S.lineL m a i))) (ImgA g S) w0 L) := by
  have hX := h.box i.c 40
  obtain ⟨⟨c0, c1, c2, c3⟩, f0, f1, f2, f3⟩ := box4 hX.blk
  have hNa := hN.at_ hX
  have hPa := hP.at_ hX
  obtain ⟨ha1, ha2⟩ := hL.at_
  have ha : i64r a := ⟨ha1, by omega⟩
  have hlen := itoa_len a ha
  have hnl := Code.nameOf_small i.op
  have k1 := fun w (hP : Pow w) => itoa_fresh a ha w hP
  have k2 := fun w (hN : NamesAt w) => name_any i.op w hN
  have hline : S.lineL m a i = itoa a ++ 32 :: (Code.nameOf i.op).data.toList ++ S.tailL m a i ++ [10] := rfl
  rw [hline]
  clear hline
  generalize itoa a = A at *
  generalize Code.nameOf i.op = nm at *
  replace hL := Lib.hid hL
  obtain ⟨op, arg, lit, cells⟩ := i
  simp only [Inst.v, Inst.c] at *
  replace hX := Lib.hid hX
  replace hNa := Lib.hid hNa
  replace hPa := Lib.hid hPa
  replace k1 := Lib.hid k1
  replace k2 := Lib.hid k2
  replace hP := Lib.hid hP
  clear h hN
  go_enter Tryd.func66, Tryd.ntmps66
  go_upto_region 1 with fail
  generalize w.alloc _ = wb at *
  generalize w.heap.size = b at *
  have c0d : wb.drew.cell? ⟨b, 0, none⟩ = some (.int .i64 op) := c0
  go_cut [9] (fun s9 wx => s9 = .string (⟨A.toArray⟩ ++ ⟨#[32]⟩ ++ nm) ∧ At w0 wx (BlkA b 40 #[.int .i64 op, .int .i64 arg, .int .i64 lit, .int .i64 cells] :: ImgA g S :: L))
  case first =>
    go_region_with (first
      | (go_at_call 89; refine (k1.out _ (by exact hPa.out)).mono ?_; rintro e w1 ⟨rfl, hk1⟩; have c0' := hk1.cell c0d (fun h => h))
      | (go_at_call 22; refine (k2.out _ (by first | exact hNa.out | exact NamesAt.below (w := wb.drew) hNa.out hk1.below0)).mono ?_; rintro e w2 ⟨rfl, rfl⟩))
    all_goals
      have hA1 := hX.out.drew.keptNob hk1
      go_wp2_with fail
      go_meet
      exact ⟨rfl, by first | exact hA1 | exact hA1.drew⟩
  case rest =>
    obtain ⟨rfl, hA⟩ := hcut
    clear c0 c1 c2 c3 f0 f1 f2 f3 c0d hX hPa hNa k1 k2
    obtain ⟨⟨c0, c1, c2, c3⟩, f0, f1, f2, f3⟩ := box4 (i := ⟨op, arg, lit, cells⟩) hA.blk
    have hP1 := Lib.hid (hP.out.at_ hA)
    replace hA := Lib.hid hA
    simp only at c0 c1 c2 c3
    by_cases h2 : op = 2
    · have hlen2 := itoa_len lit hL.out.lit
      have k3 := fun w (hP : Pow w) => itoa_fresh lit hL.out.lit w hP
      have hfin : (⟨A.toArray⟩ : ByteArray) ++ ⟨#[32]⟩ ++ nm ++ (⟨#[32]⟩ ++ ⟨(itoa lit).toArray⟩) ++ ⟨#[10]⟩ = strOf (A ++ 32 :: nm.data.toList ++ S.tailL m a ⟨op, arg, lit, cells⟩ ++ [10]) := by
        rw [tail_lit h2]; apply bytes_eq; simp
      generalize itoa lit = B at *
      generalize S.tailL m a _ = TL at *
      replace hfin := Lib.hid hfin
      replace k3 := Lib.hid k3
      have h2b : (op == 2) = true := by simpa using h2
      have h19b : (op == 19) = false := by rw [h2]; rfl
      clear h2
      go_wp2_with (first
        | (go_at_call 89; refine (k3.out _ (by exact hP1.out)).mono ?_; rintro e w4 ⟨rfl, hk4⟩; have hc4 := hk4.cell c0 (fun h => h); have hd4 := hk4.cell c1 (fun h => h); have hA4 := Lib.hid (At.keptNob hA.out hk4).tail; clear hk4))
      go_ret
      exact ⟨by rw [← hfin.out]; rfl, hA4.out⟩
    have h2b : (op == 2) = false := by simpa using h2
    by_cases hf : Code.form op = 0
    · have h19 : op ≠ 19 := by rintro rfl; revert hf; decide
      have hfin : (⟨A.toArray⟩ : ByteArray) ++ ⟨#[32]⟩ ++ nm ++ ⟨#[10]⟩ = strOf (A ++ 32 :: nm.data.toList ++ S.tailL m a ⟨op, arg, lit, cells⟩ ++ [10]) := by
        rw [tail_none h2 h19 hf]; apply bytes_eq; simp
      generalize S.tailL m a _ = TL at *
      replace hfin := Lib.hid hfin
      have h19b : (op == 19) = false := by simpa using h19
      have hfb : (Code.form op != 0) = false := by simpa using hf
      clear h2 hf h19
      go_wp2_with (go_at_call 77; refine (form_walk op _).mono ?_; rintro e w3 ⟨rfl, rfl⟩)
      go_ret
      exact ⟨by rw [← hfin.out]; rfl, hA.out.tail⟩
    have hfb : (Code.form op != 0) = true := by simpa using hf
    have hlen2 := itoa_len arg hL.out.arg
    have k3 := fun w (hP : Pow w) => itoa_fresh arg hL.out.arg w hP
    by_cases ht : op = 19 ∧ 0 < arg
    · obtain ⟨h19, h0⟩ := ht
      have htx := (hL.out.text h19).2
      have hTs := text_size hS htx
      have hT := fun (w : World) (L' : List Asr) (hA : At w0 w (ImgA g S :: L')) => a_text hA m (a + 8) arg hL.out.arg.2
      rw [htx] at hT
      have hfin : ((⟨A.toArray⟩ : ByteArray) ++ ⟨#[32]⟩ ++ nm ++ (⟨#[32]⟩ ++ ⟨(itoa arg).toArray⟩) ++ ⟨#[32]⟩).data.toList ++ hexB (S.text m (a + 8) arg).data.toList ++ [10] = A ++ 32 :: nm.data.toList ++ S.tailL m a ⟨op, arg, lit, cells⟩ ++ [10] := by
        rw [tail_text h19 h0]; simp
      generalize itoa arg = B at *
      generalize S.tailL m a _ = TL at *
      generalize S.text m (a + 8) arg = T at *
      replace hfin := Lib.hid hfin
      replace k3 := Lib.hid k3
      replace hT := Lib.hid hT
      have h19b : (op == 19) = true := by simpa using h19
      have h0b : decide (0 < arg) = true := by simpa using h0
      clear h2 hf h19 htx
      have hcv := fun w => Lib.run_convert_string_bytes (P := Tryd.prog) w 9 76 5 (⟨A.toArray⟩ ++ ⟨#[32]⟩ ++ nm ++ (⟨#[32]⟩ ++ ⟨B.toArray⟩) ++ ⟨#[32]⟩) Tryd.underlying9 Tryd.underlying76 Tryd.underlying5
      go_wp2_with (first
        | (go_at_call 77; refine (form_walk op _).mono ?_; rintro e w3 ⟨rfl, rfl⟩)
        | (go_at_call 89; refine (k3.out _ (by exact hP1.out)).mono ?_; rintro e w4 ⟨rfl, hk4⟩; have hc4 := hk4.cell c0 (fun h => h); have hd4 := hk4.cell c1 (fun h => h); have hA4 := Lib.hid (At.keptNob hA.out hk4).tail; clear hk4)
        | (go_at_call 61; refine (hT.out _ _ hA4.out).mono ?_; rintro e w5 ⟨rfl, rfl⟩))
      have hXs : ((⟨A.toArray⟩ : ByteArray) ++ ⟨#[32]⟩ ++ nm ++ (⟨#[32]⟩ ++ ⟨B.toArray⟩) ++ ⟨#[32]⟩).size = A.length + 1 + nm.size + (1 + B.length) + 1 := by
        simp [ByteArray.size_append]; rfl
      have hA5 := hA4.out.bytes 5 (⟨A.toArray⟩ ++ ⟨#[32]⟩ ++ nm ++ (⟨#[32]⟩ ++ ⟨B.toArray⟩) ++ ⟨#[32]⟩) (by rw [hXs]; unfold maxLen; omega)
      rw [hXs] at hA5
      have hXl : (((⟨A.toArray⟩ : ByteArray) ++ ⟨#[32]⟩ ++ nm ++ (⟨#[32]⟩ ++ ⟨B.toArray⟩) ++ ⟨#[32]⟩).data.toList).length = A.length + 1 + nm.size + (1 + B.length) + 1 := by rw [← hXs, Array.length_toList]; rfl
      generalize ((⟨A.toArray⟩ : ByteArray) ++ ⟨#[32]⟩ ++ nm ++ (⟨#[32]⟩ ++ ⟨B.toArray⟩) ++ ⟨#[32]⟩).data.toList = X at *
      replace hA5 := Lib.hid hA5
      replace hXl := Lib.hid hXl
      clear hcv hXs c0 c1 c2 c3 f0 f1 f2 f3 hc4 hd4 hA hA4 hP1 k3 hT hP
      go_loopw [12, 65] (fun v i wr => ∃ j : Nat, j ≤ T.size ∧ i = .int .i64 j ∧ At w0 wr (RowA 5 v (X ++ hexB (T.data.toList.take j)) :: ImgA g S :: L)) (fun _ i _ => T.size - (RowKit.intOf i).toNat)
      case atStart => exact ⟨0, by omega, rfl, by simpa [hexB] using hA5.out⟩
      case round =>
        obtain ⟨j, hj, rfl, hR⟩ := hrel
        rename World => wr
        clear hA5
        have hrow := hR.row
        replace hR := Lib.hid hR
        by_cases hlt : j < T.size
        · have hix := fun w => idx_str T j hlt w
          have hsn := hex_snoc T.data.toList j (by rw [Array.length_toList]; exact hlt)
          generalize T.data.toList.getD j 0 = c at *
          have hc := c.toNat_lt
          have hq : ((c.toNat : Int) / 16) = ((c.toNat / 16 : Nat) : Int) := by omega
          have hr : ((c.toNat : Int) % 16) = ((c.toNat % 16 : Nat) : Int) := by omega
          have hx1 := fun w => hex_idx (c.toNat / 16) (by omega) w
          have hx2 := fun w => hex_idx (c.toNat % 16) (by omega) w
          rw [← hq] at hx1
          rw [← hr] at hx2
          have hbt := u8_and15 c
          generalize hexC (c.toNat / 16) = d1 at *
          generalize hexC (c.toNat % 16) = d2 at *
          clear hq hr
          replace hsn := Lib.hid hsn
          go_wp2_with fail
          have hbound : (X ++ hexB (T.data.toList.take j)).length + 2 ≤ 140737488355328 := by
            rw [List.length_append, hexB_len, hXl.out, List.length_take]; omega
          replace hbound := Lib.hid hbound
          obtain ⟨i0, hi, hz0, hz1, hz2⟩ := info_parts info_u8
          replace hi := Lib.hid hi
          replace hz0 := Lib.hid hz0
          replace hz1 := Lib.hid hz1
          replace hz2 := Lib.hid hz2
          go_region_law ((refine step_append_rowB rfl (.tmp 68) (.tmp 79) 76 rfl 5 i0 Tryd.underlying76 hi.out hz0.out hz1.out hz2.out _ _ (by rfl) (by exact (hrow.alloc _).drew) wr.heap.size 2 [d1, d2] (by rfl) (by exact Blk.new wr _ _) (by simp) hbound.out ?_; intro v' w1 hG))
          all_goals
            have hA6 := ((hR.out.alloc (.cells #[.int .u8 (d1.toNat : Int), .int .u8 (d2.toNat : Int)] 5)).drew).grew hG
            rw [List.append_assoc, ← hsn.out] at hA6
            replace hA6 := Lib.hid hA6
            clear hsn hG hrow hix hx1 hx2 hbt
            go_wp2
            go_roundw
            case rel => exact ⟨j + 1, by omega, by go_num, hA6.out⟩
            case measure => simp [RowKit.intOf]; omega
        · have hall : T.data.toList.take j = T.data.toList := List.take_of_length_le (by rw [Array.length_toList]; have : T.data.size = T.size := rfl; omega)
          rw [hall] at hrow
          have hcv := hrow.to_string (P := Tryd.prog) 76 9 Tryd.underlying76 Tryd.underlying5 Tryd.underlying9
          have hYl : (X ++ hexB T.data.toList).length ≤ 35184372490000 := by
            have hTl : T.data.toList.length = T.size := by rw [Array.length_toList]; rfl
            rw [List.length_append, hexB_len, hXl.out, hTl]; omega
          have hfin2 : (⟨(X ++ hexB T.data.toList).toArray⟩ : ByteArray) ++ ⟨#[10]⟩ = strOf (A ++ 32 :: nm.data.toList ++ TL ++ [10]) := by
            rw [← hfin.out]; apply bytes_eq; simp
          clear hrow hall
          generalize X ++ hexB T.data.toList = Y at *
          replace hfin2 := Lib.hid hfin2
          go_wp2
          go_ret
          exact ⟨by rw [← hfin2.out]; rfl, hR.out.tail⟩
    · have hfin : (⟨A.toArray⟩ : ByteArray) ++ ⟨#[32]⟩ ++ nm ++ (⟨#[32]⟩ ++ ⟨(itoa arg).toArray⟩) ++ ⟨#[10]⟩ = strOf (A ++ 32 :: nm.data.toList ++ S.tailL m a ⟨op, arg, lit, cells⟩ ++ [10]) := by
        by_cases h19 : op = 19
        · rw [tail_text0 h19 (fun h => ht ⟨h19, h⟩)]; apply bytes_eq; simp
        · rw [tail_arg h2 h19 hf]; apply bytes_eq; simp
      generalize itoa arg = B at *
      generalize S.tailL m a _ = TL at *
      replace hfin := Lib.hid hfin
      replace k3 := Lib.hid k3
      have hd : (op == 19) = false ∨ ((op == 19) = true ∧ decide (0 < arg) = false) := by
        by_cases h19 : op = 19
        · exact .inr ⟨by simpa using h19, by simpa using fun h => ht ⟨h19, h⟩⟩
        · exact .inl (by simpa using h19)
      clear h2 hf ht
      rcases hd with h19b | ⟨h19b, h0b⟩
      all_goals
        go_wp2_with (first
          | (go_at_call 77; refine (form_walk op _).mono ?_; rintro e w3 ⟨rfl, rfl⟩)
          | (go_at_call 89; refine (k3.out _ (by exact hP1.out)).mono ?_; rintro e w4 ⟨rfl, hk4⟩; have hc4 := hk4.cell c0 (fun h => h); have hd4 := hk4.cell c1 (fun h => h); have hA4 := Lib.hid (At.keptNob hA.out hk4).tail; clear hk4))
        go_ret
        exact ⟨by rw [← hfin.out]; rfl, hA4.out⟩
end
end Go.Proofs.YtanpbphgmnjdeaaDoor
