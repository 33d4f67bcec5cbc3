/- Chapter 7: an instruction's line, as the document writes it. Conditions: as written. -/
import Derived.Test.YtanpbphgmnjdeaaDoorList1
import Derived.Test.YtanpbphgmnjdeaaDoorRnum1
import Derived.Test.YtanpbphgmnjdeaaDoorFetch2
namespace Go.Proofs.YtanpbphgmnjdeaaDoor
set_option linter.unusedVariables false
open Go.RowKit Go.Lib Go.Deep Go.Shelf
attribute [local go_sem ↓] Go.wp_at_zero Go.wp_at_succ

theorem print10 (n : Int) (hn : i64r n) (w : World) : Calls Tryd.prog 40 #[.int .i64 n, .int .i64 10] w (Same (.string ⟨(itoa n).toArray⟩) w) := by
  have h := print_ref n hn 10 (by omega) (by omega) w
  rw [printB_10] at h
  exact h
theorem hexc_at : ∀ k : Fin 16, (⟨#[48, 49, 50, 51, 52, 53, 54, 55, 56, 57, 97, 98, 99, 100, 101, 102]⟩ : ByteArray).extract k.val (k.val + 1) = ⟨#[hexC k.val]⟩ := by decide +kernel
theorem At.ofBelow' {w0 w w' : World} {L : List Asr} (h : At w0 w L) (hb : Below w.heap.size w w') : At w0 w' L :=
  h.keptNob ⟨hb.os, hb.tape, hb.output, hb.size, fun k hk _ => hb.block k hk⟩
theorem text_exact {S : Img} {m a n : Int} (hS : S.Ok) (h0 : 0 ≤ n) (h : S.textF m a n = 0) : (S.text m a n).size = n.toNat := by
  unfold Img.text
  rw [if_pos h]
  have hlen := hS.len
  unfold Img.textF at h
  rw [if_neg (by omega)] at h
  split at h
  · rename_i h1
    by_cases hn : n.toNat = 0
    · simp [ByteArray.size, Img.bytes, hn]
    · have := S.row_in h1 hn
      simp [ByteArray.size, Img.bytes]
      omega
  · omega
theorem isEmpty_size (s : ByteArray) : s.toList.isEmpty = decide (s.size = 0) := by
  have h : s.toList = s.data.toList := ByteArray.toList_eq s
  have h2 : s.data.toList.length = s.size := by rw [Array.length_toList]; rfl
  rw [h, ← h2]
  cases s.data.toList <;> simp
section
variable {w0 w : World} {g : Nat} {S : Img} {L : List Asr}
set_option maxRecDepth 100000 in
set_option maxHeartbeats 4000000 in
theorem Line_walk (h : At w0 w (RimgA g S :: L)) (m a : Int) (i : Inst) (hS : S.Ok) (hL : LineOk S m a i) :
    Calls Tryd.prog 68 #[.pointer (some ⟨g, 0, none⟩), .int .i64 m, .int .i64 a, i.v] w (Got1 (.string (strOf (S.lineL m a i))) (RimgA g S) w0 L) := by
  have hX := h.box i.c 44
  obtain ⟨⟨c0, c1, c2, c3⟩, f0, f1, f2, f3⟩ := box4 hX.blk
  obtain ⟨ha1, ha2⟩ := hL.at_
  have ha : i64r a := ⟨ha1, by omega⟩
  have hlen := itoa_len a ha
  have hnl := Code.nameOf_small i.op
  have k1 := fun w => print10 a ha w
  have k2 := fun w => Name_any i.op w
  have hline : S.lineL m a i = itoa a ++ 32 :: (Code.nameOf i.op).data.toList ++ S.tailL m a i ++ [10] := rfl
  rw [hline]
  clear hline
  generalize itoa a = A at *
  generalize Code.nameOf i.op = nm at *
  replace hL := Lib.hid hL
  obtain ⟨op, arg, lit, cells⟩ := i
  simp only [Inst.v, Inst.c] at *
  replace hX := Lib.hid hX
  replace k1 := Lib.hid k1
  replace k2 := Lib.hid k2
  clear h
  go_enter Tryd.func68, Tryd.ntmps68
  go_upto_region 1 with fail
  generalize w.alloc _ = wb at *
  generalize w.heap.size = b at *
  have c0d : wb.drew.cell? ⟨b, 0, none⟩ = some (.int .i64 op) := c0
  go_cut [9] (fun s9 wx => s9 = .string (⟨A.toArray⟩ ++ ⟨#[32]⟩ ++ nm) ∧ At w0 wx (BlkA b 44 #[.int .i64 op, .int .i64 arg, .int .i64 lit, .int .i64 cells] :: RimgA g S :: L))
  case first =>
    go_region_with (first
      | (go_at_call 40; refine (k1.out _).mono ?_; rintro e w1 ⟨rfl, rfl⟩)
      | (go_at_call 23; refine (k2.out _).mono ?_; rintro e w2 ⟨rfl, hb2⟩; have hA1 := Lib.hid (hX.out.drew.ofBelow' hb2); clear hb2))
    all_goals
      go_wp2_with fail
      go_meet
      exact ⟨rfl, by first | exact hA1.out | exact hA1.out.drew⟩
  case rest =>
    obtain ⟨rfl, hA⟩ := hcut
    clear c0 c1 c2 c3 f0 f1 f2 f3 c0d hX k1 k2
    obtain ⟨⟨c0, c1, c2, c3⟩, f0, f1, f2, f3⟩ := box4 (i := ⟨op, arg, lit, cells⟩) hA.blk
    replace hA := Lib.hid hA
    simp only at c0 c1 c2 c3
    by_cases h2 : op = 2
    · have hlen2 := itoa_len lit hL.out.lit
      have k3 := fun w => print10 lit hL.out.lit w
      have hfin : (⟨A.toArray⟩ : ByteArray) ++ ⟨#[32]⟩ ++ nm ++ ⟨#[32]⟩ ++ ⟨(itoa lit).toArray⟩ ++ ⟨#[10]⟩ = strOf (A ++ 32 :: nm.data.toList ++ S.tailL m a ⟨op, arg, lit, cells⟩ ++ [10]) := by
        rw [tail_lit h2]; apply bytes_eq; simp
      generalize itoa lit = B at *
      generalize S.tailL m a _ = TL at *
      replace hfin := Lib.hid hfin
      replace k3 := Lib.hid k3
      have h2b : (op == 2) = true := by simpa using h2
      clear h2
      go_wp2_with (go_at_call 40; refine (k3.out _).mono ?_; rintro e w4 ⟨rfl, rfl⟩)
      go_ret
      exact ⟨by rw [← hfin.out]; rfl, hA.out.tail⟩
    have h2b : (op == 2) = false := by simpa using h2
    have hlen2 := itoa_len arg hL.out.arg
    have k3 := fun w => print10 arg hL.out.arg w
    by_cases h19 : op = 19
    · have htx := hL.out.text h19
      have hTs := text_size hS htx.2
      have hT := fun (w : World) (L' : List Asr) (hA : At w0 w (RimgA g S :: L')) => b_text hA m (a + 8) arg hL.out.arg.2
      rw [htx.2] at hT
      have hsize : (S.text m (a + 8) arg).size = arg.toNat := text_exact hS htx.1 htx.2
      have hfin : ((⟨A.toArray⟩ : ByteArray) ++ ⟨#[32]⟩ ++ nm ++ ⟨#[32]⟩ ++ ⟨(itoa arg).toArray⟩).data.toList ++ (if 0 < arg then 32 :: hexB (S.text m (a + 8) arg).data.toList else []) ++ [10] = A ++ 32 :: nm.data.toList ++ S.tailL m a ⟨op, arg, lit, cells⟩ ++ [10] := by
        by_cases h0 : 0 < arg
        · rw [tail_text h19 h0, if_pos h0]; simp
        · rw [tail_text0 h19 h0, if_neg h0]; simp
      generalize itoa arg = B at *
      generalize S.tailL m a _ = TL at *
      generalize S.text m (a + 8) arg = T at *
      replace hfin := Lib.hid hfin
      replace k3 := Lib.hid k3
      replace hT := Lib.hid hT
      subst h19
      clear h2 htx
      have hTe : (T.size = 0 ∧ ¬ 0 < arg) ∨ (T.size ≠ 0 ∧ 0 < arg) := by omega
      have hemp := isEmpty_size T
      have hpl : A.length + 1 + nm.size + 1 + B.length + 1 ≤ 35184372090000 := by omega
      rcases hTe with ⟨hz, h0⟩ | ⟨hz, h0⟩
      · rw [if_neg h0] at hfin
        have e1 : T.toList.isEmpty = true := by rw [hemp]; simpa using hz
        have e2 : (!T.toList.isEmpty) = false := by rw [e1]; rfl
        replace hfin := Lib.hid hfin
        clear hemp
        go_wp2_with (first
          | (go_at_call 40; refine (k3.out _).mono ?_; rintro e w4 ⟨rfl, rfl⟩)
          | (go_at_call 63; refine (hT.out _ _ hA.out.swap).mono ?_; rintro e w5 ⟨rfl, hA5⟩; replace hA5 := Lib.hid hA5))
        go_loopw [9, 12] (fun s i wr => s = .string ((⟨A.toArray⟩ : ByteArray) ++ ⟨#[32]⟩ ++ nm ++ ⟨#[32]⟩ ++ ⟨B.toArray⟩) ∧ i = .int .i64 0 ∧ At w0 wr (RimgA g S :: L)) (fun _ i _ => 0)
        case atStart => exact ⟨rfl, rfl, hA5.out.swap.tail⟩
        case round =>
          obtain ⟨rfl, rfl, hR⟩ := hrel
          replace hR := Lib.hid hR
          clear hA5 hA
          have hlt : decide ((0 : Int) < (T.size : Int)) = false := by rw [decide_eq_false_iff_not]; omega
          have hlt2 : decide (0 < T.size) = false := by rw [decide_eq_false_iff_not]; omega
          have hfin2 : (⟨A.toArray⟩ : ByteArray) ++ ⟨#[32]⟩ ++ nm ++ ⟨#[32]⟩ ++ ⟨B.toArray⟩ ++ ⟨#[10]⟩ = strOf (A ++ 32 :: nm.data.toList ++ TL ++ [10]) := by rw [← hfin.out]; apply bytes_eq; simp
          replace hfin2 := Lib.hid hfin2
          go_wp2
          go_ret
          exact ⟨by rw [← hfin2.out]; rfl, hR.out⟩
      · rw [if_pos h0] at hfin
        have e1 : T.toList.isEmpty = false := by rw [hemp]; simpa using hz
        have e2 : (!T.toList.isEmpty) = true := by rw [e1]; rfl
        clear hemp
        go_wp2_with (first
          | (go_at_call 40; refine (k3.out _).mono ?_; rintro e w4 ⟨rfl, rfl⟩)
          | (go_at_call 63; refine (hT.out _ _ hA.out.swap).mono ?_; rintro e w5 ⟨rfl, hA5⟩; replace hA5 := Lib.hid hA5))
        have hXs : ((⟨A.toArray⟩ : ByteArray) ++ ⟨#[32]⟩ ++ nm ++ ⟨#[32]⟩ ++ ⟨B.toArray⟩ ++ ⟨#[32]⟩).size = A.length + 1 + nm.size + 1 + B.length + 1 := by
          simp [ByteArray.size_append]; rfl
        obtain ⟨pre, hpre⟩ : ∃ pre : List UInt8, ((⟨A.toArray⟩ : ByteArray) ++ ⟨#[32]⟩ ++ nm ++ ⟨#[32]⟩ ++ ⟨B.toArray⟩ ++ ⟨#[32]⟩) = ⟨pre.toArray⟩ := ⟨_, (strOf_data _).symm⟩
        have hpreL : pre.length ≤ 35184372090000 := by
          rw [hpre] at hXs
          have : (⟨pre.toArray⟩ : ByteArray).size = pre.length := by simp [ByteArray.size]
          omega
        have hfin3 : pre ++ hexB T.data.toList ++ [10] = A ++ 32 :: nm.data.toList ++ TL ++ [10] := by
          have h9 : ((⟨A.toArray⟩ : ByteArray) ++ ⟨#[32]⟩ ++ nm ++ ⟨#[32]⟩ ++ ⟨B.toArray⟩ ++ ⟨#[32]⟩).data.toList = pre := by rw [hpre]
          rw [← hfin, ← h9]; simp
        replace hfin3 := Lib.hid hfin3
        replace hpre := Lib.hid hpre
        have hTl : T.data.toList.length = T.size := by rw [Array.length_toList]; rfl
        replace hTl := Lib.hid hTl
        clear hfin hXs
        go_loopw [9, 12] (fun s i wr => ∃ j : Nat, j ≤ T.size ∧ s = .string ⟨(pre ++ hexB (T.data.toList.take j)).toArray⟩ ∧ i = .int .i64 j ∧ At w0 wr (RimgA g S :: L)) (fun _ i _ => T.size - (RowKit.intOf i).toNat)
        case atStart => exact ⟨0, by omega, by rw [hpre.out]; simp [hexB], rfl, hA5.out.swap.tail⟩
        case round =>
          obtain ⟨j, hj, rfl, rfl, hR⟩ := hrel
          replace hR := Lib.hid hR
          clear hA5 hA
          have hal : (pre ++ hexB (T.data.toList.take j)).length ≤ 35184372590000 := by rw [List.length_append, hexB_len, List.length_take, hTl.out]; omega
          by_cases hlt : j < T.size
          · have hix := fun w => idx_str T j hlt w
            have hsn := hex_snoc T.data.toList j (by rw [hTl.out]; exact hlt)
            generalize T.data.toList.getD j 0 = c at *
            have hc := c.toNat_lt
            have hq : ((c.toNat : Int) / 16) = ((c.toNat / 16 : Nat) : Int) := by omega
            have hr : ((c.toNat : Int) % 16) = ((c.toNat % 16 : Nat) : Int) := by omega
            have hx1 := hexc_at ⟨c.toNat / 16, by omega⟩
            have hx2 := hexc_at ⟨c.toNat % 16, by omega⟩
            simp only at hx1 hx2
            have hq16 : c.toNat / 16 < 16 := by omega
            have hr16 : c.toNat % 16 < 16 := by omega
            have hnew : pre ++ hexB (T.data.toList.take (j + 1)) = (pre ++ hexB (T.data.toList.take j)) ++ [hexC (c.toNat / 16), hexC (c.toNat % 16)] := by rw [hsn]; simp
            replace hnew := Lib.hid hnew
            clear hsn
            generalize hexC (c.toNat / 16) = d1 at *
            generalize hexC (c.toNat % 16) = d2 at *
            generalize c.toNat / 16 = q1 at *
            generalize c.toNat % 16 = q2 at *
            generalize pre ++ hexB (T.data.toList.take j) = acc at *
            go_wp2_with fail
            go_quiet (fail)
            go_wp2
            go_roundw
            case rel => exact ⟨j + 1, by omega, by rw [hnew.out]; apply congrArg Value.string; apply ba_ext; simp, by go_num, by first | exact hR.out | exact hR.out.drewN _⟩
            case measure => simp [RowKit.intOf]; omega
          · have hall : T.data.toList.take j = T.data.toList := List.take_of_length_le (by rw [hTl.out]; omega)
            rw [hall] at hal
            rw [hall]
            have hfin2 : (⟨(pre ++ hexB T.data.toList).toArray⟩ : ByteArray) ++ ⟨#[10]⟩ = strOf (A ++ 32 :: nm.data.toList ++ TL ++ [10]) := by rw [← hfin3.out]; apply bytes_eq; simp
            clear hall
            generalize pre ++ hexB T.data.toList = acc at *
            replace hfin2 := Lib.hid hfin2
            go_wp2
            go_ret
            exact ⟨by rw [← hfin2.out]; rfl, hR.out⟩
    have h19b : (op == 19) = false := by simpa using h19
    by_cases hf : Code.form op = 0
    · have hfin : (⟨A.toArray⟩ : ByteArray) ++ ⟨#[32]⟩ ++ nm ++ ⟨#[10]⟩ = strOf (A ++ 32 :: nm.data.toList ++ S.tailL m a ⟨op, arg, lit, cells⟩ ++ [10]) := by
        rw [tail_none h2 h19 hf]; apply bytes_eq; simp
      generalize S.tailL m a _ = TL at *
      replace hfin := Lib.hid hfin
      have hfs := Code.form_iff op
      have q3 : (op == 3) = false := by rw [beq_eq_false_iff_ne]; omega
      have q4 : (op == 4) = false := by rw [beq_eq_false_iff_ne]; omega
      have q5 : (op == 5) = false := by rw [beq_eq_false_iff_ne]; omega
      have q7 : (op == 7) = false := by rw [beq_eq_false_iff_ne]; omega
      have q8 : (op == 8) = false := by rw [beq_eq_false_iff_ne]; omega
      have q9 : (op == 9) = false := by rw [beq_eq_false_iff_ne]; omega
      have q17 : (op == 17) = false := by rw [beq_eq_false_iff_ne]; omega
      have q20 : (op == 20) = false := by rw [beq_eq_false_iff_ne]; omega
      clear h2 hf h19 hfs k3
      go_wp2
      go_ret
      exact ⟨by rw [← hfin.out]; rfl, hA.out.tail⟩
    · have hfin : (⟨A.toArray⟩ : ByteArray) ++ ⟨#[32]⟩ ++ nm ++ ⟨#[32]⟩ ++ ⟨(itoa arg).toArray⟩ ++ ⟨#[10]⟩ = strOf (A ++ 32 :: nm.data.toList ++ S.tailL m a ⟨op, arg, lit, cells⟩ ++ [10]) := by
        rw [tail_arg h2 h19 hf]; apply bytes_eq; simp
      generalize itoa arg = B at *
      generalize S.tailL m a _ = TL at *
      replace hfin := Lib.hid hfin
      replace k3 := Lib.hid k3
      have hfs : op = 3 ∨ op = 4 ∨ op = 5 ∨ op = 7 ∨ op = 8 ∨ op = 9 ∨ op = 17 ∨ op = 20 := by have := Code.form_iff op; omega
      clear h2 hf h19
      rcases hfs with rfl | rfl | rfl | rfl | rfl | rfl | rfl | rfl
      all_goals
        go_wp2_with (go_at_call 40; refine (k3.out _).mono ?_; rintro e w4 ⟨rfl, rfl⟩)
        go_ret
        exact ⟨by rw [← hfin.out]; rfl, hA.out.tail⟩
end
end Go.Proofs.YtanpbphgmnjdeaaDoor
