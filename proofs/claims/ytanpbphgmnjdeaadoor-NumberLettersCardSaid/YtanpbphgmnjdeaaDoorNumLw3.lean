/- Chapter 5's laws, walked: NumberLetters. Conditions: the tables of powers and of trailing zeros lie as their initialisers lay them; the text within the form's reach. -/
import Derived.Test.YtanpbphgmnjdeaaDoorNumLw2
namespace Go.Proofs.YtanpbphgmnjdeaaDoor
set_option linter.unusedVariables false
open Go.RowKit Go.Lib

theorem info_u8n : (Tryd.prog.info? 5).map (fun i => (i.zero, i.size, i.bytes)) = some (some (.int .u8 0), 1, 1) := by kernel_rfl
theorem swap_take (l : List UInt8) (j : Nat) (hj : j < l.length) : (l.take (j + 1)).map swapC = (l.take j).map swapC ++ [swapC (l.getD j 0)] := by
  have hg : l.getD j 0 = l[j] := by simp [List.getD, hj]
  rw [List.take_succ_eq_append_getElem hj, List.map_append, hg]
  rfl
set_option maxRecDepth 100000 in
set_option maxHeartbeats 2000000 in
theorem letters_walk (s : ByteArray) (hs : s.size ≤ 140737488355327) (w : World) : Calls Tryd.prog 46 #[.string s] w fun e w' => e = .returned (.string ⟨(s.data.toList.map swapC).toArray⟩) ∧ Below w.heap.size w w' := by
  obtain ⟨i0, hi, hz0, hz1, hz2⟩ := info_parts info_u8n
  have hl := size_data s
  replace hi := Lib.hid hi
  replace hz0 := Lib.hid hz0
  replace hz1 := Lib.hid hz1
  replace hz2 := Lib.hid hz2
  replace hl := Lib.hid hl
  have hA0 := Lib.hid ((At.refl w).rowNil 5)
  go_enter Tryd.func46, Tryd.ntmps46
  go_wp2
  go_loopw [3, 4] (fun b i wr => ∃ j : Nat, j ≤ s.size ∧ i = .int .i64 j ∧ At w wr [RowA 5 b ((s.data.toList.take j).map swapC)]) (fun _ i _ => s.size - (RowKit.intOf i).toNat)
  case atStart => exact ⟨0, Nat.zero_le _, rfl, by simpa using hA0.out⟩
  case round =>
    obtain ⟨j, hj, rfl, hR⟩ := hrel
    have hrow := hR.row
    replace hR := Lib.hid hR
    clear hA0
    rename World => wr
    by_cases hlt : j < s.size
    · have hix := fun w => idx_str s j hlt w
      have hsn := swap_take s.data.toList j (by rw [hl.out]; exact hlt)
      have hbound : ((s.data.toList.take j).map swapC).length + 1 ≤ 140737488355328 := by rw [List.length_map, List.length_take, hl.out]; omega
      generalize s.data.toList.getD j 0 = c at *
      have hc := c.toNat_lt
      have hsw := swapC_nat c
      have hcs : ((97 ≤ (c.toNat : Int) ∧ (c.toNat : Int) ≤ 122) ∧ ((swapC c).toNat : Int) = (c.toNat : Int) - 32) ∨ ((decide (97 ≤ (c.toNat : Int)) && decide ((c.toNat : Int) ≤ 122)) = false ∧ (65 ≤ (c.toNat : Int) ∧ (c.toNat : Int) ≤ 90) ∧ ((swapC c).toNat : Int) = (c.toNat : Int) + 32) ∨
          (((c.toNat : Int) < 65 ∨ (90 < (c.toNat : Int) ∧ (c.toNat : Int) < 97) ∨ 122 < (c.toNat : Int)) ∧ ((swapC c).toNat : Int) = (c.toNat : Int)) := by
        split at hsw
        · exact .inl ⟨by omega, by omega⟩
        · split at hsw
          · exact .inr (.inl ⟨by simp; omega, by omega, by omega⟩)
          · exact .inr (.inr ⟨by omega, by omega⟩)
      have hblk : ∀ D : Int, ((swapC c).toNat : Int) = D → Blk (wr.alloc (.cells #[.int .u8 D] 5)) wr.heap.size 5 (bcells [swapC c]).toArray := by
        intro D hD
        have := Blk.new wr 5 #[.int .u8 D]
        rw [← hD] at this ⊢
        exact this
      generalize swapC c = ch at *
      have hRa := fun D : Int => hR.out.alloc (.cells #[.int .u8 D] 5)
      replace hsn := Lib.hid hsn
      replace hblk := Lib.hid hblk
      replace hRa := Lib.hid hRa
      replace hbound := Lib.hid hbound
      clear hsw
      have hc255 : (c.toNat : Int) ≤ 255 := by omega
      rcases hcs with ⟨⟨g1, g2⟩, hD⟩ | ⟨g0, ⟨g1, g2⟩, hD⟩ | ⟨g, hD⟩
      · replace hD := Lib.hid hD
        go_wp2_with (at_builtin; refine wpList_append_rowB rfl (.tmp 31) (.tmp 33) 76 rfl 5 i0 Tryd.underlying76 hi.out hz0.out hz1.out hz2.out _ _ (by rfl) (by exact hrow.alloc _) wr.heap.size 1 [ch] (by rfl) (by exact hblk.out _ hD.out) (by simp) hbound.out ?_; intro v' w1 hG)
        have hA := (hRa.out _).grew hG
        rw [← hsn.out] at hA
        replace hA := Lib.hid hA
        clear hG hrow
        go_wp2
        go_roundw
        case rel => exact ⟨j + 1, by omega, by go_num, hA.out⟩
        case measure => simp [RowKit.intOf]; omega
      · replace hD := Lib.hid hD
        have t1 : decide (97 ≤ (c.toNat : Int)) = false := by simp; omega
        clear g0
        go_wp2_with (at_builtin; refine wpList_append_rowB rfl (.tmp 31) (.tmp 33) 76 rfl 5 i0 Tryd.underlying76 hi.out hz0.out hz1.out hz2.out _ _ (by rfl) (by exact hrow.alloc _) wr.heap.size 1 [ch] (by rfl) (by exact hblk.out _ hD.out) (by simp) hbound.out ?_; intro v' w1 hG)
        have hA := (hRa.out _).grew hG
        rw [← hsn.out] at hA
        replace hA := Lib.hid hA
        clear hG hrow
        go_wp2
        go_roundw
        case rel => exact ⟨j + 1, by omega, by go_num, hA.out⟩
        case measure => simp [RowKit.intOf]; omega
      · replace hD := Lib.hid hD
        have hg : (decide (97 ≤ (c.toNat : Int)) = false ∧ decide (65 ≤ (c.toNat : Int)) = false) ∨ (decide (97 ≤ (c.toNat : Int)) = false ∧ decide (65 ≤ (c.toNat : Int)) = true ∧ decide ((c.toNat : Int) ≤ 90) = false) ∨ (decide (97 ≤ (c.toNat : Int)) = true ∧ decide ((c.toNat : Int) ≤ 122) = false ∧ decide (65 ≤ (c.toNat : Int)) = true ∧ decide ((c.toNat : Int) ≤ 90) = false) := by
          rcases g with g | g | g
          · exact .inl ⟨by simp; omega, by simp; omega⟩
          · exact .inr (.inl ⟨by simp; omega, by simp; omega, by simp; omega⟩)
          · exact .inr (.inr ⟨by simp; omega, by simp; omega, by simp; omega, by simp; omega⟩)
        clear g
        rcases hg with ⟨t1, t2⟩ | ⟨t1, t2, t3⟩ | ⟨t1, t2, t3, t4⟩
        all_goals
          go_wp2_with (at_builtin; refine wpList_append_rowB rfl (.tmp 31) (.tmp 33) 76 rfl 5 i0 Tryd.underlying76 hi.out hz0.out hz1.out hz2.out _ _ (by rfl) (by exact hrow.alloc _) wr.heap.size 1 [ch] (by rfl) (by exact hblk.out _ hD.out) (by simp) hbound.out ?_; intro v' w1 hG)
          have hA := (hRa.out _).grew hG
          rw [← hsn.out] at hA
          replace hA := Lib.hid hA
          clear hG hrow
          go_wp2
          go_roundw
          case rel => exact ⟨j + 1, by omega, by go_num, hA.out⟩
          case measure => simp [RowKit.intOf]; omega
    · have hall : s.data.toList.take j = s.data.toList := List.take_of_length_le (by rw [hl.out]; omega)
      rw [hall] at hrow
      have hcv := hrow.to_string (P := Tryd.prog) 76 9 Tryd.underlying76 Tryd.underlying5 Tryd.underlying9
      clear hrow hall
      go_wp2
      go_ret
      exact ⟨rfl, hR.out.below⟩
set_option maxRecDepth 100000 in
set_option maxHeartbeats 1000000 in
theorem nletters_any (s : ByteArray) (hs : s.size ≤ 140737488355327) (b : Int) (W : World) (hT : NTabs W) : Calls Tryd.prog 13 #[.string s, .int .i64 b] W (NTruly W) := by
  have h0 := nshown_walk W hT
  have k1 := fun w => parse_walk s (by omega) b w
  have k2 := fun w => letters_walk s hs w
  have k3 := fun w => parse_walk ⟨(s.data.toList.map swapC).toArray⟩ (by rw [← size_data]; simp; have := size_data s; rw [Array.length_toList] at this; omega) b w
  rw [show ({ data := (s.data.toList.map swapC).toArray } : ByteArray).data.toList = s.data.toList.map swapC from rfl] at k3
  have hpq := parse_swap s.data.toList b
  have hq := quoted_cases s
  generalize parseN (s.data.toList.map swapC) b = R' at *
  generalize parseN s.data.toList b = R at *
  generalize (s.data.toList.map swapC) = sw at *
  obtain ⟨R1, R2⟩ := R
  obtain ⟨R1', R2'⟩ := R'
  simp only at hpq k1 k3
  obtain ⟨rfl, hn⟩ := hpq
  have hsit : R1' = R1 ∨ (s.size = 3 ∧ (((s.data.toList.getD 0 0).toNat : Int) == 39) = true ∧ (((s.data.toList.getD 2 0).toNat : Int) == 39) = true) := by
    rcases hn with h | h
    · exact .inl h
    · rcases hq with ⟨h1, _⟩ | ⟨_, h1, _⟩ | ⟨h1, h2, h3⟩
      · rw [h] at h1; cases h1
      · rw [h] at h1; cases h1
      · exact .inr ⟨h1, h3, by rw [← h2]; exact h⟩
  replace h0 := Lib.hid h0
  replace k1 := Lib.hid k1
  replace k2 := Lib.hid k2
  replace k3 := Lib.hid k3
  clear hn
  rcases hsit with rfl | ⟨h3, t0, t2⟩
  · rcases hq with ⟨_, h3⟩ | ⟨h3, _, t0⟩ | ⟨h3, _, t0⟩
    · clear hT
      go_enter Tryd.func13, Tryd.ntmps13
      go_wp2_with fail
      refine h0.out.mono ?_
      rintro e w1 ⟨rfl, h1⟩
      replace h1 := Lib.hid h1
      go_wp2_with fail
      refine (k1.out _).mono ?_
      rintro e w2 ⟨rfl, h2⟩
      replace h2 := Lib.hid (h1.out.trans h2)
      go_wp2_with fail
      refine (k2.out _).mono ?_
      rintro e w3 ⟨rfl, h3'⟩
      replace h3' := Lib.hid (h2.out.trans ⟨h3'.os, h3'.tape, h3'.output, h3'.size, fun k hk _ => h3'.block k hk⟩)
      go_wp2_with fail
      refine (k3.out _).mono ?_
      rintro e w4 ⟨rfl, h4⟩
      replace h4 := Lib.hid (h3'.out.trans h4).below0
      go_wp2
      all_goals go_ret
      all_goals exact ⟨by simp, h4.out⟩
    · have i0 := fun w => idx_lit0 s (by omega) w
      have h3b : ((s.size : Int) == 3) = true := by rw [h3]; rfl
      generalize s.data.toList.getD 0 0 = c0 at *
      clear hT h3
      go_enter Tryd.func13, Tryd.ntmps13
      go_wp2_with fail
      refine h0.out.mono ?_
      rintro e w1 ⟨rfl, h1⟩
      replace h1 := Lib.hid h1
      go_wp2_with fail
      refine (k1.out _).mono ?_
      rintro e w2 ⟨rfl, h2⟩
      replace h2 := Lib.hid (h1.out.trans h2)
      go_wp2_with fail
      refine (k2.out _).mono ?_
      rintro e w3 ⟨rfl, h3'⟩
      replace h3' := Lib.hid (h2.out.trans ⟨h3'.os, h3'.tape, h3'.output, h3'.size, fun k hk _ => h3'.block k hk⟩)
      go_wp2_with fail
      refine (k3.out _).mono ?_
      rintro e w4 ⟨rfl, h4⟩
      replace h4 := Lib.hid (h3'.out.trans h4).below0
      go_wp2
      all_goals go_ret
      all_goals exact ⟨by simp, h4.out⟩
    · have i0 := fun w => idx_lit0 s (by omega) w
      have i2 := fun w => idx_lit2 s (by omega) w
      have h3b : ((s.size : Int) == 3) = true := by rw [h3]; rfl
      generalize s.data.toList.getD 0 0 = c0 at *
      generalize s.data.toList.getD 2 0 = c2 at *
      clear hT h3
      go_enter Tryd.func13, Tryd.ntmps13
      go_wp2_with fail
      refine h0.out.mono ?_
      rintro e w1 ⟨rfl, h1⟩
      replace h1 := Lib.hid h1
      go_wp2_with fail
      refine (k1.out _).mono ?_
      rintro e w2 ⟨rfl, h2⟩
      replace h2 := Lib.hid (h1.out.trans h2)
      go_wp2_with fail
      refine (k2.out _).mono ?_
      rintro e w3 ⟨rfl, h3'⟩
      replace h3' := Lib.hid (h2.out.trans ⟨h3'.os, h3'.tape, h3'.output, h3'.size, fun k hk _ => h3'.block k hk⟩)
      go_wp2_with fail
      refine (k3.out _).mono ?_
      rintro e w4 ⟨rfl, h4⟩
      replace h4 := Lib.hid (h3'.out.trans h4).below0
      go_wp2
      all_goals go_ret
      all_goals exact ⟨by simp, h4.out⟩
  · have i0 := fun w => idx_lit0 s (by omega) w
    have i2 := fun w => idx_lit2 s (by omega) w
    have h3b : ((s.size : Int) == 3) = true := by rw [h3]; rfl
    generalize s.data.toList.getD 0 0 = c0 at *
    generalize s.data.toList.getD 2 0 = c2 at *
    clear hT h3 hq
    go_enter Tryd.func13, Tryd.ntmps13
    go_wp2_with fail
    refine h0.out.mono ?_
    rintro e w1 ⟨rfl, h1⟩
    replace h1 := Lib.hid h1
    go_wp2_with fail
    refine (k1.out _).mono ?_
    rintro e w2 ⟨rfl, h2⟩
    replace h2 := Lib.hid (h1.out.trans h2)
    go_wp2_with fail
    refine (k2.out _).mono ?_
    rintro e w3 ⟨rfl, h3'⟩
    replace h3' := Lib.hid (h2.out.trans ⟨h3'.os, h3'.tape, h3'.output, h3'.size, fun k hk _ => h3'.block k hk⟩)
    go_wp2_with fail
    refine (k3.out _).mono ?_
    rintro e w4 ⟨rfl, h4⟩
    replace h4 := Lib.hid (h3'.out.trans h4).below0
    go_wp2
    all_goals go_ret
    all_goals exact ⟨by simp, h4.out⟩
end Go.Proofs.YtanpbphgmnjdeaaDoor
