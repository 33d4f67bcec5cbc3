/- The law CodeLines, walked. Conditions: the tables lie as their initialisers lay them; the slice's cells are at hand. -/
import Derived.Test.YtanpbphgmnjdeaaDoorCodeLists
import Derived.Test.YtanpbphgmnjdeaaDoorListLaw
import Derived.Deep.CutBlock
namespace Go.Proofs.YtanpbphgmnjdeaaDoor
set_option linter.unusedVariables false
open Go.RowKit Go.Lib Go.Deep

set_option maxRecDepth 100000 in
set_option maxHeartbeats 4000000 in
theorem lines_core (A : Option Addr) (n c : Nat) (zs : List Int) (x : Int) (N : Nat) (hN9 : (N : Int) ≤ 9223372036854775807) (hx : (decide (x < 0) = true ∧ x < 0 ∧ -9223372036854775808 ≤ x ∧ -(x + 1) = (N : Int)) ∨ x = N) (W : World)
    (hn : n ≤ 9223372036854775807) (hrow : LawF.Row W A n (fun j => .int .i64 (zs.getD j 0))) (hz : zs.length = n) (hzz : ∀ z ∈ zs, (Lit.int .i64 z).wf = true) (hT : Tabs W) (hP : Pow W) :
    Calls Tryd.prog 8 #[.slice A n c, .int .i64 x] W (Truly W) := by
  have hboth := fun w (h : At W w []) => both_walk h A n c zs hn hrow hz hzz false true
  replace hboth := Lib.hid hboth
  have hA0 := Lib.hid (At.refl W)
  clear hrow hzz hz hn
  replace hP := Lib.hid hP
  have hN := Lib.hid hT.1
  rcases hx with ⟨x0, x1, x2, x3⟩ | rfl
  all_goals
    go_enter Tryd.func8, Tryd.ntmps8
    go_wp2_with fail
    refine (shown_walk W hT).mono ?_
    rintro e w1 ⟨rfl, h1⟩
    have hA1 := Lib.hid (hA0.out.ofBelow h1)
    clear h1 hA0 hT
    replace hboth := Lib.hid (hboth.out w1 hA1.out)
    go_wp2_with fail
    refine hboth.out.mono ?_
    rintro e w2 ⟨g, g', S, rfl, hS, h2⟩
    have hok := Lib.hid (ImgA.ok h2)
    replace h2 := Lib.hid h2
    have hsp := b_span h2.out.swap 3
    rw [hS.span.1, hS.span.2] at hsp
    replace hsp := Lib.hid hsp
    clear hS
    go_wp2_with fail
    refine hsp.out.mono ?_
    rintro e w3 ⟨rfl, h3⟩
    have h3 := Lib.hid h3.swap.swap.tail
    clear hsp h2 hboth hA1
    go_upto_block 0 with fail
    go_cut [10, 11] (fun s10 s11 wx => ∃ (b : Int) (k : Nat) (l : List UInt8), s10 = .int .i64 b ∧ s11 = .int .i64 k ∧ k ≤ 40 ∧ S.Run 1 k 16448 b l ∧ At W wx [ImgA g S])
    case first =>
      go_wp2_with fail
      go_loopw [10, 11] (fun s i wr => ∃ (b : Int) (k : Nat) (l : List UInt8), s = .int .i64 b ∧ i = .int .i64 k ∧ k ≤ 40 ∧ S.Run 1 k 16448 b l ∧ At W wr [ImgA g S]) (fun _ i _ => 40 - (RowKit.intOf i).toNat)
      case atStart => exact ⟨16448, 0, [], rfl, rfl, by omega, .zero _, h3.out⟩
      case round =>
        obtain ⟨b, k, l, rfl, rfl, hk, hR, hA⟩ := hrel
        clear h3
        have hRl := Run.le hok.out hR
        have hmod : 0 ≤ (N : Int) % 40 ∧ (N : Int) % 40 < 40 := by omega
        obtain ⟨hm0, hm1⟩ := hmod
        by_cases hlt : (k : Int) < (N : Int) % 40
        · have hltb : decide ((k : Int) < (N : Int) % 40) = true := by rw [decide_eq_true_iff]; exact hlt
          have hfw := fetch_walk hA 1 b
          obtain ⟨⟨⟨i1, i2, i3, i4⟩, f⟩, hfe⟩ : ∃ x, S.fetch 1 b = x := ⟨_, rfl⟩
          rw [hfe] at hfw
          dsimp only [Inst.v] at hfw
          replace hfw := Lib.hid hfw
          by_cases hf0 : f = 0
          · subst hf0
            have hf : (S.fetch 1 b).2 = 0 := by rw [hfe]
            have hnx := hR.succ hf
            have hfn := fetch_next hok.out hf
            rw [hfe] at hnx hfn
            simp only at hnx hfn
            obtain ⟨q1, q2, q3, q4⟩ := hfn
            generalize l ++ S.lineL 1 b ⟨i1, i2, i3, i4⟩ = l2 at *
            replace hnx := Lib.hid hnx
            clear hfe hR hRl hA hf
            go_wp2_with fail
            refine hfw.out.mono ?_
            rintro e w4 ⟨rfl, h4⟩
            have hX : At W (w4.alloc (.cells #[.int .i64 i1, .int .i64 i2, .int .i64 i3, .int .i64 i4] 40)) (BlkA w4.heap.size 40 (Inst.c ⟨i1, i2, i3, i4⟩) :: _) := h4.box (Inst.c ⟨i1, i2, i3, i4⟩) 40
            obtain ⟨⟨d0, d1, d2, d3⟩, e0, e1, e2, e3⟩ := box4 (i := ⟨i1, i2, i3, i4⟩) hX.blk
            dsimp only at d0 d1 d2 d3 e0 e1 e2 e3
            replace hX := Lib.hid hX.tail
            clear h4
            have hc1 : decide (i4 < 1) = false := by rw [decide_eq_false_iff_not]; omega
            go_wp2
            go_roundw
            case rel => exact ⟨b + 8 * i4, k + 1, l2, rfl, by go_num, by omega, hnx.out, hX.out⟩
            case measure => simp [RowKit.intOf]; omega
          · have hfb : (f != 0) = true := by rw [bne_iff_ne]; exact hf0
            clear hfe hRl hA
            replace hR := Lib.hid hR
            go_wp2_with fail
            refine hfw.out.mono ?_
            rintro e w4 ⟨rfl, h4⟩
            have hX := Lib.hid (h4.alloc (.cells #[.int .i64 i1, .int .i64 i2, .int .i64 i3, .int .i64 i4] 40))
            clear h4
            go_wp2
            go_meet
            exact ⟨b, k, l, rfl, rfl, by omega, hR.out, hX.out⟩
        · have hltb : decide ((k : Int) < (N : Int) % 40) = false := by rw [decide_eq_false_iff_not]; exact hlt
          replace hR := Lib.hid hR
          replace hA := Lib.hid hA
          clear hRl
          go_wp2
          go_meet
          exact ⟨b, k, l, rfl, rfl, by omega, hR.out, hA.out⟩
    case rest =>
      obtain ⟨b, k, l, rfl, rfl, hk, hR, hA⟩ := hcut
      clear h3
      have hRl := Run.le hok.out hR
      have hlen := Run.len hok.out hR
      have hfd := Run.feeds hR
      have hb64 : i64r b := by
        unfold i64r
        rcases Nat.eq_zero_or_pos k with h0 | h0
        · have := (hRl.2.1 h0).1; omega
        · have := (hRl.2.2 h0).2.2; omega
      have hl1 := list_walk hA 1 16448 b (by unfold i64r; omega) hN.out hP.out hok.out
      rw [Run.list hok.out hR] at hl1
      replace hl1 := Lib.hid hl1
      replace hR := Lib.hid hR
      replace hfd := Lib.hid hfd
      replace hRl := Lib.hid hRl
      clear hA
      go_wp2_with fail
      refine hl1.out.mono ?_
      rintro e w4 ⟨rfl, h4⟩
      replace h4 := Lib.hid h4
      clear hl1
      go_upto_block 2 with fail
      go_cut [16] (fun s16 wx => s16 = .int .i64 k ∧ At W wx [ImgA g S])
      case first =>
        go_wp2_with fail
        go_loopw [16, 17] (fun s i wr => ∃ j : Nat, j ≤ l.length ∧ i = .int .i64 j ∧ s = .int .i64 (feeds (l.take j)) ∧ At W wr [ImgA g S]) (fun _ i _ => l.length - (RowKit.intOf i).toNat)
        case atStart => exact ⟨0, by omega, rfl, by simp [feeds], h4.out⟩
        case round =>
          obtain ⟨j, hj, rfl, rfl, hA⟩ := hrel
          clear h4
          replace hA := Lib.hid hA
          have hfl := feeds_le (l.take j)
          rw [List.length_take] at hfl
          by_cases hlt : j < l.length
          · have hix := fun w => idx_str ⟨l.toArray⟩ j (by simpa [ByteArray.size] using hlt) w
            have hts : (⟨l.toArray⟩ : ByteArray).data.toList = l := rfl
            rw [hts] at hix
            have hft := feeds_take l j hlt
            generalize l.getD j 0 = cc at *
            have hcc := cc.toNat_lt
            by_cases h10 : cc = 10
            · rw [if_pos h10] at hft
              have h10b : ((cc.toNat : Int) == 10) = true := by rw [h10]; rfl
              have h10n : (cc.toNat : Int) = 10 := by rw [h10]; rfl
              clear h10 hts
              replace hft := Lib.hid hft
              generalize feeds (l.take j) = q at *
              go_wp2
              go_roundw
              case rel => exact ⟨j + 1, by omega, by go_num, by rw [hft.out]; go_num, hA.out⟩
              case measure => simp [RowKit.intOf]; omega
            · rw [if_neg h10] at hft
              have h10b : ((cc.toNat : Int) == 10) = false := by
                rw [beq_eq_false_iff_ne]; intro e; exact h10 (UInt8.toNat_inj.1 (by have h1010 : (10 : UInt8).toNat = 10 := rfl; omega))
              clear h10 hts
              replace hft := Lib.hid hft
              generalize feeds (l.take j) = q at *
              go_wp2
              go_roundw
              case rel => exact ⟨j + 1, by omega, by go_num, by rw [hft.out]; rfl, hA.out⟩
              case measure => simp [RowKit.intOf]; omega
          · have hall : l.take j = l := List.take_of_length_le (by omega)
            rw [hall, hfd.out]
            clear hall hfl
            go_wp2
            go_meet
            exact ⟨rfl, hA.out⟩
      case rest =>
        obtain ⟨rfl, hA⟩ := hcut
        clear h4
        rcases Nat.eq_zero_or_pos k with h0 | h0
        · have h1 := hRl.out.2.1 h0
          obtain ⟨rfl, rfl⟩ := h1
          subst h0
          have hbl := Lib.hid hA.below
          clear hA
          go_wp2
          go_ret
          exact ⟨rfl, hbl.out⟩
        · obtain ⟨k, rfl⟩ : ∃ k', k = k' + 1 := ⟨k - 1, by omega⟩
          obtain ⟨hf, l', hll, hR'⟩ := Run.head hok.out hR.out
          have hll1 := lineL_len hok.out (fetch_lineok hok.out hf)
          have hfn := fetch_next hok.out hf
          have hlen' := Run.len hok.out hR'
          have hl2 := fun (w : World) (L' : List Asr) (hA : At W w (ImgA g S :: L')) => list_walk hA 1 16448 16456 (by unfold i64r; omega) hN.out hP.out hok.out
          have hone := list_one hok.out hf
          rw [show (16448 : Int) + 8 = 16456 by rfl] at hone
          rw [hone] at hl2
          have hl3 := fun (w : World) (L' : List Asr) (hA : At W w (ImgA g S :: L')) => list_walk hA 1 (16448 + 8 * (S.fetch 1 16448).1.cells) b (by unfold i64r; omega) hN.out hP.out hok.out
          rw [Run.list hok.out hR'] at hl3
          have hfw := fetch_walk hA 1 16448
          obtain ⟨⟨⟨i1, i2, i3, i4⟩, f⟩, hfe⟩ : ∃ x, S.fetch 1 16448 = x := ⟨_, rfl⟩
          rw [hfe] at hfw hf hll hll1 hfn hl2 hl3
          simp only at hf hll hll1 hfn hl2 hl3
          dsimp only [Inst.v] at hfw
          subst hf
          generalize S.lineL 1 16448 ⟨i1, i2, i3, i4⟩ = ln at *
          have hcat : (⟨ln.toArray⟩ : ByteArray) ++ ⟨l'.toArray⟩ = ⟨l.toArray⟩ := by rw [hll]; apply ba_ext; simp
          obtain ⟨q1, q2, q3, q4⟩ := hfn
          clear hll hone hR' hfe hR hRl hfd hlen
          have hlnn : ln.length ≤ 300000 := hll1
          have hlnn' : l'.length ≤ 12000000 := by omega
          replace hfw := Lib.hid hfw
          replace hl2 := Lib.hid hl2
          replace hl3 := Lib.hid hl3
          clear hA
          go_wp2_with fail
          refine hfw.out.mono ?_
          rintro e w5 ⟨rfl, h5⟩
          have hX : At W (w5.alloc (.cells #[.int .i64 i1, .int .i64 i2, .int .i64 i3, .int .i64 i4] 40)) (BlkA w5.heap.size 40 (Inst.c ⟨i1, i2, i3, i4⟩) :: _) := h5.box (Inst.c ⟨i1, i2, i3, i4⟩) 40
          replace hX := Lib.hid hX
          clear h5
          go_wp2_with fail
          refine (hl2.out _ _ hX.out.swap).mono ?_
          rintro e w6 ⟨rfl, h6⟩
          obtain ⟨⟨d0, d1, d2, d3⟩, e0, e1, e2, e3⟩ := box4 (i := ⟨i1, i2, i3, i4⟩) h6.swap.blk
          dsimp only at d0 d1 d2 d3 e0 e1 e2 e3
          replace h6 := Lib.hid h6
          go_wp2_with fail
          refine (hl3.out _ _ h6.out).mono ?_
          rintro e w7 ⟨rfl, h7⟩
          have hbl := Lib.hid h7.below
          clear h6 h7 d0 d1 d2 d3 e0 e1 e2 e3
          go_wp2
          all_goals go_ret
          all_goals exact ⟨by simp, hbl.out⟩
theorem lines_any (A : Option Addr) (n c : Nat) (zs : List Int) (x : Int) (hx : LawF.i64ok x) (W : World)
    (hn : n ≤ 9223372036854775807) (hrow : LawF.Row W A n (fun j => .int .i64 (zs.getD j 0))) (hz : zs.length = n) (hzz : ∀ z ∈ zs, (Lit.int .i64 z).wf = true) (hT : Tabs W) (hP : Pow W) :
    Calls Tryd.prog 8 #[.slice A n c, .int .i64 x] W (Truly W) := by
  unfold LawF.i64ok at hx
  rcases Int.lt_or_le x 0 with h | h
  · exact lines_core A n c zs x (-(x + 1)).toNat (by omega) (.inl ⟨by simpa using h, h, hx.1, by omega⟩) W hn hrow hz hzz hT hP
  · exact lines_core A n c zs x x.toNat (by omega) (.inr (by omega)) W hn hrow hz hzz hT hP
end Go.Proofs.YtanpbphgmnjdeaaDoor
