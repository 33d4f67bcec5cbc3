/- The law CodeFetches, walked. Conditions: the tables lie as their initialisers lay them; the slices' cells are at hand. -/
import Derived.Test.YtanpbphgmnjdeaaDoorBoth
namespace Go.Proofs.YtanpbphgmnjdeaaDoor
set_option linter.unusedVariables false
open Go.RowKit Go.Lib Go.Deep

theorem getD_ok {zs : List Int} (hzz : ∀ z ∈ zs, (Lit.int .i64 z).wf = true) (j : Nat) (hj : j < zs.length) : -9223372036854775808 ≤ zs.getD j 0 ∧ zs.getD j 0 ≤ 9223372036854775807 := by
  have : zs.getD j 0 ∈ zs := by rw [List.getD_eq_getElem?_getD, List.getElem?_eq_getElem hj]; exact List.getElem_mem hj
  exact LawF.i64ok_of (hzz _ this)
set_option maxRecDepth 100000 in
set_option maxHeartbeats 4000000 in
theorem fetches_any (A : Option Addr) (n c : Nat) (zs : List Int) (o s : Bool) (m : Int) (A2 : Option Addr) (n2 c2 : Nat) (zs2 : List Int) (far : Bool) (W : World)
    (hn : n ≤ 9223372036854775807) (hrow : LawF.Row W A n (fun j => .int .i64 (zs.getD j 0))) (hz : zs.length = n) (hzz : ∀ z ∈ zs, (Lit.int .i64 z).wf = true)
    (hn2 : n2 ≤ 9223372036854775807) (hrow2 : LawF.Row W A2 n2 (fun j => .int .i64 (zs2.getD j 0))) (hz2 : zs2.length = n2) (hzz2 : ∀ z ∈ zs2, (Lit.int .i64 z).wf = true) (hT : Tabs W) :
    Calls Tryd.prog 6 #[.slice A n c, .bool o, .bool s, .int .i64 m, .slice A2 n2 c2, .bool far] W (Truly W) := by
  have hval2 : ∀ j, j < n2 → -9223372036854775808 ≤ zs2.getD j 0 ∧ zs2.getD j 0 ≤ 9223372036854775807 := fun j hj => getD_ok hzz2 j (by omega)
  have hboth := fun w (h : At W w []) => both_walk h A n c zs hn hrow hz hzz o s
  replace hboth := Lib.hid hboth
  replace hrow2 := Lib.hid hrow2
  replace hval2 := Lib.hid hval2
  have hA0 := Lib.hid (At.refl W)
  clear hrow hzz hz2 hzz2 hz hn
  go_enter Tryd.func6, Tryd.ntmps6
  go_wp2_with fail
  refine (shown_walk W hT).mono ?_
  rintro e w1 ⟨rfl, h1⟩
  have hA1 := Lib.hid (hA0.out.ofBelow h1)
  clear h1 hA0
  replace hboth := Lib.hid (hboth.out w1 hA1.out)
  go_wp2_with fail
  refine hboth.out.mono ?_
  rintro e w2 ⟨g, g', S, rfl, hS, h2⟩
  replace h2 := Lib.hid h2
  have hsp := b_span h2.out.swap 3
  rw [hS.span.1, hS.span.2] at hsp
  replace hsp := Lib.hid hsp
  clear hS
  go_wp2_with fail
  refine hsp.out.mono ?_
  rintro e w3 ⟨rfl, h3⟩
  have h3 := Lib.hid h3.swap
  clear hsp h2 hboth hA1
  go_wp2
  go_loopw [18] (fun i wr => ∃ j : Nat, j ≤ n2 ∧ i = .int .i64 j ∧ At W wr [ImgA g S, RimgA g' S]) (fun i _ => n2 - (RowKit.intOf i).toNat)
  case atStart => exact ⟨0, by omega, rfl, h3.out⟩
  case round =>
    obtain ⟨j, hj, rfl, hA⟩ := hrel
    clear h3
    replace hA := Lib.hid hA
    by_cases hlt : j < n2
    · obtain ⟨b, off, hAe, hbl, hcells⟩ := hrow2.out (by omega)
      subst hAe
      have hcell : W.cell? ⟨b, off + j, none⟩ = some (.int .i64 (zs2.getD j 0)) := hcells j hlt
      obtain ⟨v1, v2⟩ := hval2.out j hlt
      generalize zs2.getD j 0 = z at *
      clear hcells
      have hcw := hA.out.old hcell
      obtain ⟨a, ha⟩ : ∃ a, (if far = true then z else wrap64 (16448 + z)) = a := ⟨_, rfl⟩
      have hf1 := fetch_walk hA.out m a
      obtain ⟨⟨⟨i1, i2, i3, i4⟩, f⟩, hfe⟩ : ∃ x, S.fetch m a = x := ⟨_, rfl⟩
      rw [hfe] at hf1
      dsimp only [Inst.v] at hf1
      replace hf1 := Lib.hid hf1
      replace hfe := Lib.hid hfe
      cases far
      all_goals
        simp only [Bool.false_eq_true, if_false, if_true] at ha
        subst ha
        go_wp2_with fail
        refine hf1.out.mono ?_
        rintro e w4 ⟨rfl, h4⟩
        have hX : At W (w4.alloc (.cells #[.int .i64 i1, .int .i64 i2, .int .i64 i3, .int .i64 i4] 40)) (BlkA w4.heap.size 40 (Inst.c ⟨i1, i2, i3, i4⟩) :: _) := h4.box (Inst.c ⟨i1, i2, i3, i4⟩) 40
        replace hX := Lib.hid hX
        first
          | have hf2 := Fetch_walk hX.out.rot3 m (wrap64 (16448 + z))
            rw [hfe.out] at hf2
          | have hf2 := Fetch_walk hX.out.rot3 m z
            rw [hfe.out] at hf2
        dsimp only [Inst.v] at hf2
        replace hf2 := Lib.hid hf2
        clear h4 hcw
        go_wp2_with fail
        refine hf2.out.mono ?_
        rintro e w5 ⟨rfl, h5⟩
        obtain ⟨⟨c0, c1, c2, c3⟩, _⟩ := box4 (h5.swap.blk.alloc (.cells #[.int .i64 i1, .int .i64 i2, .int .i64 i3, .int .i64 i4] 44))
        obtain ⟨⟨d0, d1, d2, d3⟩, _⟩ := box4 (i := ⟨i1, i2, i3, i4⟩) (Blk.new w5 44 #[.int .i64 i1, .int .i64 i2, .int .i64 i3, .int .i64 i4])
        have hlt5 : w4.heap.size < w5.heap.size := h5.swap.blk.lt
        have h6 := Lib.hid (h5.alloc (.cells #[.int .i64 i1, .int .i64 i2, .int .i64 i3, .int .i64 i4] 44))
        clear h5
        dsimp only at c0 c1 c2 c3 d0 d1 d2 d3
        go_wp2
        go_roundw
        case rel => exact ⟨j + 1, by omega, by go_num, At.drop3' h6.out.rot3⟩
        case measure => simp [RowKit.intOf]; omega
    · go_wp2_with fail
      refine (a_part hA.out 3 (by omega) (by omega)).mono ?_
      rintro e w4 ⟨rfl, h4⟩
      have hp := Lib.hid (b_part h4.swap 3 (by omega) (by omega))
      generalize S.part 3 = x at *
      clear h4
      go_wp2_with fail
      refine hp.out.mono ?_
      rintro e w5 ⟨rfl, h5⟩
      have h5 := Lib.hid h5.below
      go_wp2
      all_goals go_ret
      all_goals exact ⟨by simp, h5.out⟩
end Go.Proofs.YtanpbphgmnjdeaaDoor
