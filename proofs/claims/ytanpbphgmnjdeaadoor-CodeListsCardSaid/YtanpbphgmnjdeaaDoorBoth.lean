/- Chapter 7's laws: two images, the program's and the document's, with some cells in their student region. Conditions: as written. -/
import Derived.Test.YtanpbphgmnjdeaaDoorFetch2
import Derived.Test.YtanpbphgmnjdeaaDoorFrame
namespace Go.Proofs.YtanpbphgmnjdeaaDoor
set_option linter.unusedVariables false
open Go.RowKit Go.Lib Go.Deep

/-- the layout of the laws' images -/
structure Lay (S : Img) : Prop where
  k : S.k = 16384
  s : S.s = 64
  u : S.u = 1024
  d : S.d = 64
  r : S.r = 64
theorem lay_fits : Fits 16384 64 1024 64 64 := by constructor <;> omega
theorem lay_new : Lay (newImg 16384 64 1024 64 64) := ⟨rfl, rfl, rfl, rfl, rfl⟩
section
variable {S : Img}
theorem Lay.beg3 (h : Lay S) : S.beg 3 = 16448 := by simp [Img.beg, h.k, h.s]
theorem Lay.beg4 (h : Lay S) : S.beg 4 = 17472 := by simp [Img.beg, h.k, h.s, h.u]
theorem Lay.setCell (h : Lay S) (m a v : Int) : Lay (S.setCell m a v) := by
  unfold Img.setCell
  split
  · exact ⟨h.k, h.s, h.u, h.d, h.r⟩
  · exact h
theorem Lay.opened (h : Lay S) : Lay S.opened := by
  unfold Img.opened
  split
  · exact h
  · exact ⟨h.k, h.s, h.u, h.d, h.r⟩
theorem Lay.sealed (h : Lay S) : Lay S.sealed := ⟨h.k, h.s, h.u, h.d, h.r⟩
theorem Lay.span (h : Lay S) : spanFrom S 3 = 16448 ∧ spanTo S 3 = 17472 := by
  unfold spanFrom spanTo
  rw [if_pos (by omega), if_pos (by omega)]
  have h3 := h.beg3
  have h4 := h.beg4
  exact ⟨by rw [show (3 : Int).toNat = 3 by rfl, h3]; rfl, by rw [show (3 : Int).toNat + 1 = 4 by rfl, h4]; rfl⟩
theorem Lay.student (h : Lay S) (j : Nat) (hj : j < 128) : S.cellF 0 (16448 + 8 * (j : Int)) true = 0 := by
  have hr : S.region (16448 + 8 * (j : Int)) = 3 := S.region_eq (j := 3) (by omega) (by omega) (by omega) (by rw [h.beg3]; omega) (by rw [show S.beg (3 + 1) = 17472 from h.beg4]; omega)
  have hk : S.rowOk 0 (16448 + 8 * (j : Int)) 8 true = true := by
    unfold Img.rowOk Img.lets
    rw [hr]
    have h4 : S.beg (3 + 1) = 17472 := h.beg4
    rw [h4]
    have hm : S.may 0 3 = 3 := by unfold Img.may; simp
    rw [hm]
    simp
    omega
  unfold Img.cellF
  rw [if_neg (by omega), if_pos hk]
end
theorem At.drop3' {w0 w : World} {A B C : Asr} {L : List Asr} (h : At w0 w (A :: B :: C :: L)) : At w0 w (A :: B :: L) := h.rot3.tail
def Two (w0 w : World) (g g' : Nat) (L : List Asr) : Prop := ∃ S, Lay S ∧ At w0 w (ImgA g S :: RimgA g' S :: L)
def BothPost (w0 : World) (L : List Asr) (e : Ending) (w' : World) : Prop :=
  ∃ g g' S, e = .returned (.tuple #[.pointer (some ⟨g, 0, none⟩), .pointer (some ⟨g', 0, none⟩)]) ∧ Lay S ∧ At w0 w' (ImgA g S :: RimgA g' S :: L)
set_option maxRecDepth 100000 in
set_option maxHeartbeats 2000000 in
theorem both_walk {w0 w : World} {L : List Asr} (h : At w0 w L) (A : Option Addr) (n c : Nat) (zs : List Int) (hn : n ≤ 9223372036854775807) (hrow : LawF.Row w0 A n (fun j => .int .i64 (zs.getD j 0))) (hz : zs.length = n) (hzz : ∀ z ∈ zs, (Lit.int .i64 z).wf = true) (o s : Bool) :
    Calls Tryd.prog 26 #[.slice A n c, .bool o, .bool s] w (BothPost w0 L) := by
  have hval : ∀ j, j < n → -9223372036854775808 ≤ zs.getD j 0 ∧ zs.getD j 0 ≤ 9223372036854775807 := by
    intro j hj
    have hj' : j < zs.length := by omega
    have : zs.getD j 0 ∈ zs := by rw [List.getD_eq_getElem?_getD, List.getElem?_eq_getElem hj']; exact List.getElem_mem hj'
    exact LawF.i64ok_of (hzz _ this)
  have hb := h.box #[.int .i64 16384, .int .i64 64, .int .i64 1024, .int .i64 64, .int .i64 64] 68
  have hc := a_new hb 16384 64 1024 64 64 lay_fits
  unfold layoutV at hc
  replace hc := Lib.hid hc
  replace hrow := Lib.hid hrow
  replace hval := Lib.hid hval
  clear hb hz hzz
  go_enter Tryd.func26, Tryd.ntmps26
  go_wp2_with fail
  refine hc.out.mono ?_
  rintro e w1 ⟨g, rfl, h1⟩
  have hB := h1.swap.blk
  have c0 : w1.cell? ⟨w.heap.size, 0, none⟩ = some (.int .i64 16384) := hB.cell 0
  have c1 : w1.cell? ⟨w.heap.size, 1, none⟩ = some (.int .i64 64) := hB.cell 1
  have c2 : w1.cell? ⟨w.heap.size, 2, none⟩ = some (.int .i64 1024) := hB.cell 2
  have c3 : w1.cell? ⟨w.heap.size, 3, none⟩ = some (.int .i64 64) := hB.cell 3
  have c4 : w1.cell? ⟨w.heap.size, 4, none⟩ = some (.int .i64 64) := hB.cell 4
  have hc2 := b_new h1 16384 64 1024 64 64 lay_fits
  unfold layoutV at hc2
  replace hc2 := Lib.hid hc2
  clear h1 hB
  go_wp2_with fail
  refine hc2.out.mono ?_
  rintro e w2 ⟨g', rfl, h2⟩
  have h3 := Lib.hid (At.drop3' h2).swap
  clear h2 c0 c1 c2 c3 c4
  have hc3 := b_span h3.out.swap 3
  rw [lay_new.span.1, lay_new.span.2] at hc3
  replace hc3 := Lib.hid hc3
  go_wp2_with fail
  refine hc3.out.mono ?_
  rintro e w3 ⟨rfl, h4⟩
  have h4 := Lib.hid h4.swap
  have hT : Two w0 w3 g g' L := ⟨_, lay_new, h4.out⟩
  replace hT := Lib.hid hT
  clear hc hc2 hc3 h3 h4
  go_wp2
  go_loopw [15] (fun i wr => ∃ j : Nat, j ≤ n ∧ j ≤ 128 ∧ i = .int .i64 j ∧ Two w0 wr g g' L) (fun i _ => 200 - (RowKit.intOf i).toNat)
  case atStart => exact ⟨0, by omega, by omega, rfl, hT.out⟩
  case round =>
    obtain ⟨j, hjn, hj, rfl, S, hS, hA⟩ := hrel
    clear hT
    replace hS := Lib.hid hS
    replace hA := Lib.hid hA
    by_cases hlt : j < n ∧ j < 128
    · obtain ⟨hl1, hl2⟩ := hlt
      obtain ⟨b, off, hAe, hbl, hcells⟩ := hrow.out (by omega)
      subst hAe
      have hcell : w0.cell? ⟨b, off + j, none⟩ = some (.int .i64 (zs.getD j 0)) := hcells j hl1
      obtain ⟨v1, v2⟩ := hval.out j hl1
      generalize zs.getD j 0 = z at *
      clear hcells
      have hcw := hA.out.old hcell
      have hs1 := a_setCell hA.out 0 (16448 + 8 * (j : Int)) z ⟨v1, v2⟩
      rw [hS.out.student j hl2] at hs1
      replace hs1 := Lib.hid hs1
      replace hcell := Lib.hid hcell
      go_wp2_with fail
      refine hs1.out.mono ?_
      rintro e w5 ⟨rfl, h5⟩
      have hcw2 := h5.old hcell.out
      have hs2 := b_setCell h5.swap 0 (16448 + 8 * (j : Int)) z ⟨v1, v2⟩
      replace hs2 := Lib.hid hs2
      clear h5 hcw
      go_wp2_with fail
      refine hs2.out.mono ?_
      rintro e w6 ⟨rfl, h6⟩
      have h6 := Lib.hid h6.swap
      clear hcw2
      go_wp2
      go_roundw
      case rel => exact ⟨j + 1, by omega, by omega, by go_num, _, hS.out.setCell _ _ _, h6.out⟩
      case measure => simp [RowKit.intOf]; omega
    · have hex : (¬ j < n) ∨ (j < n ∧ j = 128) := by omega
      rcases hex with hex | ⟨hex, rfl⟩
      all_goals
        cases o
        · cases s
          · go_wp2
            go_ret2
            exact ⟨g, g', S, rfl, hS.out, hA.out⟩
          · skip
            have k1 := Lib.hid (a_seal hA.out)
            go_wp2_with fail
            refine k1.out.mono ?_
            rintro e wa1 ⟨rfl, p1⟩
            have q1 := Lib.hid (b_seal p1.swap)
            clear p1
            go_wp2_with fail
            refine q1.out.mono ?_
            rintro e wb1 ⟨rfl, r1⟩
            have r1 := Lib.hid r1.swap
            go_wp2
            go_ret2
            exact ⟨g, g', _, rfl, hS.out.sealed, r1.out⟩
        · cases s
          · skip
            have k1 := Lib.hid (a_open hA.out)
            go_wp2_with fail
            refine k1.out.mono ?_
            rintro e wa1 ⟨rfl, p1⟩
            have q1 := Lib.hid (b_open p1.swap)
            clear p1
            go_wp2_with fail
            refine q1.out.mono ?_
            rintro e wb1 ⟨rfl, r1⟩
            have r1 := Lib.hid r1.swap
            go_wp2
            go_ret2
            exact ⟨g, g', _, rfl, hS.out.opened, r1.out⟩
          · skip
            have k1 := Lib.hid (a_open hA.out)
            go_wp2_with fail
            refine k1.out.mono ?_
            rintro e wa1 ⟨rfl, p1⟩
            have q1 := Lib.hid (b_open p1.swap)
            clear p1
            go_wp2_with fail
            refine q1.out.mono ?_
            rintro e wb1 ⟨rfl, r1⟩
            have r1 := Lib.hid r1.swap
            have k2 := Lib.hid (a_seal r1.out)
            go_wp2_with fail
            refine k2.out.mono ?_
            rintro e wa2 ⟨rfl, p2⟩
            have q2 := Lib.hid (b_seal p2.swap)
            clear p2
            go_wp2_with fail
            refine q2.out.mono ?_
            rintro e wb2 ⟨rfl, r2⟩
            have r2 := Lib.hid r2.swap
            go_wp2
            go_ret2
            exact ⟨g, g', _, rfl, hS.out.opened.sealed, r2.out⟩
end Go.Proofs.YtanpbphgmnjdeaaDoor
