/- Chapter 11: what is made ahead of each law: whatever the law gives, made returns the pair of machines that the plain words say. Conditions: as written. -/
import Derived.Test.YtjhdpmimccpcdaaGreatDoorQVMadeB
namespace Go.Proofs.YtjhdpmimccpcdaaGreatDoor
set_option linter.unusedVariables false
set_option maxRecDepth 100000
open Go.RowKit Go.Lib Go.Deep
namespace Vm
set_option maxHeartbeats 8000000 in
theorem b_made {w : World} {s : Setup} {m : Sl} (hs : SetIn w s m) : Calls Tryz.prog 11 #[.agg (setupC s m)] w (PostE (MadeB s) Nob w) := by
  have hon0 := (On.refl (A := AllA []) (F := Nob) (w := w) (fun _ h => h)).box (setupC s m) 30
  have hon0 := Lib.hid hon0
  replace hs := Lib.hid hs
  unfold setupC
  go_enter Tryz.func11, Tryz.ntmps11
  have b0 : Blk (w.alloc (.cells (setupC s m) 30)) w.heap.size 30 (setupC s m) := hon0.out.blkAt 0 rfl
  have i1 : s.input.size ≤ 9223372036854775807 := hs.out.inp
  have i2 : s.hidden.size ≤ 9223372036854775807 := hs.out.hid
  have i3 := s.inp_le
  have i4 := s.hid_le
  replace b0 := Lib.hid b0
  go_upto_region 1 with fail
  go_cut [23] (fun t wx => t = .bool s.tooLong ∧ On Nob w (AllA [BlkA w.heap.size 30 (setupC s m)]) wx)
  case first =>
    go_wp2
    all_goals go_meet
    all_goals refine ⟨?_, hon0.out⟩
    all_goals unfold Setup.tooLong
    all_goals congr 1
    · have h1 : decide (4096 < (s.input.size : Int)) = decide (4096 < s.input.size) := by apply decide_eq_decide.2; omega
      have h2 : decide (64 < (s.hidden.size : Int)) = decide (64 < s.hidden.size) := by apply decide_eq_decide.2; omega
      rw [h1, h2]
    · rename_i h1
      have h2 : decide (4096 < s.input.size) = true := by simp at h1 ⊢; omega
      rw [h2]
      rfl
  case rest =>
    obtain ⟨rfl, hon1⟩ := hcut
    have b1 : Blk wc w.heap.size 30 (setupC s m) := hon1.blkAt 0 rfl
    have c2 : wc.cell? ⟨w.heap.size, 2, none⟩ = some (.string s.input) := b1.cell 2
    have c3 : wc.cell? ⟨w.heap.size, 3, none⟩ = some (.string s.hidden) := b1.cell 3
    have f2 := b1.frozen 2
    have f3 := b1.frozen 3
    have ecut0 : s.tooLong = false → On Nob w (AllA [BlkA w.heap.size 30 (setupC s.cut m)]) wc := fun h => by
      have e1 : setupC s.cut m = setupC s m := by
        show setupC { s with input := s.inp, hidden := s.hid } m = _
        unfold Setup.inp Setup.hid
        rw [h]
        rfl
      rw [e1]
      exact hon1
    have ecut1 : s.tooLong = true → On Nob w (AllA [BlkA w.heap.size 30 (setupC s.cut m)]) ((wc.setCell ⟨w.heap.size, 2, none⟩ (.string ⟨#[]⟩)).setCell ⟨w.heap.size, 3, none⟩ (.string ⟨#[]⟩)) := fun h => by
      have e1 : setupC s.cut m = ((setupC s m).setIfInBounds 2 (.string ⟨#[]⟩)).setIfInBounds 3 (.string ⟨#[]⟩) := by
        show setupC { s with input := s.inp, hidden := s.hid } m = _
        unfold Setup.inp Setup.hid
        rw [h]
        rfl
      rw [e1]
      exact (hon1.setAt 0 rfl 2 (.string ⟨#[]⟩)).setAt 0 rfl 3 (.string ⟨#[]⟩)
    obtain ⟨tl, htl⟩ : ∃ tl, s.tooLong = tl := ⟨_, rfl⟩
    rw [htl] at ecut0 ecut1 ⊢
    replace ecut0 := Lib.hid ecut0
    replace ecut1 := Lib.hid ecut1
    replace hon1 := Lib.hid hon1
    replace b1 := Lib.hid b1
    clear htl b0 hon0
    go_upto_if 23 with fail
    go_cut [] (fun wx => On Nob w (AllA [BlkA w.heap.size 30 (setupC s.cut m)]) wx)
    case first =>
      cases tl
      all_goals go_wp2
      all_goals go_meet
      · exact ecut0.out (by first | rfl | trivial)
      · exact ecut1.out (by first | rfl | trivial)
    case rest =>
      have hon2 := hcut
      clear hcut ecut0 ecut1 hon1 b1 c2 c3 f2 f3
      replace hon2 := Lib.hid hon2
      go_upto_region 4 with fail
      go_cut [3, 4] (fun t3 t4 wx => ∃ (r : Rc) (gws : Nat), t3 = .pointer (some ⟨r.gW, 0, none⟩) ∧ t4 = .bool true ∧ On Nob w (AllA [DocA r r.gK (.slice (some ⟨gws, 0, none⟩) 1 1) x00, BlkA gws 71 #[.pointer (some ⟨r.gK, 0, none⟩)], BlkA w.heap.size 30 (setupC s.cut m)]) wx)
      case first =>
        go_wp2_with fail
        refine (small_walk _).mono ?_
        rintro e w1 ⟨rfl, hb1⟩
        have hon3 := Lib.hid (hon2.out.below hb1)
        clear hon2 hb1
        go_wp2_with fail
        refine (hon3.out.make (w_new _)).mono ?_
        rintro e w2 ⟨B, ⟨r, gws, rfl, rfl⟩, hon4⟩
        have hon5 := Lib.hid (md_start hon4)
        clear hon3 hon4
        go_wp2_with fail
        go_meet
        exact ⟨r, gws, rfl, rfl, hon5.out⟩
      case rest =>
        obtain ⟨r, gws, rfl, rfl, hon5⟩ := hcut
        replace hon5 := Lib.hid hon5
        clear hon2
        go_upto_region 5 with fail
        go_cut [5, 6] (fun t5 t6 wx => ∃ gI, t5 = .pointer (some ⟨gI, 0, none⟩) ∧ t6 = .int .i64 0 ∧ On Nob w (AllA [ImgA gI img0, DocA r r.gK (.slice (some ⟨gws, 0, none⟩) 1 1) x00, BlkA gws 71 #[.pointer (some ⟨r.gK, 0, none⟩)], BlkA w.heap.size 30 (setupC s.cut m)]) wx)
        case first =>
          go_wp2_with fail
          refine (small_walk _).mono ?_
          rintro e w1 ⟨rfl, hb1⟩
          have hon6 := Lib.hid (hon5.out.below hb1)
          clear hon5 hb1
          go_wp2_with fail
          refine (hon6.out.make (i_make _)).mono ?_
          rintro e w2 ⟨B, ⟨gI, rfl, rfl⟩, hon7⟩
          replace hon7 := Lib.hid hon7
          clear hon6
          go_wp2_with fail
          go_meet
          exact ⟨gI, rfl, rfl, hon7.out⟩
        case rest =>
          obtain ⟨gI, rfl, rfl, hon7⟩ := hcut
          clear hon5
          apply_assumption
          exact mk_B hs.out hon7
end Vm
end Go.Proofs.YtjhdpmimccpcdaaGreatDoor
