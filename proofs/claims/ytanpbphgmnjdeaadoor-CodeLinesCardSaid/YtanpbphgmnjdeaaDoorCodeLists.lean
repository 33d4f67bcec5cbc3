/- The law CodeLists, walked. Conditions: the tables lie as their initialisers lay them; the slice's cells are at hand. -/
import Derived.Test.YtanpbphgmnjdeaaDoorList3
import Derived.Test.YtanpbphgmnjdeaaDoorCodeFetches
namespace Go.Proofs.YtanpbphgmnjdeaaDoor
set_option linter.unusedVariables false
open Go.RowKit Go.Lib Go.Deep

theorem wrap64_i64r (n : Int) : i64r (wrap64 n) := by unfold i64r wrap64; omega
theorem ImgA.ok {w0 w : World} {g : Nat} {S : Img} {L : List Asr} (h : At w0 w (ImgA g S :: L)) : S.Ok := by
  obtain ⟨gb, hr⟩ := ImgA.rep h
  exact hr.ok
set_option maxRecDepth 100000 in
set_option maxHeartbeats 2000000 in
theorem lists_any (A : Option Addr) (n c : Nat) (zs : List Int) (s : Bool) (m at_ tt : Int) (W : World)
    (hn : n ≤ 9223372036854775807) (hrow : LawF.Row W A n (fun j => .int .i64 (zs.getD j 0))) (hz : zs.length = n) (hzz : ∀ z ∈ zs, (Lit.int .i64 z).wf = true) (hT : Tabs W) (hP : Pow W) :
    Calls Tryd.prog 7 #[.slice A n c, .bool s, .int .i64 m, .int .i64 at_, .int .i64 tt] W (Truly W) := by
  have hboth := fun w (h : At W w []) => both_walk h A n c zs hn hrow hz hzz false s
  replace hboth := Lib.hid hboth
  have hA0 := Lib.hid (At.refl W)
  clear hrow hzz hz hn
  replace hP := Lib.hid hP
  have hN := Lib.hid hT.1
  go_enter Tryd.func7, Tryd.ntmps7
  go_wp2_with fail
  refine (shown_walk W hT).mono ?_
  rintro e w1 ⟨rfl, h1⟩
  have hA1 := Lib.hid (hA0.out.ofBelow h1)
  clear h1 hA0 hT
  replace hboth := Lib.hid (hboth.out w1 hA1.out)
  go_wp2_with fail
  refine hboth.out.mono ?_
  rintro e w2 ⟨g, g', S, rfl, hS, h2⟩
  have hok := Lib.hid (ImgA.ok h2)
  replace h2 := Lib.hid h2
  have hsp := b_span h2.out.swap 3
  rw [hS.span.1, hS.span.2] at hsp
  replace hsp := Lib.hid hsp
  clear hS
  go_wp2_with fail
  refine hsp.out.mono ?_
  rintro e w3 ⟨rfl, h3⟩
  have h3 := Lib.hid h3.swap
  clear hsp h2 hboth hA1
  have hl1 := list_walk h3.out m (wrap64 (16448 + at_)) (wrap64 (16448 + tt)) (wrap64_i64r _) hN.out hP.out hok.out
  replace hl1 := Lib.hid hl1
  go_wp2_with fail
  refine hl1.out.mono ?_
  rintro e w4 ⟨rfl, h4⟩
  have hl2 := List_walk h4.swap m (wrap64 (16448 + at_)) (wrap64 (16448 + tt)) (wrap64_i64r _) hok.out
  generalize S.listL m (wrap64 (16448 + at_)) (wrap64 (16448 + tt)) [] = R at *
  obtain ⟨R1, R2⟩ := R
  replace hl2 := Lib.hid hl2
  clear h4 h3
  go_wp2_with fail
  refine hl2.out.mono ?_
  rintro e w5 ⟨rfl, h5⟩
  have h5 := Lib.hid h5.below
  go_wp2
  all_goals go_ret
  all_goals exact ⟨by simp, h5.out⟩
end Go.Proofs.YtanpbphgmnjdeaaDoor
