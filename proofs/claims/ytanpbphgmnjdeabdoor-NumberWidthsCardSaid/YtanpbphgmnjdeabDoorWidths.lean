/- Chapter 5's laws, walked: NumberWidths. Conditions: the tables of powers and of trailing zeros lie as their initialisers lay them. -/
import Derived.Test.YtanpbphgmnjdeabDoorNumLw1
namespace Go.Proofs.YtanpbphgmnjdeabDoor
set_option linter.unusedVariables false
open Go.RowKit Go.Lib

set_option maxRecDepth 100000 in
set_option maxHeartbeats 2000000 in
theorem nwidths_any (n b width : Int) (hn : i64R n) (hw : i64R width) (W : World) (hT : NTabs W) : Calls Tryd.prog 3 #[.int .i64 n, .int .i64 b, .int .i64 width] W (NTruly W) := by
  have h0 := nshown_walk W hT
  have p1 := fun w (h : NTabs w) => print_walk n hn b w h.1 h.2
  have p2 := fun w (h : NTabs w) => filled_walk n hn b width hw w h.1 h.2
  have hl := printS_len hn b
  unfold filledS at p2
  generalize printS n b = R at *
  obtain ⟨T, hTe⟩ : ∃ T : ByteArray, (⟨(List.replicate (padN width R) 32 ++ R).toArray⟩ : ByteArray) = T := ⟨_, rfl⟩
  rw [hTe] at p2
  have hTl : T.data.toList = List.replicate (padN width R) 32 ++ R := by rw [← hTe]
  have hTs : T.size = padN width R + R.length := by rw [← size_data, hTl]; simp
  have hsit : (decide ((R.length : Int) < width) = false ∧ decide ((255 : Int) < width) = false ∧ ((T.size : Int) != (R.length : Int)) = false) ∨
      (decide ((R.length : Int) < width) = true ∧ decide ((255 : Int) < width) = false ∧ ((T.size : Int) != width) = false) ∨
      (decide ((R.length : Int) < width) = true ∧ decide ((255 : Int) < width) = true ∧ ((T.size : Int) != 255) = false) := by
    have hp : ((padN width R : Nat) : Int) = max 0 (min width 255 - R.length) := by unfold padN; omega
    by_cases h1 : (R.length : Int) < width
    · by_cases h2 : (255 : Int) < width
      · exact .inr (.inr ⟨by simpa using h1, by simpa using h2, by rw [bne_eq_false_iff_eq]; omega⟩)
      · exact .inr (.inl ⟨by simpa using h1, by simpa using h2, by rw [bne_eq_false_iff_eq]; omega⟩)
    · exact .inl ⟨by simpa using h1, by simp; omega, by rw [bne_eq_false_iff_eq]; omega⟩
  have hp255 : padN width R ≤ 255 := by unfold padN; omega
  generalize padN width R = p at *
  have hcut1 : T.extract p T.size = ⟨R.toArray⟩ := by
    apply bytes_ext
    rw [Lib.extract_to_end T p, hTl]
    simp
  have hsub : (T.size : Int) - (R.length : Int) = (p : Int) := by omega
  have hpT : (p : Int) ≤ (T.size : Int) := by omega
  have hix := fun (j : Nat) (hj : j < p) w => idx_str T j (by omega) w
  have hb32 : ∀ j, j < p → T.data.toList.getD j 0 = 32 := by
    intro j hj
    rw [hTl, List.getD_eq_getElem?_getD, List.getElem?_append_left (by simpa using hj)]
    simp [hj]
  replace hTe := Lib.hid hTe
  replace hTl := Lib.hid hTl
  replace hTs := Lib.hid hTs
  replace hix := Lib.hid hix
  replace hb32 := Lib.hid hb32
  replace h0 := Lib.hid h0
  replace p1 := Lib.hid p1
  replace p2 := Lib.hid p2
  replace hT := Lib.hid hT
  rcases hsit with ⟨t1, t2, t3⟩ | ⟨t1, t2, t3⟩ | ⟨t1, t2, t3⟩
  all_goals
    go_enter Tryd.func3, Tryd.ntmps3
    go_wp2_with fail
    refine h0.out.mono ?_
    rintro e w1 ⟨rfl, h1⟩
    replace h1 := Lib.hid h1
    go_wp2_with fail
    refine (p1.out _ (hT.out.kept h1.out)).mono ?_
    rintro e w2 ⟨rfl, h2⟩
    replace h2 := Lib.hid (h1.out.trans h2)
    go_wp2_with fail
    refine (p2.out _ (hT.out.kept h2.out)).mono ?_
    rintro e w3 ⟨rfl, h3⟩
    replace h3 := Lib.hid (h2.out.trans h3)
    go_wp2_with fail
    go_loopw [11] (fun i wr => ∃ j : Nat, j ≤ p ∧ i = .int .i64 j ∧ wr = w3) (fun i _ => p - (RowKit.intOf i).toNat)
    case atStart => exact ⟨0, Nat.zero_le _, rfl, rfl⟩
    case round =>
      obtain ⟨j, hj, rfl, rfl⟩ := hrel
      by_cases hlt : j < p
      · have hix := hix.out j hlt
        have h32 := hb32.out j hlt
        rw [h32] at hix
        clear h32
        go_wp2_with fail
        go_roundw
        case rel => exact ⟨j + 1, by omega, by go_num, by trivial⟩
        case measure => simp [RowKit.intOf]; omega
      · go_wp2_with fail
        go_ret
        exact ⟨rfl, h3.out.below0⟩
end Go.Proofs.YtanpbphgmnjdeabDoor
