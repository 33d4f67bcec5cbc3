/- The law LookWords, walked: the program's words and the document's. Conditions: the program's tables lie as their initialisers lay them; the text is no longer than a machine's memory. -/
import Derived.Test.YthejfkkmcbdlhaaGreatDoorQDocW
import Derived.Test.YthejfkkmcbdlhaaGreatDoorQShown
namespace Go.Proofs.YthejfkkmcbdlhaaGreatDoor
set_option linter.unusedVariables false
set_option maxRecDepth 100000
open Go.RowKit Go.Lib
namespace Look
def TrulyW (w : World) (e : Ending) (w' : World) : Prop := e = .returned (.bool true) ∧ Below w.heap.size w w'
theorem keptB {w w' : World} (hk : Kept Nob w w') : Below w.heap.size w w' := ⟨hk.os, hk.tape, hk.output, hk.size, fun k h => hk.block k h id⟩
set_option maxHeartbeats 4000000 in
theorem words_long (T : ByteArray) (hT : 60000 < T.size) (w : World) (hG : Ground w) : Calls Tryz.prog 8 #[.string T] w (fun e w' => e = .returned (.tuple #[.slice none 0 0, .int .i64 2]) ∧ Kept Nob w w') := by
  have hal := all_long T hT w hG
  replace hal := Lib.hid hal
  clear hT hG
  go_enter Tryz.func8, Tryz.ntmps8
  go_wp2_with fail
  refine hal.out.mono ?_
  rintro e w1 ⟨rfl, hk⟩
  replace hk := Lib.hid hk
  go_wp2_with fail
  go_ret2
  exact ⟨rfl, hk.out⟩
set_option maxHeartbeats 4000000 in
theorem wordsD_long (T : ByteArray) (hT : 60000 < T.size) (w : World) : Calls Tryz.prog 9 #[.string T] w (Same (.tuple #[.slice none 0 0, .int .i64 2]) w) := by
  have hrd := fun w => readD_long T hT w
  replace hrd := Lib.hid hrd
  clear hT
  go_enter Tryz.func9, Tryz.ntmps9
  go_wp2_with fail
  refine (hrd.out _).mono ?_
  rintro e w1 ⟨rfl, rfl⟩
  go_wp2_with fail
  go_ret2
  exact ⟨rfl, rfl⟩
set_option maxHeartbeats 8000000 in
theorem words_any (T : ByteArray) (W : World) (hG : Ground W) : Calls Tryz.prog 3 #[.string T] W (TrulyW W) := by
  have hs := shown_walk W hG
  rcases Nat.lt_or_ge 60000 T.size with hT | hT
  · have hwl := fun w1 (hk : Kept Nob W w1) => words_long T hT w1 (hG.kept hk)
    have hdl := fun w => wordsD_long T hT w
    replace hs := Lib.hid hs
    replace hwl := Lib.hid hwl
    replace hdl := Lib.hid hdl
    clear hG hT
    go_enter Tryz.func3, Tryz.ntmps3
    go_wp2_with fail
    refine hs.out.mono ?_
    rintro e w1 ⟨rfl, hk1⟩
    replace hk1 := Lib.hid hk1
    go_wp2_with fail
    refine (hwl.out _ hk1.out).mono ?_
    rintro e w2 ⟨rfl, hk2⟩
    have hk := Lib.hid (hk1.out.trans hk2)
    clear hk1 hk2
    go_wp2_with fail
    refine (hdl.out _).mono ?_
    rintro e w3 ⟨rfl, rfl⟩
    go_wp2_with fail
    go_loopw [8] (fun i wr => i = .int .i64 0 ∧ Kept Nob W wr) (fun _ _ => 0)
    case atStart => exact ⟨rfl, hk.out⟩
    case round =>
      obtain ⟨rfl, hk2⟩ := hrel
      replace hk2 := Lib.hid hk2
      go_wp2_with fail
      go_ret
      exact ⟨rfl, keptB hk2.out⟩
  · have hww := fun w1 (hk : Kept Nob W w1) => words_walk T hT w1 (hG.kept hk)
    have hdw := fun w => wordsD_walk T hT w
    have hon0 := On.nob W
    generalize (readAll env T.data.toList rd0).spoken = R at *
    replace hs := Lib.hid hs
    replace hww := Lib.hid hww
    replace hdw := Lib.hid hdw
    replace hon0 := Lib.hid hon0
    clear hG hT
    go_enter Tryz.func3, Tryz.ntmps3
    go_wp2_with fail
    refine hs.out.mono ?_
    rintro e w1 ⟨rfl, hk1⟩
    have hon1 := hon0.out.keptNob hk1
    have hww1 := hww.out w1 hk1
    replace hon1 := Lib.hid hon1
    replace hww1 := Lib.hid hww1
    clear hk1 hww hon0
    go_wp2_with fail
    refine (hon1.out.makeA hww1.out).mono ?_
    rintro e w2 ⟨v', A', ⟨v, ws, rfl, rfl, hw1⟩, rfl, hon2⟩
    obtain ⟨_, hS1⟩ := hon2.firstA
    obtain ⟨hm1, A1, c1, rfl, hc1⟩ := rowS_loop hS1
    clear hS1
    replace hon2 := Lib.hid hon2
    replace hc1 := Lib.hid hc1
    replace hw1 := Lib.hid hw1
    clear hww1 hon1
    unfold maxLen at hm1
    obtain ⟨n, hn⟩ : ∃ n, ws.length = n := ⟨_, rfl⟩
    simp only [hn] at *
    replace hn := Lib.hid hn
    go_wp2_with fail
    refine (hon2.out.makeA (hdw.out _)).mono ?_
    rintro e w3 ⟨v', A', ⟨v, ws2, rfl, rfl, hw2⟩, rfl, hon3⟩
    obtain rfl : ws2 = ws := IsWords.unique hw2 hw1.out
    obtain ⟨_, hS2⟩ := hon3.firstA
    obtain ⟨_, hS1⟩ := hon3.swapA.firstA
    obtain ⟨hm2, A2, c2, rfl, hc2⟩ := rowS_loop hS2
    have hlen : ws2.length = n := by first | exact hn | exact hn.out
    have hc1b : ∀ (j : Nat) (hj : j < ws2.length), ∃ sg, A1 = some ⟨sg, 0, none⟩ ∧ w3.cell? ⟨sg, j, none⟩ = some (.string ⟨(ws2[j]).toArray⟩) := by
      intro j hj
      have hS1' : ∃ F', (RowS (.slice A1 n c1) ws2).holds w3 F' := ⟨_, hS1⟩
      obtain ⟨F', hS1'⟩ := hS1'
      obtain ⟨sg, he, -⟩ := hc1.out j (by omega)
      subst he
      exact ⟨sg, rfl, strs_at hS1' (List.getElem?_eq_getElem hj)⟩
    have hkw : Kept Nob W w3 := On.keptW hon3
    rw [hlen] at hm2 ⊢
    clear hS1 hS2 hon3 hon2 hc1 hw1 hw2 hdw hs
    replace hc1b := Lib.hid hc1b
    replace hc2 := Lib.hid hc2
    replace hkw := Lib.hid hkw
    replace hlen := Lib.hid hlen
    clear hn
    go_wp2_with fail
    go_loopw [8] (fun i wr => ∃ j : Nat, j ≤ n ∧ i = .int .i64 (j : Int) ∧ Kept Nob w3 wr) (fun i _ => n - (RowKit.intOf i).toNat)
    case atStart => exact ⟨0, by omega, rfl, Kept.refl _ _⟩
    case round =>
      obtain ⟨j, hj, rfl, hk⟩ := hrel
      by_cases hlt : j < n
      · have hjl : j < ws2.length := by rw [hlen.out]; exact hlt
        obtain ⟨s1, he1, p1⟩ := hc1b.out j hjl
        obtain ⟨s2, he2, p2⟩ := hc2.out j hjl
        subst he1
        subst he2
        have q1 := hk.cell p1 id
        have q2 := hk.cell p2 id
        clear p1 p2
        obtain ⟨a, ha⟩ : ∃ a, ws2[j] = a := ⟨_, rfl⟩
        rw [ha] at q1 q2
        clear ha
        replace hk := Lib.hid hk
        go_wp2_with fail
        go_quiet (fail)
        go_wp2_with fail
        go_roundw
        case rel => exact ⟨j + 1, by omega, by go_num, hk.out.drewN _⟩
        case measure => simp [RowKit.intOf]; omega
      · obtain rfl : n = j := by omega
        replace hk := Lib.hid hk
        go_wp2_with fail
        go_ret
        exact ⟨rfl, keptB (hkw.out.trans hk.out)⟩
end Look
end Go.Proofs.YthejfkkmcbdlhaaGreatDoor
