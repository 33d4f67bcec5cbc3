/- The law LookLess, walked. Conditions: the program's tables lie as their initialisers lay them; the texts are no longer than a machine's memory. -/
import Derived.Test.YthejfkkmcbdlhaaGreatDoorQShown
namespace Go.Proofs.YthejfkkmcbdlhaaGreatDoor
set_option linter.unusedVariables false
set_option maxRecDepth 100000
open Go.RowKit Go.Lib
namespace Look
def Truly (w : World) (e : Ending) (w' : World) : Prop := e = .returned (.bool true) ∧ Below w.heap.size w w'
theorem Kept.below {w w' : World} (hk : Kept Nob w w') : Below w.heap.size w w' := ⟨hk.os, hk.tape, hk.output, hk.size, fun k h => hk.block k h id⟩
theorem andnot32 : ∀ x y : Fin 32, (x.val ||| y.val = y.val) → bits .andNot .i64 (x.val : Int) (y.val : Int) = 0 := by decide +kernel
theorem andnot_sub {x y : Nat} (hx : x < 32) (hy : y < 32) (h : Sub x y) : bits .andNot .i64 (x : Int) (y : Int) = 0 := andnot32 ⟨x, hx⟩ ⟨y, hy⟩ h
def NeedsIs (R : Rd) (n : Nat) (ok : Bool) : Prop := ok = true ∧ n = R.needs ∧ isBad R = false ∨ ok = false ∧ n = 0
theorem needs_any (T : ByteArray) (hT : T.size ≤ 60000) (w : World) (hG : Ground w) : Calls Tryz.prog 10 #[.string T] w (fun e w' => ∃ (n : Nat) (ok : Bool), NeedsIs (readAll env T.data.toList rd0) n ok ∧ e = .returned (.tuple #[.int .i64 (n : Int), .bool ok, .int .i64 0]) ∧ Kept Nob w w') := by
  refine (needs_walk T hT w hG).mono fun e w' ⟨he, hk⟩ => ?_
  generalize readAll env T.data.toList rd0 = R at *
  by_cases h : (R.loose || isBad R) = true
  · rw [if_pos h] at he
    exact ⟨0, false, .inr ⟨rfl, rfl⟩, he, hk⟩
  · rw [if_neg h] at he
    rw [Bool.not_eq_true, Bool.or_eq_false_iff] at h
    exact ⟨R.needs, true, .inl ⟨rfl, rfl, h.2⟩, he, hk⟩
/-- a row of effects, as a loop reads it -/
theorem effs_loop {w : World} {F : Nat → Prop} {v : Value} {l : List Eff} (h : (RowK 34 5 v l.length (effsC l)).holds w F) :
    l.length ≤ 9223372036854775807 ∧ ∃ A cap, v = .slice A l.length cap ∧ ∀ (j : Nat) (hj : j < l.length), ∃ sg, A = some ⟨sg, 0, none⟩ ∧ ∀ i, i < 5 → w.cell? ⟨sg, j * 5 + i, none⟩ = (effC l[j])[i]? := by
  have hh := h.1
  rcases h.1.2 with ⟨rfl, h0⟩ | ⟨g, cap, cur, rfl, -, -, h1, h2, -⟩
  · exact ⟨by omega, none, 0, by rw [h0], fun j hj => by omega⟩
  · exact ⟨by unfold maxLen at h2; omega, some ⟨g, 0, none⟩, cap, rfl, fun j hj => ⟨g, rfl, fun i hi => effs_cell hh j i hj hi⟩⟩
theorem all_known {R : Rd} (h : isBad R = false) (j : Nat) (hj : j < R.list.length) : R.list[j].known = true := by
  unfold isBad at h
  rw [List.any_eq_false] at h
  have := h _ (List.getElem_mem hj)
  simpa using this
set_option maxHeartbeats 8000000 in
theorem less_any (a b : ByteArray) (ha : a.size ≤ 140737488355327) (hb : b.size ≤ 140737488355327) (W : World) (hG : Ground W) : Calls Tryz.prog 4 #[.string a, .string b] W (Truly W) := by
  have hs := shown_walk W hG
  rcases Nat.lt_or_ge 59000 (a.size + b.size) with h | h
  · clear hG
    replace hs := Lib.hid hs
    have hd : decide ((a.size : Int) + (b.size : Int) > 59000) = true := by rw [decide_eq_true_eq]; omega
    go_enter Tryz.func4, Tryz.ntmps4
    go_wp2_with fail
    refine hs.out.mono ?_
    rintro e w1 ⟨rfl, hk⟩
    replace hk := Lib.hid hk
    go_wp2_with fail
    go_ret
    exact ⟨rfl, Kept.below hk.out⟩
  · have hd : decide ((a.size : Int) + (b.size : Int) > 59000) = false := by rw [decide_eq_false_iff_not]; omega
    obtain ⟨C, hC⟩ : ∃ C : ByteArray, a ++ ⟨#[10]⟩ ++ b = C := ⟨_, rfl⟩
    have hCs : C.size = a.size + 1 + b.size := by rw [← hC, ByteArray.size_append, ByteArray.size_append]; rfl
    have hCl : C.data.toList = a.data.toList ++ 10 :: b.data.toList := by rw [← hC]; simp
    have hna := fun w1 (hk : Kept Nob W w1) => needs_any a (by omega) w1 (hG.kept hk)
    have hnc := fun w1 (hk : Kept Nob W w1) => needs_any C (by omega) w1 (hG.kept hk)
    have hef := fun w1 (hk : Kept Nob W w1) => effects_walk a (by omega) w1 (hG.kept hk)
    have l1 := needs_lt env_ok a.data.toList
    have l2 := needs_lt env_ok C.data.toList
    have hsub := needs_begins env a.data.toList b.data.toList
    rw [← hCl] at hsub
    have hown := needs_own env a.data.toList
    generalize readAll env C.data.toList rd0 = Rc at *
    generalize readAll env a.data.toList rd0 = Ra at *
    clear hG hCl
    replace hs := Lib.hid hs
    replace hna := Lib.hid hna
    replace hnc := Lib.hid hnc
    replace hef := Lib.hid hef
    replace l1 := Lib.hid l1
    replace l2 := Lib.hid l2
    replace hsub := Lib.hid hsub
    replace hown := Lib.hid hown
    replace hCs := Lib.hid hCs
    go_enter Tryz.func4, Tryz.ntmps4
    go_wp2_with fail
    refine hs.out.mono ?_
    rintro e w1 ⟨rfl, hk1⟩
    replace hk1 := Lib.hid hk1
    go_wp2_with fail
    refine (hna.out w1 hk1.out).mono ?_
    rintro e w2 ⟨n1, ok1, hn1, rfl, hk⟩
    have hk2 := Lib.hid (hk1.out.trans hk)
    clear hk hk1
    replace hn1 := Lib.hid hn1
    go_wp2_with fail
    refine (hnc.out w2 hk2.out).mono ?_
    rintro e w3 ⟨n2, ok2, hn2, rfl, hk⟩
    have hk3 := Lib.hid (hk2.out.trans hk)
    clear hk hk2
    replace hn2 := Lib.hid hn2
    go_wp2_with fail
    refine (hef.out w3 hk3.out).mono ?_
    rintro e w4 ⟨v, A', F', ⟨vl, rfl, rfl⟩, rfl, hrow, hk, -⟩
    have hk4 := Lib.hid (Kept.below (hk3.out.trans hk))
    clear hk hk3 hs hna hnc hef hC hCs hd
    obtain ⟨hLr, A, cap, rfl, hcells⟩ := effs_loop hrow
    clear hrow
    replace hcells := Lib.hid hcells
    have k1 := fun (hb : isBad Ra = false) => all_known hb
    replace k1 := Lib.hid k1
    obtain ⟨L, hL⟩ : ∃ L, Ra.list.length = L := ⟨_, rfl⟩
    obtain ⟨m1, hm1⟩ : ∃ m, Ra.needs = m := ⟨_, rfl⟩
    obtain ⟨m2, hm2⟩ : ∃ m, Rc.needs = m := ⟨_, rfl⟩
    have q1 : m1 < 32 := hm1 ▸ l1.out
    have q2 : m2 < 32 := hm2 ▸ l2.out
    have q3 : Sub m1 m2 := by have := hsub.out; rw [hm1, hm2] at this; exact this
    have q4 := andnot_sub q1 q2 q3
    have t1 : decide ((m1 : Int) < 0) = false := by rw [decide_eq_false_iff_not]; omega
    have t2 : decide ((m1 : Int) > 31) = false := by rw [decide_eq_false_iff_not]; omega
    have t3 : decide ((m2 : Int) < 0) = false := by rw [decide_eq_false_iff_not]; omega
    have t4 : decide ((m2 : Int) > 31) = false := by rw [decide_eq_false_iff_not]; omega
    have q5 : ∀ (j : Nat) (hj : j < Ra.list.length), isBad Ra = false → ∃ x : Nat, (effC Ra.list[j])[3]? = some (.bool true) ∧ (effC Ra.list[j])[4]? = some (.int .i64 (x : Int)) ∧ bits .andNot .i64 (x : Int) (m1 : Int) = 0 := by
      intro j hj hb
      have e1 := k1.out hb j hj
      have e2 := hown.out _ (List.getElem_mem hj)
      rw [hm1] at e2
      refine ⟨Ra.list[j].needs, by simp [effC, e1], rfl, andnot_sub ?_ q1 e2⟩
      have h2 : Ra.list[j].needs ≤ m1 := by unfold Sub at e2; rw [← e2]; exact Nat.left_le_or
      omega
    rw [hL]
    have hLm : L ≤ 9223372036854775807 := hL ▸ hLr
    clear hLr
    replace hn1 := hn1.out
    replace hn2 := hn2.out
    unfold NeedsIs at hn1 hn2
    rw [hm1] at hn1
    rw [hm2] at hn2
    clear hm1 hm2 l1 l2 hsub hown k1 q3
    replace q5 := Lib.hid q5
    replace hL := Lib.hid hL
    replace q1 := Lib.hid q1
    replace q2 := Lib.hid q2
    replace hLm := Lib.hid hLm
    rcases hn1 with ⟨rfl, rfl, hbad⟩ | ⟨rfl, rfl⟩
    · rcases hn2 with ⟨rfl, rfl, -⟩ | ⟨rfl, rfl⟩
      all_goals
        go_wp2_with fail
        go_loopw [14] (fun i wr => ∃ j : Nat, j ≤ L ∧ i = .int .i64 (j : Int) ∧ wr = w4) (fun i _ => L - (RowKit.intOf i).toNat)
        case atStart => exact ⟨0, by omega, rfl, rfl⟩
        case round =>
          obtain ⟨j, hj, rfl, rfl⟩ := hrel
          by_cases hlt : j < L
          · obtain ⟨sg, hA, hc⟩ := hcells.out j (by rw [hL.out]; exact hlt)
            obtain ⟨x, x3, x4, x5⟩ := q5.out j (by rw [hL.out]; exact hlt) hbad
            have y3 := (hc 3 (by omega)).trans x3
            have y4 := (hc 4 (by omega)).trans x4
            subst hA
            clear hc x3 x4
            have hj63 : j + 1 ≤ 9223372036854775807 := by have := hLm.out; omega
            go_wp2_with fail
            go_roundw
            case rel =>
              refine ⟨j + 1, by omega, by go_num, ?_⟩
              first | rfl | trivial
            case measure =>
              simp [RowKit.intOf]
              have e1 : wrap64 ((j : Int) + 1) = (j : Int) + 1 := by unfold wrap64; omega
              first | omega | (rw [e1]; omega)
          · have : j = L := by omega
            subst this
            go_wp2_with fail
            go_ret
            exact ⟨rfl, hk4.out⟩
    · rcases hn2 with ⟨rfl, rfl, -⟩ | ⟨rfl, rfl⟩
      all_goals
        go_wp2_with fail
        go_loopw [14] (fun i wr => i = .int .i64 0 ∧ wr = w4) (fun i _ => 0)
        case atStart => exact ⟨rfl, rfl⟩
        case round =>
          obtain ⟨rfl, rfl⟩ := hrel
          go_wp2_with fail
          all_goals go_ret
          all_goals exact ⟨rfl, hk4.out⟩
end Look
end Go.Proofs.YthejfkkmcbdlhaaGreatDoor
