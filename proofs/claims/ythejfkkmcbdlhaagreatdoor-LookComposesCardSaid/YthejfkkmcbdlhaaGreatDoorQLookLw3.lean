/- The law LookComposes, walked. Conditions: the program's tables lie as their initialisers lay them; the texts are no longer than a machine's memory. -/
import Derived.Test.YthejfkkmcbdlhaaGreatDoorQLookLw1
import Derived.Test.YthejfkkmcbdlhaaGreatDoorQScan
import Derived.Deep.DrawnRows
namespace Go.Proofs.YthejfkkmcbdlhaaGreatDoor
set_option linter.unusedVariables false
set_option maxRecDepth 100000
open Go.RowKit Go.Lib
namespace Look
theorem text3_of (a b : ByteArray) : ((⟨#[58, 32, 120, 45, 49, 32]⟩ : ByteArray) ++ a ++ ⟨#[10, 59, 10, 58, 32, 120, 45, 50, 32]⟩ ++ b ++ ⟨#[10, 59, 10, 58, 32, 120, 45, 51, 32, 120, 45, 49, 32, 120, 45, 50, 32, 59]⟩).data.toList = text3 a.data.toList b.data.toList := by
  simp [text3, tail2, tail3, x1, x2, x3]
theorem not_mem_of {a : ByteArray} (h : ∀ k, k < a.size → a.data.toList.getD k 0 ≠ 59) : (59 : UInt8) ∉ a.data.toList := by
  intro hm
  obtain ⟨k, hk, he⟩ := List.getElem_of_mem hm
  have h1 := h k (by rw [Lib.size_eq]; exact hk)
  apply h1
  rw [List.getD_eq_getElem?_getD, List.getElem?_eq_getElem hk]
  exact he
theorem list_needs_lt (T : List UInt8) : ∀ e ∈ (readAll env T rd0).list, e.needs < 32 := by
  intro e he
  have h1 := needs_own env T e he
  have h2 := needs_lt env_ok T
  unfold Sub at h1
  have h3 : e.needs ≤ (readAll env T rd0).needs := by rw [← h1]; exact Nat.left_le_or
  omega
/-- what is read, in plain words -/
theorem com_plain (a b : ByteArray) (C : ByteArray) (hC : C.data.toList = text3 a.data.toList b.data.toList) (hs : C.size ≤ 60000) (ha : (59 : UInt8) ∉ a.data.toList) (hb : (59 : UInt8) ∉ b.data.toList) (h3 : (readAll env C.data.toList rd0).list.length = 3) :
    ∃ e1 e2 e3 : Eff, (readAll env C.data.toList rd0).list = [e1, e2, e3] ∧ (e1.known = true → e2.known = true → ∃ p1 q1 d1 p2 q2 d2, e1 = ⟨x1, p1, q1, true, d1⟩ ∧ e2 = ⟨x2, p2, q2, true, d2⟩ ∧ d1 < 32 ∧ d2 < 32 ∧ 0 ≤ p1 ∧ p1 ≤ 48000000 ∧ -48000000 ≤ q1 ∧ q1 ≤ 48000000 ∧ 0 ≤ p2 ∧ p2 ≤ 23040000000000 ∧ -23040000000000 ≤ q2 ∧ q2 ≤ 23040000000000 ∧
      e3 = ⟨x3, if 0 < p2 - q1 then p1 + p2 - q1 else p1, if 0 < q1 - p2 then q2 + q1 - p2 else q2, true, d1 ||| d2⟩) := by
  have hlt := list_needs_lt C.data.toList
  rw [hC] at h3 hlt ⊢
  obtain ⟨e1, e2, hl, hn1, hn2, hb1⟩ := composes_read envW envB a.data.toList b.data.toList ha hb (by rw [← hC, ← Lib.size_eq]; exact hs) h3
  refine ⟨e1, e2, _, hl, fun k1 k2 => ?_⟩
  obtain ⟨b1, b2⟩ := hb1 k1
  have b2 := b2 k2
  have hc := third_closed env e1 e2 b1 b2 k1 k2
  rw [hl] at hlt
  have g1 := hlt e1 (by simp)
  have g2 := hlt e2 (by simp)
  obtain ⟨⟨i1, i2⟩, i3, i4⟩ := b1
  obtain ⟨⟨j1, j2⟩, j3, j4⟩ := b2
  rcases e1 with ⟨m1, p1, q1, kn1, d1⟩
  rcases e2 with ⟨m2, p2, q2, kn2, d2⟩
  simp only at *
  subst hn1
  subst hn2
  subst k1
  subst k2
  refine ⟨p1, q1, d1, p2, q2, d2, rfl, rfl, g1, g2, i1, i2, i3, i4, j1, j2, j3, j4, ?_⟩
  rw [hc]
  have y1 : max p1 (p2 - (q1 - p1)) = if 0 < p2 - q1 then p1 + p2 - q1 else p1 := by split <;> omega
  have y2 : max p1 (p2 - (q1 - p1)) + (q1 - p1 + (q2 - p2)) = if 0 < q1 - p2 then q2 + q1 - p2 else q2 := by split <;> omega
  rw [y2, y1]
set_option maxHeartbeats 16000000 in
theorem composes_any (a b : ByteArray) (ha : a.size ≤ 140737488355327) (hb : b.size ≤ 140737488355327) (W : World) (hG : Ground W) : Calls Tryz.prog 6 #[.string a, .string b] W (Truly W) := by
  have hs := shown_walk W hG
  have hef := fun (T : ByteArray) (hT : T.size ≤ 60000) w1 (hk : Kept Nob W w1) => effects_walk T hT w1 (hG.kept hk)
  have ia := fun (j : Nat) (h : j < a.size) => idx_str a j h
  have ib := fun (j : Nat) (h : j < b.size) => idx_str b j h
  clear hG
  replace hs := Lib.hid hs
  replace hef := Lib.hid hef
  replace ia := Lib.hid ia
  replace ib := Lib.hid ib
  go_enter Tryz.func6, Tryz.ntmps6
  go_wp2_with fail
  refine hs.out.mono ?_
  rintro e w1 ⟨rfl, hk1⟩
  clear hs
  replace hk1 := Lib.hid hk1
  go_wp2_with fail
  go_loopw [6] (fun i wr => ∃ j : Nat, j ≤ a.size ∧ i = .int .i64 (j : Int) ∧ wr = w1 ∧ ∀ k, k < j → a.data.toList.getD k 0 ≠ 59) (fun i _ => a.size - (RowKit.intOf i).toNat)
  case atStart => exact ⟨0, by omega, rfl, rfl, fun k hk => by omega⟩
  case round =>
    obtain ⟨j, hj, rfl, rfl, hno⟩ := hrel
    replace hno := Lib.hid hno
    by_cases hlt : j < a.size
    · have hx := ia.out j hlt wr
      obtain ⟨c, hc⟩ : ∃ c, a.data.toList.getD j 0 = c := ⟨_, rfl⟩
      rw [hc] at hx
      obtain ⟨n, hn⟩ : ∃ n, c.toNat = n := ⟨_, rfl⟩
      rw [hn] at hx
      replace hc := Lib.hid hc
      replace hn := Lib.hid hn
      by_cases c1 : n = 59
      · subst c1
        go_wp2_with fail
        go_ret
        exact ⟨rfl, Kept.below hk1.out⟩
      · have t1 : (((n : Nat) : Int) == 59) = false := by rw [beq_eq_false_iff_ne]; omega
        by_cases c2 : n = 58
        · subst c2
          go_wp2_with fail
          go_ret
          exact ⟨rfl, Kept.below hk1.out⟩
        · have t2 : (((n : Nat) : Int) == 58) = false := by rw [beq_eq_false_iff_ne]; omega
          replace c1 := Lib.hid c1
          replace c2 := Lib.hid c2
          go_wp2_with fail
          go_roundw
          case rel =>
            refine ⟨j + 1, by omega, by go_num, by first | rfl | trivial, fun k hk => ?_⟩
            by_cases hkj : k = j
            · subst hkj
              rw [hc.out]
              intro h59
              apply c1.out
              rw [← hn.out, h59]
              rfl
            · exact hno.out k (by omega)
          case measure => simp [RowKit.intOf]; omega
    · have hjj : j = a.size := by omega
      subst hjj
      have hna := not_mem_of hno.out
      replace hna := Lib.hid hna
      clear hno
      go_wp2_with fail
      go_loopw [7] (fun i wx => ∃ j : Nat, j ≤ b.size ∧ i = .int .i64 (j : Int) ∧ wx = wr ∧ ∀ k, k < j → b.data.toList.getD k 0 ≠ 59) (fun i _ => b.size - (RowKit.intOf i).toNat)
      case atStart => exact ⟨0, by omega, rfl, rfl, fun k hk => by omega⟩
      case round =>
        obtain ⟨j, hj, rfl, rfl, hno⟩ := hrel
        replace hno := Lib.hid hno
        by_cases hlt : j < b.size
        · have hx := ib.out j hlt wr
          obtain ⟨c, hc⟩ : ∃ c, b.data.toList.getD j 0 = c := ⟨_, rfl⟩
          rw [hc] at hx
          obtain ⟨n, hn⟩ : ∃ n, c.toNat = n := ⟨_, rfl⟩
          rw [hn] at hx
          replace hc := Lib.hid hc
          replace hn := Lib.hid hn
          by_cases c1 : n = 59
          · subst c1
            go_wp2_with fail
            go_ret
            exact ⟨rfl, Kept.below hk1.out⟩
          · have t1 : (((n : Nat) : Int) == 59) = false := by rw [beq_eq_false_iff_ne]; omega
            by_cases c2 : n = 58
            · subst c2
              go_wp2_with fail
              go_ret
              exact ⟨rfl, Kept.below hk1.out⟩
            · have t2 : (((n : Nat) : Int) == 58) = false := by rw [beq_eq_false_iff_ne]; omega
              replace c1 := Lib.hid c1
              replace c2 := Lib.hid c2
              go_wp2_with fail
              go_roundw
              case rel =>
                refine ⟨j + 1, by omega, by go_num, by first | rfl | trivial, fun k hk => ?_⟩
                by_cases hkj : k = j
                · subst hkj
                  rw [hc.out]
                  intro h59
                  apply c1.out
                  rw [← hn.out, h59]
                  rfl
                · exact hno.out k (by omega)
              case measure => simp [RowKit.intOf]; omega
        · have hjj : j = b.size := by omega
          subst hjj
          have hnb := not_mem_of hno.out
          replace hnb := Lib.hid hnb
          clear hno
          rcases Nat.lt_or_ge 50000 (a.size + b.size) with hlen | hlen
          · have t : decide ((a.size : Int) + (b.size : Int) > 50000) = true := by rw [decide_eq_true_eq]; omega
            go_wp2_with fail
            go_ret
            exact ⟨rfl, Kept.below hk1.out⟩
          · have t : decide ((a.size : Int) + (b.size : Int) > 50000) = false := by rw [decide_eq_false_iff_not]; omega
            obtain ⟨C, hC⟩ : ∃ C : ByteArray, (⟨#[58, 32, 120, 45, 49, 32]⟩ : ByteArray) ++ a ++ ⟨#[10, 59, 10, 58, 32, 120, 45, 50, 32]⟩ ++ b ++ ⟨#[10, 59, 10, 58, 32, 120, 45, 51, 32, 120, 45, 49, 32, 120, 45, 50, 32, 59]⟩ = C := ⟨_, rfl⟩
            have hCl := text3_of a b
            rw [hC] at hCl
            have hCs : C.size = a.size + b.size + 33 := by
              rw [← hC]
              simp only [ByteArray.size_append]
              show 6 + a.size + 9 + b.size + 18 = _
              omega
            have he := hef.out C (by omega) _ hk1.out
            have hpl := com_plain a b C hCl (by omega) hna.out hnb.out
            generalize readAll env C.data.toList rd0 = R at *
            replace he := Lib.hid he
            replace hpl := Lib.hid hpl
            replace hCl := Lib.hid hCl
            replace hCs := Lib.hid hCs
            clear ia ib hef
            go_wp2_with fail
            refine he.out.mono ?_
            rintro e w4 ⟨v, A', F', ⟨vl, rfl, rfl⟩, rfl, hrow, hk, -⟩
            have hk4 := Lib.hid (hk1.out.trans hk)
            clear hk he
            by_cases hL3 : R.list.length = 3
            · obtain ⟨e1, e2, e3, hl, hp⟩ := hpl.out hL3
              rw [hl] at hrow
              clear hpl hL3 hl
              obtain ⟨-, A, cap, rfl, hcells⟩ := effs_loop hrow
              clear hrow
              obtain ⟨sg, rfl, q0⟩ := hcells 0 (by simp)
              obtain ⟨sg', hA, q1⟩ := hcells 1 (by simp)
              cases hA
              obtain ⟨sg', hA, q2⟩ := hcells 2 (by simp)
              cases hA
              clear hcells
              rcases e1 with ⟨n1, p1, q1', k1, d1⟩
              rcases e2 with ⟨n2, p2, q2', k2, d2⟩
              have a0 := q0 0 (by omega)
              have a1 := q0 1 (by omega)
              have a2 := q0 2 (by omega)
              have a3 := q0 3 (by omega)
              have a4 := q0 4 (by omega)
              have b0 := q1 0 (by omega)
              have b1 := q1 1 (by omega)
              have b2 := q1 2 (by omega)
              have b3 := q1 3 (by omega)
              have b4 := q1 4 (by omega)
              simp [effC] at a0 a1 a2 a3 a4 b0 b1 b2 b3 b4
              simp only [List.length_cons, List.length_nil]
              cases k1
              · clear q0 q1 q2 hp
                go_wp2_with fail
                go_ret
                exact ⟨rfl, Kept.below hk4.out⟩
              cases k2
              · clear q0 q1 q2 hp
                go_wp2_with fail
                go_ret
                exact ⟨rfl, Kept.below hk4.out⟩
              obtain ⟨P1, Q1, D1, P2, Q2, D2, h1, h2, g1, g2, i1, i2, i3, i4, j1, j2, j3, j4, h3⟩ := hp rfl rfl
              cases h1
              cases h2
              have c0 := q2 0 (by omega)
              have c1 := q2 1 (by omega)
              have c2 := q2 2 (by omega)
              have c3 := q2 3 (by omega)
              have c4 := q2 4 (by omega)
              rw [h3] at c0 c1 c2 c3 c4
              simp only [effC, List.getElem?_cons_zero, List.getElem?_cons_succ] at c0 c1 c2 c3 c4
              have ho := or_nat d1 d2 (by omega) (by omega)
              have w1 : wrap64 (p2 - q1') = p2 - q1' := wr_id (by omega)
              have w2 : wrap64 (p1 + p2) = p1 + p2 := wr_id (by omega)
              have w3 : wrap64 (p1 + p2 - q1') = p1 + p2 - q1' := wr_id (by omega)
              have w4' : wrap64 (q1' - p2) = q1' - p2 := wr_id (by omega)
              have w5 : wrap64 (q2' + q1') = q2' + q1' := wr_id (by omega)
              have w6 : wrap64 (q2' + q1' - p2) = q2' + q1' - p2 := wr_id (by omega)
              clear q0 q1 q2 hp h3
              simp [x1] at a0
              simp [x2] at b0
              simp [x3] at c0
              by_cases s1 : 0 < p2 - q1'
              · have s2 : ¬ (0 < q1' - p2) := by omega
                rw [if_pos s1] at c1
                rw [if_neg s2] at c2
                have t1 : decide (q1' < p2) = true := by rw [decide_eq_true_eq]; omega
                have t2 : decide (p2 < q1') = false := by rw [decide_eq_false_iff_not]; omega
                replace s1 := Lib.hid s1
                replace s2 := Lib.hid s2
                iterate 4 (go_wp2_with fail; go_quiet (fail))
                go_wp2_with fail
                go_ret
                exact ⟨rfl, Kept.below (by repeat (first | exact hk4.out | apply Kept.drewN))⟩
              · by_cases s2 : 0 < q1' - p2
                · skip
                  rw [if_neg s1] at c1
                  rw [if_pos s2] at c2
                  have t1 : decide (q1' < p2) = false := by rw [decide_eq_false_iff_not]; omega
                  have t2 : decide (p2 < q1') = true := by rw [decide_eq_true_eq]; omega
                  replace s1 := Lib.hid s1
                  replace s2 := Lib.hid s2
                  iterate 4 (go_wp2_with fail; go_quiet (fail))
                  go_wp2_with fail
                  go_ret
                  exact ⟨rfl, Kept.below (by repeat (first | exact hk4.out | apply Kept.drewN))⟩
                · skip
                  rw [if_neg s1] at c1
                  rw [if_neg s2] at c2
                  have t1 : decide (q1' < p2) = false := by rw [decide_eq_false_iff_not]; omega
                  have t2 : decide (p2 < q1') = false := by rw [decide_eq_false_iff_not]; omega
                  replace s1 := Lib.hid s1
                  replace s2 := Lib.hid s2
                  iterate 3 (go_wp2_with fail; go_quiet (fail))
                  go_wp2_with fail
                  go_ret
                  exact ⟨rfl, Kept.below (by repeat (first | exact hk4.out | apply Kept.drewN))⟩
            · have t3 : ((R.list.length : Int) == 3) = false := by rw [beq_eq_false_iff_ne]; omega
              obtain ⟨-, A, cap, rfl, hcells⟩ := effs_loop hrow
              clear hcells hrow
              generalize R.list.length = L at *
              clear t3
              have hL4 : ¬ ((L : Int) = 3) := by omega
              go_wp2_with fail
              go_ret
              exact ⟨rfl, Kept.below hk4.out⟩
end Look
end Go.Proofs.YthejfkkmcbdlhaaGreatDoor
