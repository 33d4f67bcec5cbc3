/- Chapter 5: reading a number, on both sides. Conditions: as written. -/
import Derived.Test.YthejfkkmcbdlhaaGreatDoorQNum
import Derived.Test.YthejfkkmcbdlhaaGreatDoorQShelf
import Derived.Deep.DeepCutAuto
import Derived.Deep.CutBlock
import Derived.BigRegion
import Derived.RegionTactic
namespace Go.Proofs.YthejfkkmcbdlhaaGreatDoor
set_option linter.unusedVariables false
open Go.RowKit Go.Lib

theorem base_walk (n : Int) (w : World) : Calls Tryz.prog 126 #[.int .i64 n] w (Same (.bool (decide (2 ≤ n) && decide (n ≤ 36))) w) := by
  rcases Int.lt_or_le n 2 with h | h
  · have e : (decide (2 ≤ n) && decide (n ≤ 36)) = false := by simp; omega
    rw [e]
    go_enter Tryz.func126, Tryz.ntmps126
    go_wp2
    all_goals go_ret
    all_goals exact ⟨rfl, rfl⟩
  · rcases Int.lt_or_le 36 n with h2 | h2
    · have e : (decide (2 ≤ n) && decide (n ≤ 36)) = false := by simp; omega
      have e2 : decide (n ≤ 36) = false := by simp; omega
      rw [e]
      go_enter Tryz.func126, Tryz.ntmps126
      go_wp2
      all_goals go_ret
      all_goals exact ⟨rfl, rfl⟩
    · have e : (decide (2 ≤ n) && decide (n ≤ 36)) = true := by simp; omega
      rw [e]
      go_enter Tryz.func126, Tryz.ntmps126
      go_wp2
      all_goals go_ret
      all_goals exact ⟨rfl, rfl⟩
theorem bytes_ext {a b : ByteArray} (h : a.data.toList = b.data.toList) : a = b := by
  cases a; cases b; simpa [Array.toList_inj] using h
theorem isEmpty_sizeN (s : ByteArray) : s.toList.isEmpty = decide (s.size = 0) := by
  have h : s.toList = s.data.toList := ByteArray.toList_eq s
  have h2 : s.data.toList.length = s.size := by rw [Array.length_toList]; rfl
  rw [h, ← h2]
  cases s.data.toList <;> simp
theorem size_data (s : ByteArray) : s.data.toList.length = s.size := by rw [Array.length_toList]; rfl
/-- the three tests of a quoted byte -/
theorem quoted_cases (s : ByteArray) : (quotedB s.data.toList = false ∧ ((s.size : Int) == 3) = false) ∨
    (s.size = 3 ∧ quotedB s.data.toList = false ∧ (((s.data.toList.getD 0 0).toNat : Int) == 39) = false) ∨
    (s.size = 3 ∧ quotedB s.data.toList = (((s.data.toList.getD 2 0).toNat : Int) == 39) ∧ (((s.data.toList.getD 0 0).toNat : Int) == 39) = true) := by
  have h39 : ∀ c : UInt8, (c == 39) = ((c.toNat : Int) == 39) := by
    intro c
    rw [Bool.eq_iff_iff]
    simp only [beq_iff_eq]
    constructor
    · rintro rfl; rfl
    · intro h; apply UInt8.toNat_inj.1; have : (39 : UInt8).toNat = 39 := rfl; omega
  unfold quotedB
  rw [size_data, h39, h39]
  generalize s.data.toList.getD 0 0 = c0
  generalize s.data.toList.getD 2 0 = c2
  by_cases h3 : s.size = 3
  · have e3 : (s.size == 3) = true := by simpa using h3
    rw [e3]
    cases h0 : ((c0.toNat : Int) == 39)
    · exact .inr (.inl ⟨h3, rfl, rfl⟩)
    · exact .inr (.inr ⟨h3, rfl, rfl⟩)
  · have e3 : (s.size == 3) = false := by simpa using h3
    rw [e3]
    exact .inl ⟨rfl, by rw [beq_eq_false_iff_ne]; omega⟩
theorem mark_idx (c : UInt8) : Lib.indexByte [36, 37, 35] ((c.toNat : Int).toNat.toUInt8) = if c = 36 then 0 else if c = 37 then 1 else if c = 35 then 2 else -1 := by
  have e : ((c.toNat : Int).toNat.toUInt8) = c := by simp
  rw [e]
  by_cases h1 : c = 36
  · subst h1; decide
  · by_cases h2 : c = 37
    · subst h2; decide
    · by_cases h3 : c = 35
      · subst h3; decide
      · have n1 : ((36 : UInt8) == c) = false := by rw [beq_eq_false_iff_ne]; exact fun h => h1 h.symm
        have n2 : ((37 : UInt8) == c) = false := by rw [beq_eq_false_iff_ne]; exact fun h => h2 h.symm
        have n3 : ((35 : UInt8) == c) = false := by rw [beq_eq_false_iff_ne]; exact fun h => h3 h.symm
        simp [Lib.indexByte, n1, n2, n3, h1, h2, h3]
theorem arr_idx0 (w : World) : (Instr.index 186 (.agg #[.int .i64 16, .int .i64 2, .int .i64 10]) (.int .i64 0)).run Tryz.prog w = .ok (.int .i64 16) w := by kernel_rfl
theorem arr_idx1 (w : World) : (Instr.index 186 (.agg #[.int .i64 16, .int .i64 2, .int .i64 10]) (.int .i64 1)).run Tryz.prog w = .ok (.int .i64 2) w := by kernel_rfl
theorem arr_idx2 (w : World) : (Instr.index 186 (.agg #[.int .i64 16, .int .i64 2, .int .i64 10]) (.int .i64 2)).run Tryz.prog w = .ok (.int .i64 10) w := by kernel_rfl
theorem idx_lit0 (s : ByteArray) (h : 0 < s.size) (w : World) : (Instr.index 9 (.string s) (.int .i64 0)).run Tryz.prog w = .ok (.int .u8 ((s.data.toList.getD 0 0).toNat : Int)) w := idx_str s 0 h w
theorem idx_lit1 (s : ByteArray) (h : 1 < s.size) (w : World) : (Instr.index 9 (.string s) (.int .i64 1)).run Tryz.prog w = .ok (.int .u8 ((s.data.toList.getD 1 0).toNat : Int)) w := idx_str s 1 h w
theorem idx_lit2 (s : ByteArray) (h : 2 < s.size) (w : World) : (Instr.index 9 (.string s) (.int .i64 2)).run Tryz.prog w = .ok (.int .u8 ((s.data.toList.getD 2 0).toNat : Int)) w := idx_str s 2 h w
theorem bodyN_pos {b : Nat} {l : List UInt8} (h : l.head? ≠ some 45) : bodyN b l = (wrap64 ((sizeB b l).1 : Int), (sizeB b l).2) := by unfold bodyN; rw [if_neg h]
theorem bodyN_no {b : Nat} {l : List UInt8} (h : (sizeB b l).2 = false ∨ 9223372036854775808 < (sizeB b l).1) : bodyN b (45 :: l) = (0, false) := by unfold bodyN; rw [if_pos (by rfl)]; exact if_pos h
theorem bodyN_yes {b : Nat} {l : List UInt8} (h : (sizeB b l).2 = true) (h2 : (sizeB b l).1 ≤ 9223372036854775808) : bodyN b (45 :: l) = (wrap64 (-((sizeB b l).1 : Int)), true) := by
  unfold bodyN
  rw [if_pos (by rfl)]
  refine if_neg ?_
  intro e
  rcases e with e | e
  · have e' : (sizeB b l).2 = false := e
    rw [h] at e'; cases e'
  · have e' : 9223372036854775808 < (sizeB b l).1 := e
    omega
theorem parse_bad {l : List UInt8} {b : Int} (h : b < 2 ∨ 36 < b) : parseN l b = (0, false) := by unfold parseN; rw [if_pos h]
theorem parse_quoted {l : List UInt8} {b : Int} (h : ¬ (b < 2 ∨ 36 < b)) (hq : quotedB l = true) : parseN l b = (((l.getD 1 0).toNat : Int), true) := by unfold parseN; rw [if_neg h, if_pos hq]
theorem parse_rest {l : List UInt8} {b : Int} (h : ¬ (b < 2 ∨ 36 < b)) (hq : quotedB l = false) : parseN l b = (if l.head? = some 36 then bodyN 16 l.tail else if l.head? = some 37 then bodyN 2 l.tail else if l.head? = some 35 then bodyN 10 l.tail else bodyN b.toNat l) := by unfold parseN; rw [if_neg h, if_neg (by simp [hq])]
/-- what a text is cut down to ahead of its digits -/
def BodyRel (l : List UInt8) (b : Int) (l' : List UInt8) (b' : Nat) : Prop := parseN l b = bodyN b' l' ∧ 2 ≤ b' ∧ b' ≤ 36 ∧ l'.length ≤ l.length
theorem sizeB_false {b : Nat} {l : List UInt8} (h : (sizeB b l).2 = false) : (sizeB b l).1 = 0 := by
  unfold sizeB at h ⊢
  cases hs : sizeN b 0 l with
  | none => rfl
  | some n =>
    rw [hs] at h
    simp only [Bool.not_eq_false', List.isEmpty_iff] at h ⊢
    subst h
    simpa [sizeN] using hs.symm
set_option maxRecDepth 100000 in
set_option maxHeartbeats 4000000 in
theorem parse_walk (s : ByteArray) (hs : s.size ≤ 9223372036854775807) (b : Int) (w : World) :
    Calls Tryz.prog 96 #[.string s, .int .i64 b] w (Fresh' (.tuple #[.int .i64 (parseN s.data.toList b).1, .bool (parseN s.data.toList b).2]) w) := by
  have hbw := base_walk b w
  by_cases hb : b < 2 ∨ 36 < b
  · rw [parse_bad hb]
    have e : (decide (2 ≤ b) && decide (b ≤ 36)) = false := by simp; omega
    rw [e] at hbw
    replace hbw := Lib.hid hbw
    go_enter Tryz.func96, Tryz.ntmps96
    go_wp2_with (go_at_call 126; refine hbw.out.mono ?_; rintro e w3 ⟨rfl, rfl⟩)
    go_ret2
    exact ⟨rfl, Kept.refl _ _⟩
  · have e : (decide (2 ≤ b) && decide (b ≤ 36)) = true := by simp; omega
    rw [e] at hbw
    replace hbw := Lib.hid hbw
    replace e := Lib.hid e
    have hqc := quoted_cases s
    have hl := size_data s
    have hq1 : quotedB s.data.toList = true → parseN s.data.toList b = (((s.data.toList.getD 1 0).toNat : Int), true) := fun h => parse_quoted hb h
    have hq1s : quotedB s.data.toList = true → s.size = 3 := by
      intro h
      rcases quoted_cases s with ⟨h1, _⟩ | ⟨h1, _⟩ | ⟨h1, _⟩
      · rw [h] at h1; cases h1
      · exact h1
      · exact h1
    have hq2 : quotedB s.data.toList = false → _ := fun h => parse_rest hb h
    obtain ⟨⟨R1, R2⟩, hR⟩ : ∃ x, parseN s.data.toList b = x := ⟨_, rfl⟩
    rw [hR] at hq1 hq2 ⊢
    replace hR := Lib.hid hR
    replace hl := Lib.hid hl
    generalize hq : quotedB s.data.toList = q at *
    replace hq := Lib.hid hq
    replace hq1 := Lib.hid hq1
    replace hq1s := Lib.hid hq1s
    replace hq2 := Lib.hid hq2
    replace hqc := Lib.hid hqc
    obtain ⟨hb2, hb36⟩ : 2 ≤ b ∧ b ≤ 36 := by omega
    clear hb e
    go_enter Tryz.func96, Tryz.ntmps96
    go_upto_region 3 with (go_at_call 126; refine hbw.out.mono ?_; rintro e w3 ⟨rfl, rfl⟩)
    go_cut [25] (fun x wx => x = .bool q ∧ w3 = wx)
    case first =>
      rcases hqc.out with ⟨hqf, h3⟩ | ⟨h3, hqf, h0⟩ | ⟨h3, hqe, h0⟩
      · subst hqf
        go_wp2
        go_meet
        exact ⟨rfl, rfl⟩
      · subst hqf
        have i0 := fun w => idx_lit0 s (by omega) w
        have h3b : ((s.size : Int) == 3) = true := by rw [h3]; rfl
        generalize s.data.toList.getD 0 0 = c0 at *
        clear h3
        go_wp2
        go_meet
        exact ⟨rfl, rfl⟩
      · have i0 := fun w => idx_lit0 s (by omega) w
        have i2 := fun w => idx_lit2 s (by omega) w
        have h3b : ((s.size : Int) == 3) = true := by rw [h3]; rfl
        generalize s.data.toList.getD 0 0 = c0 at *
        generalize s.data.toList.getD 2 0 = c2 at *
        replace hqe := Lib.hid hqe
        clear h3
        go_wp2
        go_meet
        exact ⟨by rw [hqe.out], rfl⟩
    case rest =>
      obtain ⟨rfl, rfl⟩ := hcut
      cases q
      · have hbody := Lib.hid (hq2.out rfl)
        clear hq2 hq1 hq1s hqc hq
        go_upto_if 30 with fail
        go_cut [0, 1] (fun x y wx => ∃ (l' : List UInt8) (b' : Nat), x = .string ⟨l'.toArray⟩ ∧ y = .int .i64 b' ∧ (R1, R2) = bodyN b' l' ∧ 2 ≤ b' ∧ b' ≤ 36 ∧ l'.length ≤ s.size ∧ Kept Nob w3 wx)
        case first =>
          have hemp := isEmpty_sizeN s
          by_cases h0 : s.size = 0
          · have e1 : s.toList.isEmpty = true := by rw [hemp]; simpa using h0
            have e2 : (!s.toList.isEmpty) = false := by rw [e1]; rfl
            have hnil : s.data.toList = [] := List.eq_nil_of_length_eq_zero (by rw [hl.out]; exact h0)
            have hfin : (R1, R2) = bodyN b.toNat s.data.toList := by rw [hbody.out, hnil]; rfl
            clear hemp hnil h0
            replace hfin := Lib.hid hfin
            rw [e2]
            go_wp2
            go_meet
            exact ⟨s.data.toList, b.toNat, rfl, by rw [Int.toNat_of_nonneg (by omega)], hfin.out, by omega, by omega, by rw [hl.out]; exact Nat.le_refl _, Kept.refl _ _⟩
          · have e1 : s.toList.isEmpty = false := by rw [hemp]; simpa using h0
            have e2 : (!s.toList.isEmpty) = true := by rw [e1]; rfl
            have i0 := fun w => idx_lit0 s (by omega) w
            obtain ⟨c0, r0, hcons⟩ : ∃ c0 r0, s.data.toList = c0 :: r0 := by
              cases h : s.data.toList with
              | nil => have := hl.out; rw [h] at this; simp at this; omega
              | cons c r => exact ⟨c, r, rfl⟩
            have hc0 : s.data.toList.getD 0 0 = c0 := by rw [hcons]; rfl
            have hbd := hbody.out
            have hll := hl.out
            rw [hcons] at hbd hll
            simp only [List.head?_cons, List.tail_cons, Option.some.injEq] at hbd
            rw [hc0] at i0
            have hib := fun w => Tryz.strings_IndexByte ⟨#[36, 37, 35]⟩ (c0.toNat : Int) w
            replace hib := Lib.hid hib
            have hcut1 : s.extract 1 s.size = ⟨r0.toArray⟩ := by
              apply bytes_ext
              rw [Lib.extract_to_end s 1, hcons]
              rfl
            rw [show ({ data := #[36, 37, 35] } : ByteArray).data.toList = [36, 37, 35] from rfl, mark_idx] at hib
            have hcase : ((c0 = 36 ∧ (0 : Int) = (if c0 = 36 then 0 else if c0 = 37 then 1 else if c0 = 35 then 2 else -1) ∧ (R1, R2) = bodyN 16 r0) ∨ (c0 = 37 ∧ (1 : Int) = (if c0 = 36 then 0 else if c0 = 37 then 1 else if c0 = 35 then 2 else -1) ∧ (R1, R2) = bodyN 2 r0) ∨ (c0 = 35 ∧ (2 : Int) = (if c0 = 36 then 0 else if c0 = 37 then 1 else if c0 = 35 then 2 else -1) ∧ (R1, R2) = bodyN 10 r0)) ∨
                ((-1 : Int) = (if c0 = 36 then 0 else if c0 = 37 then 1 else if c0 = 35 then 2 else -1) ∧ (R1, R2) = bodyN b.toNat (c0 :: r0)) := by
              by_cases h1 : c0 = 36
              · rw [if_pos h1] at hbd ⊢; exact .inl (.inl ⟨h1, rfl, hbd⟩)
              · rw [if_neg h1] at hbd ⊢
                by_cases h2 : c0 = 37
                · rw [if_pos h2] at hbd ⊢; exact .inl (.inr (.inl ⟨h2, rfl, hbd⟩))
                · rw [if_neg h2] at hbd ⊢
                  by_cases h3 : c0 = 35
                  · rw [if_pos h3] at hbd ⊢; exact .inl (.inr (.inr ⟨h3, rfl, hbd⟩))
                  · rw [if_neg h3] at hbd ⊢; exact .inr ⟨rfl, hbd⟩
            have hsz : (0 : Int) < (s.size : Int) := by omega
            have hcc := c0.toNat_lt
            generalize (if c0 = 36 then (0 : Int) else if c0 = 37 then 1 else if c0 = 35 then 2 else -1) = K at *
            replace hib := Lib.hid hib
            replace hcons := Lib.hid hcons
            replace hll := Lib.hid hll
            rw [e2]
            clear e1 e2 hemp h0 hc0 hbd hbody
            rcases hcase with (⟨-, rfl, hfin⟩ | ⟨-, rfl, hfin⟩ | ⟨-, rfl, hfin⟩) | ⟨rfl, hfin⟩
            rotate_right
            · replace hfin := Lib.hid hfin
              go_wp2_with (go_at_call 127; refine (hib.out _).mono ?_; rintro e w4 ⟨rfl, rfl⟩)
              go_meet
              exact ⟨c0 :: r0, b.toNat, by rw [← hcons.out], by rw [Int.toNat_of_nonneg (by omega)], hfin.out, by omega, by omega, Nat.le_of_eq hll.out, Kept.refl _ _⟩
            all_goals
              replace hfin := Lib.hid hfin
              have a0 := arr_idx0
              have a1 := arr_idx1
              have a2 := arr_idx2
              have hs1 : (1 : Int) ≤ (s.size : Int) := by omega
              go_wp2_with (go_at_call 127; refine (hib.out _).mono ?_; rintro e w4 ⟨rfl, rfl⟩)
              go_quiet (fail)
              go_wp2
              go_meet
              exact ⟨r0, _, rfl, by first | rfl, hfin.out, by omega, by omega, by have := hll.out; simp at this; omega, (Kept.refl _ _).drewN _⟩
        case rest =>
          obtain ⟨l', b', rfl, rfl, hR', hb2', hb36', hl', hk⟩ := hcut
          clear hbw hbody hR
          replace hR' := Lib.hid hR'
          replace hk := Lib.hid hk
          have hcp := fun w => Tryz.strings_CutPrefix ⟨l'.toArray⟩ ⟨#[45]⟩ w
          rw [show ({ data := l'.toArray } : ByteArray).data.toList = l' from rfl, show ({ data := #[45] } : ByteArray).data.toList = [45] from rfl] at hcp
          by_cases hm : l'.head? = some 45
          · obtain ⟨r, rfl⟩ : ∃ r, l' = 45 :: r := by
              cases l' with
              | nil => cases hm
              | cons c r => have : c = 45 := by simpa using hm
                            exact ⟨r, by rw [this]⟩
            rw [show Lib.trimPrefix (45 :: r) [45] = r by simp [Lib.trimPrefix, Lib.hasPrefix], show Lib.hasPrefix (45 :: r) [45] = true by simp [Lib.hasPrefix]] at hcp
            have hrl : r.length < s.size := by simp at hl'; omega
            have hsw := fun w => size_walk ⟨r.toArray⟩ (by simp [ByteArray.size]; omega) b' hb2' hb36' w
            rw [show ({ data := r.toArray } : ByteArray).data.toList = r from rfl] at hsw
            have hno := bodyN_no (b := b') (l := r)
            have hyes := bodyN_yes (b := b') (l := r)
            have hlt := sizeB_lt hb2' r
            generalize sizeB b' r = q at *
            obtain ⟨n, ok⟩ := q
            simp only at hno hyes hlt hsw
            replace hcp := Lib.hid hcp
            replace hsw := Lib.hid hsw
            replace hno := Lib.hid hno
            replace hyes := Lib.hid hyes
            clear hm
            by_cases hok : ok = false ∨ 9223372036854775808 < n
            · have hfin := hR'.out.trans (hno.out hok)
              injection hfin with r1 r2
              subst r1
              subst r2
              have hoks : ok = false ∨ (ok = true ∧ decide ((9223372036854775808 : Int) < (n : Int)) = true) := by
                cases ok
                · exact .inl rfl
                · refine .inr ⟨rfl, ?_⟩
                  rcases hok with h | h
                  · cases h
                  · simp; omega
              clear hok hR' hno hyes hlt
              rcases hoks with rfl | ⟨rfl, hbig⟩
              all_goals
                go_wp2_with (first
                  | (go_at_call 128; refine (hcp.out _).mono ?_; rintro e w4 ⟨rfl, rfl⟩)
                  | (go_at_call 129; refine (hsw.out _).mono ?_; rintro e w5 ⟨rfl, hk5⟩))
                go_ret2
                exact ⟨rfl, hk.out.trans hk5⟩
            · have hok1 : ok = true := by cases ok <;> simp at hok ⊢
              subst hok1
              have hn63 : n ≤ 9223372036854775808 := by omega
              have hfin := hR'.out.trans (hyes.out rfl hn63)
              injection hfin with r1 r2
              subst r1
              subst r2
              have hbig : decide ((9223372036854775808 : Int) < (n : Int)) = false := by simp; omega
              have hneg : wrap64 (-wrap64 (n : Int)) = wrap64 (-(n : Int)) := by unfold wrap64; omega
              replace hneg := Lib.hid hneg
              clear hok hR' hno hyes hlt
              go_wp2_with (first
                | (go_at_call 128; refine (hcp.out _).mono ?_; rintro e w4 ⟨rfl, rfl⟩)
                | (go_at_call 129; refine (hsw.out _).mono ?_; rintro e w5 ⟨rfl, hk5⟩))
              go_ret2
              exact ⟨by rw [← hneg.out]; rfl, hk.out.trans hk5⟩
          · have hpf : Lib.hasPrefix l' [45] = false := by
              unfold Lib.hasPrefix
              cases l' with
              | nil => rfl
              | cons c r =>
                have : c ≠ 45 := fun h => hm (by rw [h]; rfl)
                simp [List.isPrefixOf]
                exact fun h => this h.symm
            rw [show Lib.trimPrefix l' [45] = l' by unfold Lib.trimPrefix; rw [hpf]; rfl, hpf] at hcp
            have hsw := fun w => size_walk ⟨l'.toArray⟩ (by simp [ByteArray.size]; omega) b' hb2' hb36' w
            rw [show ({ data := l'.toArray } : ByteArray).data.toList = l' from rfl] at hsw
            have hfin := hR'.out.trans (bodyN_pos hm)
            injection hfin with r1 r2
            have hff := sizeB_false (b := b') (l := l')
            subst r1
            subst r2
            have hlt := sizeB_lt hb2' l'
            generalize sizeB b' l' = q at *
            obtain ⟨n, ok⟩ := q
            simp only at hsw hff hlt
            replace hcp := Lib.hid hcp
            replace hsw := Lib.hid hsw
            clear hm hpf hR'
            cases ok
            · have hn0 := hff rfl
              subst hn0
              go_wp2_with (first
                | (go_at_call 128; refine (hcp.out _).mono ?_; rintro e w4 ⟨rfl, rfl⟩)
                | (go_at_call 129; refine (hsw.out _).mono ?_; rintro e w5 ⟨rfl, hk5⟩))
              go_ret2
              exact ⟨by rw [show wrap64 ((0 : Nat) : Int) = 0 from by unfold wrap64; omega]; rfl, hk.out.trans hk5⟩
            · clear hff
              go_wp2_with (first
                | (go_at_call 128; refine (hcp.out _).mono ?_; rintro e w4 ⟨rfl, rfl⟩)
                | (go_at_call 129; refine (hsw.out _).mono ?_; rintro e w5 ⟨rfl, hk5⟩))
              go_ret2
              exact ⟨rfl, hk.out.trans hk5⟩
      · have h3 := hq1s.out rfl
        have i1 := fun w => idx_lit1 s (by omega) w
        have hfin := hq1.out rfl
        injection hfin with r1 r2
        subst r1
        subst r2
        clear hR
        generalize s.data.toList.getD 1 0 = c1 at *
        have hc := c1.toNat_lt
        clear h3
        go_wp2
        go_ret2
        exact ⟨rfl, Kept.refl _ _⟩
end Go.Proofs.YthejfkkmcbdlhaaGreatDoor
/- Chapter 5: reading a number, the document's. Conditions: as written. -/
namespace Go.Proofs.YthejfkkmcbdlhaaGreatDoor
set_option linter.unusedVariables false
open Go.RowKit Go.Lib
set_option maxRecDepth 100000 in
set_option maxHeartbeats 4000000 in
theorem rparse_walk (s : ByteArray) (hs : s.size ≤ 9223372036854775807) (b : Int) (w : World) :
    Calls Tryz.prog 77 #[.string s, .int .i64 b] w (Same (.tuple #[.int .i64 (parseN s.data.toList b).1, .bool (parseN s.data.toList b).2]) w) := by
  have hbw := rbase_walk b w
  by_cases hb : b < 2 ∨ 36 < b
  · rw [parse_bad hb]
    have e : (decide (2 ≤ b) && decide (b ≤ 36)) = false := by simp; omega
    rw [e] at hbw
    replace hbw := Lib.hid hbw
    go_enter Tryz.func77, Tryz.ntmps77
    go_wp2_with (go_at_call 108; refine hbw.out.mono ?_; rintro e w3 ⟨rfl, rfl⟩)
    go_ret2
    exact ⟨rfl, rfl⟩
  · have e : (decide (2 ≤ b) && decide (b ≤ 36)) = true := by simp; omega
    rw [e] at hbw
    replace hbw := Lib.hid hbw
    replace e := Lib.hid e
    have hqc := quoted_cases s
    have hl := size_data s
    have hq1 : quotedB s.data.toList = true → parseN s.data.toList b = (((s.data.toList.getD 1 0).toNat : Int), true) := fun h => parse_quoted hb h
    have hq1s : quotedB s.data.toList = true → s.size = 3 := by
      intro h
      rcases quoted_cases s with ⟨h1, _⟩ | ⟨h1, _⟩ | ⟨h1, _⟩
      · rw [h] at h1; cases h1
      · exact h1
      · exact h1
    have hq2 : quotedB s.data.toList = false → _ := fun h => parse_rest hb h
    obtain ⟨⟨R1, R2⟩, hR⟩ : ∃ x, parseN s.data.toList b = x := ⟨_, rfl⟩
    rw [hR] at hq1 hq2 ⊢
    replace hR := Lib.hid hR
    replace hl := Lib.hid hl
    generalize hq : quotedB s.data.toList = q at *
    replace hq := Lib.hid hq
    replace hq1 := Lib.hid hq1
    replace hq1s := Lib.hid hq1s
    replace hq2 := Lib.hid hq2
    replace hqc := Lib.hid hqc
    obtain ⟨hb2, hb36⟩ : 2 ≤ b ∧ b ≤ 36 := by omega
    clear hb e
    go_enter Tryz.func77, Tryz.ntmps77
    go_upto_region 4 with (go_at_call 108; refine hbw.out.mono ?_; rintro e w3 ⟨rfl, rfl⟩)
    go_cut [27] (fun x wx => x = .bool q ∧ w3 = wx)
    case first =>
      rcases hqc.out with ⟨hqf, h3⟩ | ⟨h3, hqf, h0⟩ | ⟨h3, hqe, h0⟩
      · subst hqf
        go_wp2
        go_meet
        exact ⟨rfl, rfl⟩
      · subst hqf
        have i0 := fun w => idx_lit0 s (by omega) w
        have h3b : ((s.size : Int) == 3) = true := by rw [h3]; rfl
        generalize s.data.toList.getD 0 0 = c0 at *
        clear h3
        go_wp2
        go_meet
        exact ⟨rfl, rfl⟩
      · have i0 := fun w => idx_lit0 s (by omega) w
        have i2 := fun w => idx_lit2 s (by omega) w
        have h3b : ((s.size : Int) == 3) = true := by rw [h3]; rfl
        generalize s.data.toList.getD 0 0 = c0 at *
        generalize s.data.toList.getD 2 0 = c2 at *
        replace hqe := Lib.hid hqe
        clear h3
        go_wp2
        go_meet
        exact ⟨by rw [hqe.out], rfl⟩
    case rest =>
      obtain ⟨rfl, rfl⟩ := hcut
      cases q
      · have hbody := Lib.hid (hq2.out rfl)
        clear hq2 hq1 hq1s hqc hq
        have hmk : (s.size = 0 ∧ (R1, R2) = bodyN b.toNat s.data.toList) ∨ ∃ c0 r0, s.data.toList = c0 :: r0 ∧ r0.length + 1 = s.size ∧
            (((((c0.toNat : Int) == 36) = true) ∧ (R1, R2) = bodyN 16 r0) ∨ (((((c0.toNat : Int) == 36) = false) ∧ (((c0.toNat : Int) == 37) = true)) ∧ (R1, R2) = bodyN 2 r0) ∨
             ((((((c0.toNat : Int) == 36) = false) ∧ (((c0.toNat : Int) == 37) = false))) ∧ (((c0.toNat : Int) == 35) = true) ∧ (R1, R2) = bodyN 10 r0) ∨
             ((((((c0.toNat : Int) == 36) = false) ∧ (((c0.toNat : Int) == 37) = false))) ∧ (((c0.toNat : Int) == 35) = false) ∧ (R1, R2) = bodyN b.toNat s.data.toList)) := by
          have hbd := hbody.out
          have hll := hl.out
          cases hs : s.data.toList with
          | nil => rw [hs] at hbd hll; exact .inl ⟨by simpa using hll.symm, hbd⟩
          | cons c r =>
            refine .inr ⟨c, r, rfl, by rw [hs] at hll; simpa using hll, ?_⟩
            rw [hs] at hbd
            simp only [List.head?_cons, List.tail_cons, Option.some.injEq] at hbd
            have e36 : c = 36 ↔ (c.toNat : Int) = 36 := by rw [← UInt8.toNat_inj]; have : (36 : UInt8).toNat = 36 := rfl; omega
            have e37 : c = 37 ↔ (c.toNat : Int) = 37 := by rw [← UInt8.toNat_inj]; have : (37 : UInt8).toNat = 37 := rfl; omega
            have e35 : c = 35 ↔ (c.toNat : Int) = 35 := by rw [← UInt8.toNat_inj]; have : (35 : UInt8).toNat = 35 := rfl; omega
            simp only [beq_iff_eq, beq_eq_false_iff_ne, ne_eq, ← e36, ← e37, ← e35]
            by_cases h1 : c = 36
            · rw [if_pos h1] at hbd; exact .inl ⟨h1, hbd⟩
            · rw [if_neg h1] at hbd
              by_cases h2 : c = 37
              · rw [if_pos h2] at hbd; exact .inr (.inl ⟨⟨h1, h2⟩, hbd⟩)
              · rw [if_neg h2] at hbd
                by_cases h3 : c = 35
                · rw [if_pos h3] at hbd; exact .inr (.inr (.inl ⟨⟨h1, h2⟩, h3, hbd⟩))
                · rw [if_neg h3] at hbd; exact .inr (.inr (.inr ⟨⟨h1, h2⟩, h3, hbd⟩))
        clear hbody
        replace hmk := Lib.hid hmk
        go_upto_region 6 with fail
        go_cut [48] (fun x wx => (∃ (m : Bool), x = .bool m ∧ (m = false → (R1, R2) = bodyN b.toNat s.data.toList) ∧ (m = true → ∃ c0 r0, s.data.toList = c0 :: r0 ∧ r0.length + 1 = s.size ∧ (((((c0.toNat : Int) == 36) = true) ∧ (((c0.toNat : Int) == 37) = false)) ∧ (R1, R2) = bodyN 16 r0 ∨ (((((c0.toNat : Int) == 36) = false) ∧ (((c0.toNat : Int) == 37) = true)) ∧ (R1, R2) = bodyN 2 r0) ∨ ((((c0.toNat : Int) == 36) = false) ∧ (((c0.toNat : Int) == 37) = false)) ∧ (R1, R2) = bodyN 10 r0))) ∧ w3 = wx)
        case first =>
          rcases hmk.out with ⟨h0, hfin⟩ | ⟨c0, r0, hcons, hlen, hcs⟩
          · have hlt : decide ((0 : Int) < (s.size : Int)) = false := by rw [decide_eq_false_iff_not]; omega
            have hlt' : decide (0 < s.size) = false := by rw [decide_eq_false_iff_not]; omega
            replace hfin := Lib.hid hfin
            clear h0
            go_wp2
            go_meet
            exact ⟨⟨false, rfl, fun _ => hfin.out, fun h => by cases h⟩, rfl⟩
          · have i0 := fun w => idx_lit0 s (by omega) w
            have hc0 : s.data.toList.getD 0 0 = c0 := by rw [hcons]; rfl
            rw [hc0] at i0
            have hlt : decide ((0 : Int) < (s.size : Int)) = true := by rw [decide_eq_true_iff]; omega
            have hlt' : decide (0 < s.size) = true := by rw [decide_eq_true_iff]; omega
            replace hcons := Lib.hid hcons
            clear hc0
            rcases hcs with ⟨t36, hfin⟩ | ⟨⟨t36, t37⟩, hfin⟩ | ⟨⟨t36, t37⟩, t35, hfin⟩ | ⟨⟨t36, t37⟩, t35, hfin⟩
            · have t37 : ((c0.toNat : Int) == 37) = false := by rw [beq_eq_false_iff_ne]; simp only [beq_iff_eq] at t36; omega
              have HH := Lib.hid (And.intro t36 t37)
              replace hfin := Lib.hid hfin
              replace hlen := Lib.hid hlen
              go_wp2
              go_meet
              exact ⟨⟨true, rfl, (fun h => by cases h), fun _ => ⟨c0, r0, hcons.out, hlen.out, .inl ⟨HH.out, hfin.out⟩⟩⟩, rfl⟩
            · have HH := Lib.hid (And.intro t36 t37)
              replace hfin := Lib.hid hfin
              replace hlen := Lib.hid hlen
              go_wp2
              go_meet
              exact ⟨⟨true, rfl, (fun h => by cases h), fun _ => ⟨c0, r0, hcons.out, hlen.out, .inr (.inl ⟨HH.out, hfin.out⟩)⟩⟩, rfl⟩
            · have HH := Lib.hid (And.intro t36 t37)
              replace hfin := Lib.hid hfin
              replace hlen := Lib.hid hlen
              go_wp2
              go_meet
              exact ⟨⟨true, rfl, (fun h => by cases h), fun _ => ⟨c0, r0, hcons.out, hlen.out, .inr (.inr ⟨HH.out, hfin.out⟩)⟩⟩, rfl⟩
            · replace hfin := Lib.hid hfin
              go_wp2
              go_meet
              exact ⟨⟨false, rfl, fun _ => hfin.out, fun h => by cases h⟩, rfl⟩
        case rest =>
          obtain ⟨⟨mk, rfl, hm0, hm1⟩, rfl⟩ := hcut
          replace hm0 := Lib.hid hm0
          replace hm1 := Lib.hid hm1
          clear hmk
          go_upto_if 48 with fail
          go_cut [0, 1] (fun x y wx => (∃ (l' : List UInt8) (b' : Nat), x = .string ⟨l'.toArray⟩ ∧ y = .int .i64 b' ∧ (R1, R2) = bodyN b' l' ∧ 2 ≤ b' ∧ b' ≤ 36 ∧ l'.length ≤ s.size) ∧ w3 = wx)
          case first =>
            cases mk
            · have hfin := Lib.hid (hm0.out rfl)
              go_wp2
              go_meet
              exact ⟨⟨s.data.toList, b.toNat, rfl, by rw [Int.toNat_of_nonneg (by omega)], hfin.out, by omega, by omega, Nat.le_of_eq hl.out⟩, rfl⟩
            · obtain ⟨c0, r0, hcons, hlen, hcs⟩ := hm1.out rfl
              have i0 := fun w => idx_lit0 s (by omega) w
              have hc0 : s.data.toList.getD 0 0 = c0 := by rw [hcons]; rfl
              rw [hc0] at i0
              have hs1 : (1 : Int) ≤ (s.size : Int) := by omega
              have hcut1 : s.extract 1 s.size = ⟨r0.toArray⟩ := by
                apply bytes_ext
                rw [Lib.extract_to_end s 1, hcons]
                rfl
              replace hcons := Lib.hid hcons
              replace hlen := Lib.hid hlen
              clear hc0 hm1 hm0
              rcases hcs with ⟨⟨t36, t37⟩, hfin⟩ | ⟨⟨t36, t37⟩, hfin⟩ | ⟨⟨t36, t37⟩, hfin⟩
              all_goals
                replace hfin := Lib.hid hfin
                go_wp2
                go_meet
                exact ⟨⟨r0, _, rfl, by first | rfl, hfin.out, by omega, by omega, by have := hlen.out; omega⟩, rfl⟩
          case rest =>
            obtain ⟨⟨l', b', rfl, rfl, hR', hb2', hb36', hl'⟩, rfl⟩ := hcut
            clear hbw hR hm0 hm1
            replace hR' := Lib.hid hR'
            obtain ⟨s', hs'⟩ : ∃ s' : ByteArray, s' = ⟨l'.toArray⟩ := ⟨_, rfl⟩
            rw [← hs']
            have hsl : s'.data.toList = l' := by rw [hs']
            have hsz := size_data s'
            rw [hsl] at hsz
            replace hs' := Lib.hid hs'
            replace hl := Lib.hid hl
            have hsw := fun (s : ByteArray) (h : s.size ≤ 9223372036854775807) w => rsize_walk s h b' hb2' hb36' w
            replace hsw := Lib.hid hsw
            by_cases hm : l'.head? = some 45
            · obtain ⟨r, rfl⟩ : ∃ r, l' = 45 :: r := by
                cases l' with
                | nil => cases hm
                | cons c r => have : c = 45 := by simpa using hm
                              exact ⟨r, by rw [this]⟩
              simp only [List.length_cons] at hsz hl'
              have i0 := fun w => idx_lit0 s' (by omega) w
              rw [hsl] at i0
              have hlt : decide ((0 : Int) < (s'.size : Int)) = true := by rw [decide_eq_true_iff]; omega
              have hlt' : decide (0 < s'.size) = true := by rw [decide_eq_true_iff]; omega
              have hs1 : (1 : Int) ≤ (s'.size : Int) := by omega
              have hcut1 : s'.extract 1 s'.size = ⟨r.toArray⟩ := by
                apply bytes_ext
                rw [Lib.extract_to_end s' 1, hsl]
                rfl
              have hg : ((((45 : UInt8) :: r).getD 0 0).toNat : Int) = 45 := rfl
              rw [hg] at i0
              have hsw2 := fun w => hsw.out ⟨r.toArray⟩ (by simp [ByteArray.size]; omega) w
              rw [show ({ data := r.toArray } : ByteArray).data.toList = r from rfl] at hsw2
              have hno := bodyN_no (b := b') (l := r)
              have hyes := bodyN_yes (b := b') (l := r)
              have hlq := sizeB_lt hb2' r
              generalize sizeB b' r = q at *
              obtain ⟨n, ok⟩ := q
              simp only at hno hyes hlq hsw2
              replace hsw2 := Lib.hid hsw2
              replace hno := Lib.hid hno
              replace hyes := Lib.hid hyes
              replace hsl := Lib.hid hsl
              clear hm hg hsw
              by_cases hok : ok = false ∨ 9223372036854775808 < n
              · have hfin := hR'.out.trans (hno.out hok)
                injection hfin with r1 r2
                subst r1
                subst r2
                have hoks : ok = false ∨ (ok = true ∧ decide ((9223372036854775808 : Int) < (n : Int)) = true) := by
                  cases ok
                  · exact .inl rfl
                  · refine .inr ⟨rfl, ?_⟩
                    rcases hok with h | h
                    · cases h
                    · simp; omega
                clear hok hR' hno hyes hlq
                rcases hoks with rfl | ⟨rfl, hbig⟩
                all_goals
                  go_wp2_with (go_at_call 109; refine (hsw2.out _).mono ?_; rintro e w5 ⟨rfl, rfl⟩)
                  go_ret2
                  exact ⟨rfl, rfl⟩
              · have hok1 : ok = true := by cases ok <;> simp at hok ⊢
                subst hok1
                have hn63 : n ≤ 9223372036854775808 := by omega
                have hfin := hR'.out.trans (hyes.out rfl hn63)
                injection hfin with r1 r2
                subst r1
                subst r2
                have hbig : decide ((9223372036854775808 : Int) < (n : Int)) = false := by simp; omega
                have hneg : wrap64 (IntKind.u64.wrap (-(n : Int))) = wrap64 (-(n : Int)) := by rw [IntKind.wrap_u64]; unfold wrap64; omega
                replace hneg := Lib.hid hneg
                clear hok hR' hno hyes hlq
                go_wp2_with (go_at_call 109; refine (hsw2.out _).mono ?_; rintro e w5 ⟨rfl, rfl⟩)
                go_ret2
                exact ⟨by rw [← hneg.out]; rfl, rfl⟩
            · have hfin := hR'.out.trans (bodyN_pos hm)
              injection hfin with r1 r2
              subst r1
              subst r2
              have hsw2 := fun w => hsw.out s' (by omega) w
              rw [hsl] at hsw2
              have hlq := sizeB_lt hb2' l'
              have hcs : (s'.size = 0) ∨ (0 < s'.size ∧ ∃ c, (∀ w, (Instr.index 9 (.string s') (.int .i64 0)).run Tryz.prog w = .ok (.int .u8 (c : Int)) w) ∧ ((c : Int) == 45) = false) := by
                cases l' with
                | nil => exact .inl (by simpa using hsz.symm)
                | cons c r =>
                  refine .inr ⟨by simp at hsz; omega, (c.toNat : Int), fun w => ?_, ?_⟩
                  · have := idx_lit0 s' (by simp at hsz; omega) w
                    rw [hsl] at this
                    exact this
                  · rw [beq_eq_false_iff_ne]
                    intro e
                    apply hm
                    have : c = 45 := by apply UInt8.toNat_inj.1; have : (45 : UInt8).toNat = 45 := rfl; omega
                    rw [this]; rfl
              generalize sizeB b' l' = q at *
              obtain ⟨n, ok⟩ := q
              simp only at hsw2 hlq
              replace hsw2 := Lib.hid hsw2
              replace hsl := Lib.hid hsl
              clear hm hR' hsw
              rcases hcs with h0 | ⟨h0, c, i0, hcb⟩
              · have hlt : decide ((0 : Int) < (s'.size : Int)) = false := by rw [decide_eq_false_iff_not]; omega
                have hlt' : decide (0 < s'.size) = false := by rw [decide_eq_false_iff_not]; omega
                clear h0
                go_wp2_with (go_at_call 109; refine (hsw2.out _).mono ?_; rintro e w5 ⟨rfl, rfl⟩)
                go_ret2
                exact ⟨rfl, rfl⟩
              · have hlt : decide ((0 : Int) < (s'.size : Int)) = true := by rw [decide_eq_true_iff]; omega
                have hlt' : decide (0 < s'.size) = true := by rw [decide_eq_true_iff]; omega
                go_wp2_with (go_at_call 109; refine (hsw2.out _).mono ?_; rintro e w5 ⟨rfl, rfl⟩)
                go_ret2
                exact ⟨rfl, rfl⟩
      · have h3 := hq1s.out rfl
        have i1 := fun w => idx_lit1 s (by omega) w
        have hfin := hq1.out rfl
        injection hfin with r1 r2
        subst r1
        subst r2
        clear hR
        generalize s.data.toList.getD 1 0 = c1 at *
        have hc := c1.toNat_lt
        clear h3
        go_wp2
        go_ret2
        exact ⟨rfl, rfl⟩
end Go.Proofs.YthejfkkmcbdlhaaGreatDoor
