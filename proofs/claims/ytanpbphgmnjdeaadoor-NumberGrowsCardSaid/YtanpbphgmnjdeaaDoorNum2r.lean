/- Chapter 5: reading a number, the document's. Conditions: as written. -/
import Derived.Test.YtanpbphgmnjdeaaDoorNum2
namespace Go.Proofs.YtanpbphgmnjdeaaDoor
set_option linter.unusedVariables false
open Go.RowKit Go.Lib
set_option maxRecDepth 100000 in
set_option maxHeartbeats 4000000 in
theorem rparse_walk (s : ByteArray) (hs : s.size ≤ 9223372036854775807) (b : Int) (w : World) :
    Calls Tryd.prog 36 #[.string s, .int .i64 b] w (Same (.tuple #[.int .i64 (parseN s.data.toList b).1, .bool (parseN s.data.toList b).2]) w) := by
  have hbw := rbase_walk b w
  by_cases hb : b < 2 ∨ 36 < b
  · rw [parse_bad hb]
    have e : (decide (2 ≤ b) && decide (b ≤ 36)) = false := by simp; omega
    rw [e] at hbw
    replace hbw := Lib.hid hbw
    go_enter Tryd.func36, Tryd.ntmps36
    go_wp2_with (go_at_call 38; refine hbw.out.mono ?_; rintro e w3 ⟨rfl, rfl⟩)
    go_ret2
    exact ⟨rfl, rfl⟩
  · have e : (decide (2 ≤ b) && decide (b ≤ 36)) = true := by simp; omega
    rw [e] at hbw
    replace hbw := Lib.hid hbw
    replace e := Lib.hid e
    have hqc := quoted_cases s
    have hl := size_data s
    have hq1 : quotedB s.data.toList = true → parseN s.data.toList b = (((s.data.toList.getD 1 0).toNat : Int), true) := fun h => parse_quoted hb h
    have hq1s : quotedB s.data.toList = true → s.size = 3 := by
      intro h
      rcases quoted_cases s with ⟨h1, _⟩ | ⟨h1, _⟩ | ⟨h1, _⟩
      · rw [h] at h1; cases h1
      · exact h1
      · exact h1
    have hq2 : quotedB s.data.toList = false → _ := fun h => parse_rest hb h
    obtain ⟨⟨R1, R2⟩, hR⟩ : ∃ x, parseN s.data.toList b = x := ⟨_, rfl⟩
    rw [hR] at hq1 hq2 ⊢
    replace hR := Lib.hid hR
    replace hl := Lib.hid hl
    generalize hq : quotedB s.data.toList = q at *
    replace hq := Lib.hid hq
    replace hq1 := Lib.hid hq1
    replace hq1s := Lib.hid hq1s
    replace hq2 := Lib.hid hq2
    replace hqc := Lib.hid hqc
    obtain ⟨hb2, hb36⟩ : 2 ≤ b ∧ b ≤ 36 := by omega
    clear hb e
    go_enter Tryd.func36, Tryd.ntmps36
    go_upto_region 4 with (go_at_call 38; refine hbw.out.mono ?_; rintro e w3 ⟨rfl, rfl⟩)
    go_cut [27] (fun x wx => x = .bool q ∧ w3 = wx)
    case first =>
      rcases hqc.out with ⟨hqf, h3⟩ | ⟨h3, hqf, h0⟩ | ⟨h3, hqe, h0⟩
      · subst hqf
        go_wp2
        go_meet
        exact ⟨rfl, rfl⟩
      · subst hqf
        have i0 := fun w => idx_lit0 s (by omega) w
        have h3b : ((s.size : Int) == 3) = true := by rw [h3]; rfl
        generalize s.data.toList.getD 0 0 = c0 at *
        clear h3
        go_wp2
        go_meet
        exact ⟨rfl, rfl⟩
      · have i0 := fun w => idx_lit0 s (by omega) w
        have i2 := fun w => idx_lit2 s (by omega) w
        have h3b : ((s.size : Int) == 3) = true := by rw [h3]; rfl
        generalize s.data.toList.getD 0 0 = c0 at *
        generalize s.data.toList.getD 2 0 = c2 at *
        replace hqe := Lib.hid hqe
        clear h3
        go_wp2
        go_meet
        exact ⟨by rw [hqe.out], rfl⟩
    case rest =>
      obtain ⟨rfl, rfl⟩ := hcut
      cases q
      · have hbody := Lib.hid (hq2.out rfl)
        clear hq2 hq1 hq1s hqc hq
        have hmk : (s.size = 0 ∧ (R1, R2) = bodyN b.toNat s.data.toList) ∨ ∃ c0 r0, s.data.toList = c0 :: r0 ∧ r0.length + 1 = s.size ∧
            (((((c0.toNat : Int) == 36) = true) ∧ (R1, R2) = bodyN 16 r0) ∨ (((((c0.toNat : Int) == 36) = false) ∧ (((c0.toNat : Int) == 37) = true)) ∧ (R1, R2) = bodyN 2 r0) ∨
             ((((((c0.toNat : Int) == 36) = false) ∧ (((c0.toNat : Int) == 37) = false))) ∧ (((c0.toNat : Int) == 35) = true) ∧ (R1, R2) = bodyN 10 r0) ∨
             ((((((c0.toNat : Int) == 36) = false) ∧ (((c0.toNat : Int) == 37) = false))) ∧ (((c0.toNat : Int) == 35) = false) ∧ (R1, R2) = bodyN b.toNat s.data.toList)) := by
          have hbd := hbody.out
          have hll := hl.out
          cases hs : s.data.toList with
          | nil => rw [hs] at hbd hll; exact .inl ⟨by simpa using hll.symm, hbd⟩
          | cons c r =>
            refine .inr ⟨c, r, rfl, by rw [hs] at hll; simpa using hll, ?_⟩
            rw [hs] at hbd
            simp only [List.head?_cons, List.tail_cons, Option.some.injEq] at hbd
            have e36 : c = 36 ↔ (c.toNat : Int) = 36 := by rw [← UInt8.toNat_inj]; have : (36 : UInt8).toNat = 36 := rfl; omega
            have e37 : c = 37 ↔ (c.toNat : Int) = 37 := by rw [← UInt8.toNat_inj]; have : (37 : UInt8).toNat = 37 := rfl; omega
            have e35 : c = 35 ↔ (c.toNat : Int) = 35 := by rw [← UInt8.toNat_inj]; have : (35 : UInt8).toNat = 35 := rfl; omega
            simp only [beq_iff_eq, beq_eq_false_iff_ne, ne_eq, ← e36, ← e37, ← e35]
            by_cases h1 : c = 36
            · rw [if_pos h1] at hbd; exact .inl ⟨h1, hbd⟩
            · rw [if_neg h1] at hbd
              by_cases h2 : c = 37
              · rw [if_pos h2] at hbd; exact .inr (.inl ⟨⟨h1, h2⟩, hbd⟩)
              · rw [if_neg h2] at hbd
                by_cases h3 : c = 35
                · rw [if_pos h3] at hbd; exact .inr (.inr (.inl ⟨⟨h1, h2⟩, h3, hbd⟩))
                · rw [if_neg h3] at hbd; exact .inr (.inr (.inr ⟨⟨h1, h2⟩, h3, hbd⟩))
        clear hbody
        replace hmk := Lib.hid hmk
        go_upto_region 6 with fail
        go_cut [48] (fun x wx => (∃ (m : Bool), x = .bool m ∧ (m = false → (R1, R2) = bodyN b.toNat s.data.toList) ∧ (m = true → ∃ c0 r0, s.data.toList = c0 :: r0 ∧ r0.length + 1 = s.size ∧ (((((c0.toNat : Int) == 36) = true) ∧ (((c0.toNat : Int) == 37) = false)) ∧ (R1, R2) = bodyN 16 r0 ∨ (((((c0.toNat : Int) == 36) = false) ∧ (((c0.toNat : Int) == 37) = true)) ∧ (R1, R2) = bodyN 2 r0) ∨ ((((c0.toNat : Int) == 36) = false) ∧ (((c0.toNat : Int) == 37) = false)) ∧ (R1, R2) = bodyN 10 r0))) ∧ w3 = wx)
        case first =>
          rcases hmk.out with ⟨h0, hfin⟩ | ⟨c0, r0, hcons, hlen, hcs⟩
          · have hlt : decide ((0 : Int) < (s.size : Int)) = false := by rw [decide_eq_false_iff_not]; omega
            have hlt' : decide (0 < s.size) = false := by rw [decide_eq_false_iff_not]; omega
            replace hfin := Lib.hid hfin
            clear h0
            go_wp2
            go_meet
            exact ⟨⟨false, rfl, fun _ => hfin.out, fun h => by cases h⟩, rfl⟩
          · have i0 := fun w => idx_lit0 s (by omega) w
            have hc0 : s.data.toList.getD 0 0 = c0 := by rw [hcons]; rfl
            rw [hc0] at i0
            have hlt : decide ((0 : Int) < (s.size : Int)) = true := by rw [decide_eq_true_iff]; omega
            have hlt' : decide (0 < s.size) = true := by rw [decide_eq_true_iff]; omega
            replace hcons := Lib.hid hcons
            clear hc0
            rcases hcs with ⟨t36, hfin⟩ | ⟨⟨t36, t37⟩, hfin⟩ | ⟨⟨t36, t37⟩, t35, hfin⟩ | ⟨⟨t36, t37⟩, t35, hfin⟩
            · have t37 : ((c0.toNat : Int) == 37) = false := by rw [beq_eq_false_iff_ne]; simp only [beq_iff_eq] at t36; omega
              have HH := Lib.hid (And.intro t36 t37)
              replace hfin := Lib.hid hfin
              replace hlen := Lib.hid hlen
              go_wp2
              go_meet
              exact ⟨⟨true, rfl, (fun h => by cases h), fun _ => ⟨c0, r0, hcons.out, hlen.out, .inl ⟨HH.out, hfin.out⟩⟩⟩, rfl⟩
            · have HH := Lib.hid (And.intro t36 t37)
              replace hfin := Lib.hid hfin
              replace hlen := Lib.hid hlen
              go_wp2
              go_meet
              exact ⟨⟨true, rfl, (fun h => by cases h), fun _ => ⟨c0, r0, hcons.out, hlen.out, .inr (.inl ⟨HH.out, hfin.out⟩)⟩⟩, rfl⟩
            · have HH := Lib.hid (And.intro t36 t37)
              replace hfin := Lib.hid hfin
              replace hlen := Lib.hid hlen
              go_wp2
              go_meet
              exact ⟨⟨true, rfl, (fun h => by cases h), fun _ => ⟨c0, r0, hcons.out, hlen.out, .inr (.inr ⟨HH.out, hfin.out⟩)⟩⟩, rfl⟩
            · replace hfin := Lib.hid hfin
              go_wp2
              go_meet
              exact ⟨⟨false, rfl, fun _ => hfin.out, fun h => by cases h⟩, rfl⟩
        case rest =>
          obtain ⟨⟨mk, rfl, hm0, hm1⟩, rfl⟩ := hcut
          replace hm0 := Lib.hid hm0
          replace hm1 := Lib.hid hm1
          clear hmk
          go_upto_if 48 with fail
          go_cut [0, 1] (fun x y wx => (∃ (l' : List UInt8) (b' : Nat), x = .string ⟨l'.toArray⟩ ∧ y = .int .i64 b' ∧ (R1, R2) = bodyN b' l' ∧ 2 ≤ b' ∧ b' ≤ 36 ∧ l'.length ≤ s.size) ∧ w3 = wx)
          case first =>
            cases mk
            · have hfin := Lib.hid (hm0.out rfl)
              go_wp2
              go_meet
              exact ⟨⟨s.data.toList, b.toNat, rfl, by rw [Int.toNat_of_nonneg (by omega)], hfin.out, by omega, by omega, Nat.le_of_eq hl.out⟩, rfl⟩
            · obtain ⟨c0, r0, hcons, hlen, hcs⟩ := hm1.out rfl
              have i0 := fun w => idx_lit0 s (by omega) w
              have hc0 : s.data.toList.getD 0 0 = c0 := by rw [hcons]; rfl
              rw [hc0] at i0
              have hs1 : (1 : Int) ≤ (s.size : Int) := by omega
              have hcut1 : s.extract 1 s.size = ⟨r0.toArray⟩ := by
                apply bytes_ext
                rw [Lib.extract_to_end s 1, hcons]
                rfl
              replace hcons := Lib.hid hcons
              replace hlen := Lib.hid hlen
              clear hc0 hm1 hm0
              rcases hcs with ⟨⟨t36, t37⟩, hfin⟩ | ⟨⟨t36, t37⟩, hfin⟩ | ⟨⟨t36, t37⟩, hfin⟩
              all_goals
                replace hfin := Lib.hid hfin
                go_wp2
                go_meet
                exact ⟨⟨r0, _, rfl, by first | rfl, hfin.out, by omega, by omega, by have := hlen.out; omega⟩, rfl⟩
          case rest =>
            obtain ⟨⟨l', b', rfl, rfl, hR', hb2', hb36', hl'⟩, rfl⟩ := hcut
            clear hbw hR hm0 hm1
            replace hR' := Lib.hid hR'
            obtain ⟨s', hs'⟩ : ∃ s' : ByteArray, s' = ⟨l'.toArray⟩ := ⟨_, rfl⟩
            rw [← hs']
            have hsl : s'.data.toList = l' := by rw [hs']
            have hsz := size_data s'
            rw [hsl] at hsz
            replace hs' := Lib.hid hs'
            replace hl := Lib.hid hl
            have hsw := fun (s : ByteArray) (h : s.size ≤ 9223372036854775807) w => rsize_walk s h b' hb2' hb36' w
            replace hsw := Lib.hid hsw
            by_cases hm : l'.head? = some 45
            · obtain ⟨r, rfl⟩ : ∃ r, l' = 45 :: r := by
                cases l' with
                | nil => cases hm
                | cons c r => have : c = 45 := by simpa using hm
                              exact ⟨r, by rw [this]⟩
              simp only [List.length_cons] at hsz hl'
              have i0 := fun w => idx_lit0 s' (by omega) w
              rw [hsl] at i0
              have hlt : decide ((0 : Int) < (s'.size : Int)) = true := by rw [decide_eq_true_iff]; omega
              have hlt' : decide (0 < s'.size) = true := by rw [decide_eq_true_iff]; omega
              have hs1 : (1 : Int) ≤ (s'.size : Int) := by omega
              have hcut1 : s'.extract 1 s'.size = ⟨r.toArray⟩ := by
                apply bytes_ext
                rw [Lib.extract_to_end s' 1, hsl]
                rfl
              have hg : ((((45 : UInt8) :: r).getD 0 0).toNat : Int) = 45 := rfl
              rw [hg] at i0
              have hsw2 := fun w => hsw.out ⟨r.toArray⟩ (by simp [ByteArray.size]; omega) w
              rw [show ({ data := r.toArray } : ByteArray).data.toList = r from rfl] at hsw2
              have hno := bodyN_no (b := b') (l := r)
              have hyes := bodyN_yes (b := b') (l := r)
              have hlq := sizeB_lt hb2' r
              generalize sizeB b' r = q at *
              obtain ⟨n, ok⟩ := q
              simp only at hno hyes hlq hsw2
              replace hsw2 := Lib.hid hsw2
              replace hno := Lib.hid hno
              replace hyes := Lib.hid hyes
              replace hsl := Lib.hid hsl
              clear hm hg hsw
              by_cases hok : ok = false ∨ 9223372036854775808 < n
              · have hfin := hR'.out.trans (hno.out hok)
                injection hfin with r1 r2
                subst r1
                subst r2
                have hoks : ok = false ∨ (ok = true ∧ decide ((9223372036854775808 : Int) < (n : Int)) = true) := by
                  cases ok
                  · exact .inl rfl
                  · refine .inr ⟨rfl, ?_⟩
                    rcases hok with h | h
                    · cases h
                    · simp; omega
                clear hok hR' hno hyes hlq
                rcases hoks with rfl | ⟨rfl, hbig⟩
                all_goals
                  go_wp2_with (go_at_call 72; refine (hsw2.out _).mono ?_; rintro e w5 ⟨rfl, rfl⟩)
                  go_ret2
                  exact ⟨rfl, rfl⟩
              · have hok1 : ok = true := by cases ok <;> simp at hok ⊢
                subst hok1
                have hn63 : n ≤ 9223372036854775808 := by omega
                have hfin := hR'.out.trans (hyes.out rfl hn63)
                injection hfin with r1 r2
                subst r1
                subst r2
                have hbig : decide ((9223372036854775808 : Int) < (n : Int)) = false := by simp; omega
                have hneg : wrap64 (IntKind.u64.wrap (-(n : Int))) = wrap64 (-(n : Int)) := by rw [IntKind.wrap_u64]; unfold wrap64; omega
                replace hneg := Lib.hid hneg
                clear hok hR' hno hyes hlq
                go_wp2_with (go_at_call 72; refine (hsw2.out _).mono ?_; rintro e w5 ⟨rfl, rfl⟩)
                go_ret2
                exact ⟨by rw [← hneg.out]; rfl, rfl⟩
            · have hfin := hR'.out.trans (bodyN_pos hm)
              injection hfin with r1 r2
              subst r1
              subst r2
              have hsw2 := fun w => hsw.out s' (by omega) w
              rw [hsl] at hsw2
              have hlq := sizeB_lt hb2' l'
              have hcs : (s'.size = 0) ∨ (0 < s'.size ∧ ∃ c, (∀ w, (Instr.index 9 (.string s') (.int .i64 0)).run Tryd.prog w = .ok (.int .u8 (c : Int)) w) ∧ ((c : Int) == 45) = false) := by
                cases l' with
                | nil => exact .inl (by simpa using hsz.symm)
                | cons c r =>
                  refine .inr ⟨by simp at hsz; omega, (c.toNat : Int), fun w => ?_, ?_⟩
                  · have := idx_lit0 s' (by simp at hsz; omega) w
                    rw [hsl] at this
                    exact this
                  · rw [beq_eq_false_iff_ne]
                    intro e
                    apply hm
                    have : c = 45 := by apply UInt8.toNat_inj.1; have : (45 : UInt8).toNat = 45 := rfl; omega
                    rw [this]; rfl
              generalize sizeB b' l' = q at *
              obtain ⟨n, ok⟩ := q
              simp only at hsw2 hlq
              replace hsw2 := Lib.hid hsw2
              replace hsl := Lib.hid hsl
              clear hm hR' hsw
              rcases hcs with h0 | ⟨h0, c, i0, hcb⟩
              · have hlt : decide ((0 : Int) < (s'.size : Int)) = false := by rw [decide_eq_false_iff_not]; omega
                have hlt' : decide (0 < s'.size) = false := by rw [decide_eq_false_iff_not]; omega
                clear h0
                go_wp2_with (go_at_call 72; refine (hsw2.out _).mono ?_; rintro e w5 ⟨rfl, rfl⟩)
                go_ret2
                exact ⟨rfl, rfl⟩
              · have hlt : decide ((0 : Int) < (s'.size : Int)) = true := by rw [decide_eq_true_iff]; omega
                have hlt' : decide (0 < s'.size) = true := by rw [decide_eq_true_iff]; omega
                go_wp2_with (go_at_call 72; refine (hsw2.out _).mono ?_; rintro e w5 ⟨rfl, rfl⟩)
                go_ret2
                exact ⟨rfl, rfl⟩
      · have h3 := hq1s.out rfl
        have i1 := fun w => idx_lit1 s (by omega) w
        have hfin := hq1.out rfl
        injection hfin with r1 r2
        subst r1
        subst r2
        clear hR
        generalize s.data.toList.getD 1 0 = c1 at *
        have hc := c1.toNat_lt
        clear h3
        go_wp2
        go_ret2
        exact ⟨rfl, rfl⟩
end Go.Proofs.YtanpbphgmnjdeaaDoor
