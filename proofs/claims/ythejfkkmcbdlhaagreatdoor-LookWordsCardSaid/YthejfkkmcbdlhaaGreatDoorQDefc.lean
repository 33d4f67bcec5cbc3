/- Chapter 19: closed, and that it leaves the mark of wildness. -/
import Derived.Test.YthejfkkmcbdlhaaGreatDoorQDefb
namespace Go.Proofs.YthejfkkmcbdlhaaGreatDoor
set_option linter.unusedVariables false
set_option maxRecDepth 100000
open Go.RowKit Go.Lib
namespace Look
theorem end_wild (d : Def) : d.end_.wild = d.wild := by
  unfold Def.end_
  split
  · rfl
  · simp only
    split <;> rfl
set_option maxHeartbeats 2000000 in
theorem closed_walk2 (g : Nat) (d : Def) (hn : d.ends.length ≤ 100000) (vs ve : Value) (w : World) (F : Nat → Prop) (hb : (DefB g d vs ve).holds w F) :
    Calls Tryz.prog 103 #[.pointer (some ⟨g, 0, none⟩)] w (Post (fun u B => u = effV d.closed ∧ ∃ d' ve', d'.wild = d.wild ∧ B = DefB g d' vs ve') F w) := by
  have hon := On.one (On.refl hb)
  have hbd := fun w1 F' hb' => bad_walk g d vs ve w1 F' hb'
  obtain ⟨d0, hd0⟩ : ∃ d0, (if d.stack.isEmpty then d else d.bad) = d0 := ⟨_, rfl⟩
  have hen := fun w1 F' hb' => end_walk g d0 (by rw [← hd0]; split <;> exact hn) vs ve w1 F' hb'
  have c10 := hb.1.blk.cell 10
  simp [defC] at c10
  have hlt := hb.1.blk.lt
  obtain ⟨p, c, hvs, hlb⟩ := stack_len hb.1
  rw [hvs] at c10
  have hwd : d0.end_.wild = d.wild := by rw [end_wild, ← hd0]; split <;> rfl
  replace hwd := Lib.hid hwd
  obtain ⟨E, hE⟩ : ∃ E, effV d.closed = E := ⟨_, rfl⟩
  rw [hE]
  have hE' : effV d0.end_.final = E := by rw [← hE, closed_eq]; unfold Def.shut; rw [hd0]
  clear hb hE hn
  replace hE' := Lib.hid hE'
  replace hbd := Lib.hid hbd
  replace hen := Lib.hid hen
  replace hvs := Lib.hid hvs
  have hon0 := fun cs => hon.boxA cs 34
  replace hon0 := Lib.hid hon0
  rcases hs : d.stack.isEmpty with _ | _
  · have hpos : 0 < d.stack.length := by cases h : d.stack <;> simp_all
    have e0 : d0 = d.bad := by rw [← hd0, hs]; rfl
    replace hs := Lib.hid hs
    replace hd0 := Lib.hid hd0
    replace hon := Lib.hid hon
    generalize d.stack.length = n at *
    have hgt : decide (0 < (n : Int)) = true := decide_eq_true (by omega)
    go_enter Tryz.func103, Tryz.ntmps103
    go_wp2_with fail
    refine (((hon0.out _).swapA).callA fun F' hb' => hbd.out _ F' hb').mono ?_
    rintro e w1 ⟨v, A', ⟨rfl, rfl⟩, rfl, hon1⟩
    rw [← e0] at hon1
    replace hon1 := Lib.hid hon1
    go_wp2_with fail
    refine (hon1.out.callA fun F' hb' => hen.out _ F' hb').mono ?_
    rintro e w2 ⟨v, A', ⟨rfl, ve', rfl⟩, rfl, hon2⟩
    try rw [← e0] at hon2
    generalize d0.end_ = D at *
    obtain ⟨F2, hb2⟩ := hon2.firstA
    have c0 := hb2.1.blk.cell 0
    have c1 := hb2.1.blk.cell 1
    have c2 := hb2.1.blk.cell 2
    have c3 := hb2.1.blk.cell 3
    have c4 := hb2.1.blk.cell 4
    have c6 := hb2.1.blk.cell 6
    have f1 := hb2.1.blk.frozen 1
    have f2 := hb2.1.blk.frozen 2
    have c11 := hb2.1.blk.cell 11
    have hbx := hon2.swapA.blkA
    have b0 := hbx.cell 0
    have b1 := hbx.cell 1
    have b2 := hbx.cell 2
    have b3 := hbx.cell 3
    have b4 := hbx.cell 4
    have g0 := hbx.frozen 0
    have g1 := hbx.frozen 1
    have g2 := hbx.frozen 2
    have g3 := hbx.frozen 3
    have g4 := hbx.frozen 4
    simp [defC] at c0 c1 c2 c3 c4 c6 c11 b0 b1 b2 b3 b4
    clear hbx c10
    have hgb : g ≠ w.heap.size := by omega
    rcases hk : D.e.known with _ | _
    · rw [hk] at c3
      have hfin : E = .agg #[.string ⟨D.e.name.toArray⟩, .int .i64 D.e.inn, .int .i64 D.e.out, .bool false, .int .i64 (D.e.needs : Int)] := by rw [← hE'.out]; unfold Def.final; rw [hk]; simp [effV, effC, hk]
      replace hfin := Lib.hid hfin
      replace hk := Lib.hid hk
      clear c6 c11 f1 f2
      have hon3 := hon2.swapA
      replace hon2 := Lib.hid hon2
      have hon8 := fun u0 u1 u2 u3 u4 => ((((hon3.setA 0 u0).setA 1 u1).setA 2 u2).setA 3 u3).setA 4 u4
      replace hon8 := Lib.hid hon8
      clear hon3
      replace hb2 := Lib.hid hb2
      go_wp2_with fail
      have hr := (hon8.out (.string ⟨D.e.name.toArray⟩) (.int .i64 D.e.inn) (.int .i64 D.e.out) (.bool false) (.int .i64 (D.e.needs : Int))).blkA
      have r0 := hr.cell 0
      have r1 := hr.cell 1
      have r2 := hr.cell 2
      have r3 := hr.cell 3
      have r4 := hr.cell 4
      simp at r0 r1 r2 r3 r4
      refine bodyPost_ret (v := .agg #[.string ⟨D.e.name.toArray⟩, .int .i64 D.e.inn, .int .i64 D.e.out, .bool false, .int .i64 (D.e.needs : Int)]) (by simp [results, Tryz.results103, go_sem, r0, r1, r2, r3, r4]) rfl ?_
      exact (hon8.out _ _ _ _ _).tailA.headA.post (by refine ⟨hfin.out.symm, _, _, ?_, rfl⟩; exact hwd.out)
    · rw [hk] at c3
      rcases hen2 : D.ends with _ | ⟨x, l⟩
      · have hend := hb2.1.ends
        rw [hen2] at hend
        obtain ⟨ep, ec, hve⟩ := ownsRow_slice hend
        rw [hve] at c11
        have hfin : E = .agg #[.string ⟨D.e.name.toArray⟩, .int .i64 D.want, .int .i64 D.want, .bool true, .int .i64 (D.e.needs : Int)] := by rw [← hE'.out]; unfold Def.final; rw [hk, hen2]; simp [effV, effC, hk]
        replace hfin := Lib.hid hfin
        replace hk := Lib.hid hk
        have hon3 := DefB.setOwn (d' := { D with e := { D.e with inn := D.want } }) hon2 1 (.int .i64 D.want) rfl rfl rfl
        have hon4 := (DefB.setOwn (d' := { D with e := { D.e with inn := D.want, out := D.want } }) hon3 2 (.int .i64 D.want) rfl rfl rfl).swapA
        clear hon3 hend
        have hon8 := fun u0 u1 u2 u3 u4 => ((((hon4.setA 0 u0).setA 1 u1).setA 2 u2).setA 3 u3).setA 4 u4
        replace hon8 := Lib.hid hon8
        replace hon2 := Lib.hid hon2
        replace hb2 := Lib.hid hb2
        clear hon4
        replace hve := Lib.hid hve
        replace hen2 := Lib.hid hen2
        go_wp2_with fail
        go_region
        all_goals
          go_wp2_with fail
          have hr := (hon8.out (.string ⟨D.e.name.toArray⟩) (.int .i64 D.want) (.int .i64 D.want) (.bool true) (.int .i64 (D.e.needs : Int))).blkA
          have r0 := hr.cell 0
          have r1 := hr.cell 1
          have r2 := hr.cell 2
          have r3 := hr.cell 3
          have r4 := hr.cell 4
          simp at r0 r1 r2 r3 r4
          refine bodyPost_ret (v := .agg #[.string ⟨D.e.name.toArray⟩, .int .i64 D.want, .int .i64 D.want, .bool true, .int .i64 (D.e.needs : Int)]) (by simp [results, Tryz.results103, go_sem, r0, r1, r2, r3, r4]) rfl ?_
          have hpp := (hon8.out (.string ⟨D.e.name.toArray⟩) (.int .i64 D.want) (.int .i64 D.want) (.bool true) (.int .i64 (D.e.needs : Int))).tailA.headA
          first
            | exact hpp.drew.post (by refine ⟨hfin.out.symm, _, _, ?_, rfl⟩; exact hwd.out)
            | exact hpp.drew.drew.post (by refine ⟨hfin.out.symm, _, _, ?_, rfl⟩; exact hwd.out)
            | exact (hpp.drewN _).post (by refine ⟨hfin.out.symm, _, _, ?_, rfl⟩; exact hwd.out)
      · obtain ⟨eg, ec, hve, hce⟩ := first_end hb2.1 hen2
        have hne2 : g ≠ eg := fun e => hb2.1.ne2 (by rw [hve, e]; rfl)
        have hltg : l.length + 1 ≤ maxLen := by
          have h1 := hb2.1.ends
          rw [hen2] at h1
          obtain ⟨_, _, _, h2, h3⟩ := stack_form h1
          omega
        have hltb : ((l.length : Int) + 1) ≤ 9223372036854775807 := by unfold maxLen at hltg; omega
        rw [hve] at c11
        have hfin : E = .agg #[.string ⟨D.e.name.toArray⟩, .int .i64 D.want, .int .i64 (wrap64 (D.want + x)), .bool true, .int .i64 (D.e.needs : Int)] := by rw [← hE'.out]; unfold Def.final; rw [hk, hen2]; simp [effV, effC, hk]
        replace hfin := Lib.hid hfin
        replace hk := Lib.hid hk
        have hon3 := DefB.setOwn (d' := { D with e := { D.e with inn := D.want } }) hon2 1 (.int .i64 D.want) rfl rfl rfl
        have hon3b := DefB.setOwn (d' := { D with e := { D.e with inn := D.want, out := D.want } }) hon3 2 (.int .i64 D.want) rfl rfl rfl
        have hon4 := (DefB.setOwn (d' := { D with e := { D.e with inn := D.want, out := wrap64 (D.want + x) } }) hon3b 2 (.int .i64 (wrap64 (D.want + x))) rfl rfl rfl).swapA
        clear hon3 hon3b hltg
        replace hon4 := Lib.hid hon4
        replace hon2 := Lib.hid hon2
        replace hb2 := Lib.hid hb2
        replace hve := Lib.hid hve
        replace hen2 := Lib.hid hen2
        go_wp2_with fail
        go_region
        all_goals
          go_wp2_with fail
          go_region
        all_goals
          have hon5 := hon4.out.drew.drew
          obtain ⟨F5, hb5⟩ := hon5.swapA.firstA
          have d0 := hb5.1.blk.cell 0
          have d1 := hb5.1.blk.cell 1
          have d2 := hb5.1.blk.cell 2
          have d3 := hb5.1.blk.cell 3
          have d4 := hb5.1.blk.cell 4
          have hbx := hon5.blkA
          have e0 := hbx.cell 0
          have e1 := hbx.cell 1
          have e2 := hbx.cell 2
          have e3 := hbx.cell 3
          have e4 := hbx.cell 4
          have i0 := hbx.frozen 0
          have i1 := hbx.frozen 1
          have i2 := hbx.frozen 2
          have i3 := hbx.frozen 3
          have i4 := hbx.frozen 4
          simp only [defC, hk.out] at d0 d1 d2 d3 d4
          generalize (((w2.setCell ⟨g, 1, none⟩ (.int .i64 D.want)).setCell ⟨g, 2, none⟩ (.int .i64 D.want)).setCell ⟨g, 2, none⟩ (.int .i64 (wrap64 (D.want + x)))).drew.drew = w5 at *
          simp at d0 d1 d2 d3 d4 e0 e1 e2 e3 e4
          have hon8 := fun u0 u1 u2 u3 u4 => ((((hon5.setA 0 u0).setA 1 u1).setA 2 u2).setA 3 u3).setA 4 u4
          clear hbx hb5 c0 c1 c2 c3 c4 c6 c11 b0 b1 b2 b3 b4 g0 g1 g2 g3 g4 hce f1 f2
          replace hon8 := Lib.hid hon8
          replace hon5 := Lib.hid hon5
          go_wp2_with fail
          have hr := (hon8.out (.string ⟨D.e.name.toArray⟩) (.int .i64 D.want) (.int .i64 (wrap64 (D.want + x))) (.bool true) (.int .i64 (D.e.needs : Int))).blkA
          have r0 := hr.cell 0
          have r1 := hr.cell 1
          have r2 := hr.cell 2
          have r3 := hr.cell 3
          have r4 := hr.cell 4
          simp at r0 r1 r2 r3 r4
          refine bodyPost_ret (v := .agg #[.string ⟨D.e.name.toArray⟩, .int .i64 D.want, .int .i64 (wrap64 (D.want + x)), .bool true, .int .i64 (D.e.needs : Int)]) (by simp [results, Tryz.results103, go_sem, r0, r1, r2, r3, r4]) rfl ?_
          exact (hon8.out _ _ _ _ _).tailA.headA.post (by refine ⟨hfin.out.symm, _, _, ?_, rfl⟩; exact hwd.out)
  · have h0 : d.stack.length = 0 := by cases h : d.stack <;> simp_all
    have e0 : d0 = d := by rw [← hd0, hs]; rfl
    replace hs := Lib.hid hs
    replace hd0 := Lib.hid hd0
    replace hon := Lib.hid hon
    rw [h0] at c10
    replace h0 := Lib.hid h0
    go_enter Tryz.func103, Tryz.ntmps103
    go_wp2_with fail
    rw [e0] at hen
    refine (((hon0.out _).swapA).callA fun F' hb' => hen.out _ F' hb').mono ?_
    rintro e w2 ⟨v, A', ⟨rfl, ve', rfl⟩, rfl, hon2⟩
    try rw [← e0] at hon2
    generalize d0.end_ = D at *
    obtain ⟨F2, hb2⟩ := hon2.firstA
    have c0 := hb2.1.blk.cell 0
    have c1 := hb2.1.blk.cell 1
    have c2 := hb2.1.blk.cell 2
    have c3 := hb2.1.blk.cell 3
    have c4 := hb2.1.blk.cell 4
    have c6 := hb2.1.blk.cell 6
    have f1 := hb2.1.blk.frozen 1
    have f2 := hb2.1.blk.frozen 2
    have c11 := hb2.1.blk.cell 11
    have hbx := hon2.swapA.blkA
    have b0 := hbx.cell 0
    have b1 := hbx.cell 1
    have b2 := hbx.cell 2
    have b3 := hbx.cell 3
    have b4 := hbx.cell 4
    have g0 := hbx.frozen 0
    have g1 := hbx.frozen 1
    have g2 := hbx.frozen 2
    have g3 := hbx.frozen 3
    have g4 := hbx.frozen 4
    simp [defC] at c0 c1 c2 c3 c4 c6 c11 b0 b1 b2 b3 b4
    clear hbx c10
    have hgb : g ≠ w.heap.size := by omega
    rcases hk : D.e.known with _ | _
    · rw [hk] at c3
      have hfin : E = .agg #[.string ⟨D.e.name.toArray⟩, .int .i64 D.e.inn, .int .i64 D.e.out, .bool false, .int .i64 (D.e.needs : Int)] := by rw [← hE'.out]; unfold Def.final; rw [hk]; simp [effV, effC, hk]
      replace hfin := Lib.hid hfin
      replace hk := Lib.hid hk
      clear c6 c11 f1 f2
      have hon3 := hon2.swapA
      replace hon2 := Lib.hid hon2
      have hon8 := fun u0 u1 u2 u3 u4 => ((((hon3.setA 0 u0).setA 1 u1).setA 2 u2).setA 3 u3).setA 4 u4
      replace hon8 := Lib.hid hon8
      clear hon3
      replace hb2 := Lib.hid hb2
      go_wp2_with fail
      have hr := (hon8.out (.string ⟨D.e.name.toArray⟩) (.int .i64 D.e.inn) (.int .i64 D.e.out) (.bool false) (.int .i64 (D.e.needs : Int))).blkA
      have r0 := hr.cell 0
      have r1 := hr.cell 1
      have r2 := hr.cell 2
      have r3 := hr.cell 3
      have r4 := hr.cell 4
      simp at r0 r1 r2 r3 r4
      refine bodyPost_ret (v := .agg #[.string ⟨D.e.name.toArray⟩, .int .i64 D.e.inn, .int .i64 D.e.out, .bool false, .int .i64 (D.e.needs : Int)]) (by simp [results, Tryz.results103, go_sem, r0, r1, r2, r3, r4]) rfl ?_
      exact (hon8.out _ _ _ _ _).tailA.headA.post (by refine ⟨hfin.out.symm, _, _, ?_, rfl⟩; exact hwd.out)
    · rw [hk] at c3
      rcases hen2 : D.ends with _ | ⟨x, l⟩
      · have hend := hb2.1.ends
        rw [hen2] at hend
        obtain ⟨ep, ec, hve⟩ := ownsRow_slice hend
        rw [hve] at c11
        have hfin : E = .agg #[.string ⟨D.e.name.toArray⟩, .int .i64 D.want, .int .i64 D.want, .bool true, .int .i64 (D.e.needs : Int)] := by rw [← hE'.out]; unfold Def.final; rw [hk, hen2]; simp [effV, effC, hk]
        replace hfin := Lib.hid hfin
        replace hk := Lib.hid hk
        have hon3 := DefB.setOwn (d' := { D with e := { D.e with inn := D.want } }) hon2 1 (.int .i64 D.want) rfl rfl rfl
        have hon4 := (DefB.setOwn (d' := { D with e := { D.e with inn := D.want, out := D.want } }) hon3 2 (.int .i64 D.want) rfl rfl rfl).swapA
        clear hon3 hend
        have hon8 := fun u0 u1 u2 u3 u4 => ((((hon4.setA 0 u0).setA 1 u1).setA 2 u2).setA 3 u3).setA 4 u4
        replace hon8 := Lib.hid hon8
        replace hon2 := Lib.hid hon2
        replace hb2 := Lib.hid hb2
        clear hon4
        replace hve := Lib.hid hve
        replace hen2 := Lib.hid hen2
        go_wp2_with fail
        go_region
        all_goals
          go_wp2_with fail
          have hr := (hon8.out (.string ⟨D.e.name.toArray⟩) (.int .i64 D.want) (.int .i64 D.want) (.bool true) (.int .i64 (D.e.needs : Int))).blkA
          have r0 := hr.cell 0
          have r1 := hr.cell 1
          have r2 := hr.cell 2
          have r3 := hr.cell 3
          have r4 := hr.cell 4
          simp at r0 r1 r2 r3 r4
          refine bodyPost_ret (v := .agg #[.string ⟨D.e.name.toArray⟩, .int .i64 D.want, .int .i64 D.want, .bool true, .int .i64 (D.e.needs : Int)]) (by simp [results, Tryz.results103, go_sem, r0, r1, r2, r3, r4]) rfl ?_
          have hpp := (hon8.out (.string ⟨D.e.name.toArray⟩) (.int .i64 D.want) (.int .i64 D.want) (.bool true) (.int .i64 (D.e.needs : Int))).tailA.headA
          first
            | exact hpp.drew.post (by refine ⟨hfin.out.symm, _, _, ?_, rfl⟩; exact hwd.out)
            | exact hpp.drew.drew.post (by refine ⟨hfin.out.symm, _, _, ?_, rfl⟩; exact hwd.out)
            | exact (hpp.drewN _).post (by refine ⟨hfin.out.symm, _, _, ?_, rfl⟩; exact hwd.out)
      · obtain ⟨eg, ec, hve, hce⟩ := first_end hb2.1 hen2
        have hne2 : g ≠ eg := fun e => hb2.1.ne2 (by rw [hve, e]; rfl)
        have hltg : l.length + 1 ≤ maxLen := by
          have h1 := hb2.1.ends
          rw [hen2] at h1
          obtain ⟨_, _, _, h2, h3⟩ := stack_form h1
          omega
        have hltb : ((l.length : Int) + 1) ≤ 9223372036854775807 := by unfold maxLen at hltg; omega
        rw [hve] at c11
        have hfin : E = .agg #[.string ⟨D.e.name.toArray⟩, .int .i64 D.want, .int .i64 (wrap64 (D.want + x)), .bool true, .int .i64 (D.e.needs : Int)] := by rw [← hE'.out]; unfold Def.final; rw [hk, hen2]; simp [effV, effC, hk]
        replace hfin := Lib.hid hfin
        replace hk := Lib.hid hk
        have hon3 := DefB.setOwn (d' := { D with e := { D.e with inn := D.want } }) hon2 1 (.int .i64 D.want) rfl rfl rfl
        have hon3b := DefB.setOwn (d' := { D with e := { D.e with inn := D.want, out := D.want } }) hon3 2 (.int .i64 D.want) rfl rfl rfl
        have hon4 := (DefB.setOwn (d' := { D with e := { D.e with inn := D.want, out := wrap64 (D.want + x) } }) hon3b 2 (.int .i64 (wrap64 (D.want + x))) rfl rfl rfl).swapA
        clear hon3 hon3b hltg
        replace hon4 := Lib.hid hon4
        replace hon2 := Lib.hid hon2
        replace hb2 := Lib.hid hb2
        replace hve := Lib.hid hve
        replace hen2 := Lib.hid hen2
        go_wp2_with fail
        go_region
        all_goals
          go_wp2_with fail
          go_region
        all_goals
          have hon5 := hon4.out.drew.drew
          obtain ⟨F5, hb5⟩ := hon5.swapA.firstA
          have d0 := hb5.1.blk.cell 0
          have d1 := hb5.1.blk.cell 1
          have d2 := hb5.1.blk.cell 2
          have d3 := hb5.1.blk.cell 3
          have d4 := hb5.1.blk.cell 4
          have hbx := hon5.blkA
          have e0 := hbx.cell 0
          have e1 := hbx.cell 1
          have e2 := hbx.cell 2
          have e3 := hbx.cell 3
          have e4 := hbx.cell 4
          have i0 := hbx.frozen 0
          have i1 := hbx.frozen 1
          have i2 := hbx.frozen 2
          have i3 := hbx.frozen 3
          have i4 := hbx.frozen 4
          simp only [defC, hk.out] at d0 d1 d2 d3 d4
          generalize (((w2.setCell ⟨g, 1, none⟩ (.int .i64 D.want)).setCell ⟨g, 2, none⟩ (.int .i64 D.want)).setCell ⟨g, 2, none⟩ (.int .i64 (wrap64 (D.want + x)))).drew.drew = w5 at *
          simp at d0 d1 d2 d3 d4 e0 e1 e2 e3 e4
          have hon8 := fun u0 u1 u2 u3 u4 => ((((hon5.setA 0 u0).setA 1 u1).setA 2 u2).setA 3 u3).setA 4 u4
          clear hbx hb5 c0 c1 c2 c3 c4 c6 c11 b0 b1 b2 b3 b4 g0 g1 g2 g3 g4 hce f1 f2
          replace hon8 := Lib.hid hon8
          replace hon5 := Lib.hid hon5
          go_wp2_with fail
          have hr := (hon8.out (.string ⟨D.e.name.toArray⟩) (.int .i64 D.want) (.int .i64 (wrap64 (D.want + x))) (.bool true) (.int .i64 (D.e.needs : Int))).blkA
          have r0 := hr.cell 0
          have r1 := hr.cell 1
          have r2 := hr.cell 2
          have r3 := hr.cell 3
          have r4 := hr.cell 4
          simp at r0 r1 r2 r3 r4
          refine bodyPost_ret (v := .agg #[.string ⟨D.e.name.toArray⟩, .int .i64 D.want, .int .i64 (wrap64 (D.want + x)), .bool true, .int .i64 (D.e.needs : Int)]) (by simp [results, Tryz.results103, go_sem, r0, r1, r2, r3, r4]) rfl ?_
          exact (hon8.out _ _ _ _ _).tailA.headA.post (by refine ⟨hfin.out.symm, _, _, ?_, rfl⟩; exact hwd.out)
end Look
end Go.Proofs.YthejfkkmcbdlhaaGreatDoor
