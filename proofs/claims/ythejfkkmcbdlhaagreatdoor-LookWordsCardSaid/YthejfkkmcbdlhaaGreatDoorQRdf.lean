/- Chapter 19: what a word is: one of its ways. -/
import Derived.Test.YthejfkkmcbdlhaaGreatDoorQRd
namespace Go.Proofs.YthejfkkmcbdlhaaGreatDoor
set_option linter.unusedVariables false
set_option maxRecDepth 100000
open Go.RowKit Go.Lib
namespace Look
set_option maxHeartbeats 4000000 in
theorem what_unk (g gk : Nat) (E : Env) (T : ByteArray) (r : Rd) (bt : Nat) (s : ByteArray) (hs : s.size ≤ 100000) (hi1 : latest r.list (lowS s.data.toList) = none) (hi2 : latest E.klist (lowS s.data.toList) = none) (hi3 : E.tab.lookup (lowS s.data.toList) = none) (hi4 : (parseN s.data.toList 10).2 = false) (w : World) (F : Nat → Prop) (hb : (RdA g E (some gk) T r bt).holds w F) :
    Calls Tryz.prog 61 #[.pointer (some ⟨g, 0, none⟩), .string s] w (Post (fun u B => u = wordV ⟨0, 0, []⟩ ∧ B = RdA g E (some gk) T r bt) F w) := by
  obtain ⟨gs, vl, bl, bsp, bw, vo, v0, v3, v4, v5, v6, v7, v9, vkl, kbl, kbw, hon⟩ := RdA.open2 hb
  have hon0 := hon.boxA #[.int .i64 0, .int .i64 0, .string ⟨#[]⟩] 70
  have hfa : ∀ w2, On F w (AllA (BlkA w.heap.size 70 #[.int .i64 0, .int .i64 0, .string ⟨#[]⟩] :: (rdL0 g E (some gk) T r bt gs vl bl bsp bw vo ++ kerL gk E v0 v3 v4 v5 v6 v7 v9 vkl kbl kbw))) w2 → w2.cell? ⟨g, 2, none⟩ = some (.map (some bl)) ∧ w2.cell? ⟨g, 6, none⟩ = some (.map (some bt)) ∧ w2.cell? ⟨g, 7, none⟩ = some (ptrV (some gk)) := by
    intro w2 h2
    obtain ⟨_, hB⟩ := h2.mem (A := BlkA g 46 (rdC (some gk) r bt gs vl bl bsp bw vo)) (by simp [rdL0, kerL])
    exact ⟨hB.1.cell 2, hB.1.cell 6, hB.1.cell 7⟩
  have hsm := fun w => small_walk s (by omega) w
  have hkey := keyS s hs
  have hlk : ∀ w2, On F w (AllA (BlkA w.heap.size 70 #[.int .i64 0, .int .i64 0, .string ⟨#[]⟩] :: (rdL0 g E (some gk) T r bt gs vl bl bsp bw vo ++ kerL gk E v0 v3 v4 v5 v6 v7 v9 vkl kbl kbw))) w2 → (Instr.lookup 41 (.map (some bl)) (.string ⟨(lowS s.data.toList).toArray⟩) true).run Tryz.prog w2 = .ok (.tuple #[.int .i64 0, .bool false]) w2 := by
    intro w2 h2
    obtain ⟨_, hM⟩ := h2.mem (A := MapG 9 intE bl r.list.length (latF r.list)) (by simp [rdL0, kerL])
    obtain ⟨v, ps, h3, h4⟩ := MapG.look hM strK Tryz.underlying41 (zeroInt w2) (zd := .lit (.int .i64 0)) rfl hkey
    have hf : latF r.list (.string (lowS s.data.toList)) = none := by simp [latF, hi1]
    rw [hf] at h3 h4
    rw [intE_inv h4] at h3
    exact h3
  have hfk : ∀ w2, On F w (AllA (BlkA w.heap.size 70 #[.int .i64 0, .int .i64 0, .string ⟨#[]⟩] :: (rdL0 g E (some gk) T r bt gs vl bl bsp bw vo ++ kerL gk E v0 v3 v4 v5 v6 v7 v9 vkl kbl kbw))) w2 → w2.cell? ⟨gk, 2, none⟩ = some (.map (some kbl)) ∧ w2.cell? ⟨gk, 1, none⟩ = some vkl := by
    intro w2 h2
    obtain ⟨_, hB⟩ := h2.mem (A := BlkA gk 46 #[v0, vkl, .map (some kbl), v3, v4, v5, v6, v7, .map (some kbw), v9]) (by simp [rdL0, kerL])
    exact ⟨hB.1.cell 2, hB.1.cell 1⟩
  have hlk2 : ∀ w2, On F w (AllA (BlkA w.heap.size 70 #[.int .i64 0, .int .i64 0, .string ⟨#[]⟩] :: (rdL0 g E (some gk) T r bt gs vl bl bsp bw vo ++ kerL gk E v0 v3 v4 v5 v6 v7 v9 vkl kbl kbw))) w2 → (Instr.lookup 41 (.map (some kbl)) (.string ⟨(lowS s.data.toList).toArray⟩) true).run Tryz.prog w2 = .ok (.tuple #[.int .i64 0, .bool false]) w2 := by
    intro w2 h2
    obtain ⟨_, hM⟩ := h2.mem (A := MapG 9 intE kbl E.klist.length (latF E.klist)) (by simp [rdL0, kerL])
    obtain ⟨v, ps, h3, h4⟩ := MapG.look hM strK Tryz.underlying41 (zeroInt w2) (zd := .lit (.int .i64 0)) rfl hkey
    have hf : latF E.klist (.string (lowS s.data.toList)) = none := by simp [latF, hi2]
    rw [hf] at h3 h4
    rw [intE_inv h4] at h3
    exact h3
  have hlk3 : ∀ w2, On F w (AllA (BlkA w.heap.size 70 #[.int .i64 0, .int .i64 0, .string ⟨#[]⟩] :: (rdL0 g E (some gk) T r bt gs vl bl bsp bw vo ++ kerL gk E v0 v3 v4 v5 v6 v7 v9 vkl kbl kbw))) w2 → (Instr.lookup 42 (.map (some bt)) (.string ⟨(lowS s.data.toList).toArray⟩) true).run Tryz.prog w2 = .ok (.tuple #[.agg #[.int .i64 0, .int .i64 0, .string ⟨#[]⟩], .bool false]) w2 := by
    intro w2 h2
    obtain ⟨_, nt, hM⟩ := h2.mem (A := TabA bt E.tab) (by simp [rdL0, kerL])
    obtain ⟨v, ps, h3, h4⟩ := MapG.look hM strK Tryz.underlying42 (zeroWord w2) (zd := wordD 0 0 []) (zp := []) rfl hkey
    have hf : tabF E.tab (.string (lowS s.data.toList)) = none := by simp [tabF, hi3]
    rw [hf] at h3 h4
    rw [wordE_inv h4] at h3
    exact h3
  have hpa := fun w => parse_walk s (by omega) 10 w
  rw [hi4] at hpa
  generalize (parseN s.data.toList 10).1 = pv at hpa
  replace hpa := Lib.hid hpa
  clear hi4
  clear hi3
  clear hb hkey hon hi1 hi2
  replace hon0 := Lib.hid hon0
  replace hsm := Lib.hid hsm
  replace hlk := Lib.hid hlk
  replace hfa := Lib.hid hfa
  replace hfk := Lib.hid hfk
  replace hlk2 := Lib.hid hlk2
  replace hlk3 := Lib.hid hlk3
  have c2 := (hfa.out _ hon0.out).1
  go_enter Tryz.func61, Tryz.ntmps61
  go_wp2_with fail
  go_region_with ((go_at_call 33; refine (hsm.out _).mono ?_; rintro e w2 ⟨rfl, hbel⟩; have hon2 := (hon0.out.drew).keptNob (Kept.ofBelow0 hbel); have c2b := (hfa.out w2 hon2).1; have hlw := hlk.out w2 hon2; clear hbel; replace hon2 := Lib.hid hon2))
  all_goals
    clear c2 c2b hlw
    have c7 := (hfa.out _ hon2.out).2.2
    simp only [ptrV, Option.map] at c7
    have d1 := (hfk.out _ hon2.out).1
    go_wp2_with fail
    go_region_with ((go_at_call 33; refine (hsm.out _).mono ?_; rintro e w3 ⟨rfl, hbel⟩; have hon3 := (hon2.out.drew).keptNob (Kept.ofBelow0 hbel); have c7b := (hfa.out w3 hon3).2.2; simp only [ptrV, Option.map] at c7b; have d1b := (hfk.out w3 hon3).1; have hlw := hlk2.out w3 hon3; clear hbel; replace hon3 := Lib.hid hon3))
  all_goals
    clear c7 c7b d1 d1b hlw
    have c6 := (hfa.out _ hon3.out).2.1
    have hltg : g < _ := World.block_lt_of_cell? _ _ c6
    go_upto_region 8 with fail
    go_cut [9, 10] (fun a b wx => ∃ gx, a = .pointer (some ⟨gx, 0, none⟩) ∧ b = .bool false ∧ On F w (AllA (BlkA gx 70 #[.int .i64 0, .int .i64 0, .string ⟨#[]⟩] :: BlkA w.heap.size 70 #[.int .i64 0, .int .i64 0, .string ⟨#[]⟩] :: (rdL0 g E (some gk) T r bt gs vl bl bsp bw vo ++ kerL gk E v0 v3 v4 v5 v6 v7 v9 vkl kbl kbw))) wx)
    case first =>
      go_region_with ((go_at_call 33; refine (hsm.out _).mono ?_; rintro e w4 ⟨rfl, hbel⟩; first
        | (have hon4 := (hon3.out.drew).keptNob (Kept.ofBelow0 hbel); have c6b := (hfa.out w4 hon4).2.1; have hlw := hlk3.out w4 hon4; have hlwA := hlk3.out _ (hon4.alloc (.cells #[.int .i64 0, .int .i64 0, .string ⟨#[]⟩] 70)); have c6A := (hfa.out _ (hon4.alloc (.cells #[.int .i64 0, .int .i64 0, .string ⟨#[]⟩] 70))).2.1; have honX := hon4.boxA #[.int .i64 0, .int .i64 0, .string ⟨#[]⟩] 70; clear hbel; replace honX := Lib.hid honX; replace hon4 := Lib.hid hon4)
        | (have hon4 := (((hon3.out.boxA #[.int .i64 0, .int .i64 0, .string ⟨#[]⟩] 70)).drew).keptNob (Kept.ofBelow0 hbel); have c6b := (hfa.out w4 (hon4.tailA)).2.1; have hlw := hlk3.out w4 (hon4.tailA); have hbz := hon4.blkA; have z0 := hbz.cell 0; have z1 := hbz.cell 1; have z2 := hbz.cell 2; have y0 := hbz.frozen 0; have y1 := hbz.frozen 1; have y2 := hbz.frozen 2; simp at z0 z1 z2; clear hbz; have honX : On F w (AllA (BlkA _ 70 #[.int .i64 0, .int .i64 0, .string ⟨#[]⟩] :: BlkA w.heap.size 70 #[.int .i64 0, .int .i64 0, .string ⟨#[]⟩] :: (rdL0 g E (some gk) T r bt gs vl bl bsp bw vo ++ kerL gk E v0 v3 v4 v5 v6 v7 v9 vkl kbl kbw))) _ := ((hon4.setA 0 (.int .i64 0)).setA 1 (.int .i64 0)).setA 2 (.string ⟨#[]⟩); replace honX := Lib.hid honX; replace hon4 := Lib.hid hon4)))
      all_goals
        go_wp2_with fail
        go_meet
        exact ⟨_, rfl, rfl, by first | exact honX.out | exact honX.out.drew | exact honX.out.drewN _⟩
    case rest =>
     obtain ⟨gx, rfl, rfl, hon4x⟩ := hcut
     have hgx := hon4x.blkA
     have x0 := hgx.cell 0
     have x1 := hgx.cell 1
     have x2 := hgx.cell 2
     simp at x0 x1 x2
     clear hgx
     have hon4 := hon4x.swapA
     have hon3 := hon4
     replace hon4 := Lib.hid hon4
     clear hon4x hon3 c6 hltg
     go_wp2_with fail
     refine (hpa.out _).mono ?_
     rintro e w5 ⟨rfl, hkp⟩
     have hon5 := (hon4.out).keptNob hkp
     clear hkp
     replace hon5 := Lib.hid hon5
     have hbx := hon5.out.blkA
     have b0 := hbx.cell 0
     have b1 := hbx.cell 1
     have b2 := hbx.cell 2
     have g0 := hbx.frozen 0
     have g1 := hbx.frozen 1
     have g2 := hbx.frozen 2
     have hlt := hbx.lt
     simp at b0 b1 b2
     clear hbx
     have honr := ((hon5.out.setA 0 (.int .i64 0)).setA 1 (.int .i64 0)).setA 2 (.string ⟨#[]⟩)
     replace honr := Lib.hid honr
     go_wp2_with fail
     have hr := honr.out.blkA
     have r0 := hr.cell 0
     have r1 := hr.cell 1
     have r2 := hr.cell 2
     simp at r0 r1 r2
     refine bodyPost_ret (v := .agg #[.int .i64 0, .int .i64 0, .string ⟨#[]⟩]) (by simp [results, Tryz.results61, go_sem, r0, r1, r2]) rfl ?_
     exact (RdA.close2 honr.out.tailA.tailA).post ⟨rfl, rfl⟩
end Look
end Go.Proofs.YthejfkkmcbdlhaaGreatDoor
