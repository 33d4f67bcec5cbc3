/- Chapter 19: owns: an own word is taken down. -/
import Derived.Test.YthejfkkmcbdlhaaGreatDoorQRdh
import Derived.Test.YthejfkkmcbdlhaaGreatDoorQSpec
namespace Go.Proofs.YthejfkkmcbdlhaaGreatDoor
set_option linter.unusedVariables false
set_option maxRecDepth 100000
open Go.RowKit Go.Lib
namespace Look
theorem info_eff : (Tryz.prog.info? 34).map (fun i => (i.zero, i.size, i.bytes)) = some (some (.agg #[.string ⟨#[]⟩, .int .i64 0, .int .i64 0, .bool false, .int .i64 0]), 5, 48) := by kernel_rfl
/-- m[k] = v, whatever the footprint -/
theorem MapG.storeA {w : World} {F : Nat → Prop} {K t e : TypeId} {R : Value → Option (Dt × List MemPlace)} {b n : Nat} {f : Lit → Option Dt} (h : (MapG K R b n f).holds w F) (Kd : Maps.Keyed Tryz.prog K) (ht : Tryz.prog.underlying t = some (.map K e)) (hn : n < maxLen) {key val : Value} {kl : Lit} {d : Dt} {ps : List MemPlace}
    (hkey : keyOf Tryz.prog K key = some kl) (hv : R val = some (d, ps)) {f' : Lit → Option Dt} (hu : Upd f f' kl d) : ∃ w', (Instr.mapUpdate t (.map (some b)) key val).run Tryz.prog w = .ok () w' ∧ ∀ F', (MapG K R b n f).holds w F' → On F' w (MapG K R b (n + 1) f') w' := by
  obtain ⟨w', h5, h6, h7⟩ := MapG.store h Kd ht hn hkey hv hu
  exact ⟨w', h5, fun F' hF' => ⟨F', ⟨h6.1, hF'.2⟩, h7.mono fun k hk => (hF'.2 k).2 ((h6.2 k).1 hk), fun _ h => .inl h⟩⟩
theorem MapG.more {w : World} {F : Nat → Prop} {K : TypeId} {R : Value → Option (Dt × List MemPlace)} {b n n' : Nat} {f : Lit → Option Dt} (h : (MapG K R b n f).holds w F) (hn : n ≤ n') : (MapG K R b n' f).holds w F := by
  obtain ⟨⟨D, h1, h2⟩, h3⟩ := h
  exact ⟨⟨D, h1.mono hn, h2⟩, h3⟩
theorem latest_snoc : ∀ (l : List Eff) (e : Eff) (k : List UInt8), latest (l ++ [e]) k = if lowS e.name = k then some l.length else latest l k
  | [], e, k => by simp [latest]
  | x :: l, e, k => by
    rw [List.cons_append]
    unfold latest
    rw [latest_snoc l e k]
    by_cases h : lowS e.name = k
    · simp [h]
    · rw [if_neg h, if_neg h]
theorem latF_upd (l : List Eff) (e : Eff) : Upd (latF l) (latF (l ++ [e])) (.string (lowS e.name)) (.lit (.int .i64 (l.length : Int))) := by
  refine ⟨by simp [latF, latest_snoc], fun k' hk' => ?_⟩
  cases k' <;> try rfl
  next k =>
    simp only [latF]
    rw [latest_snoc, if_neg]
    intro h
    exact hk' (by rw [h])
theorem wildF_upd (ws : List Bool) : Upd (wildF ws) (wildF (ws ++ [true])) (.int .i64 (ws.length : Int)) (.lit (.int .i64 1)) := by
  refine ⟨?_, fun k' hk' => ?_⟩
  · rw [wild_look]
    simp [List.getD]
  · unfold wildF
    split
    · next i =>
      by_cases h0 : 0 ≤ i
      · obtain ⟨j, rfl⟩ : ∃ j : Nat, i = j := ⟨i.toNat, by omega⟩
        have hne : j ≠ ws.length := fun h => hk' (by rw [h])
        rcases Nat.lt_or_ge j ws.length with h | h
        · simp [List.getD, List.getElem?_append_left h]
        · have : (ws ++ [true]).length ≤ j := by simp; omega
          simp [List.getD, List.getElem?_eq_none this, List.getElem?_eq_none h]
      · simp [h0]
    · rfl
theorem wildF_same (ws : List Bool) : wildF (ws ++ [false]) = wildF ws := by
  funext k
  unfold wildF
  split
  · next i =>
    by_cases h0 : 0 ≤ i
    · obtain ⟨j, rfl⟩ : ∃ j : Nat, i = j := ⟨i.toNat, by omega⟩
      rcases Nat.lt_or_ge j ws.length with h | h
      · simp [List.getD, List.getElem?_append_left h]
      · rcases Nat.lt_or_ge ws.length j with h2 | h2
        · have : (ws ++ [false]).length ≤ j := by simp; omega
          simp [List.getD, List.getElem?_eq_none this, List.getElem?_eq_none h]
        · have : j = ws.length := by omega
          subst this
          simp [List.getD]
    · simp [h0]
  · rfl
theorem eff_news {w : World} {B : Nat} {t : TypeId} {e : Eff} (hb : Blk w B t (effC e).toArray) : ∀ j u, (effC e)[j]? = some u → w.cell? ((⟨B, 0, none⟩ : Addr).add j) = some u := fun j u hu => World.news_of_block hb j u (by simpa using hu)
theorem eff_one (e : Eff) : ∀ u ∈ effC e, u.oneCell' = true := by
  intro u hu
  simp [effC] at hu
  rcases hu with rfl | rfl | rfl | rfl | rfl <;> rfl
theorem row_len {w : World} {e : TypeId} {l : List Eff} {v : Value} (h : w.ownsRow 0 e 5 v l.length (effsC l)) : ∃ p c, v = .slice p l.length c ∧ (l.length : Int) ≤ 9223372036854775807 := by
  rcases hs : l with _ | ⟨o, l'⟩
  · rw [hs] at h
    obtain ⟨p, c, rfl⟩ := ownsRow_slice h
    exact ⟨p, c, rfl, by simp⟩
  · obtain ⟨sg, cap, rfl, h1⟩ := effs_form h (i := 0) (by rw [hs]; simp)
    rw [← hs]
    exact ⟨_, _, rfl, h1⟩
set_option maxHeartbeats 4000000 in
theorem owns_wild (g : Nat) (E : Env) (kk : Option Nat) (T : ByteArray) (r : Rd) (bt : Nat) (e : Eff) (hnm : e.name.length ≤ 100000) (hn : r.list.length ≤ 100000) (hwl : r.wild.length = r.list.length) (w : World) (F : Nat → Prop) (hb : (RdA g E kk T r bt).holds w F) :
    Calls Tryz.prog 102 #[.pointer (some ⟨g, 0, none⟩), effV e, .bool true] w (Post (fun u B => u = .tuple #[] ∧ B = RdA g E kk T (owns r e true) bt) F w) := by
  obtain ⟨gs, vl, bl, bsp, bw, vo, hon⟩ := RdA.open_ hb
  have hon0 := (hon.boxA (effC e).toArray 34).drew
  have hon1 := On.pullA (L2 := [OpenA vo r.open_, TabA bt E.tab, KerA kk E]) [BlkA w.heap.size 34 (effC e).toArray, BlkA g 46 (rdC kk r bt gs vl bl bsp bw vo), SrcA gs T r.at_, RowK 34 5 vl r.list.length (effsC r.list), MapG 9 intE bl r.list.length (latF r.list), SpkA bsp r.spoken] hon0
  obtain ⟨_, hM⟩ := hon1.firstA
  obtain ⟨w2, hup, hS⟩ := MapG.storeA hM intK Tryz.underlying43 (by unfold maxLen; omega) (key := .int .i64 (r.wild.length : Int)) (Go.Maps.keyOf_int_mk Tryz.underlying3 (WalkArith.wf_i64 (by constructor <;> omega))) (val := .int .i64 1) (d := .lit (.int .i64 1)) rfl (wildF_upd r.wild)
  have hon2 := hon1.stepA hS
  have hon3 := On.pushA [BlkA w.heap.size 34 (effC e).toArray, BlkA g 46 (rdC kk r bt gs vl bl bsp bw vo), SrcA gs T r.at_, RowK 34 5 vl r.list.length (effsC r.list), MapG 9 intE bl r.list.length (latF r.list), SpkA bsp r.spoken] hon2
  obtain ⟨_, hB⟩ := hon.mem (A := BlkA g 46 (rdC kk r bt gs vl bl bsp bw vo)) (by simp [rdL])
  obtain ⟨_, hR⟩ := hon.mem (A := RowK 34 5 vl r.list.length (effsC r.list)) (by simp [rdL])
  obtain ⟨p, cp, hvl, hbd⟩ := row_len hR.1
  have c1 := hB.1.cell 1
  have c8 := hB.1.cell 8
  have hlt := hB.1.lt
  simp [rdC] at c1 c8
  rw [hvl] at c1
  rw [hwl] at hup
  clear hb hon hon0 hon1 hM hS hon2 hB hR
  replace hon3 := Lib.hid hon3
  replace hvl := Lib.hid hvl
  replace hwl := Lib.hid hwl
  generalize hN : r.list.length = N at *
  replace hN := Lib.hid hN
  obtain ⟨i0, hi, hz0, hz1, hz2⟩ := info_parts info_eff
  replace hi := Lib.hid hi
  replace hz0 := Lib.hid hz0
  replace hz1 := Lib.hid hz1
  replace hz2 := Lib.hid hz2
  replace hn := Lib.hid hn
  obtain ⟨nm, fi, fo, fk, fd⟩ := e
  simp only at hnm
  have hsz : (⟨nm.toArray⟩ : ByteArray).size = nm.length := by show nm.toArray.size = _; simp
  have hsm : ∀ w, Calls Tryz.prog 33 #[.string ⟨nm.toArray⟩] w fun e w' => e = .returned (.string ⟨(lowS nm).toArray⟩) ∧ Below w.heap.size w w' := fun w => small_walk ⟨nm.toArray⟩ (by omega) w
  have hkey : keyOf Tryz.prog 9 (.string ⟨(lowS nm).toArray⟩) = some (.string (lowS nm)) := keyS ⟨nm.toArray⟩ (by omega)
  have hlu := latF_upd r.list ⟨nm, fi, fo, fk, fd⟩
  rw [hN.out] at hlu
  replace hsm := Lib.hid hsm
  replace hkey := Lib.hid hkey
  replace hlu := Lib.hid hlu
  unfold effV
  simp only [effC] at hup ⊢
  go_enter Tryz.func102, Tryz.ntmps102
  go_wp2_with fail
  go_region
  obtain ⟨_, hB⟩ := hon3.out.mem (A := BlkA g 46 (rdC kk r bt gs vl bl bsp bw vo)) (by simp)
  have k1 := hB.1.cell 1
  have k2 := hB.1.cell 2
  simp [rdC] at k1 k2
  rw [hvl.out] at k1
  have hbx := hon3.out.blkA
  have x0 := hbx.cell 0
  simp [effC] at x0
  clear hbx hB
  go_wp2_with fail
  go_upto_region 3 with fail
  go_cut [22] (fun a wx => a = .string ⟨(lowS nm).toArray⟩ ∧ On F w (AllA ([BlkA w.heap.size 34 (effC ⟨nm, fi, fo, fk, fd⟩).toArray, BlkA g 46 (rdC kk r bt gs vl bl bsp bw vo), SrcA gs T r.at_, RowK 34 5 vl N (effsC r.list)] ++ MapG 9 intE bl (N + 1) (latF (r.list ++ [⟨nm, fi, fo, fk, fd⟩])) :: [SpkA bsp r.spoken, MapG 3 intE bw (r.wild.length + 1) (wildF (r.wild ++ [true])), OpenA vo r.open_, TabA bt E.tab, KerA kk E])) wx)
  case first =>
    go_region_with ((go_at_call 33; refine (hsm.out _).mono ?_; rintro e w3 ⟨rfl, hbel⟩; have hon4 := (hon3.out.drew).keptNob (Kept.ofBelow0 hbel); obtain ⟨_, hB⟩ := hon4.mem (A := BlkA g 46 (rdC kk r bt gs vl bl bsp bw vo)) (by simp); have j1 := hB.1.cell 1; have j2 := hB.1.cell 2; have hbx := hon4.blkA; have j0 := hbx.cell 0; simp [rdC, effC] at j0 j1 j2; rw [hvl.out] at j1; have hon5 := On.pullA (A := MapG 9 intE bl N (latF r.list)) (L2 := [SpkA bsp r.spoken, MapG 3 intE bw (r.wild.length + 1) (wildF (r.wild ++ [true])), OpenA vo r.open_, TabA bt E.tab, KerA kk E]) [BlkA w.heap.size 34 (effC ⟨nm, fi, fo, fk, fd⟩).toArray, BlkA g 46 (rdC kk r bt gs vl bl bsp bw vo), SrcA gs T r.at_, RowK 34 5 vl N (effsC r.list)] hon4; obtain ⟨_, hM⟩ := hon5.firstA; obtain ⟨w4, hup4, hS4⟩ := MapG.storeA hM strK Tryz.underlying41 (by have := hn.out; unfold maxLen; omega) hkey.out (val := .int .i64 (N : Int)) (d := .lit (.int .i64 (N : Int))) rfl hlu.out; have hon6 := On.pushA (A := MapG 9 intE bl (N + 1) (latF (r.list ++ [⟨nm, fi, fo, fk, fd⟩]))) (L2 := [SpkA bsp r.spoken, MapG 3 intE bw (r.wild.length + 1) (wildF (r.wild ++ [true])), OpenA vo r.open_, TabA bt E.tab, KerA kk E]) [BlkA w.heap.size 34 (effC ⟨nm, fi, fo, fk, fd⟩).toArray, BlkA g 46 (rdC kk r bt gs vl bl bsp bw vo), SrcA gs T r.at_, RowK 34 5 vl N (effsC r.list)] (hon5.stepA hS4); clear hon4 hB hbx hon5 hM hS4 hbel; replace hon6 := Lib.hid hon6))
    all_goals
      go_wp2_with fail
      go_meet
      exact ⟨rfl, hon6.out⟩
  case rest =>
    obtain ⟨rfl, hon6⟩ := hcut
    replace hon6 := Lib.hid hon6
    clear x0 k1 k2
    obtain ⟨_, hB⟩ := hon6.out.mem (A := BlkA g 46 (rdC kk r bt gs vl bl bsp bw vo)) (by simp)
    have k1 := hB.1.cell 1
    have hgl := hB.1.lt
    simp [rdC] at k1
    have hbx := hon6.out.blkA
    have x0 := hbx.cell 0
    have x1 := hbx.cell 1
    have x2 := hbx.cell 2
    have x3 := hbx.cell 3
    have x4 := hbx.cell 4
    have hbl := hbx.lt
    simp [effC] at x0 x1 x2 x3 x4
    clear hbx
    have hBk := Lib.hid hB.1
    clear hB
    have hrw := On.pullA (A := RowK 34 5 vl N (effsC r.list)) (L2 := MapG 9 intE bl (N + 1) (latF (r.list ++ [⟨nm, fi, fo, fk, fd⟩])) :: [SpkA bsp r.spoken, MapG 3 intE bw (r.wild.length + 1) (wildF (r.wild ++ [true])), OpenA vo r.open_, TabA bt E.tab, KerA kk E]) [BlkA w.heap.size 34 (effC ⟨nm, fi, fo, fk, fd⟩).toArray, BlkA g 46 (rdC kk r bt gs vl bl bsp bw vo), SrcA gs T r.at_] hon6.out
    obtain ⟨Fr, hr⟩ := hrw.firstA
    have hneg : vl.ownBlock ≠ some g := by
      obtain ⟨F1, F2, h1, h2, h3⟩ := hrw.apart (B := BlkA g 46 (rdC kk r bt gs vl bl bsp bw vo)) (by simp)
      intro e
      exact h3 g ((h1.2 g).2 e) ((h2.2 g).2 rfl)
    replace hr := Lib.hid hr
    replace hneg := Lib.hid hneg
    replace hrw := Lib.hid hrw
    have hnlen : N + 1 ≤ maxLen ∧ (N + 1) * 48 ≤ 140737488355328 := by have := hn.out; unfold maxLen; omega
    replace hnlen := Lib.hid hnlen
    go_wp2_with fail
    go_region_law ((refine step_append_lies _ rfl (.tmp 32) (.tmp 34) 30 rfl 0 34 i0 (.agg #[.string ⟨#[]⟩, .int .i64 0, .int .i64 0, .bool false, .int .i64 0]) 5 48 ?_ ?_ ?_ ?_ ?_ ?_ ?_ vl N (effsC r.list) ?_ ?_ ⟨wc.heap.size, 0, none⟩ 1 1 (effC ⟨nm, fi, fo, fk, fd⟩) ?_ ?_ ?_ ?_ ?_ ?_ ?_ ?_ (wc.heap.size + 1) ?_ ?_; exact Tryz.underlying30; exact hi.out; exact hz0.out; exact hz1.out; exact hz2.out; rfl; omega; rfl; exact ownsRow_drew (hr.out.1.alloc _); rfl; rfl; refine (eff_news (e := ⟨nm, fi, fo, fk, fd⟩) (t := 34) ?_); refine Blk.drew (Blk.new' ?_); rfl; exact eff_one _; omega; exact hnlen.out.1; exact hnlen.out.2; omega; simp; intro sg cap w5 hG hgrow hat hlt1; have hB1 := Blk.grown ((hBk.out.alloc _).drew) hgrow (fun e => hneg.out e.symm); have m1 := hB1.cell 1; have n1 := hB1.frozen 1; simp [rdC] at m1))
    all_goals
      have hon7 := hrw.out.stepA (A' := RowK 34 5 (.slice (some ⟨sg, 0, none⟩) (N + 1) cap) (N + 1) (effsC (r.list ++ [⟨nm, fi, fo, fk, fd⟩]))) (w'' := w5) (fun F' h' => RowK.grew h' (((Kept.refl Nob wc).alloc _).drew) hgrow (by
        have q2 : effsC (r.list ++ [⟨nm, fi, fo, fk, fd⟩]) = effsC r.list ++ effC ⟨nm, fi, fo, fk, fd⟩ := by simp [effsC]
        rw [q2]; exact hG) (fun k hk => by
          have hk : some sg = some k := hk
          cases hk
          rcases hat with h1 | h1
          · exact .inl h1
          · exact .inr (by omega)))
      have hon8 := On.pushA _ hon7
      have hon9 := (hon8.tailA).setA 1 (.slice (some ⟨sg, 0, none⟩) (N + 1) cap)
      have q1 : (r.list ++ [(⟨nm, fi, fo, fk, fd⟩ : Eff)]).length = N + 1 := by simp [hN.out]
      have q3 : (r.wild ++ [true]).length = r.wild.length + 1 := by simp
      have hfin : On F w (RdA g E kk T (owns r ⟨nm, fi, fo, fk, fd⟩ true) bt) (w5.setCell ⟨g, 1, none⟩ (.slice (some ⟨sg, 0, none⟩) (N + 1) cap)) := by
        refine RdA.close (gs := gs) (vl := .slice (some ⟨sg, 0, none⟩) (N + 1) cap) (bl := bl) (bsp := bsp) (bw := bw) (vo := vo) ?_
        unfold rdL owns
        simp only [q1, q3]
        exact hon9
      clear hon7 hon8 hon9 hG hgrow hat hlt1 hB1 m1 n1 k1 x0 x1 x2 x3 x4
      replace hfin := Lib.hid hfin
      go_wp2
      go_end0
      exact hfin.out.post ⟨rfl, rfl⟩
end Look
end Go.Proofs.YthejfkkmcbdlhaaGreatDoor
/- Chapter 19: owns: an own word that is not wild. -/
namespace Go.Proofs.YthejfkkmcbdlhaaGreatDoor
set_option linter.unusedVariables false
set_option maxRecDepth 100000
open Go.RowKit Go.Lib
namespace Look
set_option maxHeartbeats 4000000 in
theorem owns_tame (g : Nat) (E : Env) (kk : Option Nat) (T : ByteArray) (r : Rd) (bt : Nat) (e : Eff) (hnm : e.name.length ≤ 100000) (hn : r.list.length ≤ 100000) (hwl : r.wild.length = r.list.length) (w : World) (F : Nat → Prop) (hb : (RdA g E kk T r bt).holds w F) :
    Calls Tryz.prog 102 #[.pointer (some ⟨g, 0, none⟩), effV e, .bool false] w (Post (fun u B => u = .tuple #[] ∧ B = RdA g E kk T (owns r e false) bt) F w) := by
  obtain ⟨gs, vl, bl, bsp, bw, vo, hon⟩ := RdA.open_ hb
  have hon0 := hon.boxA (effC e).toArray 34
  have hon1 := On.pullA (L2 := [OpenA vo r.open_, TabA bt E.tab, KerA kk E]) [BlkA w.heap.size 34 (effC e).toArray, BlkA g 46 (rdC kk r bt gs vl bl bsp bw vo), SrcA gs T r.at_, RowK 34 5 vl r.list.length (effsC r.list), MapG 9 intE bl r.list.length (latF r.list), SpkA bsp r.spoken] hon0
  obtain ⟨_, hM⟩ := hon1.firstA
  have hon2 := hon1.stepA (A' := MapG 3 intE bw (r.wild.length + 1) (wildF (r.wild ++ [false]))) (fun F' h' => On.refl (by rw [wildF_same]; exact MapG.more h' (by omega)))
  have hon3 := On.pushA [BlkA w.heap.size 34 (effC e).toArray, BlkA g 46 (rdC kk r bt gs vl bl bsp bw vo), SrcA gs T r.at_, RowK 34 5 vl r.list.length (effsC r.list), MapG 9 intE bl r.list.length (latF r.list), SpkA bsp r.spoken] hon2
  obtain ⟨_, hB⟩ := hon.mem (A := BlkA g 46 (rdC kk r bt gs vl bl bsp bw vo)) (by simp [rdL])
  obtain ⟨_, hR⟩ := hon.mem (A := RowK 34 5 vl r.list.length (effsC r.list)) (by simp [rdL])
  obtain ⟨p, cp, hvl, hbd⟩ := row_len hR.1
  have c1 := hB.1.cell 1
  have hlt := hB.1.lt
  simp [rdC] at c1
  rw [hvl] at c1
  clear hb hon hon0 hon1 hM hon2 hB hR
  replace hon3 := Lib.hid hon3
  replace hvl := Lib.hid hvl
  replace hwl := Lib.hid hwl
  generalize hN : r.list.length = N at *
  replace hN := Lib.hid hN
  obtain ⟨i0, hi, hz0, hz1, hz2⟩ := info_parts info_eff
  replace hi := Lib.hid hi
  replace hz0 := Lib.hid hz0
  replace hz1 := Lib.hid hz1
  replace hz2 := Lib.hid hz2
  replace hn := Lib.hid hn
  obtain ⟨nm, fi, fo, fk, fd⟩ := e
  simp only at hnm
  have hsz : (⟨nm.toArray⟩ : ByteArray).size = nm.length := by show nm.toArray.size = _; simp
  have hsm : ∀ w, Calls Tryz.prog 33 #[.string ⟨nm.toArray⟩] w fun e w' => e = .returned (.string ⟨(lowS nm).toArray⟩) ∧ Below w.heap.size w w' := fun w => small_walk ⟨nm.toArray⟩ (by omega) w
  have hkey : keyOf Tryz.prog 9 (.string ⟨(lowS nm).toArray⟩) = some (.string (lowS nm)) := keyS ⟨nm.toArray⟩ (by omega)
  have hlu := latF_upd r.list ⟨nm, fi, fo, fk, fd⟩
  rw [hN.out] at hlu
  replace hsm := Lib.hid hsm
  replace hkey := Lib.hid hkey
  replace hlu := Lib.hid hlu
  unfold effV
  simp only [effC]
  go_enter Tryz.func102, Tryz.ntmps102
  obtain ⟨_, hB⟩ := hon3.out.mem (A := BlkA g 46 (rdC kk r bt gs vl bl bsp bw vo)) (by simp)
  have k1 := hB.1.cell 1
  have k2 := hB.1.cell 2
  simp [rdC, effC] at k1 k2
  rw [hvl.out] at k1
  have hbx := hon3.out.blkA
  have x0 := hbx.cell 0
  simp [effC] at x0
  clear hbx hB
  go_wp2_with fail
  go_upto_region 3 with fail
  go_cut [22] (fun a wx => a = .string ⟨(lowS nm).toArray⟩ ∧ On F w (AllA ([BlkA w.heap.size 34 (effC ⟨nm, fi, fo, fk, fd⟩).toArray, BlkA g 46 (rdC kk r bt gs vl bl bsp bw vo), SrcA gs T r.at_, RowK 34 5 vl N (effsC r.list)] ++ MapG 9 intE bl (N + 1) (latF (r.list ++ [⟨nm, fi, fo, fk, fd⟩])) :: [SpkA bsp r.spoken, MapG 3 intE bw (r.wild.length + 1) (wildF (r.wild ++ [false])), OpenA vo r.open_, TabA bt E.tab, KerA kk E])) wx)
  case first =>
    go_region_with ((go_at_call 33; refine (hsm.out _).mono ?_; rintro e w3 ⟨rfl, hbel⟩; have hon4 := (hon3.out.drew).keptNob (Kept.ofBelow0 hbel); obtain ⟨_, hB⟩ := hon4.mem (A := BlkA g 46 (rdC kk r bt gs vl bl bsp bw vo)) (by simp); have j1 := hB.1.cell 1; have j2 := hB.1.cell 2; have hbx := hon4.blkA; have j0 := hbx.cell 0; simp [rdC, effC] at j0 j1 j2; rw [hvl.out] at j1; have hon5 := On.pullA (A := MapG 9 intE bl N (latF r.list)) (L2 := [SpkA bsp r.spoken, MapG 3 intE bw (r.wild.length + 1) (wildF (r.wild ++ [false])), OpenA vo r.open_, TabA bt E.tab, KerA kk E]) [BlkA w.heap.size 34 (effC ⟨nm, fi, fo, fk, fd⟩).toArray, BlkA g 46 (rdC kk r bt gs vl bl bsp bw vo), SrcA gs T r.at_, RowK 34 5 vl N (effsC r.list)] hon4; obtain ⟨_, hM⟩ := hon5.firstA; obtain ⟨w4, hup4, hS4⟩ := MapG.storeA hM strK Tryz.underlying41 (by have := hn.out; unfold maxLen; omega) hkey.out (val := .int .i64 (N : Int)) (d := .lit (.int .i64 (N : Int))) rfl hlu.out; have hon6 := On.pushA (A := MapG 9 intE bl (N + 1) (latF (r.list ++ [⟨nm, fi, fo, fk, fd⟩]))) (L2 := [SpkA bsp r.spoken, MapG 3 intE bw (r.wild.length + 1) (wildF (r.wild ++ [false])), OpenA vo r.open_, TabA bt E.tab, KerA kk E]) [BlkA w.heap.size 34 (effC ⟨nm, fi, fo, fk, fd⟩).toArray, BlkA g 46 (rdC kk r bt gs vl bl bsp bw vo), SrcA gs T r.at_, RowK 34 5 vl N (effsC r.list)] (hon5.stepA hS4); clear hon4 hB hbx hon5 hM hS4 hbel; replace hon6 := Lib.hid hon6))
    all_goals
      go_wp2_with fail
      go_meet
      exact ⟨rfl, hon6.out⟩
  case rest =>
    obtain ⟨rfl, hon6⟩ := hcut
    replace hon6 := Lib.hid hon6
    clear x0 k1 k2
    obtain ⟨_, hB⟩ := hon6.out.mem (A := BlkA g 46 (rdC kk r bt gs vl bl bsp bw vo)) (by simp)
    have k1 := hB.1.cell 1
    have hgl := hB.1.lt
    simp [rdC] at k1
    have hbx := hon6.out.blkA
    have x0 := hbx.cell 0
    have x1 := hbx.cell 1
    have x2 := hbx.cell 2
    have x3 := hbx.cell 3
    have x4 := hbx.cell 4
    have hbl := hbx.lt
    simp [effC] at x0 x1 x2 x3 x4
    clear hbx
    have hBk := Lib.hid hB.1
    clear hB
    have hrw := On.pullA (A := RowK 34 5 vl N (effsC r.list)) (L2 := MapG 9 intE bl (N + 1) (latF (r.list ++ [⟨nm, fi, fo, fk, fd⟩])) :: [SpkA bsp r.spoken, MapG 3 intE bw (r.wild.length + 1) (wildF (r.wild ++ [false])), OpenA vo r.open_, TabA bt E.tab, KerA kk E]) [BlkA w.heap.size 34 (effC ⟨nm, fi, fo, fk, fd⟩).toArray, BlkA g 46 (rdC kk r bt gs vl bl bsp bw vo), SrcA gs T r.at_] hon6.out
    obtain ⟨Fr, hr⟩ := hrw.firstA
    have hneg : vl.ownBlock ≠ some g := by
      obtain ⟨F1, F2, h1, h2, h3⟩ := hrw.apart (B := BlkA g 46 (rdC kk r bt gs vl bl bsp bw vo)) (by simp)
      intro e
      exact h3 g ((h1.2 g).2 e) ((h2.2 g).2 rfl)
    replace hr := Lib.hid hr
    replace hneg := Lib.hid hneg
    replace hrw := Lib.hid hrw
    have hnlen : N + 1 ≤ maxLen ∧ (N + 1) * 48 ≤ 140737488355328 := by have := hn.out; unfold maxLen; omega
    replace hnlen := Lib.hid hnlen
    go_wp2_with fail
    go_region_law ((refine step_append_lies _ rfl (.tmp 32) (.tmp 34) 30 rfl 0 34 i0 (.agg #[.string ⟨#[]⟩, .int .i64 0, .int .i64 0, .bool false, .int .i64 0]) 5 48 ?_ ?_ ?_ ?_ ?_ ?_ ?_ vl N (effsC r.list) ?_ ?_ ⟨wc.heap.size, 0, none⟩ 1 1 (effC ⟨nm, fi, fo, fk, fd⟩) ?_ ?_ ?_ ?_ ?_ ?_ ?_ ?_ (wc.heap.size + 1) ?_ ?_; exact Tryz.underlying30; exact hi.out; exact hz0.out; exact hz1.out; exact hz2.out; rfl; omega; rfl; exact ownsRow_drew (hr.out.1.alloc _); rfl; rfl; refine (eff_news (e := ⟨nm, fi, fo, fk, fd⟩) (t := 34) ?_); refine Blk.drew (Blk.new' ?_); rfl; exact eff_one _; omega; exact hnlen.out.1; exact hnlen.out.2; omega; simp; intro sg cap w5 hG hgrow hat hlt1; have hB1 := Blk.grown ((hBk.out.alloc _).drew) hgrow (fun e => hneg.out e.symm); have m1 := hB1.cell 1; have n1 := hB1.frozen 1; simp [rdC] at m1))
    all_goals
      have hon7 := hrw.out.stepA (A' := RowK 34 5 (.slice (some ⟨sg, 0, none⟩) (N + 1) cap) (N + 1) (effsC (r.list ++ [⟨nm, fi, fo, fk, fd⟩]))) (w'' := w5) (fun F' h' => RowK.grew h' (((Kept.refl Nob wc).alloc _).drew) hgrow (by
        have q2 : effsC (r.list ++ [⟨nm, fi, fo, fk, fd⟩]) = effsC r.list ++ effC ⟨nm, fi, fo, fk, fd⟩ := by simp [effsC]
        rw [q2]; exact hG) (fun k hk => by
          have hk : some sg = some k := hk
          cases hk
          rcases hat with h1 | h1
          · exact .inl h1
          · exact .inr (by omega)))
      have hon8 := On.pushA _ hon7
      have hon9 := (hon8.tailA).setA 1 (.slice (some ⟨sg, 0, none⟩) (N + 1) cap)
      have q1 : (r.list ++ [(⟨nm, fi, fo, fk, fd⟩ : Eff)]).length = N + 1 := by simp [hN.out]
      have q3 : (r.wild ++ [false]).length = r.wild.length + 1 := by simp
      have hfin : On F w (RdA g E kk T (owns r ⟨nm, fi, fo, fk, fd⟩ false) bt) (w5.setCell ⟨g, 1, none⟩ (.slice (some ⟨sg, 0, none⟩) (N + 1) cap)) := by
        refine RdA.close (gs := gs) (vl := .slice (some ⟨sg, 0, none⟩) (N + 1) cap) (bl := bl) (bsp := bsp) (bw := bw) (vo := vo) ?_
        unfold rdL owns
        simp only [q1, q3]
        exact hon9
      clear hon7 hon8 hon9 hG hgrow hat hlt1 hB1 m1 n1 k1 x0 x1 x2 x3 x4
      replace hfin := Lib.hid hfin
      go_wp2
      go_end0
      exact hfin.out.post ⟨rfl, rfl⟩
theorem owns_walk (g : Nat) (E : Env) (kk : Option Nat) (T : ByteArray) (r : Rd) (bt : Nat) (e : Eff) (b : Bool) (hnm : e.name.length ≤ 100000) (hn : r.list.length ≤ 100000) (hwl : r.wild.length = r.list.length) (w : World) (F : Nat → Prop) (hb : (RdA g E kk T r bt).holds w F) :
    Calls Tryz.prog 102 #[.pointer (some ⟨g, 0, none⟩), effV e, .bool b] w (Post (fun u B => u = .tuple #[] ∧ B = RdA g E kk T (owns r e b) bt) F w) := by
  cases b
  · exact owns_tame g E kk T r bt e hnm hn hwl w F hb
  · exact owns_wild g E kk T r bt e hnm hn hwl w F hb
end Look
end Go.Proofs.YthejfkkmcbdlhaaGreatDoor
