/- Chapter 19: does: what a word does to the reader. -/
import Derived.Test.YthejfkkmcbdlhaaGreatDoorQRdj
import Derived.Test.YthejfkkmcbdlhaaGreatDoorQRdi
import Derived.Test.YthejfkkmcbdlhaaGreatDoorQDefc
import Derived.Test.YthejfkkmcbdlhaaGreatDoorQRda
import Derived.Test.YthejfkkmcbdlhaaGreatDoorQRdb
import Derived.Test.YthejfkkmcbdlhaaGreatDoorQRdd
import Derived.Test.YthejfkkmcbdlhaaGreatDoorQRdf
import Derived.Test.YthejfkkmcbdlhaaGreatDoorQSpec
namespace Go.Proofs.YthejfkkmcbdlhaaGreatDoor
set_option linter.unusedVariables false
set_option maxRecDepth 100000
open Go.RowKit Go.Lib
namespace Look
/-- what is asked of an open definition -/
structure DOk (d : Def) : Prop where
  ok : d.Ok
  stack : d.stack.length ≤ 100000
  ends : d.ends.length ≤ 100000
  needs : d.e.needs < 2 ^ 62
  name : d.e.name.length ≤ 100000
/-- the reader without a definition -/
theorem rd_none {g : Nat} {E : Env} {kk : Option Nat} {T : ByteArray} {r : Rd} {bt gs : Nat} {vl : Value} {bl bsp bw : Nat} {w w' : World} {F : Nat → Prop} {A : Asr} (h : On F w (AllA (A :: rdM g E kk T r bt gs vl bl bsp bw (.pointer none))) w') :
    On F w (AllA [RdA g E kk T { r with open_ := none } bt, A]) w' := by
  obtain ⟨F', ⟨F1, F2, h1, h2, hd, hF⟩, hk, hF'⟩ := h
  have h3 : All (OpenA (.pointer none) none :: rdM g E kk T r bt gs vl bl bsp bw (.pointer none)) w' F2 := ⟨fun _ => False, F2, ⟨rfl, fun _ h => h⟩, h2, fun _ h _ => h, fun k => ⟨.inr, fun h => h.elim (fun h => h.elim) id⟩⟩
  have h4 := All.push (L1 := [BlkA g 46 (rdC kk r bt gs vl bl bsp bw (.pointer none)), SrcA gs T r.at_, RowK 34 5 vl r.list.length (effsC r.list), MapG 9 intE bl r.list.length (latF r.list), SpkA bsp r.spoken, MapG 3 intE bw r.wild.length (wildF r.wild)]) h3
  refine ⟨F', ⟨F2, F1, ⟨gs, vl, bl, bsp, bw, .pointer none, h4⟩, All.one h1, fun k a b => hd k b a, fun k => (hF k).trans or_comm⟩, hk, hF'⟩
set_option maxHeartbeats 4000000 in
theorem does_item (g : Nat) (E : Env) (kk : Option Nat) (T : ByteArray) (r : Rd) (bt : Nat) (d : Def) (hd : DOk d) (wd : W) (hw : WOk E kk r.list wd) (hq2 : needed E r.list wd < 2 ^ 62) (ho : r.open_ = some d) (hne : ¬ (wd.kind = 2 ∧ wd.n = 2)) (s : ByteArray) (w : World) (F : Nat → Prop) (hb : (RdA g E kk T r bt).holds w F) :
    Calls Tryz.prog 66 #[.pointer (some ⟨g, 0, none⟩), wordV wd, .string s] w (Post (fun u B => u = .tuple #[] ∧ B = RdA g E kk T { r with open_ := some (item E r.list d wd) } bt) F w) := by
  obtain ⟨gs, vl, bl, bsp, bw, vo, hon⟩ := RdA.open_ hb
  obtain ⟨_, hO⟩ := hon.mem (A := OpenA vo r.open_) (by simp [rdL])
  obtain ⟨_, hB⟩ := hon.mem (A := BlkA g 46 (rdC kk r bt gs vl bl bsp bw vo)) (by simp [rdL])
  rcases open_cell hO with ⟨h1, _⟩ | ⟨d', gd, h1, rfl, _⟩
  · rw [ho] at h1; cases h1
  · have c9 := hB.1.cell 9
    have hlt := hB.1.lt
    simp [rdC] at c9
    have hit := fun w1 F' hb' => item_walk g E kk T r bt gs vl bl bsp bw gd d wd hw hd.needs hq2 hd.ok hd.stack hd.ends ho w1 F' hb'
    clear hb hO hB h1
    obtain ⟨kd, n, nm⟩ := wd
    simp only at hne
    have hne2 : ((kd : Int) == 2 && (n : Int) == 2) = false := by
      rw [Bool.and_eq_false_iff, beq_eq_false_iff_ne, beq_eq_false_iff_ne]
      omega
    replace hit := Lib.hid hit
    replace hon := Lib.hid hon
    replace hd := Lib.hid hd
    replace hw := Lib.hid hw
    replace hq2 := Lib.hid hq2
    replace ho := Lib.hid ho
    unfold wordV dPtr at *
    simp only [wordC] at *
    by_cases h2 : kd = 2
    · subst h2
      have hn2 : ((n : Int) == 2) = false := by rw [beq_eq_false_iff_ne]; omega
      clear hne hne2
      go_enter Tryz.func66, Tryz.ntmps66
      go_wp2_with fail
      refine ((hon.out.alloc _).call fun F' hb' => hit.out _ F' hb').mono ?_
      rintro e w1 ⟨v, A', ⟨rfl, rfl⟩, rfl, hon1⟩
      replace hon1 := Lib.hid hon1
      go_wp2_with fail
      go_end0
      exact (RdA.close hon1.out).post ⟨rfl, rfl⟩
    · have hk2 : ((kd : Int) == 2) = false := by rw [beq_eq_false_iff_ne]; omega
      clear hne hne2
      go_enter Tryz.func66, Tryz.ntmps66
      go_wp2_with fail
      refine ((hon.out.alloc _).call fun F' hb' => hit.out _ F' hb').mono ?_
      rintro e w1 ⟨v, A', ⟨rfl, rfl⟩, rfl, hon1⟩
      replace hon1 := Lib.hid hon1
      go_wp2_with fail
      go_end0
      exact (RdA.close hon1.out).post ⟨rfl, rfl⟩
theorem end_name (d : Def) : d.end_.e.name = d.e.name := by
  unfold Def.end_
  split
  · rfl
  · simp only
    split <;> rfl
theorem final_name (D : Def) : D.final.name = D.e.name := by unfold Def.final; split <;> rfl
theorem closed_name (d : Def) : d.closed.name = d.e.name := by
  rw [closed_eq, final_name]
  unfold Def.shut
  rw [end_name]
  split <;> rfl
set_option maxHeartbeats 4000000 in
theorem does_semi (g : Nat) (E : Env) (kk : Option Nat) (T : ByteArray) (r : Rd) (bt : Nat) (d : Def) (hd : DOk d) (nm : List UInt8) (hl1 : r.list.length ≤ 100000) (hl2 : r.wild.length = r.list.length) (ho : r.open_ = some d) (s : ByteArray) (w : World) (F : Nat → Prop) (hb : (RdA g E kk T r bt).holds w F) :
    Calls Tryz.prog 66 #[.pointer (some ⟨g, 0, none⟩), wordV ⟨2, 2, nm⟩, .string s] w (Post (fun u B => u = .tuple #[] ∧ B = RdA g E kk T (owns { r with open_ := none } d.closed d.wild) bt) F w) := by
  obtain ⟨gs, vl, bl, bsp, bw, vo, hon⟩ := RdA.open_ hb
  obtain ⟨_, hO⟩ := hon.mem (A := OpenA vo r.open_) (by simp [rdL])
  obtain ⟨_, hB⟩ := hon.mem (A := BlkA g 46 (rdC kk r bt gs vl bl bsp bw vo)) (by simp [rdL])
  rcases open_cell hO with ⟨h1, _⟩ | ⟨d', gd, h1, rfl, _⟩
  · rw [ho] at h1; cases h1
  · have c9 := hB.1.cell 9
    have f9 := hB.1.frozen 9
    have hlt := hB.1.lt
    simp [rdC] at c9
    obtain ⟨vs, ve, hon1⟩ := rd_take (gd := gd) ho hon
    have hon2 : On F w (AllA (DefB gd d vs ve :: rdM g E kk T r bt gs vl bl bsp bw (.pointer none))) _ := (hon1.swapA.setA 9 (.pointer none)).swapA.alloc (.cells #[.int .i64 2, .int .i64 2, .string ⟨nm.toArray⟩] 70)
    obtain ⟨_, hD⟩ := hon2.firstA
    have c5 := hD.1.blk.cell 5
    simp [defC] at c5
    have hgd := hD.1.blk.lt
    have hne : gd ≠ g := by
      obtain ⟨F1, F2, a1, a2, a3⟩ := hon2.apart (B := BlkA g 46 (rdC kk r bt gs vl bl bsp bw (.pointer none))) (by simp [rdM])
      intro e
      exact a3 g ((a1.2 g).2 (.inl e.symm)) ((a2.2 g).2 rfl)
    have hcl := fun w1 F' hb' => closed_walk2 gd d hd.ends vs ve w1 F' hb'
    have how := fun w1 F' hb' => owns_walk g E kk T { r with open_ := none } bt d.closed d.wild (by rw [closed_name]; exact hd.name) hl1 hl2 w1 F' hb'
    obtain ⟨R, hR⟩ : ∃ R, owns { r with open_ := none } d.closed d.wild = R := ⟨_, rfl⟩
    rw [hR] at how ⊢
    generalize d.closed = ef at *
    obtain ⟨wb, hwb⟩ : ∃ wb, d.wild = wb := ⟨_, rfl⟩
    rw [hwb] at how hcl c5
    clear hb hO hB h1 hon hon1 hD hd hl1 hl2 hwb
    replace hcl := Lib.hid hcl
    replace how := Lib.hid how
    replace hon2 := Lib.hid hon2
    replace ho := Lib.hid ho
    replace hR := Lib.hid hR
    unfold wordV
    simp only [wordC]
    go_enter Tryz.func66, Tryz.ntmps66
    go_wp2_with fail
    go_region_with ((first
      | (go_at_call 103; refine ((hon2.out.drew).callA fun F' hb' => hcl.out _ F' hb').mono ?_; rintro e w4 ⟨v, A', ⟨rfl, d', ve', hwd, rfl⟩, rfl, hon4⟩; obtain ⟨_, hD⟩ := hon4.firstA; have c5b := hD.1.blk.cell 5; simp [defC] at c5b; rw [hwd] at c5b; clear hD; replace hon4 := Lib.hid hon4)
      | (go_at_call 102; refine ((rd_none hon4.out).callA fun F' hb' => how.out _ F' hb').mono ?_; rintro e w5 ⟨v, A', ⟨rfl, rfl⟩, rfl, hon5⟩; replace hon5 := Lib.hid hon5)))
    all_goals
      go_wp2_with fail
      go_end0
      exact hon5.out.headA.post ⟨rfl, rfl⟩
end Look
end Go.Proofs.YthejfkkmcbdlhaaGreatDoor
/- Chapter 19: does, where nothing is open. -/
namespace Go.Proofs.YthejfkkmcbdlhaaGreatDoor
set_option linter.unusedVariables false
set_option maxRecDepth 100000
open Go.RowKit Go.Lib
namespace Look
theorem rd_drop {g : Nat} {E : Env} {kk : Option Nat} {T : ByteArray} {r : Rd} {bt gs : Nat} {vl : Value} {bl bsp bw : Nat} {vo : Value} (ho : r.open_ = none) {w w' : World} {F : Nat → Prop} (h : On F w (AllA (rdL g E kk T r bt gs vl bl bsp bw vo)) w') : On F w (AllA (rdM g E kk T r bt gs vl bl bsp bw vo)) w' :=
  On.tailA (On.pullA (L2 := [TabA bt E.tab, KerA kk E]) [BlkA g 46 (rdC kk r bt gs vl bl bsp bw vo), SrcA gs T r.at_, RowK 34 5 vl r.list.length (effsC r.list), MapG 9 intE bl r.list.length (latF r.list), SpkA bsp r.spoken, MapG 3 intE bw r.wild.length (wildF r.wild)] h)
/-- a reader with nothing open: the facts of its struct -/
theorem rd_shut {g : Nat} {E : Env} {kk : Option Nat} {T : ByteArray} {r : Rd} {bt : Nat} (ho : r.open_ = none) {w : World} {F : Nat → Prop} (hb : (RdA g E kk T r bt).holds w F) : ∃ gs vl bl bsp bw, On F w (AllA (rdL g E kk T r bt gs vl bl bsp bw (.pointer none))) w ∧ w.cell? ⟨g, 9, none⟩ = some (.pointer none) ∧ w.frozen? ⟨g, 9, none⟩ = false ∧ g < w.heap.size ∧ w.cell? ⟨g, 1, none⟩ = some vl := by
  obtain ⟨gs, vl, bl, bsp, bw, vo, hon⟩ := RdA.open_ hb
  obtain ⟨_, hO⟩ := hon.mem (A := OpenA vo r.open_) (by simp [rdL])
  obtain ⟨_, hB⟩ := hon.mem (A := BlkA g 46 (rdC kk r bt gs vl bl bsp bw vo)) (by simp [rdL])
  rcases open_cell hO with ⟨_, rfl⟩ | ⟨d', gd, h1, rfl, _⟩
  · exact ⟨gs, vl, bl, bsp, bw, hon, hB.1.cell 9, hB.1.frozen 9, hB.1.lt, hB.1.cell 1⟩
  · rw [ho] at h1; cases h1
set_option maxHeartbeats 4000000 in
theorem does_own (g : Nat) (E : Env) (kk : Option Nat) (T : ByteArray) (r : Rd) (bt : Nat) (kd n : Nat) (nm : List UInt8) (hk : kd = 1 ∧ n = 85 ∨ kd = 2 ∧ n = 13 ∨ kd = 2 ∧ n = 14) (hl1 : r.list.length ≤ 100000) (hl2 : r.wild.length = r.list.length) (ho : r.open_ = none) (name : List UInt8) (hnl : name.length ≤ 100000) (w : World) (F : Nat → Prop) (hb : (RdA g E kk T r bt).holds w F) :
    Calls Tryz.prog 66 #[.pointer (some ⟨g, 0, none⟩), wordV ⟨kd, n, nm⟩, .string ⟨name.toArray⟩] w (Post (fun u B => u = .tuple #[] ∧ B = RdA g E kk T (owns r ⟨name, 0, 1, true, 0⟩ false) bt) F w) := by
  have hon := On.refl hb
  obtain ⟨gs, vl, bl, bsp, bw, hon0, c9, _, hlt, _⟩ := rd_shut ho hb
  have how := fun w1 F' hb' => owns_walk g E kk T r bt ⟨name, 0, 1, true, 0⟩ false hnl hl1 hl2 w1 F' hb'
  obtain ⟨R, hR⟩ : ∃ R, owns r ⟨name, 0, 1, true, 0⟩ false = R := ⟨_, rfl⟩
  rw [hR] at how ⊢
  clear hb hon0 hR hl1 hl2
  replace how := Lib.hid how
  replace hon := Lib.hid hon
  replace ho := Lib.hid ho
  unfold wordV
  simp only [wordC]
  rcases hk with ⟨rfl, rfl⟩ | ⟨rfl, rfl⟩ | ⟨rfl, rfl⟩
  all_goals
    go_enter Tryz.func66, Tryz.ntmps66
    go_wp2_with fail
    refine ((hon.out.alloc _).call fun F' hb' => how.out _ F' hb').mono ?_
    rintro e w1 ⟨v, A', ⟨rfl, rfl⟩, rfl, hon1⟩
    replace hon1 := Lib.hid hon1
    go_wp2_with fail
    go_end0
    exact hon1.out.post ⟨rfl, rfl⟩
def def0 (name : List UInt8) : Def := ⟨⟨name, 0, 0, true, 0⟩, false, 0, st0, [], []⟩
theorem def0_at {w : World} {g : Nat} {name : List UInt8} (h : Blk w g 147 (defC (def0 name) (.slice none 0 0) (.slice none 0 0))) : DefAt w g (def0 name) (.slice none 0 0) (.slice none 0 0) :=
  ⟨h, World.ownsRow_nil w 0 _ 8, World.ownsRow_nil w 0 _ 1, (by simp [Value.ownBlock]), (by simp [Value.ownBlock]), fun k hk => by simp [Value.ownBlock] at hk⟩
set_option maxHeartbeats 4000000 in
theorem does_colon (g : Nat) (E : Env) (kk : Option Nat) (T : ByteArray) (r : Rd) (bt : Nat) (nm : List UInt8) (ho : r.open_ = none) (name : List UInt8) (w : World) (F : Nat → Prop) (hb : (RdA g E kk T r bt).holds w F) :
    Calls Tryz.prog 66 #[.pointer (some ⟨g, 0, none⟩), wordV ⟨2, 1, nm⟩, .string ⟨name.toArray⟩] w (Post (fun u B => u = .tuple #[] ∧ B = RdA g E kk T { r with open_ := some (def0 name) } bt) F w) := by
  obtain ⟨gs, vl, bl, bsp, bw, hon0, c9, f9, hlt, _⟩ := rd_shut ho hb
  have hon1 := (((rd_drop ho hon0).setA 9 (dPtr (w.heap.size + 1))).alloc (.cells #[.int .i64 2, .int .i64 1, .string ⟨nm.toArray⟩] 70)).boxA (defC (def0 name) (.slice none 0 0) (.slice none 0 0)) 147
  have hsz : ((w.setCell ⟨g, 9, none⟩ (dPtr (w.heap.size + 1))).alloc (.cells #[.int .i64 2, .int .i64 1, .string ⟨nm.toArray⟩] 70)).heap.size = w.heap.size + 1 := by simp [World.alloc, World.setCell]
  rw [hsz] at hon1
  have hon4 : On F w (AllA (DefB (w.heap.size + 1) (def0 name) (.slice none 0 0) (.slice none 0 0) :: rdM g E kk T r bt gs vl bl bsp bw (dPtr (w.heap.size + 1)))) (((w.setCell ⟨g, 9, none⟩ (dPtr (w.heap.size + 1))).alloc (.cells #[.int .i64 2, .int .i64 1, .string ⟨nm.toArray⟩] 70)).alloc (.cells (defC (def0 name) (.slice none 0 0) (.slice none 0 0)) 147)) := by
    obtain ⟨F', ⟨F1, F2, a1, a2, a3, a4⟩, a5, a6⟩ := hon1
    refine ⟨F', ⟨F1, F2, ⟨def0_at a1.1, fun k => ?_⟩, a2, a3, a4⟩, a5, a6⟩
    rw [a1.2 k]
    simp [Value.ownBlock]
  have hfin := RdA.close (rd_give hon4)
  clear hb hon0 hon1 hon4 ho hsz
  simp only [defC, dPtr] at hfin
  replace hfin := Lib.hid hfin
  unfold wordV
  simp only [wordC]
  go_enter Tryz.func66, Tryz.ntmps66
  go_wp2_with fail
  go_end0
  exact hfin.out.post ⟨rfl, rfl⟩
end Look
end Go.Proofs.YthejfkkmcbdlhaaGreatDoor
/- Chapter 19: does: IMMEDIATE, and words that do nothing; does whole. -/
namespace Go.Proofs.YthejfkkmcbdlhaaGreatDoor
set_option linter.unusedVariables false
set_option maxRecDepth 100000
open Go.RowKit Go.Lib
namespace Look
theorem effsC_set : ∀ (l : List Eff) (i j : Nat) (e' : Eff) (u : Value) (hi : i < l.length) (hj : j < 5) (ho : (effC (l[i])).set j u = effC e'), (effsC l).set (i * 5 + j) u = effsC (l.set i e')
  | [], _, _, _, _, h, _, _ => by simp at h
  | o :: l, 0, j, e', u, _, hj, ho => by
    unfold effsC
    rw [List.flatMap_cons, List.set_append_left _ _ (by simp [effC]; omega)]
    simp at ho
    simp [ho]
  | o :: l, i + 1, j, e', u, h, hj, ho => by
    have ih := effsC_set l i j e' u (by simpa using h) hj (by simpa using ho)
    unfold effsC at ih ⊢
    rw [List.flatMap_cons, List.set_append_right _ _ (by simp [effC]; omega), show (effC o).length = 5 from rfl, show (i + 1) * 5 + j - 5 = i * 5 + j by omega, ih]
    simp
/-- a cell of the last word turned -/
theorem On.setEff {w w' : World} {F : Nat → Prop} {L : List Asr} {t : TypeId} {sg cap N : Nat} {l : List Eff} {e : Eff} (h : On F w (AllA (RowK t 5 (.slice (some ⟨sg, 0, none⟩) N cap) N (effsC (l ++ [e])) :: L)) w') (hN : N = l.length + 1) (j : Nat) (hj : j < 5) (e' : Eff) (u : Value) (ho : (effC e).set j u = effC e') :
    On F w (AllA (RowK t 5 (.slice (some ⟨sg, 0, none⟩) N cap) N (effsC (l ++ [e'])) :: L)) (w'.setCell ⟨sg, l.length * 5 + j, none⟩ u) := by
  refine h.stepA fun F' hb => ⟨F', ⟨?_, hb.2⟩, kept_setAt (Kept.refl F' w') ((hb.2 sg).2 rfl) _ _, fun k h => .inl h⟩
  have h2 := ownsRow_set hb.1 (i := l.length * 5 + j) (by rw [effsC_len, List.length_append]; simp; omega) u
  rw [effsC_set (l ++ [e]) l.length j e' u (by simp) hj (by simpa using ho)] at h2
  simpa using h2
theorem latest_name : ∀ (l : List Eff) (e e' : Eff) (k : List UInt8), e'.name = e.name → latest (l ++ [e']) k = latest (l ++ [e]) k := by
  intro l e e' k h
  rw [latest_snoc, latest_snoc, h]
theorem latF_name (l : List Eff) (e e' : Eff) (h : e'.name = e.name) : latF (l ++ [e']) = latF (l ++ [e]) := by
  funext k
  cases k <;> try rfl
  simp only [latF]
  rw [latest_name l e e' _ h]
set_option maxHeartbeats 4000000 in
theorem does_imm (g : Nat) (E : Env) (kk : Option Nat) (T : ByteArray) (r : Rd) (bt : Nat) (nm : List UInt8) (ho : r.open_ = none) (l : List Eff) (e : Eff) (hl : r.list = l ++ [e]) (s : ByteArray) (w : World) (F : Nat → Prop) (hb : (RdA g E kk T r bt).holds w F) :
    Calls Tryz.prog 66 #[.pointer (some ⟨g, 0, none⟩), wordV ⟨2, 3, nm⟩, .string s] w (Post (fun u B => u = .tuple #[] ∧ B = RdA g E kk T { r with list := l ++ [{ e with inn := 0, out := 0, known := false }] } bt) F w) := by
  obtain ⟨gs, vl, bl, bsp, bw, hon0, c9, f9, hlt, c1⟩ := rd_shut ho hb
  obtain ⟨_, hR⟩ := hon0.mem (A := RowK 34 5 vl r.list.length (effsC r.list)) (by simp [rdL])
  have hlen : r.list.length = l.length + 1 := by rw [hl]; simp
  obtain ⟨sg, cap, rfl, hbd⟩ := effs_form hR.1 (i := l.length) (by omega)
  have hrow := fun n => On.pullA (L2 := [MapG 9 intE bl r.list.length (latF r.list), SpkA bsp r.spoken, MapG 3 intE bw r.wild.length (wildF r.wild), OpenA (.pointer none) r.open_, TabA bt E.tab, KerA kk E]) [BlkA g 46 (rdC kk r bt gs (.slice (some ⟨sg, 0, none⟩) r.list.length cap) bl bsp bw (.pointer none)), SrcA gs T r.at_] ((hon0.alloc (.cells #[.int .i64 2, .int .i64 3, .string ⟨nm.toArray⟩] 70)).drewN n)
  have e1 := effs_cell hR.1 l.length 1 (by omega) (by omega)
  have e2 := effs_cell hR.1 l.length 2 (by omega) (by omega)
  have e3 := effs_cell hR.1 l.length 3 (by omega) (by omega)
  have hg : r.list[l.length]'(by omega) = e := by simp [hl]
  rw [hg] at e1 e2 e3
  simp [effC] at e1 e2 e3
  have hsg := (hR.1.lt sg rfl).2
  have hfz : ∀ i, w.frozen? ⟨sg, i, none⟩ = false := by
    intro i
    obtain ⟨hx, ⟨h1, _⟩ | ⟨g', cap', cur, hv, _, hc, _⟩⟩ := hR.1
    · cases h1
    · cases hv
      exact Blk.frozen hc i
  have y1 := hfz (l.length * 5 + 1)
  have y2 := hfz (l.length * 5 + 2)
  have y3 := hfz (l.length * 5 + 3)
  simp only [hl] at hrow
  have hlen2 : (l ++ [e]).length = l.length + 1 := by simp
  simp only [hlen2] at hrow
  rw [hlen] at c1 hbd
  obtain ⟨en, ei, eo, ek, eq⟩ := e
  have hr3 := fun n => (((hrow n).setEff rfl 1 (by omega) ⟨en, 0, eo, ek, eq⟩ (.int .i64 0) rfl).setEff rfl 2 (by omega) ⟨en, 0, 0, ek, eq⟩ (.int .i64 0) rfl).setEff rfl 3 (by omega) ⟨en, 0, 0, false, eq⟩ (.bool false) rfl
  have hback := fun n => On.pushA _ (hr3 n)
  have hfin : ∀ n, On F w (RdA g E kk T { r with list := l ++ [⟨en, 0, 0, false, eq⟩] } bt) (((((w.alloc (.cells #[.int .i64 2, .int .i64 3, .string ⟨nm.toArray⟩] 70)).drewN n).setCell ⟨sg, l.length * 5 + 1, none⟩ (.int .i64 0)).setCell ⟨sg, l.length * 5 + 2, none⟩ (.int .i64 0)).setCell ⟨sg, l.length * 5 + 3, none⟩ (.bool false)) := by
    intro n
    refine RdA.close (gs := gs) (vl := .slice (some ⟨sg, 0, none⟩) (l.length + 1) cap) (bl := bl) (bsp := bsp) (bw := bw) (vo := .pointer none) ?_
    unfold rdL
    have q1 : (l ++ [(⟨en, 0, 0, false, eq⟩ : Eff)]).length = l.length + 1 := by simp
    have q2 := latF_name l ⟨en, ei, eo, ek, eq⟩ ⟨en, 0, 0, false, eq⟩ rfl
    simp only [q1, q2]
    exact hback n
  clear hb hon0 hR hrow hr3 hback hl ho hg hfz hlen2
  replace hfin := Lib.hid hfin
  replace hlen := Lib.hid hlen
  have hwr : wrap64 (l.length : Int) = (l.length : Int) := by unfold wrap64; omega
  generalize hM : l.length = M at *
  replace hM := Lib.hid hM
  unfold wordV
  simp only [wordC]
  go_enter Tryz.func66, Tryz.ntmps66
  go_wp2_with fail
  go_quiet (fail)
  go_wp2_with fail
  go_end0
  exact (hfin.out _).post ⟨rfl, rfl⟩
set_option maxHeartbeats 4000000 in
theorem does_imm0 (g : Nat) (E : Env) (kk : Option Nat) (T : ByteArray) (r : Rd) (bt : Nat) (nm : List UInt8) (ho : r.open_ = none) (hl : r.list = []) (s : ByteArray) (w : World) (F : Nat → Prop) (hb : (RdA g E kk T r bt).holds w F) :
    Calls Tryz.prog 66 #[.pointer (some ⟨g, 0, none⟩), wordV ⟨2, 3, nm⟩, .string s] w (Post (fun u B => u = .tuple #[] ∧ B = RdA g E kk T r bt) F w) := by
  have hon := On.refl hb
  obtain ⟨gs, vl, bl, bsp, bw, hon0, c9, f9, hlt, c1⟩ := rd_shut ho hb
  obtain ⟨_, hR⟩ := hon0.mem (A := RowK 34 5 vl r.list.length (effsC r.list)) (by simp [rdL])
  have hR1 := hR.1
  rw [hl] at hR1
  obtain ⟨p, c, rfl⟩ := ownsRow_slice hR1
  have hp : (.slice p ([] : List Eff).length c : Value) = .slice p 0 c := rfl
  rw [hp] at c1
  clear hb hon0 hR hR1 ho hl
  replace hon := Lib.hid hon
  unfold wordV
  simp only [wordC]
  go_enter Tryz.func66, Tryz.ntmps66
  go_wp2_with fail
  go_end0
  exact (hon.out.alloc _).post ⟨rfl, rfl⟩
set_option maxHeartbeats 4000000 in
theorem does_none (g : Nat) (E : Env) (kk : Option Nat) (T : ByteArray) (r : Rd) (bt : Nat) (kd n : Nat) (nm : List UInt8) (ho : r.open_ = none) (hq : ¬ (kd = 1 ∧ n = 85 ∨ kd = 2 ∧ (n = 13 ∨ n = 14 ∨ n = 1 ∨ n = 3))) (s : ByteArray) (w : World) (F : Nat → Prop) (hb : (RdA g E kk T r bt).holds w F) :
    Calls Tryz.prog 66 #[.pointer (some ⟨g, 0, none⟩), wordV ⟨kd, n, nm⟩, .string s] w (Post (fun u B => u = .tuple #[] ∧ B = RdA g E kk T r bt) F w) := by
  have hon := On.refl hb
  obtain ⟨gs, vl, bl, bsp, bw, hon0, c9, f9, hlt, c1⟩ := rd_shut ho hb
  clear hb hon0 ho
  replace hon := Lib.hid hon
  unfold wordV
  simp only [wordC]
  obtain ⟨x, hx⟩ : ∃ x : Int, (n : Int) = x := ⟨_, rfl⟩
  by_cases h1 : kd = 1
  · subst h1
    have q1 : (x == 85) = false := by rw [beq_eq_false_iff_ne]; omega
    rw [hx]
    clear hq hx
    go_enter Tryz.func66, Tryz.ntmps66
    go_wp2_with fail
    go_end0
    exact (hon.out.alloc _).post ⟨rfl, rfl⟩
  · by_cases h2 : kd = 2
    · subst h2
      have q1 : (x == 13) = false := by rw [beq_eq_false_iff_ne]; omega
      have q2 : (x == 14) = false := by rw [beq_eq_false_iff_ne]; omega
      have q3 : (x == 1) = false := by rw [beq_eq_false_iff_ne]; omega
      have q4 : (x == 3) = false := by rw [beq_eq_false_iff_ne]; omega
      rw [hx]
      clear hq hx h1
      go_enter Tryz.func66, Tryz.ntmps66
      go_wp2_with fail
      go_end0
      exact (hon.out.alloc _).post ⟨rfl, rfl⟩
    · obtain ⟨k, hk⟩ : ∃ k : Int, (kd : Int) = k := ⟨_, rfl⟩
      have q1 : (k == 1) = false := by rw [beq_eq_false_iff_ne]; omega
      have q2 : (k == 2) = false := by rw [beq_eq_false_iff_ne]; omega
      rw [hx, hk]
      clear hq hx h1 h2 hk
      go_enter Tryz.func66, Tryz.ntmps66
      go_wp2_with fail
      go_end0
      exact (hon.out.alloc _).post ⟨rfl, rfl⟩
/-- DOES -/
theorem does_walk (g : Nat) (E : Env) (kk : Option Nat) (T : ByteArray) (r : Rd) (bt : Nat) (wd : W) (hw : WOk E kk r.list wd) (hq2 : needed E r.list wd < 2 ^ 62) (hl1 : r.list.length ≤ 100000) (hl2 : r.wild.length = r.list.length) (hd : ∀ d, r.open_ = some d → DOk d) (name : List UInt8) (hnl : name.length ≤ 100000) (w : World) (F : Nat → Prop) (hb : (RdA g E kk T r bt).holds w F) :
    Calls Tryz.prog 66 #[.pointer (some ⟨g, 0, none⟩), wordV wd, .string ⟨name.toArray⟩] w (Post (fun u B => u = .tuple #[] ∧ B = RdA g E kk T (does E r wd name) bt) F w) := by
  obtain ⟨kd, n, nm⟩ := wd
  rcases ho : r.open_ with _ | d
  · by_cases h1 : kd = 1 ∧ n = 85 ∨ kd = 2 ∧ (n = 13 ∨ n = 14)
    · have e : does E r ⟨kd, n, nm⟩ name = owns r ⟨name, 0, 1, true, 0⟩ false := by unfold does; rw [ho]; simp only; rw [if_pos h1]
      rw [e]
      exact does_own g E kk T r bt kd n nm (by omega) hl1 hl2 ho name hnl w F hb
    · by_cases h2 : kd = 2 ∧ n = 1
      · obtain ⟨rfl, rfl⟩ := h2
        have e : does E r ⟨2, 1, nm⟩ name = { r with open_ := some (def0 name) } := by unfold does; rw [ho]; rfl
        rw [e]
        exact does_colon g E kk T r bt nm ho name w F hb
      · by_cases h3 : kd = 2 ∧ n = 3
        · obtain ⟨rfl, rfl⟩ := h3
          rcases List.eq_nil_or_concat r.list with hl | ⟨l, x, hl⟩
          · have e : does E r ⟨2, 3, nm⟩ name = r := by unfold does; rw [ho, hl]; rfl
            rw [e]
            exact does_imm0 g E kk T r bt nm ho hl _ w F hb
          · rw [List.concat_eq_append] at hl
            have e : does E r ⟨2, 3, nm⟩ name = { r with list := l ++ [{ x with inn := 0, out := 0, known := false }] } := by
              unfold does
              rw [ho]
              simp [hl]
            rw [e]
            exact does_imm g E kk T r bt nm ho l x hl _ w F hb
        · have e : does E r ⟨kd, n, nm⟩ name = r := by unfold does; rw [ho]; simp only; rw [if_neg h1, if_neg h2, if_neg h3]
          rw [e]
          exact does_none g E kk T r bt kd n nm ho (by omega) _ w F hb
  · by_cases h1 : kd = 2 ∧ n = 2
    · obtain ⟨rfl, rfl⟩ := h1
      have e : does E r ⟨2, 2, nm⟩ name = owns { r with open_ := none } d.closed d.wild := by unfold does; rw [ho]; rfl
      rw [e]
      exact does_semi g E kk T r bt d (hd d ho) nm hl1 hl2 ho _ w F hb
    · have e : does E r ⟨kd, n, nm⟩ name = { r with open_ := some (item E r.list d ⟨kd, n, nm⟩) } := by unfold does; rw [ho]; simp only; rw [if_neg h1]
      rw [e]
      exact does_item g E kk T r bt d (hd d ho) _ hw hq2 ho h1 _ w F hb
end Look
end Go.Proofs.YthejfkkmcbdlhaaGreatDoor
/- Chapter 19: what a word is, all ways. -/
namespace Go.Proofs.YthejfkkmcbdlhaaGreatDoor
set_option linter.unusedVariables false
open Go.RowKit Go.Lib
namespace Look
theorem latest_lt : ∀ (l : List Eff) (k : List UInt8) (i : Nat), latest l k = some i → i < l.length
  | [], _, _, h => by simp [latest] at h
  | e :: l, k, i, h => by
    unfold latest at h
    rcases hl : latest l k with _ | j
    · rw [hl] at h
      simp only at h
      split at h
      · cases h; simp
      · cases h
    · rw [hl] at h
      cases h
      have := latest_lt l k j hl
      simp
      omega
theorem what_walk (g : Nat) (E : Env) (kk : Option Nat) (T : ByteArray) (r : Rd) (bt : Nat) (s : ByteArray) (hs : s.size ≤ 100000) (w : World) (F : Nat → Prop) (hb : (RdA g E kk T r bt).holds w F) :
    Calls Tryz.prog 61 #[.pointer (some ⟨g, 0, none⟩), .string s] w (Post (fun u B => u = wordV (what E r.list s.data.toList) ∧ B = RdA g E kk T r bt) F w) := by
  rcases h1 : latest r.list (lowS s.data.toList) with _ | i
  · rcases hkk : kk with _ | gk
    · subst hkk
      have hk0 : E.klist = [] := by
        obtain ⟨gs, vl, bl, bsp, bw, vo, hon⟩ := RdA.open_ hb
        obtain ⟨_, hK⟩ := hon.mem (A := KerA none E) (by simp [rdL])
        exact hK.1
      have h2 : latest E.klist (lowS s.data.toList) = none := by rw [hk0]; rfl
      rcases h3 : E.tab.lookup (lowS s.data.toList) with _ | wd
      · rcases h4 : (parseN s.data.toList 10).2 with _ | _
        · have e : what E r.list s.data.toList = ⟨0, 0, []⟩ := by simp [what, h1, h2, h3, h4]
          rw [e]
          exact what_unk0 g E T r bt s hs h1 h2 h3 h4 w F hb
        · have e : what E r.list s.data.toList = ⟨5, 0, []⟩ := by simp [what, h1, h2, h3, h4]
          rw [e]
          exact what_num0 g E T r bt s hs h1 h2 h3 h4 w F hb
      · have e : what E r.list s.data.toList = wd := by simp [what, h1, h2, h3]
        rw [e]
        exact what_tab0 g E T r bt s hs h1 h2 wd h3 w F hb
    · subst hkk
      rcases h2 : latest E.klist (lowS s.data.toList) with _ | i
      · rcases h3 : E.tab.lookup (lowS s.data.toList) with _ | wd
        · rcases h4 : (parseN s.data.toList 10).2 with _ | _
          · have e : what E r.list s.data.toList = ⟨0, 0, []⟩ := by simp [what, h1, h2, h3, h4]
            rw [e]
            exact what_unk g gk E T r bt s hs h1 h2 h3 h4 w F hb
          · have e : what E r.list s.data.toList = ⟨5, 0, []⟩ := by simp [what, h1, h2, h3, h4]
            rw [e]
            exact what_num g gk E T r bt s hs h1 h2 h3 h4 w F hb
        · have e : what E r.list s.data.toList = wd := by simp [what, h1, h2, h3]
          rw [e]
          exact what_tab g gk E T r bt s hs h1 h2 wd h3 w F hb
      · have hl := latest_lt _ _ _ h2
        have e : what E r.list s.data.toList = ⟨3, i, (E.klist[i]).name⟩ := by simp [what, h1, h2, List.getD, hl]
        rw [e]
        exact what_ker g gk E T r bt s hs h1 i h2 hl w F hb
  · have e : what E r.list s.data.toList = ⟨4, i, []⟩ := by simp [what, h1]
    rw [e]
    exact what_own g E kk T r bt s hs i h1 w F hb
end Look
end Go.Proofs.YthejfkkmcbdlhaaGreatDoor
/- Chapter 19: what stays true of a reader while it reads. Plain lemmas. -/
namespace Go.Proofs.YthejfkkmcbdlhaaGreatDoor
set_option linter.unusedVariables false
open Go.RowKit Go.Lib
namespace Look
structure EnvOk (E : Env) : Prop where
  kl : ∀ e ∈ E.klist, e.needs < 32 ∧ e.name.length ≤ 100000
  klen : E.klist.length ≤ 100000
  tab : ∀ k w, E.tab.lookup k = some w → (w.kind = 1 ∧ 1 ≤ w.n ∧ w.n ≤ 106 ∨ w.kind = 2 ∧ w.n ≤ 1000) ∧ w.name.length ≤ 100000
structure RdInv (T : List UInt8) (r : Rd) : Prop where
  at_ : r.at_ ≤ T.length
  list : r.list.length ≤ r.at_
  wild : r.wild.length = r.list.length
  spoken : r.spoken.length ≤ 2 * r.at_
  needs : r.needs < 32
  effs : ∀ e ∈ r.list, e.needs < 32
  open_ : ∀ d, r.open_ = some d → d.Ok ∧ d.stack.length ≤ r.at_ ∧ d.ends.length ≤ r.at_ ∧ d.e.needs < 32 ∧ d.e.name.length ≤ T.length
theorem what_ok {E : Env} (hE : EnvOk E) (kk : Option Nat) (l : List Eff) (hl : l.length ≤ 100000) (s : List UInt8) : WOk E kk l (what E l s) ∧ (what E l s).name.length ≤ 100000 := by
  unfold what
  rcases h1 : latest l (lowS s) with _ | i
  · rcases h2 : latest E.klist (lowS s) with _ | i
    · rcases h3 : E.tab.lookup (lowS s) with _ | w
      · simp only
        split
        · exact ⟨⟨by simp, by simp, by simp, by simp, by simp⟩, by simp⟩
        · exact ⟨⟨by simp, by simp, by simp, by simp, by simp⟩, by simp⟩
      · simp only
        obtain ⟨h4, h5⟩ := hE.tab _ _ h3
        refine ⟨⟨fun h => ?_, fun h => ?_, fun h => ?_, ?_, ?_⟩, h5⟩
        · omega
        · omega
        · omega
        · omega
        · omega
    · have h4 := latest_lt _ _ _ h2
      have h5 := hE.klen
      refine ⟨⟨by simp, fun _ => h4, by simp, by show i ≤ 1000000; omega, by simp⟩, ?_⟩
      simp only
      have h6 : E.klist.getD i default = E.klist[i] := by simp [List.getD, h4]
      rw [h6]
      exact (hE.kl _ (List.getElem_mem h4)).2
  · have h4 := latest_lt _ _ _ h1
    exact ⟨⟨fun _ => h4, by simp, by simp, by show i ≤ 1000000; omega, by simp⟩, by simp⟩
theorem needed_lt {E : Env} (hE : EnvOk E) {kk : Option Nat} {l : List Eff} (hl : ∀ e ∈ l, e.needs < 32) {w : W} (hw : WOk E kk l w) : needed E l w < 32 := by
  unfold needed
  split
  · next h =>
    unfold effect
    split
    · next h3 =>
      have h4 := hw.ker h3
      have h6 : E.klist.getD w.n default = E.klist[w.n] := by simp [List.getD, h4]
      rw [h6]
      exact (hE.kl _ (List.getElem_mem h4)).1
    · next h3 =>
      have h4 := hw.own (by omega)
      have h6 : l.getD w.n default = l[w.n] := by simp [List.getD, h4]
      rw [h6]
      exact hl _ (List.getElem_mem h4)
  · split
    · have := cap_le w.n; omega
    · split <;> omega
theorem or_lt {a b : Nat} (ha : a < 32) (hb : b < 32) : a ||| b < 32 := Nat.or_lt_two_pow (n := 5) ha hb
/-- a method of a definition: at most one thing more, one end more; the name and the needs stay -/
structure Tame (d d' : Def) : Prop where
  ok : d.Ok → d'.Ok
  stack : d'.stack.length ≤ d.stack.length + 1
  ends : d'.ends.length ≤ d.ends.length + 1
  needs : d'.e.needs = d.e.needs
  name : d'.e.name = d.e.name
theorem Tame.refl (d : Def) : Tame d d := ⟨id, by omega, by omega, rfl, rfl⟩
theorem Tame.same {d d' : Def} (h1 : d'.stack = d.stack) (h2 : d'.ends = d.ends) (h3 : d'.e.needs = d.e.needs) (h4 : d'.e.name = d.e.name) : Tame d d' := ⟨fun h => by unfold Def.Ok at *; rw [h1]; exact h, by rw [h1]; omega, by rw [h2]; omega, h3, h4⟩
theorem takes_keeps (d : Def) (t l : Int) : (d.takes t l).stack = d.stack ∧ (d.takes t l).ends = d.ends ∧ (d.takes t l).e = d.e := by unfold Def.takes; split <;> exact ⟨rfl, rfl, rfl⟩
theorem meet_keeps (d : Def) (a b : St) : (d.meet a b).1.stack = d.stack ∧ (d.meet a b).1.ends = d.ends ∧ (d.meet a b).1.e.needs = d.e.needs ∧ (d.meet a b).1.e.name = d.e.name := by
  unfold Def.meet
  split
  · exact ⟨rfl, rfl, rfl, rfl⟩
  · split <;> exact ⟨rfl, rfl, rfl, rfl⟩
end Look
end Go.Proofs.YthejfkkmcbdlhaaGreatDoor
/- Chapter 19: a definition's methods open at most one thing, and leave an OF never first. Plain lemmas. -/
namespace Go.Proofs.YthejfkkmcbdlhaaGreatDoor
set_option linter.unusedVariables false
open Go.RowKit Go.Lib
namespace Look
def OkL (l : List Open) : Prop := ∀ o, l.head? = some o → o.kind ≠ 33
theorem OkL.append {l : List Open} (h : OkL l) {o : Open} (ho : l ≠ [] ∨ o.kind ≠ 33) : OkL (l ++ [o]) := by
  rcases l with _ | ⟨x, l⟩
  · intro y hy
    simp at hy
    subst hy
    rcases ho with ho | ho
    · exact absurd rfl ho
    · exact ho
  · intro y hy
    exact h y (by simpa using hy)
theorem OkL.dropLast {l : List Open} (h : OkL l) : OkL l.dropLast := by
  rcases l with _ | ⟨x, _ | ⟨y, l⟩⟩
  · exact h
  · intro z hz; simp at hz
  · intro z hz
    exact h z (by simpa using hz)
theorem OkL.set {l : List Open} (h : OkL l) {i : Nat} {o' : Open} (ho : o'.kind ≠ 33) : OkL (l.set i o') := by
  rcases l with _ | ⟨x, l⟩
  · exact h
  · rcases i with _ | i
    · intro y hy
      simp at hy
      subst hy
      exact ho
    · intro y hy
      exact h y (by simpa using hy)
theorem Tame.of {d d' : Def} (h1 : OkL d.stack → OkL d'.stack) (h2 : d'.stack.length ≤ d.stack.length + 1) (h3 : d'.ends.length ≤ d.ends.length + 1) (h4 : d'.e.needs = d.e.needs) (h5 : d'.e.name = d.e.name) : Tame d d' := ⟨h1, h2, h3, h4, h5⟩
theorem Tame.takes (d : Def) (t l : Int) : Tame d (d.takes t l) := by
  obtain ⟨h1, h2, h3⟩ := takes_keeps d t l
  exact Tame.same h1 h2 (by rw [h3]) (by rw [h3])
theorem Tame.bad (d : Def) : Tame d d.bad := Tame.same rfl rfl rfl rfl
/-- first nothing is opened, then something tame -/
theorem Tame.after {d d1 d' : Def} (h1 : d1.stack = d.stack) (h2 : d1.ends = d.ends) (h3 : d1.e.needs = d.e.needs) (h4 : d1.e.name = d.e.name) (h : Tame d1 d') : Tame d d' :=
  ⟨fun hk => h.ok (by unfold Def.Ok at *; rw [h1]; exact hk), by have := h.stack; rw [h1] at this; exact this, by have := h.ends; rw [h2] at this; exact this, h.needs.trans h3, h.name.trans h4⟩
theorem Tame.afterTakes {d d' : Def} {t l : Int} (h : Tame (d.takes t l) d') : Tame d d' := by
  obtain ⟨h1, h2, h3⟩ := takes_keeps d t l
  exact Tame.after h1 h2 (by rw [h3]) (by rw [h3]) h
theorem Tame.operation (d : Def) (op : Int) : Tame d (d.operation op) := by
  by_cases h : op = 29 ∨ op = 26 ∨ op = 16 ∨ op = 85 ∨ op = 10 ∨ op = 93
  · unfold Def.operation; rw [if_pos h]; exact Tame.bad d
  · rw [op_eq d op h]
    refine Tame.afterTakes (t := (Code.wants op).1) (l := (Code.wants op).2) ?_
    generalize d.takes (Code.wants op).1 (Code.wants op).2 = d1
    split
    · exact Tame.refl _
    · unfold Def.opRest
      split
      · exact Tame.same rfl rfl rfl rfl
      · split
        · exact Tame.same rfl rfl rfl rfl
        · split
          · simp only
            split <;> exact Tame.same rfl rfl rfl rfl
          · split
            · split
              · exact Tame.bad _
              · exact Tame.refl _
            · exact Tame.refl _
theorem Tame.opens {d : Def} {o : Open} (ho : d.stack ≠ [] ∨ o.kind ≠ 33) : Tame d (d.opens o) := Tame.of (fun h => h.append ho) (by simp [Def.opens]) (by simp [Def.opens]) rfl rfl
theorem Tame.closing {d d1 : Def} (h1 : d1.stack = d.stack) (h2 : d1.ends = d.ends) (h3 : d1.e.needs = d.e.needs) (h4 : d1.e.name = d.e.name) : Tame d d1.closes :=
  Tame.of (fun h => by show OkL d1.stack.dropLast; rw [h1]; exact h.dropLast) (by show d1.stack.dropLast.length ≤ _; rw [h1, List.length_dropLast]; omega) (by show d1.ends.length ≤ _; rw [h2]; omega) h3 h4
theorem Tame.branch (d : Def) (k : Nat) : Tame d (d.branch k) := by
  unfold Def.branch
  split
  · exact Tame.afterTakes (Tame.opens (.inr (by simp)))
  · rcases ht : d.top 19 with _ | x
    · exact Tame.bad d
    · obtain ⟨h1, h2⟩ := top_form ht
      simp only
      split
      · exact Tame.of (fun h => h.dropLast.append (.inr (by show x.kind ≠ 33; omega))) (by show (d.stack.dropLast ++ _).length ≤ _; simp) (by show d.ends.length ≤ _; omega) rfl rfl
      · obtain ⟨a1, a2, a3, a4⟩ := meet_keeps d x.a d.s
        exact Tame.closing a1 a2 a3 a4
theorem Tame.turns (d : Def) (k : Nat) : Tame d (d.turns k) := by
  unfold Def.turns
  split
  · exact Tame.opens (.inr (by simp))
  · obtain ⟨d1, hd1⟩ : ∃ d1, (if k = 24 ∨ k = 25 then d.takes 1 0 else d) = d1 := ⟨_, rfl⟩
    have hk : d1.stack = d.stack ∧ d1.ends = d.ends ∧ d1.e = d.e := by
      rw [← hd1]
      split
      · exact takes_keeps d 1 0
      · exact ⟨rfl, rfl, rfl⟩
    simp only [hd1]
    refine Tame.after hk.1 hk.2.1 (by rw [hk.2.2]) (by rw [hk.2.2]) ?_
    rcases ht : d1.top (if k = 26 then 25 else 22) with _ | x
    · exact Tame.bad _
    · simp only
      split
      · exact Tame.of (fun h => h.dropLast.append (.inr (by simp))) (by show (d1.stack.dropLast ++ _).length ≤ _; simp) (by show d1.ends.length ≤ _; omega) rfl rfl
      · obtain ⟨a1, a2, a3, a4⟩ := meet_keeps d1 x.a d1.s
        split
        · exact Tame.closing a1 a2 a3 a4
        · split
          · exact Tame.closing a1 a2 a3 a4
          · exact Tame.closing a1 a2 a3 a4
theorem Tame.counts (d : Def) (k : Nat) : Tame d (d.counts k) := by
  unfold Def.counts
  split
  · exact Tame.afterTakes (Tame.opens (.inr (by simp)))
  · split
    · rcases hi : innerAt d.stack with _ | i
      · exact Tame.bad d
      · obtain ⟨o, h1, h2, _⟩ := innerAt_some d.stack i hi
        simp only [h1]
        obtain ⟨a1, a2, a3, a4⟩ := meet_keeps d o.a d.s
        exact Tame.of (fun h => by rw [a1]; exact h.set (by show o.kind ≠ 33; omega)) (by rw [a1]; simp) (by show (d.meet o.a d.s).1.ends.length ≤ _; rw [a2]; omega) a3 a4
    · obtain ⟨d1, hd1⟩ : ∃ d1, (if k = 30 then d.takes 1 0 else d) = d1 := ⟨_, rfl⟩
      have hk : d1.stack = d.stack ∧ d1.ends = d.ends ∧ d1.e = d.e := by
        rw [← hd1]
        split
        · exact takes_keeps d 1 0
        · exact ⟨rfl, rfl, rfl⟩
      simp only [hd1]
      refine Tame.after hk.1 hk.2.1 (by rw [hk.2.2]) (by rw [hk.2.2]) ?_
      rcases ht : d1.top 27 with _ | x
      · exact Tame.bad _
      · obtain ⟨a1, a2, a3, a4⟩ := meet_keeps d1 x.a d1.s
        simp only
        split
        · exact Tame.closing a1 a2 a3 a4
        · exact Tame.closing a1 a2 a3 a4
theorem Tame.choice (d : Def) (k : Nat) : Tame d (d.choice k) := by
  unfold Def.choice
  split
  · exact Tame.opens (.inr (by simp))
  · split
    · rcases ht : d.top 32 with _ | x
      · exact Tame.bad d
      · obtain ⟨h1, h2⟩ := top_form ht
        simp only
        obtain ⟨b1, b2, b3⟩ := takes_keeps d 2 1
        have hne : (d.takes 2 1).stack ≠ [] := by rw [b1, h2]; simp
        refine Tame.afterTakes (t := 2) (l := 1) ?_
        have h3 := Tame.opens (d := d.takes 2 1) (o := ⟨33, (d.takes 2 1).s, st0, false⟩) (.inl hne)
        have h4 := takes_keeps ((d.takes 2 1).opens ⟨33, (d.takes 2 1).s, st0, false⟩) 1 0
        exact Tame.of (fun h => by rw [h4.1]; exact h3.ok h) (by rw [h4.1]; exact h3.stack) (by rw [h4.2.1]; exact h3.ends) (by rw [h4.2.2]; exact h3.needs) (by rw [h4.2.2]; exact h3.name)
    · split
      · rcases ht : d.top 33 with _ | x
        · exact Tame.bad d
        · obtain ⟨h1, h2⟩ := top_form ht
          simp only
          rcases List.eq_nil_or_concat d.stack.dropLast with h0 | ⟨l, c, h0⟩
          · rw [h0]; exact Tame.bad d
          · rw [List.concat_eq_append] at h0
            rw [h0]
            simp only [List.getLast?_concat, List.dropLast_concat]
            obtain ⟨a1, a2, a3, a4⟩ := meet_keeps d c.a d.s
            refine Tame.of (fun h => ?_) ?_ (by show (d.meet c.a d.s).1.ends.length ≤ _; rw [a2]; omega) a3 a4
            · rw [h2, h0] at h
              have h5 : OkL (l ++ [c]) := by simpa using h.dropLast
              rcases l with _ | ⟨y, l⟩
              · intro o ho
                simp at ho
                subst ho
                exact h5 c (by simp)
              · intro o ho
                exact h5 o (by simpa using ho)
            · rw [h2, h0]; simp
      · rcases ht : d.top 32 with _ | x
        · exact Tame.bad d
        · simp only
          refine Tame.afterTakes (t := 1) (l := 0) ?_
          obtain ⟨a1, a2, a3, a4⟩ := meet_keeps (d.takes 1 0) x.a (d.takes 1 0).s
          exact Tame.closing a1 a2 a3 a4
theorem end_keeps (d : Def) : d.end_.stack = d.stack ∧ d.end_.ends.length ≤ d.ends.length + 1 ∧ d.end_.e.needs = d.e.needs ∧ d.end_.e.name = d.e.name := by
  unfold Def.end_
  split
  · exact ⟨rfl, by omega, rfl, rfl⟩
  · simp only
    split
    · exact ⟨rfl, by simp [Def.bad], rfl, rfl⟩
    · exact ⟨rfl, by simp, rfl, rfl⟩
theorem Tame.special (d : Def) (k : Nat) : Tame d (d.special k) := by
  unfold Def.special
  split
  · exact Tame.refl d
  split
  · exact Tame.takes d 0 1
  split
  · exact Tame.takes d 0 2
  split
  · exact Tame.branch d k
  split
  · exact Tame.turns d k
  split
  · exact Tame.counts d k
  split
  · exact Tame.choice d k
  split
  · simp only
    split
    · obtain ⟨h1, h2, h3, h4⟩ := end_keeps d.bad
      exact Tame.of (fun h => by rw [h1]; exact h) (by rw [h1]; show d.stack.length ≤ _; omega) h2 h3 h4
    · obtain ⟨h1, h2, h3, h4⟩ := end_keeps d
      exact Tame.of (fun h => by rw [h1]; exact h) (by rw [h1]; omega) h2 h3 h4
  · exact Tame.bad d
theorem item_tame (E : Env) (l : List Eff) (d : Def) (w : W) : Tame { d with e := { d.e with needs := d.e.needs ||| needed E l w } } (item E l d w) := by
  unfold item
  simp only
  split
  · exact Tame.takes _ 0 1
  split
  · split
    · exact Tame.takes _ _ _
    · exact Tame.after (d1 := Def.bad { d with e := { d.e with needs := d.e.needs ||| needed E l w } }) rfl rfl rfl rfl (Tame.takes _ _ _)
  split
  · exact Tame.operation _ _
  split
  · exact Tame.special _ _
  · exact Tame.bad _
end Look
end Go.Proofs.YthejfkkmcbdlhaaGreatDoor
/- Chapter 19: what stays true of a reader, step by step. Plain lemmas. -/
namespace Go.Proofs.YthejfkkmcbdlhaaGreatDoor
set_option linter.unusedVariables false
open Go.RowKit Go.Lib
namespace Look
/-- m: how many words have been read, or more; j: mentions since -/
structure RdB (T : List UInt8) (m j : Nat) (r : Rd) : Prop where
  at_ : r.at_ ≤ T.length
  m_le : m ≤ T.length
  list : r.list.length ≤ m
  wild : r.wild.length = r.list.length
  spoken : r.spoken.length ≤ 2 * m + j
  needs : r.needs < 32
  effs : ∀ e ∈ r.list, e.needs < 32
  open_ : ∀ d, r.open_ = some d → d.Ok ∧ d.stack.length ≤ m ∧ d.ends.length ≤ m ∧ d.e.needs < 32 ∧ d.e.name.length ≤ T.length
theorem RdB.zero (T : List UInt8) : RdB T 0 0 rd0 := ⟨by simp [rd0], by omega, by simp [rd0], rfl, by simp [rd0], by simp [rd0], by simp [rd0], by simp [rd0]⟩
theorem RdB.more {T : List UInt8} {m m' j : Nat} {r : Rd} (h : RdB T m j r) (hm : m ≤ m') (hT : m' ≤ T.length) : RdB T m' j r :=
  ⟨h.at_, hT, by have := h.list; omega, h.wild, by have := h.spoken; omega, h.needs, h.effs, fun d hd => by obtain ⟨a, b, c, e⟩ := h.open_ d hd; exact ⟨a, by omega, by omega, e⟩⟩
theorem RdB.moved {T : List UInt8} {m j i : Nat} {r : Rd} (h : RdB T m j r) (hi : i ≤ T.length) : RdB T m j { r with at_ := i } := ⟨hi, h.m_le, h.list, h.wild, h.spoken, h.needs, h.effs, h.open_⟩
theorem speaks_keeps (E : Env) (r : Rd) (w : W) : (speaks E r w).at_ = r.at_ ∧ (speaks E r w).list = r.list ∧ (speaks E r w).wild = r.wild ∧ (speaks E r w).needs = r.needs ∧ (speaks E r w).open_.isSome = r.open_.isSome := by
  unfold speaks
  simp only
  split
  · split <;> simp
  · split <;> simp
theorem RdB.speaks {T : List UInt8} {m j : Nat} {r : Rd} (h : RdB T m j r) (E : Env) (w : W) : RdB T m (j + 1) (speaks E r w) := by
  obtain ⟨h1, h2, h3, h4, _⟩ := speaks_keeps E r w
  refine ⟨by rw [h1]; exact h.at_, h.m_le, by rw [h2]; exact h.list, by rw [h2, h3]; exact h.wild, ?_, by rw [h4]; exact h.needs, by rw [h2]; exact h.effs, ?_⟩
  · have := h.spoken
    unfold Look.speaks
    simp only
    split
    · split <;> simp <;> omega
    · split <;> simp <;> omega
  · intro d hd
    have hopen : ∀ o : Option Def, (∀ d, o = some d → d.Ok ∧ d.stack.length ≤ m ∧ d.ends.length ≤ m ∧ d.e.needs < 32 ∧ d.e.name.length ≤ T.length) → ∀ d, (o.map fun d => { d with wild := true }) = some d → d.Ok ∧ d.stack.length ≤ m ∧ d.ends.length ≤ m ∧ d.e.needs < 32 ∧ d.e.name.length ≤ T.length := by
      intro o ho d hd
      rcases o with _ | d0
      · cases hd
      · cases hd
        exact ho d0 rfl
    have hr : (Look.speaks E r w).open_ = r.open_ ∨ (Look.speaks E r w).open_ = r.open_.map fun d => { d with wild := true } := by
      unfold Look.speaks
      simp only
      split <;> split <;> first | exact .inl rfl | exact .inr rfl
    rcases hr with hr | hr
    · rw [hr] at hd; exact h.open_ d hd
    · rw [hr] at hd; exact hopen r.open_ h.open_ d hd
theorem RdB.needed {T : List UInt8} {m j : Nat} {r : Rd} (h : RdB T m j r) {n : Nat} (hn : n < 32) : RdB T m j { r with needs := r.needs ||| n } := ⟨h.at_, h.m_le, h.list, h.wild, h.spoken, or_lt h.needs hn, h.effs, h.open_⟩
theorem closed_needs (d : Def) : d.closed.needs = d.e.needs := by
  rw [closed_eq]
  have h : ∀ D : Def, D.final.needs = D.e.needs := by intro D; unfold Def.final; split <;> rfl
  rw [h]
  unfold Def.shut
  rw [(end_keeps _).2.2.1]
  split <;> rfl
theorem RdB.dok {T : List UInt8} (hT : T.length ≤ 100000) {m j : Nat} {r : Rd} (h : RdB T m j r) : ∀ d, r.open_ = some d → DOk d := by
  intro d hd
  obtain ⟨a, b, c, e, f⟩ := h.open_ d hd
  have := h.m_le
  exact ⟨a, by omega, by omega, Nat.lt_of_lt_of_le e (by decide), by omega⟩
theorem RdB.owns {T : List UInt8} {m j : Nat} {r : Rd} (h : RdB T m j r) {e : Eff} (he : e.needs < 32) (b : Bool) (hm : m + 1 ≤ T.length) (hj : j ≤ 2) (hopen : r.open_ = none) : RdB T (m + 1) 0 (owns r e b) := by
  refine ⟨h.at_, hm, by have := h.list; simp [Look.owns]; omega, by have := h.wild; simp [Look.owns, this], by have := h.spoken; simp [Look.owns]; omega, h.needs, ?_, ?_⟩
  · intro x hx
    rcases List.mem_append.1 hx with hx | hx
    · exact h.effs x hx
    · rw [List.mem_singleton] at hx; subst hx; exact he
  · intro d hd
    have : (Look.owns r e b).open_ = r.open_ := rfl
    rw [this, hopen] at hd
    cases hd
theorem RdB.count {T : List UInt8} {m j : Nat} {r : Rd} (h : RdB T m j r) (hm : m + 1 ≤ T.length) (hj : j ≤ 2) : RdB T (m + 1) 0 r :=
  ⟨h.at_, hm, by have := h.list; omega, h.wild, by have := h.spoken; omega, h.needs, h.effs, fun d hd => by obtain ⟨a, b, c, e⟩ := h.open_ d hd; exact ⟨a, by omega, by omega, e⟩⟩
theorem RdB.does {E : Env} {T : List UInt8} {m j : Nat} {r : Rd} (h : RdB T m j r) (hm : m + 1 ≤ T.length) (hj : j ≤ 2) (w : W) (hn : Look.needed E r.list w < 32) {name : List UInt8} (hname : name.length ≤ T.length) : RdB T (m + 1) 0 (does E r w name) := by
  unfold Look.does
  rcases ho : r.open_ with _ | d
  · simp only
    split
    · exact h.owns (by simp) false hm hj ho
    · split
      · have h2 := h.count hm hj
        refine ⟨h2.at_, h2.m_le, h2.list, h2.wild, h2.spoken, h2.needs, h2.effs, fun d hd => ?_⟩
        cases hd
        exact ⟨fun o ho => by simp at ho, by simp, by simp, by simp, hname⟩
      · split
        · rcases hl : r.list.getLast? with _ | x
          · exact h.count hm hj
          · have h2 := h.count hm hj
            have hne : r.list ≠ [] := fun e => by rw [e] at hl; simp at hl
            have hpos := List.length_pos_iff.2 hne
            simp only
            refine ⟨h2.at_, h2.m_le, ?_, ?_, h2.spoken, h2.needs, ?_, fun d hd => by cases hd⟩
            · have := h2.list; simp; omega
            · have := h2.wild; simp; omega
            · intro y hy
              rcases List.mem_append.1 hy with hy | hy
              · exact h.effs y ((List.dropLast_sublist _).subset hy)
              · rw [List.mem_singleton] at hy
                subst hy
                exact h.effs x (List.mem_of_getLast? hl)
        · exact h.count hm hj
  · simp only
    obtain ⟨a1, a2, a3, a4, a5⟩ := h.open_ d ho
    split
    · have h3 : RdB T m j { r with open_ := none } := ⟨h.at_, h.m_le, h.list, h.wild, h.spoken, h.needs, h.effs, fun d hd => by cases hd⟩
      exact h3.owns (by rw [closed_needs]; exact a4) d.wild hm hj rfl
    · have h2 := h.count hm hj
      refine ⟨h2.at_, h2.m_le, h2.list, h2.wild, h2.spoken, h2.needs, h2.effs, fun d' hd' => ?_⟩
      cases hd'
      have ht := item_tame E r.list d w
      refine ⟨ht.ok a1, ?_, ?_, ?_, ?_⟩
      · have := ht.stack; simp only at this; omega
      · have := ht.ends; simp only at this; omega
      · rw [ht.needs]; exact or_lt a4 hn
      · rw [ht.name]; exact a5
end Look
end Go.Proofs.YthejfkkmcbdlhaaGreatDoor
/- Chapter 19: the rounds of reading: each goes on; the fuel does not matter. Plain lemmas. -/
namespace Go.Proofs.YthejfkkmcbdlhaaGreatDoor
set_option linter.unusedVariables false
open Go.RowKit Go.Lib
namespace Look
theorem does_at (E : Env) (r : Rd) (w : W) (name : List UInt8) : (does E r w name).at_ = r.at_ := by
  unfold does
  rcases r.open_ with _ | d
  · simp only
    split
    · rfl
    · split
      · rfl
      · split
        · rcases r.list.getLast? with _ | x <;> rfl
        · rfl
  · simp only
    split <;> rfl
/-! a round's steps, named -/
def rd1 (T : List UInt8) (r : Rd) : Rd := { r with at_ := wordEnd T r.at_ }
def rdW (E : Env) (T : List UInt8) (r : Rd) : W := what E r.list (wordAt T r.at_)
def rd2 (E : Env) (T : List UInt8) (r : Rd) : Rd := speaks E (rd1 T r) (rdW E T r)
def rd3 (E : Env) (T : List UInt8) (r : Rd) : Rd := { rd2 E T r with needs := (rd2 E T r).needs ||| needed E (rd2 E T r).list (rdW E T r) }
def rd4 (E : Env) (T : List UInt8) (r : Rd) (i : Nat) : Rd := { rd3 E T r with at_ := i }
def rd5 (E : Env) (T : List UInt8) (r : Rd) (i : Nat) : Rd := { rd4 E T r i with at_ := wordEnd T i }
def rd6 (E : Env) (T : List UInt8) (r : Rd) (i : Nat) : Rd := if (rdW E T r).kind = 2 ∧ ((rdW E T r).n = 7 ∨ (rdW E T r).n = 8) then speaks E (rd5 E T r i) (what E (rd5 E T r i).list (wordAt T i)) else rd5 E T r i
theorem rd2_at (E : Env) (T : List UInt8) (r : Rd) : (rd2 E T r).at_ = wordEnd T r.at_ := (speaks_keeps E (rd1 T r) (rdW E T r)).1
theorem rd2_list (E : Env) (T : List UInt8) (r : Rd) : (rd2 E T r).list = r.list := (speaks_keeps E (rd1 T r) (rdW E T r)).2.1
theorem rd3_at (E : Env) (T : List UInt8) (r : Rd) : (rd3 E T r).at_ = wordEnd T r.at_ := rd2_at E T r
theorem rd3_list (E : Env) (T : List UInt8) (r : Rd) : (rd3 E T r).list = r.list := rd2_list E T r
theorem rd6_at (E : Env) (T : List UInt8) (r : Rd) (i : Nat) : (rd6 E T r i).at_ = wordEnd T i := by
  unfold rd6
  split
  · exact (speaks_keeps E (rd5 E T r i) _).1
  · rfl
theorem round_eq (E : Env) (T : List UInt8) (r : Rd) : round E T r =
    if wordAt T r.at_ = [] then (rd1 T r, false) else
    match passes T (rd3 E T r).at_ (rdW E T r) with
    | none => (rd3 E T r, false)
    | some i => if named (rd3 E T r).open_.isSome (rdW E T r) then
        (if wordAt T i = [] then (rd5 E T r i, false) else (does E (rd6 E T r i) (rdW E T r) (wordAt T i), true))
      else (does E (rd4 E T r i) (rdW E T r) [], true) := rfl
theorem round_on {E : Env} {T : List UInt8} {r r' : Rd} (h : r.at_ ≤ T.length) (hr : round E T r = (r', true)) : r.at_ + 1 ≤ r'.at_ ∧ r'.at_ ≤ T.length := by
  rw [round_eq] at hr
  split at hr
  · cases hr
  · next hw =>
    have h1 := wordEnd_lt h hw
    have h2 := wordEnd_le h
    rcases hp : passes T (rd3 E T r).at_ (rdW E T r) with _ | i
    · rw [hp] at hr; cases hr
    · rw [hp] at hr
      rw [rd3_at] at hp
      obtain ⟨h3, h4⟩ := passes_at h2 hp
      simp only at hr
      split at hr
      · split at hr
        · cases hr
        · cases hr
          rw [does_at, rd6_at]
          have := wordEnd_le h4
          have h5 := le_goesTo isLow T i
          have h6 := le_goesTo isHigh T (wordFrom T i)
          have h7 := le_stepTo T (wordTo T i)
          have h8 : i ≤ wordEnd T i := by
            have h5 : i ≤ wordFrom T i := h5
            have h6 : wordFrom T i ≤ wordTo T i := h6
            have h7 : wordTo T i ≤ wordEnd T i := h7
            omega
          omega
      · cases hr
        rw [does_at]
        show r.at_ + 1 ≤ i ∧ i ≤ T.length
        omega
theorem read_stable (E : Env) (T : List UInt8) : ∀ (f1 f2 : Nat) (r : Rd), r.at_ ≤ T.length → T.length - r.at_ < f1 → T.length - r.at_ < f2 → read E T f1 r = read E T f2 r
  | 0, _, _, _, h, _ => by omega
  | _ + 1, 0, _, _, _, h => by omega
  | f1 + 1, f2 + 1, r, h, h1, h2 => by
    unfold read
    rcases hr : round E T r with ⟨r', b⟩
    rcases b with _ | _
    · rfl
    · obtain ⟨h3, h4⟩ := round_on h hr
      exact read_stable E T f1 f2 r' h4 (by omega) (by omega)
theorem read_succ (E : Env) (T : List UInt8) (f : Nat) (r : Rd) : read E T (f + 1) r = match round E T r with | (r', true) => read E T f r' | (r', false) => r' := rfl
/-- the whole reading from there -/
def readAll (E : Env) (T : List UInt8) (r : Rd) : Rd := read E T (T.length - r.at_ + 1) r
theorem readAll_on {E : Env} {T : List UInt8} {r r' : Rd} (h : r.at_ ≤ T.length) (hr : round E T r = (r', true)) : readAll E T r = readAll E T r' := by
  obtain ⟨h3, h4⟩ := round_on h hr
  have h5 : readAll E T r = read E T (T.length - r.at_) r' := by
    show read E T (T.length - r.at_ + 1) r = _
    rw [read_succ, hr]
  rw [h5]
  unfold readAll
  exact read_stable E T _ _ r' h4 (by omega) (by omega)
theorem readAll_off {E : Env} {T : List UInt8} {r r' : Rd} (hr : round E T r = (r', false)) : readAll E T r = r' := by
  show read E T (T.length - r.at_ + 1) r = _
  rw [read_succ, hr]
end Look
end Go.Proofs.YthejfkkmcbdlhaaGreatDoor
