/- The document's IF, ELSE, THEN. Condition: fewer things are open than a text has bytes. -/
import Derived.Test.YthejfkkmcbdlhaaGreatDoorQDocA
import Derived.BigRegion
namespace Go.Proofs.YthejfkkmcbdlhaaGreatDoor
set_option linter.unusedVariables false
set_option maxRecDepth 100000
open Go.RowKit Go.Lib
namespace Look
/-- no OF lies at the bottom -/
def OkD (l : List Open) : Prop := ∀ o, l.head? = some o → o.kind ≠ 33
theorem OkD.append {l : List Open} (h : OkD l) {o : Open} (ho : l ≠ [] ∨ o.kind ≠ 33) : OkD (l ++ [o]) := by
  rcases l with _ | ⟨x, l⟩
  · intro y hy
    simp at hy
    subst hy
    rcases ho with ho | ho
    · exact absurd rfl ho
    · exact ho
  · intro y hy
    exact h y (by simpa using hy)
theorem OkD.dropLast {l : List Open} (h : OkD l) : OkD l.dropLast := by
  rcases l with _ | ⟨x, _ | ⟨y, l⟩⟩
  · exact h
  · intro o ho; simp at ho
  · intro o ho; exact h o (by simpa using ho)
theorem OkD.set {l : List Open} (h : OkD l) (i : Nat) (o' : Open) (ho : o'.kind ≠ 33 ∨ ∃ o, l[i]? = some o ∧ o'.kind = o.kind) : OkD (l.set i o') := by
  rcases l with _ | ⟨x, l⟩
  · exact h
  · rcases i with _ | i
    · intro o hs
      simp at hs
      subst hs
      rcases ho with ho | ⟨o2, h2, h3⟩
      · exact ho
      · simp at h2
        subst h2
        rw [h3]
        exact h x rfl
    · intro o hs
      exact h o (by simpa using hs)
/-- a thing's cell is written -/
theorem thingsC_set : ∀ (l : List Open) (i j : Nat) (u : Value) (o' : Open) (hi : i < l.length) (hj : j < 8), (openC (l[i])).set j u = openC o' → (stackC l).set (i * 8 + j) u = stackC (l.set i o')
  | [], _, _, _, _, h, _, _ => by simp at h
  | o :: l, 0, j, u, o', _, hj, he => by
    unfold stackC
    rw [List.flatMap_cons, List.set_cons_zero, List.flatMap_cons, List.set_append_left _ _ (by rw [openC_len]; omega)]
    have : 0 * 8 + j = j := by omega
    rw [this]
    simp only [List.getElem_cons_zero] at he
    rw [he]
  | o :: l, i + 1, j, u, o', h, hj, he => by
    have ih := thingsC_set l i j u o' (by simpa using h) hj (by simpa using he)
    unfold stackC at ih ⊢
    rw [List.flatMap_cons, List.set_cons_succ, List.flatMap_cons, List.set_append_right _ _ (by rw [openC_len]; omega), openC_len, show (i + 1) * 8 + j - 8 = i * 8 + j by omega, ih]
theorem DdB.setThing {w w' : World} {F : Nat → Prop} {g : Nat} {nm : List UInt8} {l : List Open} {sg n cap : Nat} (h : On F w (DdB g nm l (.slice (some ⟨sg, 0, none⟩) n cap)) w') (i j : Nat) (u : Value) (o' : Open) (hi : i < l.length) (hj : j < 8) (he : (openC (l[i])).set j u = openC o') :
    On F w (DdB g nm (l.set i o') (.slice (some ⟨sg, 0, none⟩) n cap)) (w'.setCell ⟨sg, i * 8 + j, none⟩ u) := by
  refine h.step fun F' hd => ?_
  obtain ⟨⟨kn, nd, lo, n0, h0, r, dd, en, hh, hb⟩, hr, hne, hF⟩ := hd
  have hn : n = l.length := by
    rcases hr.2 with ⟨h1, _⟩ | ⟨g', cap', cur, hv, _⟩
    · cases h1
    · cases hv; rfl
  subst hn
  have hsg : sg ≠ g := fun e => hne (by rw [e]; rfl)
  have hs := ownsRow_set hr (i := i * 8 + j) (by rw [stackC_len]; omega) u
  rw [thingsC_set l i j u o' hi hj he] at hs
  refine ⟨F', ⟨⟨kn, nd, lo, n0, h0, r, dd, en, hh, hb.far hsg.symm u⟩, by rw [List.length_set]; exact hs, hne, hF⟩, kept_setAt (Kept.refl F' w') ((hF sg).2 (.inr rfl)) _ u, fun k h => .inl h⟩
/-- what a method may make of the things: they stay in order, one more at most -/
def Went (l l' : List Open) : Prop := (OkD l → OkD l') ∧ l'.length ≤ l.length + 1
theorem Went.same (l : List Open) : Went l l := ⟨id, by omega⟩
set_option maxHeartbeats 4000000 in
theorem d_ifs_if (g : Nat) (nm : List UInt8) (l : List Open) (v : Value) (hn : l.length ≤ 100000) (w : World) (F : Nat → Prop) (hb : (DdB g nm l v).holds w F) :
    Calls Tryz.prog 112 #[.pointer (some ⟨g, 0, none⟩), .int .i64 19] w (Post (fun u B => u = .tuple #[] ∧ ∃ l' v', Went l l' ∧ B = DdB g nm l' v') F w) := by
  have hon := On.refl hb
  have htk := fun w1 F' hb' => d_takes g nm l v 1 0 w1 F' hb'
  have hop := fun (s : St) w1 F' hb' => d_opens g nm l v ⟨19, s, st0, false⟩ hn w1 F' hb'
  have hw : ∀ s, Went l (l ++ [⟨19, s, st0, false⟩]) := fun s => ⟨fun h => h.append (.inr (by simp)), by simp⟩
  clear hb
  replace hon := Lib.hid hon
  replace htk := Lib.hid htk
  replace hop := Lib.hid hop
  replace hw := Lib.hid hw
  go_enter Tryz.func112, Tryz.ntmps112
  go_wp2_with fail
  refine (hon.out.call fun F' hb' => htk.out _ F' hb').mono ?_
  rintro e w1 ⟨v', A', ⟨rfl, rfl⟩, rfl, hon1⟩
  obtain ⟨kn, nd, lo, n0, h0, r, dd, en, hh, hk⟩ := DdB.open_ hon1
  have c5 := hk.cell 5
  have c6 := hk.cell 6
  have c7 := hk.cell 7
  simp only [ddC] at c5 c6 c7
  simp at c5 c6 c7
  clear hk
  replace hon1 := Lib.hid hon1
  have hop1 := hop.out ⟨h0, r, dd⟩
  simp only [openV, openC, stC, st0, List.cons_append, List.nil_append] at hop1
  replace hop1 := Lib.hid hop1
  go_wp2_with fail
  refine (hon1.out.call fun F' hb' => hop1.out _ F' hb').mono ?_
  rintro e w2 ⟨v', A', ⟨rfl, v2, rfl⟩, rfl, hon2⟩
  replace hon2 := Lib.hid hon2
  go_wp2_with fail
  go_end0
  exact hon2.out.post ⟨rfl, _, _, hw.out _, rfl⟩
set_option maxHeartbeats 4000000 in
theorem d_ifs_none (g : Nat) (nm : List UInt8) (l : List Open) (v : Value) (k : Nat) (hk19 : k = 20 ∨ k = 21) (ht : topIs 19 l = false) (w : World) (F : Nat → Prop) (hb : (DdB g nm l v).holds w F) :
    Calls Tryz.prog 112 #[.pointer (some ⟨g, 0, none⟩), .int .i64 (k : Int)] w (Post (fun u B => u = .tuple #[] ∧ ∃ l' v', Went l l' ∧ B = DdB g nm l' v') F w) := by
  have hon := On.refl hb
  have htp := fun w1 F' hb' => d_top_none g nm l v 19 ht w1 F' hb'
  clear hb ht
  replace hon := Lib.hid hon
  replace htp := Lib.hid htp
  rcases hk19 with rfl | rfl
  all_goals
    go_enter Tryz.func112, Tryz.ntmps112
    go_wp2_with fail
    refine (hon.out.call fun F' hb' => htp.out _ F' hb').mono ?_
    rintro e w1 ⟨v', A', ⟨rfl, rfl⟩, rfl, hon1⟩
    replace hon1 := Lib.hid hon1
    go_wp2_with fail
    go_end0
    exact hon1.out.post ⟨rfl, l, v, Went.same l, rfl⟩
theorem thing_frozen {w : World} {e : TypeId} {l : List Open} {sg n cap : Nat} {m : Nat} (h : w.ownsRow 0 e 8 (.slice (some ⟨sg, 0, none⟩) n cap) m (stackC l)) (i : Nat) : w.frozen? ⟨sg, i, none⟩ = false := by
  rcases h.2 with ⟨h1, _⟩ | ⟨g', cap', cur, hv, hg, hc, _⟩
  · cases h1
  · cases hv
    exact Blk.frozen hc i
theorem DdB.row_ {w w' : World} {F : Nat → Prop} {g : Nat} {nm : List UInt8} {l : List Open} {v : Value} (h : On F w (DdB g nm l v) w') : w'.ownsRow 0 167 8 v l.length (stackC l) ∧ v.ownBlock ≠ some g := by
  obtain ⟨F', hd, _⟩ := h
  exact ⟨hd.2.1, hd.2.2.1⟩
/-- the topmost thing's cell is written -/
theorem DdB.setLast {w w' : World} {F : Nat → Prop} {g : Nat} {nm : List UInt8} {l : List Open} {o : Open} {sg n cap : Nat} (h : On F w (DdB g nm (l ++ [o]) (.slice (some ⟨sg, 0, none⟩) n cap)) w') (j : Nat) (hj : j < 8) (o' : Open) (u : Value) (he : (openC o).set j u = openC o') :
    On F w (DdB g nm (l ++ [o']) (.slice (some ⟨sg, 0, none⟩) n cap)) (w'.setCell ⟨sg, l.length * 8 + j, none⟩ u) := by
  have h1 := DdB.setThing h l.length j u o' (by simp) hj (by simpa using he)
  have e1 : (l ++ [o]).set l.length o' = l ++ [o'] := by simp
  rw [e1] at h1
  exact h1
/-- the state at hand is written -/
theorem DdB.setSt {w w' : World} {F : Nat → Prop} {g : Nat} {nm : List UInt8} {l : List Open} {v : Value} (h : On F w (DdB g nm l v) w') (s : St) : On F w (DdB g nm l v) (((w'.setCell ⟨g, 5, none⟩ (.int .i64 s.h)).setCell ⟨g, 6, none⟩ (.int .i64 s.r)).setCell ⟨g, 7, none⟩ (.bool s.dead)) :=
  DdB.set (DdB.set (DdB.set h 5 _ (.n (by simp) _)) 6 _ (.n (by simp) _)) 7 _ (.b (by simp) _)
theorem Went.last {l : List Open} {o o' : Open} (h : o'.kind = o.kind) : Went (l ++ [o]) (l ++ [o']) := by
  refine ⟨fun hk => ?_, by simp⟩
  have h1 := OkD.set hk l.length o' (.inr ⟨o, by simp, h⟩)
  have e1 : (l ++ [o]).set l.length o' = l ++ [o'] := by simp
  rw [e1] at h1
  exact h1
theorem Went.less (l : List Open) : Went l l.dropLast := ⟨fun h => h.dropLast, by simp; omega⟩
set_option maxHeartbeats 4000000 in
theorem d_ifs_else (g : Nat) (nm : List UInt8) (l : List Open) (o : Open) (hk : o.kind = 19) (sg cap : Nat) (w : World) (F : Nat → Prop) (hb : (DdB g nm (l ++ [o]) (.slice (some ⟨sg, 0, none⟩) (l.length + 1) cap)).holds w F) :
    Calls Tryz.prog 112 #[.pointer (some ⟨g, 0, none⟩), .int .i64 20] w (Post (fun u B => u = .tuple #[] ∧ ∃ l' v', Went (l ++ [o]) l' ∧ B = DdB g nm l' v') F w) := by
  have hon := On.refl hb
  have htp := fun w1 F' hb' => d_top_some g nm l o sg cap w1 F' hb'
  rw [hk] at htp
  clear hb
  replace hon := Lib.hid hon
  replace htp := Lib.hid htp
  replace hk := Lib.hid hk
  go_enter Tryz.func112, Tryz.ntmps112
  go_wp2_with fail
  refine (hon.out.call fun F' hb' => htp.out _ F' hb').mono ?_
  rintro e w1 ⟨v, A', ⟨rfl, rfl⟩, rfl, hon1⟩
  obtain ⟨kn, nd, lo, n0, h0, r, dd, en, hh, hkb⟩ := DdB.open_ hon1
  obtain ⟨hrow, hne0⟩ := DdB.row_ hon1
  have hne : g ≠ sg := fun e => hne0 (by rw [e]; rfl)
  have hgl := hkb.lt
  have hsl : sg < w1.heap.size := (hrow.lt _ rfl).2
  have c5 := hkb.cell 5
  have c6 := hkb.cell 6
  have c7 := hkb.cell 7
  have f5 := hkb.frozen 5
  have f6 := hkb.frozen 6
  have f7 := hkb.frozen 7
  have x1 := thing_cell hrow l.length 1 (by simp) (by omega)
  have x2 := thing_cell hrow l.length 2 (by simp) (by omega)
  have x3 := thing_cell hrow l.length 3 (by simp) (by omega)
  have y1 := thing_frozen hrow (l.length * 8 + 1)
  have y2 := thing_frozen hrow (l.length * 8 + 2)
  have y3 := thing_frozen hrow (l.length * 8 + 3)
  have hget : (l ++ [o])[l.length]'(by simp) = o := by simp
  rw [hget] at x1 x2 x3
  simp [openC, stC] at x1 x2 x3
  simp only [ddC] at c5 c6 c7
  simp at c5 c6 c7
  have hon5 := ((DdB.setLast (DdB.setLast (DdB.setLast (DdB.setSt hon1 o.a) 1 (by omega) { o with a := ⟨h0, o.a.r, o.a.dead⟩ } (.int .i64 h0) rfl) 2 (by omega) { o with a := ⟨h0, r, o.a.dead⟩ } (.int .i64 r) rfl) 3 (by omega) { o with a := ⟨h0, r, dd⟩ } (.bool dd) rfl)).alloc (.cells #[.int .i64 h0, .int .i64 r, .bool dd] 98)
  clear hkb hrow hne0 hon1 hget
  replace hon5 := Lib.hid hon5
  go_wp2_with fail
  go_end0
  exact hon5.out.post ⟨rfl, _, _, Went.last (o' := { o with a := ⟨h0, r, dd⟩ }) rfl, rfl⟩
set_option maxHeartbeats 4000000 in
theorem d_ifs_then (g : Nat) (nm : List UInt8) (l : List Open) (o : Open) (hk : o.kind = 19) (sg cap : Nat) (w : World) (F : Nat → Prop) (hb : (DdB g nm (l ++ [o]) (.slice (some ⟨sg, 0, none⟩) (l.length + 1) cap)).holds w F) :
    Calls Tryz.prog 112 #[.pointer (some ⟨g, 0, none⟩), .int .i64 21] w (Post (fun u B => u = .tuple #[] ∧ ∃ l' v', Went (l ++ [o]) l' ∧ B = DdB g nm l' v') F w) := by
  have hon := On.refl hb
  have htp := fun w1 F' hb' => d_top_some g nm l o sg cap w1 F' hb'
  rw [hk] at htp
  have hmt := fun s w1 F' hb' => d_joined g nm (l ++ [o]) (.slice (some ⟨sg, 0, none⟩) (l.length + 1) cap) o.a s w1 F' hb'
  have hcl := fun w1 F' hb' => d_closes g nm (l ++ [o]) (.slice (some ⟨sg, 0, none⟩) (l.length + 1) cap) (by simp) w1 F' hb'
  clear hb
  replace hon := Lib.hid hon
  replace htp := Lib.hid htp
  replace hk := Lib.hid hk
  replace hcl := Lib.hid hcl
  replace hmt := Lib.hid hmt
  go_enter Tryz.func112, Tryz.ntmps112
  go_wp2_with fail
  refine (hon.out.call fun F' hb' => htp.out _ F' hb').mono ?_
  rintro e w1 ⟨v, A', ⟨rfl, rfl⟩, rfl, hon1⟩
  obtain ⟨kn, nd, lo, n0, h0, r, dd, en, hh, hkb⟩ := DdB.open_ hon1
  obtain ⟨hrow, hne0⟩ := DdB.row_ hon1
  have hne : g ≠ sg := fun e => hne0 (by rw [e]; rfl)
  have c5 := hkb.cell 5
  have c6 := hkb.cell 6
  have c7 := hkb.cell 7
  have x1 := thing_cell hrow l.length 1 (by simp) (by omega)
  have x2 := thing_cell hrow l.length 2 (by simp) (by omega)
  have x3 := thing_cell hrow l.length 3 (by simp) (by omega)
  have hget : (l ++ [o])[l.length]'(by simp) = o := by simp
  rw [hget] at x1 x2 x3
  simp [openC, stC] at x1 x2 x3
  simp only [ddC] at c5 c6 c7
  simp at c5 c6 c7
  have hmt1 := hmt.out ⟨h0, r, dd⟩
  unfold stV stC at hmt1
  clear hkb hrow hne0 hget
  replace hmt1 := Lib.hid hmt1
  replace hon1 := Lib.hid hon1
  go_wp2_with fail
  go_region_with ((go_at_call 140; refine ((hon1.out.drew).call fun F' hb' => hmt1.out _ F' hb').mono ?_; rintro e w2 ⟨v, A', ⟨s1, rfl, rfl⟩, rfl, hon2⟩; obtain ⟨kn2, nd2, lo2, n2, h2, r2, dd2, en2, hh2, hkb2⟩ := DdB.open_ hon2; have c5b := hkb2.cell 5; have c6b := hkb2.cell 6; have c7b := hkb2.cell 7; have f5b := hkb2.frozen 5; have f6b := hkb2.frozen 6; have f7b := hkb2.frozen 7; simp only [ddC] at c5b c6b c7b; simp at c5b c6b c7b; clear hkb2; replace hon2 := Lib.hid hon2))
  all_goals
    have hon3 := DdB.setSt hon2.out s1
    clear c5 c6 c7 x1 x2 x3 c5b c6b c7b f5b f6b f7b
    replace hon3 := Lib.hid hon3
    go_wp2_with fail
    refine (hon3.out.call fun F' hb' => hcl.out _ F' hb').mono ?_
    rintro e w3 ⟨v, A', ⟨rfl, vs', rfl⟩, rfl, hon4⟩
    replace hon4 := Lib.hid hon4
    go_wp2
    go_end0
    exact hon4.out.post ⟨rfl, _, _, Went.less _, rfl⟩
end Look
end Go.Proofs.YthejfkkmcbdlhaaGreatDoor
/- The document's BEGIN, AGAIN, UNTIL, WHILE, REPEAT. Condition: fewer things are open than a text has bytes. -/
namespace Go.Proofs.YthejfkkmcbdlhaaGreatDoor
set_option linter.unusedVariables false
set_option maxRecDepth 100000
open Go.RowKit Go.Lib
namespace Look
theorem DdB.setLast0 {w w' : World} {F : Nat → Prop} {g : Nat} {nm : List UInt8} {l : List Open} {o : Open} {sg n cap : Nat} (h : On F w (DdB g nm (l ++ [o]) (.slice (some ⟨sg, 0, none⟩) n cap)) w') (o' : Open) (u : Value) (he : (openC o).set 0 u = openC o') :
    On F w (DdB g nm (l ++ [o']) (.slice (some ⟨sg, 0, none⟩) n cap)) (w'.setCell ⟨sg, l.length * 8, none⟩ u) := DdB.setLast h 0 (by omega) o' u he
theorem Went.lastK {l : List Open} {o o' : Open} (h : o'.kind ≠ 33) : Went (l ++ [o]) (l ++ [o']) := by
  refine ⟨fun hk => ?_, by simp⟩
  have h1 := OkD.set hk l.length o' (.inl h)
  have e1 : (l ++ [o]).set l.length o' = l ++ [o'] := by simp
  rw [e1] at h1
  exact h1
set_option maxHeartbeats 4000000 in
theorem d_begins_begin (g : Nat) (nm : List UInt8) (l : List Open) (v : Value) (hn : l.length ≤ 100000) (w : World) (F : Nat → Prop) (hb : (DdB g nm l v).holds w F) :
    Calls Tryz.prog 113 #[.pointer (some ⟨g, 0, none⟩), .int .i64 22] w (Post (fun u B => u = .tuple #[] ∧ ∃ l' v', Went l l' ∧ B = DdB g nm l' v') F w) := by
  have hon := On.refl hb
  have hop := fun (s : St) w1 F' hb' => d_opens g nm l v ⟨22, s, st0, false⟩ hn w1 F' hb'
  have hw : ∀ s, Went l (l ++ [⟨22, s, st0, false⟩]) := fun s => ⟨fun h => h.append (.inr (by simp)), by simp⟩
  obtain ⟨kn, nd, lo, n0, h0, r, dd, en, hh, hk⟩ := DdB.open_ hon
  have c5 := hk.cell 5
  have c6 := hk.cell 6
  have c7 := hk.cell 7
  simp only [ddC] at c5 c6 c7
  simp at c5 c6 c7
  clear hk hb
  have hop1 := hop ⟨h0, r, dd⟩
  simp only [openV, openC, stC, st0, List.cons_append, List.nil_append] at hop1
  clear hop
  replace hop1 := Lib.hid hop1
  replace hon := Lib.hid hon
  replace hw := Lib.hid hw
  go_enter Tryz.func113, Tryz.ntmps113
  go_wp2_with fail
  refine (hon.out.call fun F' hb' => hop1.out _ F' hb').mono ?_
  rintro e w2 ⟨v', A', ⟨rfl, v2, rfl⟩, rfl, hon2⟩
  replace hon2 := Lib.hid hon2
  go_wp2_with fail
  go_end0
  exact hon2.out.post ⟨rfl, _, _, hw.out _, rfl⟩
set_option maxHeartbeats 4000000 in
theorem d_begins_none (g : Nat) (nm : List UInt8) (l : List Open) (v : Value) (k : Nat) (hk : k = 23 ∨ k = 24 ∨ k = 25 ∨ k = 26) (ht : topIs (if k = 26 then 25 else 22) l = false) (w : World) (F : Nat → Prop) (hb : (DdB g nm l v).holds w F) :
    Calls Tryz.prog 113 #[.pointer (some ⟨g, 0, none⟩), .int .i64 (k : Int)] w (Post (fun u B => u = .tuple #[] ∧ ∃ l' v', Went l l' ∧ B = DdB g nm l' v') F w) := by
  have hon := On.refl hb
  have htk := fun w1 F' hb' => d_takes g nm l v 1 0 w1 F' hb'
  have htp := fun w1 F' hb' => d_top_none g nm l v _ ht w1 F' hb'
  clear hb ht
  replace hon := Lib.hid hon
  replace htk := Lib.hid htk
  rcases hk with rfl | rfl | rfl | rfl
  all_goals
    simp only [if_pos, Nat.reduceEqDiff, if_false] at htp
    replace htp := Lib.hid htp
    go_enter Tryz.func113, Tryz.ntmps113
    go_wp2_with fail
    first
      | (refine (hon.out.call fun F' hb' => htp.out _ F' hb').mono ?_
         rintro e w1 ⟨v', A', ⟨rfl, rfl⟩, rfl, hon1⟩
         replace hon1 := Lib.hid hon1
         go_wp2_with fail
         go_end0
         exact hon1.out.post ⟨rfl, l, v, Went.same l, rfl⟩)
      | (refine (hon.out.call fun F' hb' => htk.out _ F' hb').mono ?_
         rintro e w1 ⟨v', A', ⟨rfl, rfl⟩, rfl, hon1⟩
         replace hon1 := Lib.hid hon1
         go_wp2_with fail
         refine (hon1.out.call fun F' hb' => htp.out _ F' hb').mono ?_
         rintro e w2 ⟨v', A', ⟨rfl, rfl⟩, rfl, hon2⟩
         replace hon2 := Lib.hid hon2
         go_wp2_with fail
         go_end0
         exact hon2.out.post ⟨rfl, l, v, Went.same l, rfl⟩)
set_option maxHeartbeats 4000000 in
theorem d_begins_while (g : Nat) (nm : List UInt8) (l : List Open) (o : Open) (hk : o.kind = 22) (sg cap : Nat) (w : World) (F : Nat → Prop) (hb : (DdB g nm (l ++ [o]) (.slice (some ⟨sg, 0, none⟩) (l.length + 1) cap)).holds w F) :
    Calls Tryz.prog 113 #[.pointer (some ⟨g, 0, none⟩), .int .i64 25] w (Post (fun u B => u = .tuple #[] ∧ ∃ l' v', Went (l ++ [o]) l' ∧ B = DdB g nm l' v') F w) := by
  have hon := On.refl hb
  have htp := fun w1 F' hb' => d_top_some g nm l o sg cap w1 F' hb'
  rw [hk] at htp
  have htk := fun w1 F' hb' => d_takes g nm (l ++ [o]) (.slice (some ⟨sg, 0, none⟩) (l.length + 1) cap) 1 0 w1 F' hb'
  have hmt := fun s w1 F' hb' => d_joined g nm (l ++ [o]) (.slice (some ⟨sg, 0, none⟩) (l.length + 1) cap) o.a s w1 F' hb'
  have hcl := fun w1 F' hb' => d_closes g nm (l ++ [o]) (.slice (some ⟨sg, 0, none⟩) (l.length + 1) cap) (by simp) w1 F' hb'
  clear hb
  replace hon := Lib.hid hon
  replace htp := Lib.hid htp
  replace htk := Lib.hid htk
  replace hk := Lib.hid hk
  replace hcl := Lib.hid hcl
  replace hmt := Lib.hid hmt
  go_enter Tryz.func113, Tryz.ntmps113
  go_wp2_with fail
  refine (hon.out.call fun F' hb' => htk.out _ F' hb').mono ?_
  rintro e w0 ⟨v, A', ⟨rfl, rfl⟩, rfl, hon0⟩
  replace hon0 := Lib.hid hon0
  go_wp2_with fail
  refine (hon0.out.call fun F' hb' => htp.out _ F' hb').mono ?_
  rintro e w1 ⟨v, A', ⟨rfl, rfl⟩, rfl, hon1⟩
  obtain ⟨kn, nd, lo, n0, h0, r, dd, en, hh, hkb⟩ := DdB.open_ hon1
  obtain ⟨hrow, hne0⟩ := DdB.row_ hon1
  have hne : g ≠ sg := fun e => hne0 (by rw [e]; rfl)
  have c5 := hkb.cell 5
  have c6 := hkb.cell 6
  have c7 := hkb.cell 7
  simp only [ddC] at c5 c6 c7
  simp at c5 c6 c7
  have y0 := thing_frozen hrow (l.length * 8)
  have y4 := thing_frozen hrow (l.length * 8 + 4)
  have y5 := thing_frozen hrow (l.length * 8 + 5)
  have y6 := thing_frozen hrow (l.length * 8 + 6)
  have x0 := thing_cell hrow l.length 0 (by simp) (by omega)
  have x4 := thing_cell hrow l.length 4 (by simp) (by omega)
  have x5 := thing_cell hrow l.length 5 (by simp) (by omega)
  have x6 := thing_cell hrow l.length 6 (by simp) (by omega)
  have hget : (l ++ [o])[l.length]'(by simp) = o := by simp
  rw [hget] at x0 x4 x5 x6
  simp [openC, stC] at x0 x4 x5 x6
  have hon5 := DdB.setLast (DdB.setLast (DdB.setLast (DdB.setLast0 hon1 { o with kind := 25 } (.int .i64 25) rfl) 4 (by omega) { o with kind := 25, b := ⟨h0, o.b.r, o.b.dead⟩ } (.int .i64 h0) rfl) 5 (by omega) { o with kind := 25, b := ⟨h0, r, o.b.dead⟩ } (.int .i64 r) rfl) 6 (by omega) { o with kind := 25, b := ⟨h0, r, dd⟩ } (.bool dd) rfl
  clear hkb hrow hne0 hon1 hget
  replace hon5 := Lib.hid hon5
  go_wp2_with fail
  go_end0
  exact hon5.out.post ⟨rfl, _, _, Went.lastK (o' := { o with kind := 25, b := ⟨h0, r, dd⟩ }) (by simp), rfl⟩
set_option maxHeartbeats 4000000 in
theorem d_begins_again (g : Nat) (nm : List UInt8) (l : List Open) (o : Open) (hk : o.kind = 22) (sg cap : Nat) (w : World) (F : Nat → Prop) (hb : (DdB g nm (l ++ [o]) (.slice (some ⟨sg, 0, none⟩) (l.length + 1) cap)).holds w F) :
    Calls Tryz.prog 113 #[.pointer (some ⟨g, 0, none⟩), .int .i64 23] w (Post (fun u B => u = .tuple #[] ∧ ∃ l' v', Went (l ++ [o]) l' ∧ B = DdB g nm l' v') F w) := by
  have hon := On.refl hb
  have htp := fun w1 F' hb' => d_top_some g nm l o sg cap w1 F' hb'
  rw [hk] at htp
  have htk := fun w1 F' hb' => d_takes g nm (l ++ [o]) (.slice (some ⟨sg, 0, none⟩) (l.length + 1) cap) 1 0 w1 F' hb'
  have hmt := fun s w1 F' hb' => d_joined g nm (l ++ [o]) (.slice (some ⟨sg, 0, none⟩) (l.length + 1) cap) o.a s w1 F' hb'
  have hcl := fun w1 F' hb' => d_closes g nm (l ++ [o]) (.slice (some ⟨sg, 0, none⟩) (l.length + 1) cap) (by simp) w1 F' hb'
  clear hb
  replace hon := Lib.hid hon
  replace htp := Lib.hid htp
  replace htk := Lib.hid htk
  replace hk := Lib.hid hk
  replace hcl := Lib.hid hcl
  replace hmt := Lib.hid hmt
  go_enter Tryz.func113, Tryz.ntmps113
  go_wp2_with fail
  refine (hon.out.call fun F' hb' => htp.out _ F' hb').mono ?_
  rintro e w1 ⟨v, A', ⟨rfl, rfl⟩, rfl, hon1⟩
  obtain ⟨kn, nd, lo, n0, h0, r, dd, en, hh, hkb⟩ := DdB.open_ hon1
  obtain ⟨hrow, hne0⟩ := DdB.row_ hon1
  have hne : g ≠ sg := fun e => hne0 (by rw [e]; rfl)
  have c5 := hkb.cell 5
  have c6 := hkb.cell 6
  have c7 := hkb.cell 7
  simp only [ddC] at c5 c6 c7
  simp at c5 c6 c7
  have x1 := thing_cell hrow l.length 1 (by simp) (by omega)
  have x2 := thing_cell hrow l.length 2 (by simp) (by omega)
  have x3 := thing_cell hrow l.length 3 (by simp) (by omega)
  have hget : (l ++ [o])[l.length]'(by simp) = o := by simp
  rw [hget] at x1 x2 x3
  simp [openC, stC] at x1 x2 x3
  have hmt1 := hmt.out ⟨h0, r, dd⟩
  unfold stV stC at hmt1
  clear hkb hrow hne0 hget
  replace hmt1 := Lib.hid hmt1
  replace hon1 := Lib.hid hon1
  go_wp2_with fail
  go_region_with ((go_at_call 140; refine ((hon1.out.drew).call fun F' hb' => hmt1.out _ F' hb').mono ?_; rintro e w2 ⟨v, A', ⟨s1, rfl, rfl⟩, rfl, hon2⟩; replace hon2 := Lib.hid hon2))
  all_goals
    clear c5 c6 c7 x1 x2 x3
    obtain ⟨kn2, nd2, lo2, n2, h2, r2, dd2, en2, hh2, hkb2⟩ := DdB.open_ hon2.out
    have c5 := hkb2.cell 5
    have c6 := hkb2.cell 6
    have c7 := hkb2.cell 7
    have f5 := hkb2.frozen 5
    have f6 := hkb2.frozen 6
    have f7 := hkb2.frozen 7
    simp only [ddC] at c5 c6 c7
    simp at c5 c6 c7
    have hon3 := DdB.setSt hon2.out ⟨0, 0, true⟩
    clear hkb2
    replace hon3 := Lib.hid hon3
    go_wp2_with fail
    refine (hon3.out.call fun F' hb' => hcl.out _ F' hb').mono ?_
    rintro e w3 ⟨v, A', ⟨rfl, vs', rfl⟩, rfl, hon4⟩
    replace hon4 := Lib.hid hon4
    go_wp2
    go_end0
    exact hon4.out.post ⟨rfl, _, _, Went.less _, rfl⟩
set_option maxHeartbeats 4000000 in
theorem d_begins_until (g : Nat) (nm : List UInt8) (l : List Open) (o : Open) (hk : o.kind = 22) (sg cap : Nat) (w : World) (F : Nat → Prop) (hb : (DdB g nm (l ++ [o]) (.slice (some ⟨sg, 0, none⟩) (l.length + 1) cap)).holds w F) :
    Calls Tryz.prog 113 #[.pointer (some ⟨g, 0, none⟩), .int .i64 24] w (Post (fun u B => u = .tuple #[] ∧ ∃ l' v', Went (l ++ [o]) l' ∧ B = DdB g nm l' v') F w) := by
  have hon := On.refl hb
  have htp := fun w1 F' hb' => d_top_some g nm l o sg cap w1 F' hb'
  rw [hk] at htp
  have htk := fun w1 F' hb' => d_takes g nm (l ++ [o]) (.slice (some ⟨sg, 0, none⟩) (l.length + 1) cap) 1 0 w1 F' hb'
  have hmt := fun s w1 F' hb' => d_joined g nm (l ++ [o]) (.slice (some ⟨sg, 0, none⟩) (l.length + 1) cap) o.a s w1 F' hb'
  have hcl := fun w1 F' hb' => d_closes g nm (l ++ [o]) (.slice (some ⟨sg, 0, none⟩) (l.length + 1) cap) (by simp) w1 F' hb'
  clear hb
  replace hon := Lib.hid hon
  replace htp := Lib.hid htp
  replace htk := Lib.hid htk
  replace hk := Lib.hid hk
  replace hcl := Lib.hid hcl
  replace hmt := Lib.hid hmt
  go_enter Tryz.func113, Tryz.ntmps113
  go_wp2_with fail
  refine (hon.out.call fun F' hb' => htk.out _ F' hb').mono ?_
  rintro e w0 ⟨v, A', ⟨rfl, rfl⟩, rfl, hon0⟩
  replace hon0 := Lib.hid hon0
  go_wp2_with fail
  refine (hon0.out.call fun F' hb' => htp.out _ F' hb').mono ?_
  rintro e w1 ⟨v, A', ⟨rfl, rfl⟩, rfl, hon1⟩
  obtain ⟨kn, nd, lo, n0, h0, r, dd, en, hh, hkb⟩ := DdB.open_ hon1
  obtain ⟨hrow, hne0⟩ := DdB.row_ hon1
  have hne : g ≠ sg := fun e => hne0 (by rw [e]; rfl)
  have c5 := hkb.cell 5
  have c6 := hkb.cell 6
  have c7 := hkb.cell 7
  simp only [ddC] at c5 c6 c7
  simp at c5 c6 c7
  have x1 := thing_cell hrow l.length 1 (by simp) (by omega)
  have x2 := thing_cell hrow l.length 2 (by simp) (by omega)
  have x3 := thing_cell hrow l.length 3 (by simp) (by omega)
  have hget : (l ++ [o])[l.length]'(by simp) = o := by simp
  rw [hget] at x1 x2 x3
  simp [openC, stC] at x1 x2 x3
  have hmt1 := hmt.out ⟨h0, r, dd⟩
  unfold stV stC at hmt1
  clear hkb hrow hne0 hget
  replace hmt1 := Lib.hid hmt1
  replace hon1 := Lib.hid hon1
  go_wp2_with fail
  go_region_with ((go_at_call 140; refine ((hon1.out.drew).call fun F' hb' => hmt1.out _ F' hb').mono ?_; rintro e w2 ⟨v, A', ⟨s1, rfl, rfl⟩, rfl, hon2⟩; replace hon2 := Lib.hid hon2))
  all_goals
    clear c5 c6 c7 x1 x2 x3
    obtain ⟨kn2, nd2, lo2, n2, h2, r2, dd2, en2, hh2, hkb2⟩ := DdB.open_ hon2.out
    have c5 := hkb2.cell 5
    have c6 := hkb2.cell 6
    have c7 := hkb2.cell 7
    have f5 := hkb2.frozen 5
    have f6 := hkb2.frozen 6
    have f7 := hkb2.frozen 7
    simp only [ddC] at c5 c6 c7
    simp at c5 c6 c7
    clear hkb2 c5 c6 c7 f5 f6 f7
    go_wp2_with fail
    refine (hon2.out.call fun F' hb' => hcl.out _ F' hb').mono ?_
    rintro e w3 ⟨v, A', ⟨rfl, vs', rfl⟩, rfl, hon4⟩
    replace hon4 := Lib.hid hon4
    go_wp2
    go_end0
    exact hon4.out.post ⟨rfl, _, _, Went.less _, rfl⟩
set_option maxHeartbeats 4000000 in
theorem d_begins_repeat (g : Nat) (nm : List UInt8) (l : List Open) (o : Open) (hk : o.kind = 25) (sg cap : Nat) (w : World) (F : Nat → Prop) (hb : (DdB g nm (l ++ [o]) (.slice (some ⟨sg, 0, none⟩) (l.length + 1) cap)).holds w F) :
    Calls Tryz.prog 113 #[.pointer (some ⟨g, 0, none⟩), .int .i64 26] w (Post (fun u B => u = .tuple #[] ∧ ∃ l' v', Went (l ++ [o]) l' ∧ B = DdB g nm l' v') F w) := by
  have hon := On.refl hb
  have htp := fun w1 F' hb' => d_top_some g nm l o sg cap w1 F' hb'
  rw [hk] at htp
  have htk := fun w1 F' hb' => d_takes g nm (l ++ [o]) (.slice (some ⟨sg, 0, none⟩) (l.length + 1) cap) 1 0 w1 F' hb'
  have hmt := fun s w1 F' hb' => d_joined g nm (l ++ [o]) (.slice (some ⟨sg, 0, none⟩) (l.length + 1) cap) o.a s w1 F' hb'
  have hcl := fun w1 F' hb' => d_closes g nm (l ++ [o]) (.slice (some ⟨sg, 0, none⟩) (l.length + 1) cap) (by simp) w1 F' hb'
  clear hb
  replace hon := Lib.hid hon
  replace htp := Lib.hid htp
  replace htk := Lib.hid htk
  replace hk := Lib.hid hk
  replace hcl := Lib.hid hcl
  replace hmt := Lib.hid hmt
  go_enter Tryz.func113, Tryz.ntmps113
  go_wp2_with fail
  refine (hon.out.call fun F' hb' => htp.out _ F' hb').mono ?_
  rintro e w1 ⟨v, A', ⟨rfl, rfl⟩, rfl, hon1⟩
  obtain ⟨kn, nd, lo, n0, h0, r, dd, en, hh, hkb⟩ := DdB.open_ hon1
  obtain ⟨hrow, hne0⟩ := DdB.row_ hon1
  have hne : g ≠ sg := fun e => hne0 (by rw [e]; rfl)
  have c5 := hkb.cell 5
  have c6 := hkb.cell 6
  have c7 := hkb.cell 7
  simp only [ddC] at c5 c6 c7
  simp at c5 c6 c7
  have x1 := thing_cell hrow l.length 1 (by simp) (by omega)
  have x2 := thing_cell hrow l.length 2 (by simp) (by omega)
  have x3 := thing_cell hrow l.length 3 (by simp) (by omega)
  have hget : (l ++ [o])[l.length]'(by simp) = o := by simp
  rw [hget] at x1 x2 x3
  simp [openC, stC] at x1 x2 x3
  have hmt1 := hmt.out ⟨h0, r, dd⟩
  unfold stV stC at hmt1
  clear hkb hrow hne0 hget
  replace hmt1 := Lib.hid hmt1
  replace hon1 := Lib.hid hon1
  go_wp2_with fail
  go_region_with ((go_at_call 140; refine ((hon1.out.drew).call fun F' hb' => hmt1.out _ F' hb').mono ?_; rintro e w2 ⟨v, A', ⟨s1, rfl, rfl⟩, rfl, hon2⟩; replace hon2 := Lib.hid hon2))
  all_goals
    clear c5 c6 c7 x1 x2 x3
    obtain ⟨kn2, nd2, lo2, n2, h2, r2, dd2, en2, hh2, hkb2⟩ := DdB.open_ hon2.out
    have c5 := hkb2.cell 5
    have c6 := hkb2.cell 6
    have c7 := hkb2.cell 7
    have f5 := hkb2.frozen 5
    have f6 := hkb2.frozen 6
    have f7 := hkb2.frozen 7
    simp only [ddC] at c5 c6 c7
    simp at c5 c6 c7
    obtain ⟨hrow, hne0⟩ := DdB.row_ hon2.out
    have x4 := thing_cell hrow l.length 4 (by simp) (by omega)
    have x5 := thing_cell hrow l.length 5 (by simp) (by omega)
    have x6 := thing_cell hrow l.length 6 (by simp) (by omega)
    have hget : (l ++ [o])[l.length]'(by simp) = o := by simp
    rw [hget] at x4 x5 x6
    simp [openC, stC] at x4 x5 x6
    have hon3 := DdB.setSt hon2.out o.b
    clear hkb2 hrow hne0 hget
    replace hon3 := Lib.hid hon3
    go_wp2_with fail
    refine (hon3.out.call fun F' hb' => hcl.out _ F' hb').mono ?_
    rintro e w3 ⟨v, A', ⟨rfl, vs', rfl⟩, rfl, hon4⟩
    replace hon4 := Lib.hid hon4
    go_wp2
    go_end0
    exact hon4.out.post ⟨rfl, _, _, Went.less _, rfl⟩
end Look
end Go.Proofs.YthejfkkmcbdlhaaGreatDoor
/- The document's DO, ?DO, LOOP, +LOOP, LEAVE. Condition: fewer things are open than a text has bytes. -/
namespace Go.Proofs.YthejfkkmcbdlhaaGreatDoor
set_option linter.unusedVariables false
set_option maxRecDepth 100000
open Go.RowKit Go.Lib
namespace Look
set_option maxHeartbeats 4000000 in
theorem d_dos_do (g : Nat) (nm : List UInt8) (l : List Open) (v : Value) (hn : l.length ≤ 100000) (w : World) (F : Nat → Prop) (hb : (DdB g nm l v).holds w F) :
    Calls Tryz.prog 114 #[.pointer (some ⟨g, 0, none⟩), .int .i64 27] w (Post (fun u B => u = .tuple #[] ∧ ∃ l' v', Went l l' ∧ B = DdB g nm l' v') F w) := by
  have hon := On.refl hb
  have htk := fun w1 F' hb' => d_takes g nm l v 2 0 w1 F' hb'
  have hop := fun (s : St) w1 F' hb' => d_opens g nm l v ⟨27, s, st0, false⟩ hn w1 F' hb'
  have hw : ∀ s, Went l (l ++ [⟨27, s, st0, false⟩]) := fun s => ⟨fun h => h.append (.inr (by simp)), by simp⟩
  clear hb
  replace hon := Lib.hid hon
  replace htk := Lib.hid htk
  replace hop := Lib.hid hop
  replace hw := Lib.hid hw
  go_enter Tryz.func114, Tryz.ntmps114
  go_wp2_with fail
  refine (hon.out.call fun F' hb' => htk.out _ F' hb').mono ?_
  rintro e w1 ⟨v', A', ⟨rfl, rfl⟩, rfl, hon1⟩
  obtain ⟨kn, nd, lo, n0, h0, r, dd, en, hh, hk⟩ := DdB.open_ hon1
  have c5 := hk.cell 5
  have c6 := hk.cell 6
  have c7 := hk.cell 7
  simp only [ddC] at c5 c6 c7
  simp at c5 c6 c7
  clear hk
  replace hon1 := Lib.hid hon1
  have hop1 := hop.out ⟨h0, r, dd⟩
  simp only [openV, openC, stC, st0, List.cons_append, List.nil_append] at hop1
  replace hop1 := Lib.hid hop1
  go_wp2_with fail
  refine (hon1.out.call fun F' hb' => hop1.out _ F' hb').mono ?_
  rintro e w2 ⟨v', A', ⟨rfl, v2, rfl⟩, rfl, hon2⟩
  replace hon2 := Lib.hid hon2
  go_wp2_with fail
  go_end0
  exact hon2.out.post ⟨rfl, _, _, hw.out _, rfl⟩
set_option maxHeartbeats 4000000 in
theorem d_dos_qdo (g : Nat) (nm : List UInt8) (l : List Open) (v : Value) (hn : l.length ≤ 100000) (w : World) (F : Nat → Prop) (hb : (DdB g nm l v).holds w F) :
    Calls Tryz.prog 114 #[.pointer (some ⟨g, 0, none⟩), .int .i64 28] w (Post (fun u B => u = .tuple #[] ∧ ∃ l' v', Went l l' ∧ B = DdB g nm l' v') F w) := by
  have hon := On.refl hb
  have htk := fun w1 F' hb' => d_takes g nm l v 2 0 w1 F' hb'
  have hop := fun (s : St) w1 F' hb' => d_opens g nm l v ⟨27, s, st0, true⟩ hn w1 F' hb'
  have hw : ∀ s, Went l (l ++ [⟨27, s, st0, true⟩]) := fun s => ⟨fun h => h.append (.inr (by simp)), by simp⟩
  clear hb
  replace hon := Lib.hid hon
  replace htk := Lib.hid htk
  replace hop := Lib.hid hop
  replace hw := Lib.hid hw
  go_enter Tryz.func114, Tryz.ntmps114
  go_wp2_with fail
  refine (hon.out.call fun F' hb' => htk.out _ F' hb').mono ?_
  rintro e w1 ⟨v', A', ⟨rfl, rfl⟩, rfl, hon1⟩
  obtain ⟨kn, nd, lo, n0, h0, r, dd, en, hh, hk⟩ := DdB.open_ hon1
  have c5 := hk.cell 5
  have c6 := hk.cell 6
  have c7 := hk.cell 7
  simp only [ddC] at c5 c6 c7
  simp at c5 c6 c7
  clear hk
  replace hon1 := Lib.hid hon1
  have hop1 := hop.out ⟨h0, r, dd⟩
  simp only [openV, openC, stC, st0, List.cons_append, List.nil_append] at hop1
  replace hop1 := Lib.hid hop1
  go_wp2_with fail
  refine (hon1.out.call fun F' hb' => hop1.out _ F' hb').mono ?_
  rintro e w2 ⟨v', A', ⟨rfl, v2, rfl⟩, rfl, hon2⟩
  replace hon2 := Lib.hid hon2
  go_wp2_with fail
  go_end0
  exact hon2.out.post ⟨rfl, _, _, hw.out _, rfl⟩
set_option maxHeartbeats 4000000 in
theorem d_dos_none (g : Nat) (nm : List UInt8) (l : List Open) (v : Value) (k : Nat) (hk : k = 29 ∨ k = 30) (ht : topIs 27 l = false) (w : World) (F : Nat → Prop) (hb : (DdB g nm l v).holds w F) :
    Calls Tryz.prog 114 #[.pointer (some ⟨g, 0, none⟩), .int .i64 (k : Int)] w (Post (fun u B => u = .tuple #[] ∧ ∃ l' v', Went l l' ∧ B = DdB g nm l' v') F w) := by
  have hon := On.refl hb
  have htk := fun w1 F' hb' => d_takes g nm l v 1 0 w1 F' hb'
  have htp := fun w1 F' hb' => d_top_none g nm l v 27 ht w1 F' hb'
  clear hb ht
  replace hon := Lib.hid hon
  replace htk := Lib.hid htk
  replace htp := Lib.hid htp
  rcases hk with rfl | rfl
  · go_enter Tryz.func114, Tryz.ntmps114
    go_wp2_with fail
    refine (hon.out.call fun F' hb' => htp.out _ F' hb').mono ?_
    rintro e w1 ⟨v', A', ⟨rfl, rfl⟩, rfl, hon1⟩
    replace hon1 := Lib.hid hon1
    go_wp2_with fail
    go_end0
    exact hon1.out.post ⟨rfl, l, v, Went.same l, rfl⟩
  · go_enter Tryz.func114, Tryz.ntmps114
    go_wp2_with fail
    refine (hon.out.call fun F' hb' => htk.out _ F' hb').mono ?_
    rintro e w1 ⟨v', A', ⟨rfl, rfl⟩, rfl, hon1⟩
    replace hon1 := Lib.hid hon1
    go_wp2_with fail
    refine (hon1.out.call fun F' hb' => htp.out _ F' hb').mono ?_
    rintro e w2 ⟨v', A', ⟨rfl, rfl⟩, rfl, hon2⟩
    replace hon2 := Lib.hid hon2
    go_wp2_with fail
    go_end0
    exact hon2.out.post ⟨rfl, l, v, Went.same l, rfl⟩
set_option maxHeartbeats 4000000 in
theorem d_dos_leave_none (g : Nat) (nm : List UInt8) (l : List Open) (v : Value) (hi : innerAt l = none) (w : World) (F : Nat → Prop) (hb : (DdB g nm l v).holds w F) :
    Calls Tryz.prog 114 #[.pointer (some ⟨g, 0, none⟩), .int .i64 31] w (Post (fun u B => u = .tuple #[] ∧ ∃ l' v', Went l l' ∧ B = DdB g nm l' v') F w) := by
  have hon := On.refl hb
  have hlp := fun w1 F' hb' => d_loop g nm l v w1 F' hb'
  have hbd := fun w1 F' hb' => d_bad g nm l v w1 F' hb'
  rw [hi] at hlp
  simp only [placeV] at hlp
  clear hb hi
  replace hon := Lib.hid hon
  replace hlp := Lib.hid hlp
  replace hbd := Lib.hid hbd
  go_enter Tryz.func114, Tryz.ntmps114
  go_wp2_with fail
  refine (hon.out.call fun F' hb' => hlp.out _ F' hb').mono ?_
  rintro e w1 ⟨v', A', ⟨rfl, rfl⟩, rfl, hon1⟩
  replace hon1 := Lib.hid hon1
  go_wp2_with fail
  refine (hon1.out.call fun F' hb' => hbd.out _ F' hb').mono ?_
  rintro e w2 ⟨v', A', ⟨rfl, rfl⟩, rfl, hon2⟩
  replace hon2 := Lib.hid hon2
  go_wp2_with fail
  go_end0
  exact hon2.out.post ⟨rfl, l, v, Went.same l, rfl⟩
set_option maxHeartbeats 4000000 in
theorem d_dos_leave (g : Nat) (nm : List UInt8) (l : List Open) (i : Nat) (hi : innerAt l = some i) (hil : i < l.length) (sg n cap : Nat) (w : World) (F : Nat → Prop) (hb : (DdB g nm l (.slice (some ⟨sg, 0, none⟩) n cap)).holds w F) :
    Calls Tryz.prog 114 #[.pointer (some ⟨g, 0, none⟩), .int .i64 31] w (Post (fun u B => u = .tuple #[] ∧ ∃ l' v', Went l l' ∧ B = DdB g nm l' v') F w) := by
  have hon := On.refl hb
  have hlp := fun w1 F' hb' => d_loop g nm l (.slice (some ⟨sg, 0, none⟩) n cap) w1 F' hb'
  rw [hi] at hlp
  simp only [placeV] at hlp
  obtain ⟨o, ho⟩ : ∃ o, l[i] = o := ⟨_, rfl⟩
  have hmt := fun s w1 F' hb' => d_joined g nm l (.slice (some ⟨sg, 0, none⟩) n cap) o.a s w1 F' hb'
  clear hb hi
  replace hon := Lib.hid hon
  replace hlp := Lib.hid hlp
  replace hmt := Lib.hid hmt
  go_enter Tryz.func114, Tryz.ntmps114
  go_wp2_with fail
  refine (hon.out.call fun F' hb' => hlp.out _ F' hb').mono ?_
  rintro e w1 ⟨v', A', ⟨rfl, rfl⟩, rfl, hon1⟩
  obtain ⟨kn, nd, lo, n0, h0, r, dd, en, hh, hkb⟩ := DdB.open_ hon1
  obtain ⟨hrow, hne0⟩ := DdB.row_ hon1
  have hne : g ≠ sg := fun e => hne0 (by rw [e]; rfl)
  have c5 := hkb.cell 5
  have c6 := hkb.cell 6
  have c7 := hkb.cell 7
  simp only [ddC] at c5 c6 c7
  simp at c5 c6 c7
  have x1 := thing_cell hrow i 1 hil (by omega)
  have x2 := thing_cell hrow i 2 hil (by omega)
  have x3 := thing_cell hrow i 3 hil (by omega)
  rw [ho] at x1 x2 x3
  simp [openC, stC] at x1 x2 x3
  have hmt1 := hmt.out ⟨h0, r, dd⟩
  unfold stV stC at hmt1
  clear hkb hrow hne0
  replace hmt1 := Lib.hid hmt1
  replace hon1 := Lib.hid hon1
  replace ho := Lib.hid ho
  replace hil := Lib.hid hil
  go_wp2_with fail
  go_region_with ((go_at_call 140; refine ((hon1.out.drew).call fun F' hb' => hmt1.out _ F' hb').mono ?_; rintro e w2 ⟨v, A', ⟨s1, rfl, rfl⟩, rfl, hon2⟩; replace hon2 := Lib.hid hon2))
  all_goals
    clear c5 c6 c7 x1 x2 x3
    obtain ⟨kn2, nd2, lo2, n2, h2, r2, dd2, en2, hh2, hkb2⟩ := DdB.open_ hon2.out
    obtain ⟨hrow, hne0⟩ := DdB.row_ hon2.out
    have c7 := hkb2.cell 7
    have c5 := hkb2.cell 5
    have c6 := hkb2.cell 6
    have f5 := hkb2.frozen 5
    have f6 := hkb2.frozen 6
    have f7 := hkb2.frozen 7
    have y7 := thing_frozen hrow (i * 8 + 7)
    have x7 := thing_cell hrow i 7 hil.out (by omega)
    rw [ho.out] at x7
    simp [openC, stC] at x7
    simp only [ddC] at c5 c6 c7
    simp at c5 c6 c7
    have hon3 := fun b => DdB.setSt (DdB.setThing hon2.out i 7 (.bool b) { o with left := b } hil.out (by omega) (by rw [ho.out]; rfl)) ⟨0, 0, true⟩
    have hw : ∀ b, Went l (l.set i { o with left := b }) := fun b => ⟨fun h => h.set i _ (.inr ⟨o, by rw [List.getElem?_eq_getElem hil.out, ho.out], rfl⟩), by rw [List.length_set]; omega⟩
    clear hkb2 hrow hne0
    replace hon3 := Lib.hid hon3
    replace hw := Lib.hid hw
    obtain ⟨lf, hlf⟩ : ∃ lf, o.left = lf := ⟨_, rfl⟩
    rw [hlf] at x7
    clear hlf
    cases lf
    all_goals
      go_wp2_with fail
      go_end0
      first | exact (hon3.out _).post ⟨rfl, _, _, hw.out _, rfl⟩ | exact (hon3.out _).post ⟨rfl, _, hw.out _, _, rfl⟩
set_option maxHeartbeats 4000000 in
theorem d_dos_loop (g : Nat) (nm : List UInt8) (l : List Open) (o : Open) (hk : o.kind = 27) (sg cap : Nat) (w : World) (F : Nat → Prop) (hb : (DdB g nm (l ++ [o]) (.slice (some ⟨sg, 0, none⟩) (l.length + 1) cap)).holds w F) :
    Calls Tryz.prog 114 #[.pointer (some ⟨g, 0, none⟩), .int .i64 29] w (Post (fun u B => u = .tuple #[] ∧ ∃ l' v', Went (l ++ [o]) l' ∧ B = DdB g nm l' v') F w) := by
  have hon := On.refl hb
  have htp := fun w1 F' hb' => d_top_some g nm l o sg cap w1 F' hb'
  rw [hk] at htp
  have htk := fun w1 F' hb' => d_takes g nm (l ++ [o]) (.slice (some ⟨sg, 0, none⟩) (l.length + 1) cap) 1 0 w1 F' hb'
  have hmt := fun s w1 F' hb' => d_joined g nm (l ++ [o]) (.slice (some ⟨sg, 0, none⟩) (l.length + 1) cap) o.a s w1 F' hb'
  have hcl := fun w1 F' hb' => d_closes g nm (l ++ [o]) (.slice (some ⟨sg, 0, none⟩) (l.length + 1) cap) (by simp) w1 F' hb'
  clear hb
  replace hon := Lib.hid hon
  replace htp := Lib.hid htp
  replace htk := Lib.hid htk
  replace hk := Lib.hid hk
  replace hcl := Lib.hid hcl
  replace hmt := Lib.hid hmt
  go_enter Tryz.func114, Tryz.ntmps114
  go_wp2_with fail
  refine (hon.out.call fun F' hb' => htp.out _ F' hb').mono ?_
  rintro e w1 ⟨v, A', ⟨rfl, rfl⟩, rfl, hon1⟩
  obtain ⟨kn, nd, lo, n0, h0, r, dd, en, hh, hkb⟩ := DdB.open_ hon1
  obtain ⟨hrow, hne0⟩ := DdB.row_ hon1
  have hne : g ≠ sg := fun e => hne0 (by rw [e]; rfl)
  have c5 := hkb.cell 5
  have c6 := hkb.cell 6
  have c7 := hkb.cell 7
  simp only [ddC] at c5 c6 c7
  simp at c5 c6 c7
  have x1 := thing_cell hrow l.length 1 (by simp) (by omega)
  have x2 := thing_cell hrow l.length 2 (by simp) (by omega)
  have x3 := thing_cell hrow l.length 3 (by simp) (by omega)
  have hget : (l ++ [o])[l.length]'(by simp) = o := by simp
  rw [hget] at x1 x2 x3
  simp [openC, stC] at x1 x2 x3
  have hmt1 := hmt.out ⟨h0, r, dd⟩
  unfold stV stC at hmt1
  clear hkb hrow hne0 hget
  replace hmt1 := Lib.hid hmt1
  replace hon1 := Lib.hid hon1
  go_wp2_with fail
  go_region_with ((go_at_call 140; refine ((hon1.out.drew).call fun F' hb' => hmt1.out _ F' hb').mono ?_; rintro e w2 ⟨v, A', ⟨s1, rfl, rfl⟩, rfl, hon2⟩; replace hon2 := Lib.hid hon2))
  all_goals
    clear c5 c6 c7 x1 x2 x3
    obtain ⟨kn2, nd2, lo2, n2, h2, r2, dd2, en2, hh2, hkb2⟩ := DdB.open_ hon2.out
    obtain ⟨hrow, hne0⟩ := DdB.row_ hon2.out
    have c5 := hkb2.cell 5
    have c6 := hkb2.cell 6
    have c7 := hkb2.cell 7
    have f5 := hkb2.frozen 5
    have f6 := hkb2.frozen 6
    have f7 := hkb2.frozen 7
    have x1 := thing_cell hrow l.length 1 (by simp) (by omega)
    have x2 := thing_cell hrow l.length 2 (by simp) (by omega)
    have x3 := thing_cell hrow l.length 3 (by simp) (by omega)
    have x7 := thing_cell hrow l.length 7 (by simp) (by omega)
    have hget : (l ++ [o])[l.length]'(by simp) = o := by simp
    rw [hget] at x1 x2 x3 x7
    simp [openC, stC] at x1 x2 x3 x7
    simp only [ddC] at c5 c6 c7
    simp at c5 c6 c7
    have hon3 := DdB.setSt hon2.out o.a
    clear hkb2 hrow hne0 hget
    replace hon3 := Lib.hid hon3
    obtain ⟨lf, hlf⟩ : ∃ lf, o.left = lf := ⟨_, rfl⟩
    rw [hlf] at x7
    clear hlf
    cases dd2 <;> cases lf
    all_goals
      go_wp2_with fail
      first
        | (refine (hon3.out.call fun F' hb' => hcl.out _ F' hb').mono ?_
           rintro e w3 ⟨v, A', ⟨rfl, vs', rfl⟩, rfl, hon4⟩
           replace hon4 := Lib.hid hon4
           go_wp2
           go_end0
           exact hon4.out.post ⟨rfl, _, _, Went.less _, rfl⟩)
        | (refine (hon2.out.call fun F' hb' => hcl.out _ F' hb').mono ?_
           rintro e w3 ⟨v, A', ⟨rfl, vs', rfl⟩, rfl, hon4⟩
           replace hon4 := Lib.hid hon4
           go_wp2
           go_end0
           exact hon4.out.post ⟨rfl, _, _, Went.less _, rfl⟩)
set_option maxHeartbeats 4000000 in
theorem d_dos_ploop (g : Nat) (nm : List UInt8) (l : List Open) (o : Open) (hk : o.kind = 27) (sg cap : Nat) (w : World) (F : Nat → Prop) (hb : (DdB g nm (l ++ [o]) (.slice (some ⟨sg, 0, none⟩) (l.length + 1) cap)).holds w F) :
    Calls Tryz.prog 114 #[.pointer (some ⟨g, 0, none⟩), .int .i64 30] w (Post (fun u B => u = .tuple #[] ∧ ∃ l' v', Went (l ++ [o]) l' ∧ B = DdB g nm l' v') F w) := by
  have hon := On.refl hb
  have htp := fun w1 F' hb' => d_top_some g nm l o sg cap w1 F' hb'
  rw [hk] at htp
  have htk := fun w1 F' hb' => d_takes g nm (l ++ [o]) (.slice (some ⟨sg, 0, none⟩) (l.length + 1) cap) 1 0 w1 F' hb'
  have hmt := fun s w1 F' hb' => d_joined g nm (l ++ [o]) (.slice (some ⟨sg, 0, none⟩) (l.length + 1) cap) o.a s w1 F' hb'
  have hcl := fun w1 F' hb' => d_closes g nm (l ++ [o]) (.slice (some ⟨sg, 0, none⟩) (l.length + 1) cap) (by simp) w1 F' hb'
  clear hb
  replace hon := Lib.hid hon
  replace htp := Lib.hid htp
  replace htk := Lib.hid htk
  replace hk := Lib.hid hk
  replace hcl := Lib.hid hcl
  replace hmt := Lib.hid hmt
  go_enter Tryz.func114, Tryz.ntmps114
  go_wp2_with fail
  refine (hon.out.call fun F' hb' => htk.out _ F' hb').mono ?_
  rintro e w0 ⟨v, A', ⟨rfl, rfl⟩, rfl, hon0⟩
  replace hon0 := Lib.hid hon0
  go_wp2_with fail
  refine (hon0.out.call fun F' hb' => htp.out _ F' hb').mono ?_
  rintro e w1 ⟨v, A', ⟨rfl, rfl⟩, rfl, hon1⟩
  obtain ⟨kn, nd, lo, n0, h0, r, dd, en, hh, hkb⟩ := DdB.open_ hon1
  obtain ⟨hrow, hne0⟩ := DdB.row_ hon1
  have hne : g ≠ sg := fun e => hne0 (by rw [e]; rfl)
  have c5 := hkb.cell 5
  have c6 := hkb.cell 6
  have c7 := hkb.cell 7
  simp only [ddC] at c5 c6 c7
  simp at c5 c6 c7
  have x1 := thing_cell hrow l.length 1 (by simp) (by omega)
  have x2 := thing_cell hrow l.length 2 (by simp) (by omega)
  have x3 := thing_cell hrow l.length 3 (by simp) (by omega)
  have hget : (l ++ [o])[l.length]'(by simp) = o := by simp
  rw [hget] at x1 x2 x3
  simp [openC, stC] at x1 x2 x3
  have hmt1 := hmt.out ⟨h0, r, dd⟩
  unfold stV stC at hmt1
  clear hkb hrow hne0 hget
  replace hmt1 := Lib.hid hmt1
  replace hon1 := Lib.hid hon1
  go_wp2_with fail
  go_region_with ((go_at_call 140; refine ((hon1.out.drew).call fun F' hb' => hmt1.out _ F' hb').mono ?_; rintro e w2 ⟨v, A', ⟨s1, rfl, rfl⟩, rfl, hon2⟩; replace hon2 := Lib.hid hon2))
  all_goals
    clear c5 c6 c7 x1 x2 x3
    obtain ⟨kn2, nd2, lo2, n2, h2, r2, dd2, en2, hh2, hkb2⟩ := DdB.open_ hon2.out
    obtain ⟨hrow, hne0⟩ := DdB.row_ hon2.out
    have c5 := hkb2.cell 5
    have c6 := hkb2.cell 6
    have c7 := hkb2.cell 7
    have f5 := hkb2.frozen 5
    have f6 := hkb2.frozen 6
    have f7 := hkb2.frozen 7
    have x1 := thing_cell hrow l.length 1 (by simp) (by omega)
    have x2 := thing_cell hrow l.length 2 (by simp) (by omega)
    have x3 := thing_cell hrow l.length 3 (by simp) (by omega)
    have x7 := thing_cell hrow l.length 7 (by simp) (by omega)
    have hget : (l ++ [o])[l.length]'(by simp) = o := by simp
    rw [hget] at x1 x2 x3 x7
    simp [openC, stC] at x1 x2 x3 x7
    simp only [ddC] at c5 c6 c7
    simp at c5 c6 c7
    have hon3 := DdB.setSt hon2.out o.a
    clear hkb2 hrow hne0 hget
    replace hon3 := Lib.hid hon3
    obtain ⟨lf, hlf⟩ : ∃ lf, o.left = lf := ⟨_, rfl⟩
    rw [hlf] at x7
    clear hlf
    cases dd2 <;> cases lf
    all_goals
      go_wp2_with fail
      first
        | (refine (hon3.out.call fun F' hb' => hcl.out _ F' hb').mono ?_
           rintro e w3 ⟨v, A', ⟨rfl, vs', rfl⟩, rfl, hon4⟩
           replace hon4 := Lib.hid hon4
           go_wp2
           go_end0
           exact hon4.out.post ⟨rfl, _, _, Went.less _, rfl⟩)
        | (refine (hon2.out.call fun F' hb' => hcl.out _ F' hb').mono ?_
           rintro e w3 ⟨v, A', ⟨rfl, vs', rfl⟩, rfl, hon4⟩
           replace hon4 := Lib.hid hon4
           go_wp2
           go_end0
           exact hon4.out.post ⟨rfl, _, _, Went.less _, rfl⟩)
end Look
end Go.Proofs.YthejfkkmcbdlhaaGreatDoor
/- The document's CASE, OF, ENDOF, ENDCASE. Condition: fewer things are open than a text has bytes. -/
namespace Go.Proofs.YthejfkkmcbdlhaaGreatDoor
set_option linter.unusedVariables false
set_option maxRecDepth 100000
open Go.RowKit Go.Lib
namespace Look
set_option maxHeartbeats 4000000 in
theorem d_cases_case (g : Nat) (nm : List UInt8) (l : List Open) (v : Value) (hn : l.length ≤ 100000) (w : World) (F : Nat → Prop) (hb : (DdB g nm l v).holds w F) :
    Calls Tryz.prog 115 #[.pointer (some ⟨g, 0, none⟩), .int .i64 32] w (Post (fun u B => u = .tuple #[] ∧ ∃ l' v', Went l l' ∧ B = DdB g nm l' v') F w) := by
  have hon := On.refl hb
  have hop := fun w1 F' hb' => d_opens g nm l v ⟨32, ⟨0, 0, true⟩, st0, false⟩ hn w1 F' hb'
  have hw : Went l (l ++ [⟨32, ⟨0, 0, true⟩, st0, false⟩]) := ⟨fun h => h.append (.inr (by simp)), by simp⟩
  simp only [openV, openC, stC, st0, List.cons_append, List.nil_append] at hop
  clear hb
  replace hon := Lib.hid hon
  replace hop := Lib.hid hop
  replace hw := Lib.hid hw
  go_enter Tryz.func115, Tryz.ntmps115
  go_wp2_with fail
  refine (hon.out.call fun F' hb' => hop.out _ F' hb').mono ?_
  rintro e w2 ⟨v', A', ⟨rfl, v2, rfl⟩, rfl, hon2⟩
  replace hon2 := Lib.hid hon2
  go_wp2_with fail
  go_end0
  exact hon2.out.post ⟨rfl, _, _, hw.out, rfl⟩
set_option maxHeartbeats 4000000 in
theorem d_cases_none (g : Nat) (nm : List UInt8) (l : List Open) (v : Value) (k : Nat) (hk : k = 33 ∨ k = 34 ∨ k = 35) (ht : topIs (if k = 34 then 33 else 32) l = false) (w : World) (F : Nat → Prop) (hb : (DdB g nm l v).holds w F) :
    Calls Tryz.prog 115 #[.pointer (some ⟨g, 0, none⟩), .int .i64 (k : Int)] w (Post (fun u B => u = .tuple #[] ∧ ∃ l' v', Went l l' ∧ B = DdB g nm l' v') F w) := by
  have hon := On.refl hb
  have htp := fun w1 F' hb' => d_top_none g nm l v _ ht w1 F' hb'
  clear hb ht
  replace hon := Lib.hid hon
  rcases hk with rfl | rfl | rfl
  all_goals
    simp only [if_pos, Nat.reduceEqDiff, if_false] at htp
    replace htp := Lib.hid htp
    go_enter Tryz.func115, Tryz.ntmps115
    go_wp2_with fail
    refine (hon.out.call fun F' hb' => htp.out _ F' hb').mono ?_
    rintro e w1 ⟨v', A', ⟨rfl, rfl⟩, rfl, hon1⟩
    replace hon1 := Lib.hid hon1
    go_wp2_with fail
    go_end0
    exact hon1.out.post ⟨rfl, l, v, Went.same l, rfl⟩
set_option maxHeartbeats 4000000 in
theorem d_cases_of (g : Nat) (nm : List UInt8) (l : List Open) (o : Open) (hk : o.kind = 32) (hn : l.length + 1 ≤ 100000) (sg cap : Nat) (w : World) (F : Nat → Prop) (hb : (DdB g nm (l ++ [o]) (.slice (some ⟨sg, 0, none⟩) (l.length + 1) cap)).holds w F) :
    Calls Tryz.prog 115 #[.pointer (some ⟨g, 0, none⟩), .int .i64 33] w (Post (fun u B => u = .tuple #[] ∧ ∃ l' v', Went (l ++ [o]) l' ∧ B = DdB g nm l' v') F w) := by
  have hon := On.refl hb
  have htp := fun w1 F' hb' => d_top_some g nm l o sg cap w1 F' hb'
  rw [hk] at htp
  have htk := fun w1 F' hb' => d_takes g nm (l ++ [o]) (.slice (some ⟨sg, 0, none⟩) (l.length + 1) cap) 2 1 w1 F' hb'
  have htk2 := fun s v2 w1 F' hb' => d_takes g nm ((l ++ [o]) ++ [⟨33, s, st0, false⟩]) v2 1 0 w1 F' hb'
  have hop := fun (s : St) w1 F' hb' => d_opens g nm (l ++ [o]) (.slice (some ⟨sg, 0, none⟩) (l.length + 1) cap) ⟨33, s, st0, false⟩ (by simp; omega) w1 F' hb'
  have hw : ∀ s, Went (l ++ [o]) ((l ++ [o]) ++ [⟨33, s, st0, false⟩]) := fun s => ⟨fun h => h.append (.inl (by simp)), by simp⟩
  clear hb
  replace hon := Lib.hid hon
  replace htp := Lib.hid htp
  replace htk := Lib.hid htk
  replace htk2 := Lib.hid htk2
  replace hk := Lib.hid hk
  replace hop := Lib.hid hop
  replace hw := Lib.hid hw
  go_enter Tryz.func115, Tryz.ntmps115
  go_wp2_with fail
  refine (hon.out.call fun F' hb' => htp.out _ F' hb').mono ?_
  rintro e w0 ⟨v, A', ⟨rfl, rfl⟩, rfl, hon0⟩
  replace hon0 := Lib.hid hon0
  go_wp2_with fail
  refine (hon0.out.call fun F' hb' => htk.out _ F' hb').mono ?_
  rintro e w1 ⟨v', A', ⟨rfl, rfl⟩, rfl, hon1⟩
  obtain ⟨kn, nd, lo, n0, h0, r, dd, en, hh, hkb⟩ := DdB.open_ hon1
  have c5 := hkb.cell 5
  have c6 := hkb.cell 6
  have c7 := hkb.cell 7
  simp only [ddC] at c5 c6 c7
  simp at c5 c6 c7
  clear hkb
  replace hon1 := Lib.hid hon1
  have hop1 := hop.out ⟨h0, r, dd⟩
  simp only [openV, openC, stC, st0, List.cons_append, List.nil_append] at hop1
  replace hop1 := Lib.hid hop1
  go_wp2_with fail
  refine (hon1.out.call fun F' hb' => hop1.out _ F' hb').mono ?_
  rintro e w2 ⟨v', A', ⟨rfl, v2, rfl⟩, rfl, hon2⟩
  replace hon2 := Lib.hid hon2
  clear c5 c6 c7
  go_wp2_with fail
  refine (hon2.out.call fun F' hb' => htk2.out ⟨h0, r, dd⟩ v2 _ F' hb').mono ?_
  rintro e w3 ⟨v', A', ⟨rfl, rfl⟩, rfl, hon3⟩
  replace hon3 := Lib.hid hon3
  go_wp2_with fail
  go_end0
  exact hon3.out.post ⟨rfl, _, _, hw.out _, rfl⟩
set_option maxHeartbeats 4000000 in
theorem d_cases_endcase (g : Nat) (nm : List UInt8) (l : List Open) (o : Open) (hk : o.kind = 32) (sg cap : Nat) (w : World) (F : Nat → Prop) (hb : (DdB g nm (l ++ [o]) (.slice (some ⟨sg, 0, none⟩) (l.length + 1) cap)).holds w F) :
    Calls Tryz.prog 115 #[.pointer (some ⟨g, 0, none⟩), .int .i64 35] w (Post (fun u B => u = .tuple #[] ∧ ∃ l' v', Went (l ++ [o]) l' ∧ B = DdB g nm l' v') F w) := by
  have hon := On.refl hb
  have htp := fun w1 F' hb' => d_top_some g nm l o sg cap w1 F' hb'
  rw [hk] at htp
  have htk := fun w1 F' hb' => d_takes g nm (l ++ [o]) (.slice (some ⟨sg, 0, none⟩) (l.length + 1) cap) 1 0 w1 F' hb'
  have hmt := fun s w1 F' hb' => d_joined g nm (l ++ [o]) (.slice (some ⟨sg, 0, none⟩) (l.length + 1) cap) o.a s w1 F' hb'
  have hcl := fun w1 F' hb' => d_closes g nm (l ++ [o]) (.slice (some ⟨sg, 0, none⟩) (l.length + 1) cap) (by simp) w1 F' hb'
  clear hb
  replace hon := Lib.hid hon
  replace htp := Lib.hid htp
  replace htk := Lib.hid htk
  replace hk := Lib.hid hk
  replace hcl := Lib.hid hcl
  replace hmt := Lib.hid hmt
  go_enter Tryz.func115, Tryz.ntmps115
  go_wp2_with fail
  refine (hon.out.call fun F' hb' => htp.out _ F' hb').mono ?_
  rintro e w0 ⟨v, A', ⟨rfl, rfl⟩, rfl, hon0⟩
  replace hon0 := Lib.hid hon0
  go_wp2_with fail
  refine (hon0.out.call fun F' hb' => htk.out _ F' hb').mono ?_
  rintro e w1 ⟨v', A', ⟨rfl, rfl⟩, rfl, hon1⟩
  obtain ⟨kn, nd, lo, n0, h0, r, dd, en, hh, hkb⟩ := DdB.open_ hon1
  obtain ⟨hrow, hne0⟩ := DdB.row_ hon1
  have hne : g ≠ sg := fun e => hne0 (by rw [e]; rfl)
  have c5 := hkb.cell 5
  have c6 := hkb.cell 6
  have c7 := hkb.cell 7
  simp only [ddC] at c5 c6 c7
  simp at c5 c6 c7
  have x1 := thing_cell hrow l.length 1 (by simp) (by omega)
  have x2 := thing_cell hrow l.length 2 (by simp) (by omega)
  have x3 := thing_cell hrow l.length 3 (by simp) (by omega)
  have hget : (l ++ [o])[l.length]'(by simp) = o := by simp
  rw [hget] at x1 x2 x3
  simp [openC, stC] at x1 x2 x3
  have hmt1 := hmt.out ⟨h0, r, dd⟩
  unfold stV stC at hmt1
  clear hkb hrow hne0 hget
  replace hmt1 := Lib.hid hmt1
  replace hon1 := Lib.hid hon1
  go_wp2_with fail
  go_region_with ((go_at_call 140; refine ((hon1.out.drew).call fun F' hb' => hmt1.out _ F' hb').mono ?_; rintro e w2 ⟨v, A', ⟨s1, rfl, rfl⟩, rfl, hon2⟩; obtain ⟨kn2, nd2, lo2, n2, h2, r2, dd2, en2, hh2, hkb2⟩ := DdB.open_ hon2; have c5b := hkb2.cell 5; have c6b := hkb2.cell 6; have c7b := hkb2.cell 7; have f5b := hkb2.frozen 5; have f6b := hkb2.frozen 6; have f7b := hkb2.frozen 7; simp only [ddC] at c5b c6b c7b; simp at c5b c6b c7b; clear hkb2; replace hon2 := Lib.hid hon2))
  all_goals
    have hon3 := DdB.setSt hon2.out s1
    clear c5 c6 c7 x1 x2 x3 c5b c6b c7b f5b f6b f7b
    replace hon3 := Lib.hid hon3
    go_wp2_with fail
    refine (hon3.out.call fun F' hb' => hcl.out _ F' hb').mono ?_
    rintro e w3 ⟨v, A', ⟨rfl, vs', rfl⟩, rfl, hon4⟩
    replace hon4 := Lib.hid hon4
    go_wp2
    go_end0
    exact hon4.out.post ⟨rfl, _, _, Went.less _, rfl⟩
end Look
end Go.Proofs.YthejfkkmcbdlhaaGreatDoor
/- The document's ENDOF. No condition. -/
namespace Go.Proofs.YthejfkkmcbdlhaaGreatDoor
set_option linter.unusedVariables false
set_option maxRecDepth 100000
open Go.RowKit Go.Lib
namespace Look
theorem DdB.setA {w w' : World} {F : Nat → Prop} {g : Nat} {nm : List UInt8} {L : List Open} {sg n cap : Nat} (h : On F w (DdB g nm L (.slice (some ⟨sg, 0, none⟩) n cap)) w') (m : Nat) (hm : m < L.length) (c : Open) (hc : L[m]? = some c) (s : St) :
    On F w (DdB g nm (L.set m { c with a := s }) (.slice (some ⟨sg, 0, none⟩) n cap)) (((w'.setCell ⟨sg, m * 8 + 1, none⟩ (.int .i64 s.h)).setCell ⟨sg, m * 8 + 2, none⟩ (.int .i64 s.r)).setCell ⟨sg, m * 8 + 3, none⟩ (.bool s.dead)) := by
  have hc1 : L[m] = c := by rw [List.getElem?_eq_getElem hm] at hc; exact Option.some.inj hc
  have h1 := DdB.setThing h m 1 (.int .i64 s.h) { c with a := ⟨s.h, c.a.r, c.a.dead⟩ } hm (by omega) (by rw [hc1]; rfl)
  have h2 := DdB.setThing h1 m 2 (.int .i64 s.r) { c with a := ⟨s.h, s.r, c.a.dead⟩ } (by rw [List.length_set]; exact hm) (by omega) (by rw [List.getElem_set_self]; rfl)
  have h3 := DdB.setThing h2 m 3 (.bool s.dead) { c with a := s } (by rw [List.length_set, List.length_set]; exact hm) (by omega) (by rw [List.getElem_set_self]; rfl)
  rw [List.set_set, List.set_set] at h3
  exact h3
set_option maxHeartbeats 4000000 in
theorem d_cases_endof (g : Nat) (nm : List UInt8) (l2 : List Open) (c o : Open) (hk : o.kind = 33) (sg cap : Nat) (w : World) (F : Nat → Prop) (hb : (DdB g nm ((l2 ++ [c]) ++ [o]) (.slice (some ⟨sg, 0, none⟩) ((l2 ++ [c]).length + 1) cap)).holds w F) :
    Calls Tryz.prog 115 #[.pointer (some ⟨g, 0, none⟩), .int .i64 34] w (Post (fun u B => u = .tuple #[] ∧ ∃ l' v', Went ((l2 ++ [c]) ++ [o]) l' ∧ B = DdB g nm l' v') F w) := by
  have hon := On.refl hb
  have htp := fun w1 F' hb' => d_top_some g nm (l2 ++ [c]) o sg cap w1 F' hb'
  rw [hk] at htp
  have hmt := fun s w1 F' hb' => d_joined g nm ((l2 ++ [c]) ++ [o]) (.slice (some ⟨sg, 0, none⟩) ((l2 ++ [c]).length + 1) cap) c.a s w1 F' hb'
  have hcl := fun (c' : Open) w1 F' hb' => d_closes g nm (((l2 ++ [c]) ++ [o]).set l2.length c') (.slice (some ⟨sg, 0, none⟩) ((l2 ++ [c]).length + 1) cap) (by simp) w1 F' hb'
  have hgc : ((l2 ++ [c]) ++ [o])[l2.length]? = some c := by simp
  have hgo : ∀ c', (((l2 ++ [c]) ++ [o]).set l2.length c')[(l2 ++ [c]).length]? = some o := fun c' => by simp
  have hM : (l2 ++ [c]).length = l2.length + 1 := by simp
  have hLL : ((l2 ++ [c]) ++ [o]).length = l2.length + 2 := by simp
  have hw : ∀ c' : Open, c'.kind = c.kind → Went ((l2 ++ [c]) ++ [o]) ((((l2 ++ [c]) ++ [o]).set l2.length c').dropLast) := fun c' h => ⟨fun hh => (hh.set l2.length c' (.inr ⟨c, hgc, h⟩)).dropLast, by rw [List.length_dropLast, List.length_set]; omega⟩
  obtain ⟨hrow0, _⟩ := DdB.row_ hon
  have hrow1 := hrow0
  rw [hLL, hM] at hrow1
  obtain ⟨sg', cap', he, hcap, hmax⟩ := stack_form hrow1
  cases he
  have hmb : ((l2.length : Nat) : Int) + 2 ≤ 9223372036854775807 := by unfold maxLen at hmax; omega
  clear hb hrow0 hrow1 hmax
  generalize hL : (l2 ++ [c]) ++ [o] = L at *
  generalize hMM : (l2 ++ [c]).length = M at *
  generalize hmm : l2.length = m at *
  have hLl : L.length = m + 2 := hLL
  have hmL : m < L.length := by omega
  have hML : M < L.length := by omega
  have hi : wrap64 ((M : Int) + 1 - 2) = (m : Int) := by unfold wrap64; omega
  have hmM : m < M + 1 := by omega
  replace hon := Lib.hid hon
  replace htp := Lib.hid htp
  replace hk := Lib.hid hk
  replace hcl := Lib.hid hcl
  replace hmt := Lib.hid hmt
  replace hgc := Lib.hid hgc
  replace hgo := Lib.hid hgo
  replace hw := Lib.hid hw
  clear hL hMM hmm hLL
  replace hLl := Lib.hid hLl
  replace hmL := Lib.hid hmL
  replace hML := Lib.hid hML
  replace hM := Lib.hid hM
  go_enter Tryz.func115, Tryz.ntmps115
  go_wp2_with fail
  refine (hon.out.call fun F' hb' => htp.out _ F' hb').mono ?_
  rintro e w1 ⟨v, A', ⟨rfl, rfl⟩, rfl, hon1⟩
  obtain ⟨kn, nd, lo, n0, h0, r, dd, en, hh, hkb⟩ := DdB.open_ hon1
  obtain ⟨hrow, hne0⟩ := DdB.row_ hon1
  have hne : g ≠ sg := fun e => hne0 (by rw [e]; rfl)
  have c5 := hkb.cell 5
  have c6 := hkb.cell 6
  have c7 := hkb.cell 7
  have c8 := hkb.cell 8
  simp only [ddC] at c5 c6 c7 c8
  simp at c5 c6 c7 c8
  have x1 := thing_cell hrow m 1 hmL.out (by omega)
  have x2 := thing_cell hrow m 2 hmL.out (by omega)
  have x3 := thing_cell hrow m 3 hmL.out (by omega)
  have hgc1 : L[m]'hmL.out = c := by have := hgc.out; rw [List.getElem?_eq_getElem hmL.out] at this; exact Option.some.inj this
  rw [hgc1] at x1 x2 x3
  clear hgc1
  simp [openC, stC] at x1 x2 x3
  have hmt1 := hmt.out ⟨h0, r, dd⟩
  unfold stV stC at hmt1
  clear hkb hrow hne0
  replace hmt1 := Lib.hid hmt1
  replace hon1 := Lib.hid hon1
  go_wp2_with fail
  go_quiet (fail)
  go_wp2_with fail
  go_region_with ((go_at_call 140; refine (((hon1.out.drewN nq).drew).call fun F' hb' => hmt1.out _ F' hb').mono ?_; rintro e w2 ⟨v, A', ⟨s1, rfl, rfl⟩, rfl, hon2⟩; obtain ⟨hrow2, _⟩ := DdB.row_ hon2; have x1b := thing_cell hrow2 m 1 hmL.out (by omega); have x2b := thing_cell hrow2 m 2 hmL.out (by omega); have x3b := thing_cell hrow2 m 3 hmL.out (by omega); have hgc1 : L[m]'hmL.out = c := (by have := hgc.out; rw [List.getElem?_eq_getElem hmL.out] at this; exact Option.some.inj this); rw [hgc1] at x1b x2b x3b; simp [openC, stC] at x1b x2b x3b; have y1b := thing_frozen hrow2 (m * 8 + 1); have y2b := thing_frozen hrow2 (m * 8 + 2); have y3b := thing_frozen hrow2 (m * 8 + 3); clear hrow2 hgc1; replace hon2 := Lib.hid hon2))
  all_goals
    have hon3 := DdB.setA hon2.out m hmL.out c hgc.out s1
    obtain ⟨w3, hw3⟩ : ∃ w3, (((w2.setCell ⟨sg, m * 8 + 1, none⟩ (.int .i64 s1.h)).setCell ⟨sg, m * 8 + 2, none⟩ (.int .i64 s1.r)).setCell ⟨sg, m * 8 + 3, none⟩ (.bool s1.dead)) = w3 := ⟨_, rfl⟩
    rw [hw3] at hon3 ⊢
    clear hw3 c5 c6 c7 c8 x1 x2 x3 x1b x2b x3b y1b y2b y3b hon2
    obtain ⟨kn2, nd2, lo2, n2, h2, r2, dd2, en2, hh2, hkb2⟩ := DdB.open_ hon3
    obtain ⟨hrow3, hne3⟩ := DdB.row_ hon3
    have c5 := hkb2.cell 5
    have c6 := hkb2.cell 6
    have c7 := hkb2.cell 7
    have f5 := hkb2.frozen 5
    have f6 := hkb2.frozen 6
    have f7 := hkb2.frozen 7
    simp only [ddC] at c5 c6 c7
    simp at c5 c6 c7
    have hMl : M < (L.set m { c with a := s1 }).length := by rw [List.length_set]; exact hML.out
    have x1 := thing_cell hrow3 M 1 hMl (by omega)
    have x2 := thing_cell hrow3 M 2 hMl (by omega)
    have x3 := thing_cell hrow3 M 3 hMl (by omega)
    have hgo1 : (L.set m { c with a := s1 })[M]'hMl = o := by have := hgo.out { c with a := s1 }; rw [List.getElem?_eq_getElem hMl] at this; exact Option.some.inj this
    rw [hgo1] at x1 x2 x3
    simp [openC, stC] at x1 x2 x3
    have hon4 := DdB.setSt hon3 o.a
    have hcl1 := hcl.out { c with a := s1 }
    clear hkb2 hrow3 hne3 hgo1 hon3
    replace hMl := Lib.hid hMl
    replace hon4 := Lib.hid hon4
    replace hcl1 := Lib.hid hcl1
    go_wp2_with fail
    refine (hon4.out.call fun F' hb' => hcl1.out _ F' hb').mono ?_
    rintro e w5 ⟨v, A', ⟨rfl, vs', rfl⟩, rfl, hon5⟩
    replace hon5 := Lib.hid hon5
    go_wp2
    go_end0
    first
      | exact hon5.out.post ⟨rfl, _, _, hw.out { c with a := s1 } rfl, rfl⟩
      | exact hon5.out.post ⟨rfl, _, hw.out { c with a := s1 } rfl, _, rfl⟩
end Look
end Go.Proofs.YthejfkkmcbdlhaaGreatDoor
