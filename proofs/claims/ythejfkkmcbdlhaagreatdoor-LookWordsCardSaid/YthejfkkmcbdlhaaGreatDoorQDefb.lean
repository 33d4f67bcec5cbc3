/- Chapter 19: branch (IF, ELSE, THEN). Condition: fewer things open than a text has bytes. -/
import Derived.Test.YthejfkkmcbdlhaaGreatDoorQDefa
import Derived.Deep.RegionWith
import Derived.Test.YthejfkkmcbdlhaaGreatDoorQSpec
namespace Go.Proofs.YthejfkkmcbdlhaaGreatDoor
set_option linter.unusedVariables false
open Go.RowKit Go.Lib
namespace Look
theorem stackC_set : ∀ (l : List Open) (i j : Nat) (o' : Open) (u : Value) (hi : i < l.length) (hj : j < 8) (ho : (openC (l[i])).set j u = openC o'), (stackC l).set (i * 8 + j) u = stackC (l.set i o')
  | [], _, _, _, _, h, _, _ => by simp at h
  | o :: l, 0, j, o', u, _, hj, ho => by
    unfold stackC
    rw [List.flatMap_cons, List.set_append_left _ _ (by rw [openC_len]; omega)]
    simp at ho
    simp [ho]
  | o :: l, i + 1, j, o', u, h, hj, ho => by
    have ih := stackC_set l i j o' u (by simpa using h) hj (by simpa using ho)
    unfold stackC at ih ⊢
    rw [List.flatMap_cons, List.set_append_right _ _ (by rw [openC_len]; omega), openC_len, show (i + 1) * 8 + j - 8 = i * 8 + j by omega, ih]
    simp
/-- a cell of a thing that is open turned -/
theorem DefAt.setElem {w : World} {g : Nat} {d d' : Def} {sg n cap : Nat} {ve : Value} (h : DefAt w g d (.slice (some ⟨sg, 0, none⟩) n cap) ve) (hn : n = d.stack.length) (i j : Nat) (hi : i < d.stack.length) (hj : j < 8) (o' : Open) (u : Value) (ho : (openC (d.stack[i])).set j u = openC o')
    (hd' : d' = { d with stack := d.stack.set i o' }) :
    DefAt (w.setCell ⟨sg, i * 8 + j, none⟩ u) g d' (.slice (some ⟨sg, 0, none⟩) n cap) ve := by
  subst hd'
  have hne : g ≠ sg := fun e => h.ne1 (by rw [e]; rfl)
  refine ⟨h.blk.far (p := ⟨sg, i * 8 + j, none⟩) hne u, ?_, ?_, h.ne1, h.ne2, h.ne3⟩
  · have h1 := h.stack
    subst hn
    have h2 := ownsRow_set h1 (i := i * 8 + j) (by rw [stackC_len]; omega) u
    rw [stackC_set d.stack i j o' u hi hj ho] at h2
    show World.ownsRow _ _ _ _ _ (d.stack.set i o').length _
    rw [List.length_set]
    exact h2
  · exact ownsRow_of_block h.ends fun k hv => Below.heap_setCell _ _ _ _ (fun e => h.ne3 sg rfl (by subst e; exact hv))
theorem DefB.setElem {w w' : World} {F : Nat → Prop} {g : Nat} {d d' : Def} {sg n cap : Nat} {ve : Value} (h : On F w (DefB g d (.slice (some ⟨sg, 0, none⟩) n cap) ve) w') (hn : n = d.stack.length) (i j : Nat) (hi : i < d.stack.length) (hj : j < 8) (o' : Open) (u : Value) (ho : (openC (d.stack[i])).set j u = openC o')
    (hd' : d' = { d with stack := d.stack.set i o' }) : On F w (DefB g d' (.slice (some ⟨sg, 0, none⟩) n cap) ve) (w'.setCell ⟨sg, i * 8 + j, none⟩ u) :=
  h.step fun F' hb => ⟨F', ⟨hb.1.setElem hn i j hi hj o' u ho hd', hb.2⟩, kept_setAt (Kept.refl F' w') ((hb.2 sg).2 (.inr (.inl rfl))) _ _, fun k h => .inl h⟩
set_option maxHeartbeats 1000000 in
theorem branch_if (g : Nat) (d : Def) (hn : d.stack.length ≤ 100000) (vs ve : Value) (w : World) (F : Nat → Prop) (hb : (DefB g d vs ve).holds w F) :
    Calls Tryz.prog 153 #[.pointer (some ⟨g, 0, none⟩), .int .i64 19] w (Post (fun u B => u = .tuple #[] ∧ ∃ vs', B = DefB g (d.branch 19) vs' ve) F w) := by
  have hon := On.refl hb
  have e1 : d.branch 19 = (d.takes 1 0).opens ⟨19, (d.takes 1 0).s, st0, false⟩ := rfl
  have htk := fun w1 F' hb' => takes_walk g d 1 0 vs ve w1 F' hb'
  have hs1 : (d.takes 1 0).stack = d.stack := by unfold Def.takes; split <;> rfl
  rw [e1]
  generalize d.takes 1 0 = d1 at *
  have hop := fun w1 F' hb' => opens_walk g d1 ⟨19, d1.s, st0, false⟩ (by rw [hs1]; exact hn) vs ve w1 F' hb'
  clear hs1 hn e1
  replace hon := Lib.hid hon
  replace htk := Lib.hid htk
  replace hop := Lib.hid hop
  go_enter Tryz.func153, Tryz.ntmps153
  go_wp2_with fail
  refine (hon.out.call fun F' hb' => htk.out _ F' hb').mono ?_
  rintro e w1 ⟨v, A', ⟨rfl, rfl⟩, rfl, hon1⟩
  obtain ⟨F1, hb1, _⟩ := id hon1
  have c7 := hb1.1.blk.cell 7
  have c8 := hb1.1.blk.cell 8
  have c9 := hb1.1.blk.cell 9
  simp [defC] at c7 c8 c9
  replace hb1 := Lib.hid hb1
  replace hon1 := Lib.hid hon1
  go_wp2_with fail
  refine (hon1.out.call fun F' hb' => hop.out _ F' hb').mono ?_
  rintro e w2 ⟨v, A', ⟨rfl, vs', rfl⟩, rfl, hon2⟩
  replace hon2 := Lib.hid hon2
  clear c7 c8 c9
  go_wp2
  go_end0
  exact hon2.out.post ⟨rfl, _, rfl⟩
set_option maxHeartbeats 1000000 in
theorem branch_none (g : Nat) (d : Def) (k : Nat) (hk : k = 20 ∨ k = 21) (ht : d.top 19 = none) (vs ve : Value) (w : World) (F : Nat → Prop) (hb : (DefB g d vs ve).holds w F) :
    Calls Tryz.prog 153 #[.pointer (some ⟨g, 0, none⟩), .int .i64 (k : Int)] w (Post (fun u B => u = .tuple #[] ∧ ∃ vs', B = DefB g (d.branch k) vs' ve) F w) := by
  have hon := On.refl hb
  have htp := fun w1 F' hb' => top_none g d 19 ht vs ve w1 F' hb'
  have e1 : d.branch k = d.bad := by
    unfold Def.branch
    rw [if_neg (by omega), ht]
  rw [e1]
  clear ht e1 hb
  replace hon := Lib.hid hon
  replace htp := Lib.hid htp
  rcases hk with rfl | rfl
  all_goals
    go_enter Tryz.func153, Tryz.ntmps153
    go_wp2_with fail
    refine (hon.out.call fun F' hb' => htp.out _ F' hb').mono ?_
    rintro e w1 ⟨v, A', ⟨rfl, rfl⟩, rfl, hon1⟩
    replace hon1 := Lib.hid hon1
    go_wp2
    go_end0
    exact hon1.out.post ⟨rfl, _, rfl⟩
theorem top_form {d : Def} {k : Nat} {o : Open} (h : d.top k = some o) : o.kind = k ∧ d.stack = d.stack.dropLast ++ [o] := by
  unfold Def.top at h
  rcases List.eq_nil_or_concat d.stack with h0 | ⟨l, x, h0⟩
  · rw [h0] at h; simp at h
  · rw [List.concat_eq_append] at h0
    rw [h0, List.getLast?_concat] at h
    simp only at h
    split at h
    · next hk => cases h; exact ⟨hk, by rw [h0, List.dropLast_concat]⟩
    · cases h
theorem set_last (l : List Open) (o o' : Open) : (l ++ [o]).set l.length o' = l ++ [o'] := by simp
/-- a cell of the topmost thing turned -/
theorem DefB.setLast {w w' : World} {F : Nat → Prop} {g : Nat} {d : Def} {sg cap : Nat} {ve : Value} {l : List Open} {o : Open} (h : On F w (DefB g { d with stack := l ++ [o] } (.slice (some ⟨sg, 0, none⟩) (l.length + 1) cap) ve) w') (j : Nat) (hj : j < 8) (o' : Open) (u : Value) (ho : (openC o).set j u = openC o') :
    On F w (DefB g { d with stack := l ++ [o'] } (.slice (some ⟨sg, 0, none⟩) (l.length + 1) cap) ve) (w'.setCell ⟨sg, l.length * 8 + j, none⟩ u) :=
  DefB.setElem h (by simp) l.length j (by simp) hj o' u (by simpa using ho) (by simp)
set_option maxHeartbeats 2000000 in
theorem branch_else (g : Nat) (d : Def) (l : List Open) (o : Open) (hk : o.kind = 19) (hd : d.stack = l ++ [o]) (sg cap : Nat) (ve : Value) (w : World) (F : Nat → Prop) (hb : (DefB g d (.slice (some ⟨sg, 0, none⟩) (l.length + 1) cap) ve).holds w F) :
    Calls Tryz.prog 153 #[.pointer (some ⟨g, 0, none⟩), .int .i64 20] w (Post (fun u B => u = .tuple #[] ∧ B = DefB g { d with s := o.a, stack := l ++ [{ o with a := d.s }] } (.slice (some ⟨sg, 0, none⟩) (l.length + 1) cap) ve) F w) := by
  have hon := On.refl hb
  have htp := fun w1 F' hb' => top_some g d l o hd sg cap ve w1 F' hb'
  rw [hk] at htp
  obtain ⟨h, hF⟩ := hb
  have hlen : d.stack.length = l.length + 1 := by rw [hd]; simp
  have hne : g ≠ sg := fun e => h.ne1 (by rw [e]; rfl)
  have hget : d.stack[l.length]'(by omega) = o := by simp [hd]
  replace hon := Lib.hid hon
  replace htp := Lib.hid htp
  clear h hF
  replace hlen := Lib.hid hlen
  replace hget := Lib.hid hget
  replace hd := Lib.hid hd
  replace hk := Lib.hid hk
  go_enter Tryz.func153, Tryz.ntmps153
  go_wp2_with fail
  refine (hon.out.call fun F' hb' => htp.out _ F' hb').mono ?_
  rintro e w1 ⟨v, A', ⟨rfl, rfl⟩, rfl, hon1⟩
  obtain ⟨F1, hb1, _⟩ := id hon1
  have c7 := hb1.1.blk.cell 7
  have c8 := hb1.1.blk.cell 8
  have c9 := hb1.1.blk.cell 9
  have f7 := hb1.1.blk.frozen 7
  have f8 := hb1.1.blk.frozen 8
  have f9 := hb1.1.blk.frozen 9
  have x1 := hb1.1.cell l.length 1 (by have := hlen.out; omega) (by omega)
  have x2 := hb1.1.cell l.length 2 (by have := hlen.out; omega) (by omega)
  have x3 := hb1.1.cell l.length 3 (by have := hlen.out; omega) (by omega)
  have y1 := hb1.1.cellFrozen (l.length * 8 + 1)
  have y2 := hb1.1.cellFrozen (l.length * 8 + 2)
  have y3 := hb1.1.cellFrozen (l.length * 8 + 3)
  rw [hget.out] at x1 x2 x3
  simp [openC, stC] at x1 x2 x3
  simp [defC] at c7 c8 c9
  replace hb1 := Lib.hid hb1
  replace hon1 := Lib.hid hon1
  go_wp2_with fail
  go_region
  have hon2 : On F w (DefB g { ({ d with s := o.a } : Def) with stack := l ++ [o] } (.slice (some ⟨sg, 0, none⟩) (l.length + 1) cap) ve) _ := hd.out ▸ DefB.setSt hon1.out o.a
  have hon5 := ((DefB.setLast (DefB.setLast (DefB.setLast hon2 1 (by omega) { o with a := ⟨d.s.h, o.a.r, o.a.dead⟩ } (.int .i64 d.s.h) rfl) 2 (by omega) { o with a := ⟨d.s.h, d.s.r, o.a.dead⟩ } (.int .i64 d.s.r) rfl) 3 (by omega) { o with a := d.s } (.bool d.s.dead) rfl)).drew
  clear c7 c8 c9 f7 f8 f9 x1 x2 x3 y1 y2 y3 hon2
  replace hon5 := Lib.hid hon5
  go_wp2
  go_end0
  exact hon5.out.post ⟨rfl, rfl⟩
theorem meet_stack (d : Def) (a b : St) : (d.meet a b).1.stack = d.stack := by
  unfold Def.meet
  split
  · rfl
  · split <;> rfl
set_option maxHeartbeats 2000000 in
theorem branch_then (g : Nat) (d : Def) (l : List Open) (o : Open) (hk : o.kind = 19) (hd : d.stack = l ++ [o]) (sg cap : Nat) (ve : Value) (w : World) (F : Nat → Prop) (hb : (DefB g d (.slice (some ⟨sg, 0, none⟩) (l.length + 1) cap) ve).holds w F) :
    Calls Tryz.prog 153 #[.pointer (some ⟨g, 0, none⟩), .int .i64 21] w (Post (fun u B => u = .tuple #[] ∧ ∃ vs', B = DefB g ({ (d.meet o.a d.s).1 with s := (d.meet o.a d.s).2 } : Def).closes vs' ve) F w) := by
  have hon := On.refl hb
  have htp := fun w1 F' hb' => top_some g d l o hd sg cap ve w1 F' hb'
  rw [hk] at htp
  have hmt := fun w1 F' hb' => meet_walk g d o.a d.s (.slice (some ⟨sg, 0, none⟩) (l.length + 1) cap) ve w1 F' hb'
  have hcl := fun w1 F' hb' => closes_walk g ({ (d.meet o.a d.s).1 with s := (d.meet o.a d.s).2 } : Def) (by show (d.meet o.a d.s).1.stack ≠ []; rw [meet_stack, hd]; simp) (.slice (some ⟨sg, 0, none⟩) (l.length + 1) cap) ve w1 F' hb'
  obtain ⟨d1, hd1⟩ : ∃ d1, (d.meet o.a d.s).1 = d1 := ⟨_, rfl⟩
  obtain ⟨s1, hs1⟩ : ∃ s1, (d.meet o.a d.s).2 = s1 := ⟨_, rfl⟩
  rw [hd1, hs1] at hmt hcl ⊢
  clear hd1 hs1
  obtain ⟨h, hF⟩ := hb
  have hlen : d.stack.length = l.length + 1 := by rw [hd]; simp
  have hne : g ≠ sg := fun e => h.ne1 (by rw [e]; rfl)
  have hget : d.stack[l.length]'(by omega) = o := by simp [hd]
  replace hon := Lib.hid hon
  replace htp := Lib.hid htp
  replace hmt := Lib.hid hmt
  replace hcl := Lib.hid hcl
  clear h hF
  replace hlen := Lib.hid hlen
  replace hget := Lib.hid hget
  replace hd := Lib.hid hd
  replace hk := Lib.hid hk
  go_enter Tryz.func153, Tryz.ntmps153
  go_wp2_with fail
  refine (hon.out.call fun F' hb' => htp.out _ F' hb').mono ?_
  rintro e w1 ⟨v, A', ⟨rfl, rfl⟩, rfl, hon1⟩
  obtain ⟨F1, hb1, _⟩ := id hon1
  have c7 := hb1.1.blk.cell 7
  have c8 := hb1.1.blk.cell 8
  have c9 := hb1.1.blk.cell 9
  have x1 := hb1.1.cell l.length 1 (by have := hlen.out; omega) (by omega)
  have x2 := hb1.1.cell l.length 2 (by have := hlen.out; omega) (by omega)
  have x3 := hb1.1.cell l.length 3 (by have := hlen.out; omega) (by omega)
  rw [hget.out] at x1 x2 x3
  simp [openC, stC] at x1 x2 x3
  simp [defC] at c7 c8 c9
  replace hb1 := Lib.hid hb1
  replace hon1 := Lib.hid hon1
  go_wp2_with fail
  go_region_with ((go_at_call 163; refine ((hon1.out.drew).call fun F' hb' => hmt.out _ F' hb').mono ?_; rintro e w2 ⟨v, A', ⟨rfl, rfl⟩, rfl, hon2⟩; obtain ⟨F2, hb2, _⟩ := id hon2; have c7b := hb2.1.blk.cell 7; have c8b := hb2.1.blk.cell 8; have c9b := hb2.1.blk.cell 9; have f7b := hb2.1.blk.frozen 7; have f8b := hb2.1.blk.frozen 8; have f9b := hb2.1.blk.frozen 9; simp [defC] at c7b c8b c9b; unfold stV stC; replace hb2 := Lib.hid hb2; replace hon2 := Lib.hid hon2))
  all_goals
    have hon3 := DefB.setSt hon2.out s1
    clear c7 c8 c9 x1 x2 x3 c7b c8b c9b f7b f8b f9b hb2
    replace hon3 := Lib.hid hon3
    go_wp2_with fail
    refine (hon3.out.call fun F' hb' => hcl.out _ F' hb').mono ?_
    rintro e w3 ⟨v, A', ⟨rfl, vs', rfl⟩, rfl, hon4⟩
    replace hon4 := Lib.hid hon4
    go_wp2
    go_end0
    exact hon4.out.post ⟨rfl, _, rfl⟩
theorem branch_walk (g : Nat) (d : Def) (k : Nat) (hk : k = 19 ∨ k = 20 ∨ k = 21) (hn : d.stack.length ≤ 100000) (vs ve : Value) (w : World) (F : Nat → Prop) (hb : (DefB g d vs ve).holds w F) :
    Calls Tryz.prog 153 #[.pointer (some ⟨g, 0, none⟩), .int .i64 (k : Int)] w (Post (fun u B => u = .tuple #[] ∧ ∃ vs', B = DefB g (d.branch k) vs' ve) F w) := by
  rcases hk with rfl | hk
  · exact branch_if g d hn vs ve w F hb
  · rcases ht : d.top 19 with _ | o
    · exact branch_none g d k hk ht vs ve w F hb
    · obtain ⟨h1, h2⟩ := top_form ht
      obtain ⟨sg, cap, rfl, _, _⟩ := hb.1.form (by rw [h2]; simp)
      have hlen : d.stack.length = d.stack.dropLast.length + 1 := by have := congrArg List.length h2; rw [List.length_append] at this; exact this
      rw [hlen] at hb
      rcases hk with rfl | rfl
      · have e1 : d.branch 20 = { d with s := o.a, stack := d.stack.dropLast ++ [{ o with a := d.s }] } := by
          unfold Def.branch
          rw [if_neg (by omega), ht]
          rfl
        rw [e1]
        refine (branch_else g d d.stack.dropLast o h1 h2 sg cap ve w F hb).mono ?_
        rintro e w' ⟨v, A', F', ⟨rfl, rfl⟩, h3⟩
        exact ⟨_, _, F', ⟨rfl, _, rfl⟩, h3⟩
      · have e1 : d.branch 21 = ({ (d.meet o.a d.s).1 with s := (d.meet o.a d.s).2 } : Def).closes := by
          unfold Def.branch
          rw [if_neg (by omega), ht]
          rfl
        rw [e1]
        exact branch_then g d d.stack.dropLast o h1 h2 sg cap ve w F hb
end Look
end Go.Proofs.YthejfkkmcbdlhaaGreatDoor
/- Chapter 19: turns (BEGIN, AGAIN, UNTIL, WHILE, REPEAT). Condition: fewer things open than a text has bytes. -/
namespace Go.Proofs.YthejfkkmcbdlhaaGreatDoor
set_option linter.unusedVariables false
open Go.RowKit Go.Lib
namespace Look
/-- the cells of the topmost thing -/
theorem DefAt.lastCell {w : World} {g : Nat} {d : Def} {sg cap : Nat} {ve : Value} {l : List Open} {o : Open} (h : DefAt w g d (.slice (some ⟨sg, 0, none⟩) (l.length + 1) cap) ve) (hd : d.stack = l ++ [o]) (j : Nat) (hj : j < 8) : w.cell? ⟨sg, l.length * 8 + j, none⟩ = (openC o)[j]? := by
  have hlen : l.length < d.stack.length := by rw [hd]; simp
  have hget : d.stack[l.length]'hlen = o := by simp [hd]
  rw [h.cell l.length j hlen hj, hget]
set_option maxHeartbeats 1000000 in
theorem turns_begin (g : Nat) (d : Def) (hn : d.stack.length ≤ 100000) (vs ve : Value) (w : World) (F : Nat → Prop) (hb : (DefB g d vs ve).holds w F) :
    Calls Tryz.prog 154 #[.pointer (some ⟨g, 0, none⟩), .int .i64 22] w (Post (fun u B => u = .tuple #[] ∧ ∃ vs', B = DefB g (d.turns 22) vs' ve) F w) := by
  have hon := On.refl hb
  have hop := fun w1 F' hb' => opens_walk g d ⟨22, d.s, st0, false⟩ hn vs ve w1 F' hb'
  have c7 := hb.1.blk.cell 7
  have c8 := hb.1.blk.cell 8
  have c9 := hb.1.blk.cell 9
  simp [defC] at c7 c8 c9
  clear hn hb
  replace hon := Lib.hid hon
  replace hop := Lib.hid hop
  go_enter Tryz.func154, Tryz.ntmps154
  go_wp2_with fail
  refine (hon.out.call fun F' hb' => hop.out _ F' hb').mono ?_
  rintro e w2 ⟨v, A', ⟨rfl, vs', rfl⟩, rfl, hon2⟩
  replace hon2 := Lib.hid hon2
  clear c7 c8 c9
  go_wp2
  go_end0
  exact hon2.out.post ⟨rfl, _, rfl⟩
set_option maxHeartbeats 1000000 in
theorem turns_none (g : Nat) (d : Def) (k j : Nat) (hk : k = 23 ∧ j = 22 ∨ k = 26 ∧ j = 25) (ht : d.top j = none) (vs ve : Value) (w : World) (F : Nat → Prop) (hb : (DefB g d vs ve).holds w F) :
    Calls Tryz.prog 154 #[.pointer (some ⟨g, 0, none⟩), .int .i64 (k : Int)] w (Post (fun u B => u = .tuple #[] ∧ ∃ vs', B = DefB g d.bad vs' ve) F w) := by
  have hon := On.refl hb
  have htp := fun w1 F' hb' => top_none g d j ht vs ve w1 F' hb'
  clear ht hb
  replace hon := Lib.hid hon
  replace htp := Lib.hid htp
  rcases hk with ⟨rfl, rfl⟩ | ⟨rfl, rfl⟩
  all_goals
    go_enter Tryz.func154, Tryz.ntmps154
    go_wp2_with fail
    refine (hon.out.call fun F' hb' => htp.out _ F' hb').mono ?_
    rintro e w1 ⟨v, A', ⟨rfl, rfl⟩, rfl, hon1⟩
    replace hon1 := Lib.hid hon1
    go_wp2
    go_end0
    exact hon1.out.post ⟨rfl, _, rfl⟩
set_option maxHeartbeats 1000000 in
theorem turns_none2 (g : Nat) (d : Def) (k : Nat) (hk : k = 24 ∨ k = 25) (ht : (d.takes 1 0).top 22 = none) (vs ve : Value) (w : World) (F : Nat → Prop) (hb : (DefB g d vs ve).holds w F) :
    Calls Tryz.prog 154 #[.pointer (some ⟨g, 0, none⟩), .int .i64 (k : Int)] w (Post (fun u B => u = .tuple #[] ∧ ∃ vs', B = DefB g (d.takes 1 0).bad vs' ve) F w) := by
  have hon := On.refl hb
  have htk := fun w1 F' hb' => takes_walk g d 1 0 vs ve w1 F' hb'
  have htp := fun w1 F' hb' => top_none g (d.takes 1 0) 22 ht vs ve w1 F' hb'
  generalize d.takes 1 0 = d1 at *
  clear ht hb
  replace hon := Lib.hid hon
  replace htp := Lib.hid htp
  replace htk := Lib.hid htk
  rcases hk with rfl | rfl
  all_goals
    go_enter Tryz.func154, Tryz.ntmps154
    go_wp2_with fail
    refine (hon.out.call fun F' hb' => htk.out _ F' hb').mono ?_
    rintro e w1 ⟨v, A', ⟨rfl, rfl⟩, rfl, hon1⟩
    replace hon1 := Lib.hid hon1
    go_wp2_with fail
    refine (hon1.out.call fun F' hb' => htp.out _ F' hb').mono ?_
    rintro e w2 ⟨v, A', ⟨rfl, rfl⟩, rfl, hon2⟩
    replace hon2 := Lib.hid hon2
    go_wp2
    go_end0
    exact hon2.out.post ⟨rfl, _, rfl⟩
set_option maxHeartbeats 2000000 in
theorem turns_until (g : Nat) (d : Def) (l : List Open) (o : Open) (hk : o.kind = 22) (hd : d.stack = l ++ [o]) (sg cap : Nat) (ve : Value) (w : World) (F : Nat → Prop) (hb : (DefB g d (.slice (some ⟨sg, 0, none⟩) (l.length + 1) cap) ve).holds w F) :
    Calls Tryz.prog 154 #[.pointer (some ⟨g, 0, none⟩), .int .i64 24] w (Post (fun u B => u = .tuple #[] ∧ ∃ vs', B = DefB g (((d.takes 1 0).meet o.a (d.takes 1 0).s).1).closes vs' ve) F w) := by
  have hon := On.refl hb
  have htk := fun w1 F' hb' => takes_walk g d 1 0 (.slice (some ⟨sg, 0, none⟩) (l.length + 1) cap) ve w1 F' hb'
  have hs1 : (d.takes 1 0).stack = l ++ [o] := by rw [← hd]; unfold Def.takes; split <;> rfl
  have htp := fun w1 F' hb' => top_some g (d.takes 1 0) l o hs1 sg cap ve w1 F' hb'
  rw [hk] at htp
  have hmt := fun w1 F' hb' => meet_walk g (d.takes 1 0) o.a (d.takes 1 0).s (.slice (some ⟨sg, 0, none⟩) (l.length + 1) cap) ve w1 F' hb'
  have hs2 : ((d.takes 1 0).meet o.a (d.takes 1 0).s).1.stack = l ++ [o] := by rw [meet_stack, hs1]
  have hcl := fun w1 F' hb' => closes_walk g ((((d.takes 1 0).meet o.a (d.takes 1 0).s).1) : Def) (by show ((d.takes 1 0).meet o.a (d.takes 1 0).s).1.stack ≠ []; rw [hs2]; simp) (.slice (some ⟨sg, 0, none⟩) (l.length + 1) cap) ve w1 F' hb'
  clear hd
  generalize d.takes 1 0 = d1 at *
  obtain ⟨d2, hd2⟩ : ∃ d2, (d1.meet o.a d1.s).1 = d2 := ⟨_, rfl⟩
  obtain ⟨s2, hs2'⟩ : ∃ s2, (d1.meet o.a d1.s).2 = s2 := ⟨_, rfl⟩
  rw [hd2] at hs2 hcl ⊢
  rw [hd2, hs2'] at hmt
  clear hd2 hs2'
  have hne : g ≠ sg := fun e => hb.1.ne1 (by rw [e]; rfl)
  clear hb
  replace hon := Lib.hid hon
  replace htp := Lib.hid htp
  replace hmt := Lib.hid hmt
  replace hcl := Lib.hid hcl
  replace hs1 := Lib.hid hs1
  replace hs2 := Lib.hid hs2
  replace hk := Lib.hid hk
  replace htk := Lib.hid htk
  go_enter Tryz.func154, Tryz.ntmps154
  go_wp2_with fail
  refine (hon.out.call fun F' hb' => htk.out _ F' hb').mono ?_
  rintro e w0 ⟨v, A', ⟨rfl, rfl⟩, rfl, hon0⟩
  replace hon0 := Lib.hid hon0
  go_wp2_with fail
  refine (hon0.out.call fun F' hb' => htp.out _ F' hb').mono ?_
  rintro e w1 ⟨v, A', ⟨rfl, rfl⟩, rfl, hon1⟩
  obtain ⟨F1, hb1, _⟩ := id hon1
  have c7 := hb1.1.blk.cell 7
  have c8 := hb1.1.blk.cell 8
  have c9 := hb1.1.blk.cell 9
  have x1 := hb1.1.lastCell hs1.out 1 (by omega)
  have x2 := hb1.1.lastCell hs1.out 2 (by omega)
  have x3 := hb1.1.lastCell hs1.out 3 (by omega)
  simp [openC, stC] at x1 x2 x3
  simp [defC] at c7 c8 c9
  replace hb1 := Lib.hid hb1
  replace hon1 := Lib.hid hon1
  go_wp2_with fail
  go_region_with ((go_at_call 163; refine ((hon1.out.drew).call fun F' hb' => hmt.out _ F' hb').mono ?_; rintro e w2 ⟨v, A', ⟨rfl, rfl⟩, rfl, hon2⟩; unfold stV stC; replace hon2 := Lib.hid hon2))
  all_goals
    clear c7 c8 c9 x1 x2 x3
    go_wp2_with fail
    refine (hon2.out.call fun F' hb' => hcl.out _ F' hb').mono ?_
    rintro e w3 ⟨v, A', ⟨rfl, vs', rfl⟩, rfl, hon4⟩
    replace hon4 := Lib.hid hon4
    go_wp2
    go_end0
    exact hon4.out.post ⟨rfl, _, rfl⟩
set_option maxHeartbeats 2000000 in
theorem turns_again (g : Nat) (d : Def) (l : List Open) (o : Open) (hk : o.kind = 22) (hd : d.stack = l ++ [o]) (sg cap : Nat) (ve : Value) (w : World) (F : Nat → Prop) (hb : (DefB g d (.slice (some ⟨sg, 0, none⟩) (l.length + 1) cap) ve).holds w F) :
    Calls Tryz.prog 154 #[.pointer (some ⟨g, 0, none⟩), .int .i64 23] w (Post (fun u B => u = .tuple #[] ∧ ∃ vs', B = DefB g ({ (d.meet o.a d.s).1 with s := stDead } : Def).closes vs' ve) F w) := by
  have hon := On.refl hb
  have hs1 : d.stack = l ++ [o] := hd
  have htp := fun w1 F' hb' => top_some g d l o hs1 sg cap ve w1 F' hb'
  rw [hk] at htp
  have hmt := fun w1 F' hb' => meet_walk g d o.a d.s (.slice (some ⟨sg, 0, none⟩) (l.length + 1) cap) ve w1 F' hb'
  have hs2 : (d.meet o.a d.s).1.stack = l ++ [o] := by rw [meet_stack, hs1]
  have hcl := fun w1 F' hb' => closes_walk g (({ (d.meet o.a d.s).1 with s := stDead } : Def) : Def) (by show (d.meet o.a d.s).1.stack ≠ []; rw [hs2]; simp) (.slice (some ⟨sg, 0, none⟩) (l.length + 1) cap) ve w1 F' hb'
  obtain ⟨d1, hd1⟩ : ∃ d1, d = d1 := ⟨_, rfl⟩
  rw [hd1] at hs1 htp hmt hs2 hcl hon ⊢
  clear hd1 hd
  obtain ⟨d2, hd2⟩ : ∃ d2, (d1.meet o.a d1.s).1 = d2 := ⟨_, rfl⟩
  obtain ⟨s2, hs2'⟩ : ∃ s2, (d1.meet o.a d1.s).2 = s2 := ⟨_, rfl⟩
  rw [hd2] at hs2 hcl ⊢
  rw [hd2, hs2'] at hmt
  clear hd2 hs2'
  have hne : g ≠ sg := fun e => hb.1.ne1 (by rw [e]; rfl)
  clear hb
  replace hon := Lib.hid hon
  replace htp := Lib.hid htp
  replace hmt := Lib.hid hmt
  replace hcl := Lib.hid hcl
  replace hs1 := Lib.hid hs1
  replace hs2 := Lib.hid hs2
  replace hk := Lib.hid hk
  go_enter Tryz.func154, Tryz.ntmps154
  go_wp2_with fail
  have hon0 := hon
  refine (hon0.out.call fun F' hb' => htp.out _ F' hb').mono ?_
  rintro e w1 ⟨v, A', ⟨rfl, rfl⟩, rfl, hon1⟩
  obtain ⟨F1, hb1, _⟩ := id hon1
  have c7 := hb1.1.blk.cell 7
  have c8 := hb1.1.blk.cell 8
  have c9 := hb1.1.blk.cell 9
  have x1 := hb1.1.lastCell hs1.out 1 (by omega)
  have x2 := hb1.1.lastCell hs1.out 2 (by omega)
  have x3 := hb1.1.lastCell hs1.out 3 (by omega)
  simp [openC, stC] at x1 x2 x3
  simp [defC] at c7 c8 c9
  replace hb1 := Lib.hid hb1
  replace hon1 := Lib.hid hon1
  go_wp2_with fail
  go_region_with ((go_at_call 163; refine ((hon1.out.drew).call fun F' hb' => hmt.out _ F' hb').mono ?_; rintro e w2 ⟨v, A', ⟨rfl, rfl⟩, rfl, hon2⟩; unfold stV stC; replace hon2 := Lib.hid hon2))
  all_goals
    clear c7 c8 c9 x1 x2 x3
    obtain ⟨F2, hb2, _⟩ := id hon2.out
    have c7 := hb2.1.blk.cell 7
    have c8 := hb2.1.blk.cell 8
    have c9 := hb2.1.blk.cell 9
    have f7 := hb2.1.blk.frozen 7
    have f8 := hb2.1.blk.frozen 8
    have f9 := hb2.1.blk.frozen 9
    have x4 := hb2.1.lastCell hs2.out 4 (by omega)
    have x5 := hb2.1.lastCell hs2.out 5 (by omega)
    have x6 := hb2.1.lastCell hs2.out 6 (by omega)
    simp [openC, stC] at x4 x5 x6
    simp [defC] at c7 c8 c9
    replace hb2 := Lib.hid hb2
    have hon3 := DefB.setSt hon2.out stDead
    replace hon3 := Lib.hid hon3
    go_wp2_with fail
    refine (hon3.out.call fun F' hb' => hcl.out _ F' hb').mono ?_
    rintro e w3 ⟨v, A', ⟨rfl, vs', rfl⟩, rfl, hon4⟩
    replace hon4 := Lib.hid hon4
    clear c7 c8 c9 f7 f8 f9 x4 x5 x6
    go_wp2
    go_end0
    exact hon4.out.post ⟨rfl, _, rfl⟩
set_option maxHeartbeats 2000000 in
theorem turns_repeat (g : Nat) (d : Def) (l : List Open) (o : Open) (hk : o.kind = 25) (hd : d.stack = l ++ [o]) (sg cap : Nat) (ve : Value) (w : World) (F : Nat → Prop) (hb : (DefB g d (.slice (some ⟨sg, 0, none⟩) (l.length + 1) cap) ve).holds w F) :
    Calls Tryz.prog 154 #[.pointer (some ⟨g, 0, none⟩), .int .i64 26] w (Post (fun u B => u = .tuple #[] ∧ ∃ vs', B = DefB g ({ (d.meet o.a d.s).1 with s := o.b } : Def).closes vs' ve) F w) := by
  have hon := On.refl hb
  have hs1 : d.stack = l ++ [o] := hd
  have htp := fun w1 F' hb' => top_some g d l o hs1 sg cap ve w1 F' hb'
  rw [hk] at htp
  have hmt := fun w1 F' hb' => meet_walk g d o.a d.s (.slice (some ⟨sg, 0, none⟩) (l.length + 1) cap) ve w1 F' hb'
  have hs2 : (d.meet o.a d.s).1.stack = l ++ [o] := by rw [meet_stack, hs1]
  have hcl := fun w1 F' hb' => closes_walk g (({ (d.meet o.a d.s).1 with s := o.b } : Def) : Def) (by show (d.meet o.a d.s).1.stack ≠ []; rw [hs2]; simp) (.slice (some ⟨sg, 0, none⟩) (l.length + 1) cap) ve w1 F' hb'
  obtain ⟨d1, hd1⟩ : ∃ d1, d = d1 := ⟨_, rfl⟩
  rw [hd1] at hs1 htp hmt hs2 hcl hon ⊢
  clear hd1 hd
  obtain ⟨d2, hd2⟩ : ∃ d2, (d1.meet o.a d1.s).1 = d2 := ⟨_, rfl⟩
  obtain ⟨s2, hs2'⟩ : ∃ s2, (d1.meet o.a d1.s).2 = s2 := ⟨_, rfl⟩
  rw [hd2] at hs2 hcl ⊢
  rw [hd2, hs2'] at hmt
  clear hd2 hs2'
  have hne : g ≠ sg := fun e => hb.1.ne1 (by rw [e]; rfl)
  clear hb
  replace hon := Lib.hid hon
  replace htp := Lib.hid htp
  replace hmt := Lib.hid hmt
  replace hcl := Lib.hid hcl
  replace hs1 := Lib.hid hs1
  replace hs2 := Lib.hid hs2
  replace hk := Lib.hid hk
  go_enter Tryz.func154, Tryz.ntmps154
  go_wp2_with fail
  have hon0 := hon
  refine (hon0.out.call fun F' hb' => htp.out _ F' hb').mono ?_
  rintro e w1 ⟨v, A', ⟨rfl, rfl⟩, rfl, hon1⟩
  obtain ⟨F1, hb1, _⟩ := id hon1
  have c7 := hb1.1.blk.cell 7
  have c8 := hb1.1.blk.cell 8
  have c9 := hb1.1.blk.cell 9
  have x1 := hb1.1.lastCell hs1.out 1 (by omega)
  have x2 := hb1.1.lastCell hs1.out 2 (by omega)
  have x3 := hb1.1.lastCell hs1.out 3 (by omega)
  simp [openC, stC] at x1 x2 x3
  simp [defC] at c7 c8 c9
  replace hb1 := Lib.hid hb1
  replace hon1 := Lib.hid hon1
  go_wp2_with fail
  go_region_with ((go_at_call 163; refine ((hon1.out.drew).call fun F' hb' => hmt.out _ F' hb').mono ?_; rintro e w2 ⟨v, A', ⟨rfl, rfl⟩, rfl, hon2⟩; unfold stV stC; replace hon2 := Lib.hid hon2))
  all_goals
    clear c7 c8 c9 x1 x2 x3
    obtain ⟨F2, hb2, _⟩ := id hon2.out
    have c7 := hb2.1.blk.cell 7
    have c8 := hb2.1.blk.cell 8
    have c9 := hb2.1.blk.cell 9
    have f7 := hb2.1.blk.frozen 7
    have f8 := hb2.1.blk.frozen 8
    have f9 := hb2.1.blk.frozen 9
    have x4 := hb2.1.lastCell hs2.out 4 (by omega)
    have x5 := hb2.1.lastCell hs2.out 5 (by omega)
    have x6 := hb2.1.lastCell hs2.out 6 (by omega)
    simp [openC, stC] at x4 x5 x6
    simp [defC] at c7 c8 c9
    replace hb2 := Lib.hid hb2
    have hon3 := DefB.setSt hon2.out o.b
    replace hon3 := Lib.hid hon3
    go_wp2_with fail
    refine (hon3.out.call fun F' hb' => hcl.out _ F' hb').mono ?_
    rintro e w3 ⟨v, A', ⟨rfl, vs', rfl⟩, rfl, hon4⟩
    replace hon4 := Lib.hid hon4
    clear c7 c8 c9 f7 f8 f9 x4 x5 x6
    go_wp2
    go_end0
    exact hon4.out.post ⟨rfl, _, rfl⟩
set_option maxHeartbeats 2000000 in
theorem turns_while (g : Nat) (d : Def) (l : List Open) (o : Open) (hk : o.kind = 22) (hd : d.stack = l ++ [o]) (sg cap : Nat) (ve : Value) (w : World) (F : Nat → Prop) (hb : (DefB g d (.slice (some ⟨sg, 0, none⟩) (l.length + 1) cap) ve).holds w F) :
    Calls Tryz.prog 154 #[.pointer (some ⟨g, 0, none⟩), .int .i64 25] w (Post (fun u B => u = .tuple #[] ∧ ∃ vs', B = DefB g { d.takes 1 0 with stack := l ++ [{ o with kind := 25, b := (d.takes 1 0).s }] } vs' ve) F w) := by
  have hon := On.refl hb
  have htk := fun w1 F' hb' => takes_walk g d 1 0 (.slice (some ⟨sg, 0, none⟩) (l.length + 1) cap) ve w1 F' hb'
  have hs1 : (d.takes 1 0).stack = l ++ [o] := by rw [← hd]; unfold Def.takes; split <;> rfl
  have htp := fun w1 F' hb' => top_some g (d.takes 1 0) l o hs1 sg cap ve w1 F' hb'
  rw [hk] at htp
  clear hd
  generalize d.takes 1 0 = d1 at *
  have hne : g ≠ sg := fun e => hb.1.ne1 (by rw [e]; rfl)
  clear hb
  replace hon := Lib.hid hon
  replace htp := Lib.hid htp
  replace hs1 := Lib.hid hs1
  replace hk := Lib.hid hk
  replace htk := Lib.hid htk
  go_enter Tryz.func154, Tryz.ntmps154
  go_wp2_with fail
  refine (hon.out.call fun F' hb' => htk.out _ F' hb').mono ?_
  rintro e w0 ⟨v, A', ⟨rfl, rfl⟩, rfl, hon0⟩
  replace hon0 := Lib.hid hon0
  go_wp2_with fail
  refine (hon0.out.call fun F' hb' => htp.out _ F' hb').mono ?_
  rintro e w1 ⟨v, A', ⟨rfl, rfl⟩, rfl, hon1⟩
  obtain ⟨F1, hb1, _⟩ := id hon1
  have c7 := hb1.1.blk.cell 7
  have c8 := hb1.1.blk.cell 8
  have c9 := hb1.1.blk.cell 9
  have x0 := hb1.1.lastCell hs1.out 0 (by omega)
  have x4 := hb1.1.lastCell hs1.out 4 (by omega)
  have x5 := hb1.1.lastCell hs1.out 5 (by omega)
  have x6 := hb1.1.lastCell hs1.out 6 (by omega)
  have y0 := hb1.1.cellFrozen (l.length * 8)
  have y4 := hb1.1.cellFrozen (l.length * 8 + 4)
  have y5 := hb1.1.cellFrozen (l.length * 8 + 5)
  have y6 := hb1.1.cellFrozen (l.length * 8 + 6)
  simp [openC, stC] at x0 x4 x5 x6
  simp [defC] at c7 c8 c9
  replace hb1 := Lib.hid hb1
  have hon2 : On F w (DefB g { d1 with stack := l ++ [o] } (.slice (some ⟨sg, 0, none⟩) (l.length + 1) cap) ve) w1 := hs1.out ▸ hon1
  have hon6 := DefB.setLast (DefB.setLast (DefB.setLast (DefB.setLast hon2 0 (by omega) { o with kind := 25 } (.int .i64 25) rfl) 4 (by omega) { o with kind := 25, b := ⟨d1.s.h, o.b.r, o.b.dead⟩ } (.int .i64 d1.s.h) rfl) 5 (by omega) { o with kind := 25, b := ⟨d1.s.h, d1.s.r, o.b.dead⟩ } (.int .i64 d1.s.r) rfl) 6 (by omega) { o with kind := 25, b := d1.s } (.bool d1.s.dead) rfl
  replace hon6 := Lib.hid hon6
  clear hon1 hon2
  go_wp2_with fail
  go_end0
  exact hon6.out.post ⟨rfl, _, rfl⟩
theorem takes_stack (d : Def) (t l : Int) : (d.takes t l).stack = d.stack := by unfold Def.takes; split <;> rfl
/-- the row where something is open on top -/
theorem DefB.topped {d d0 : Def} {k : Nat} {o : Open} (ht : d.top k = some o) {g : Nat} {vs ve : Value} {w : World} {F : Nat → Prop} (hb : (DefB g d0 vs ve).holds w F) (hs : d0.stack = d.stack) : ∃ sg cap, vs = .slice (some ⟨sg, 0, none⟩) (d.stack.dropLast.length + 1) cap := by
  obtain ⟨h1, h2⟩ := top_form ht
  obtain ⟨sg, cap, h3, _, _⟩ := hb.1.form (by rw [hs, h2]; simp)
  have hlen : d.stack.length = d.stack.dropLast.length + 1 := by have := congrArg List.length h2; rw [List.length_append] at this; exact this
  rw [hs, hlen] at h3
  exact ⟨sg, cap, h3⟩
theorem turns_walk (g : Nat) (d : Def) (k : Nat) (hk : 22 ≤ k ∧ k ≤ 26) (hn : d.stack.length ≤ 100000) (vs ve : Value) (w : World) (F : Nat → Prop) (hb : (DefB g d vs ve).holds w F) :
    Calls Tryz.prog 154 #[.pointer (some ⟨g, 0, none⟩), .int .i64 (k : Int)] w (Post (fun u B => u = .tuple #[] ∧ ∃ vs', B = DefB g (d.turns k) vs' ve) F w) := by
  have hk' : k = 22 ∨ k = 23 ∨ k = 24 ∨ k = 25 ∨ k = 26 := by omega
  rcases hk' with rfl | rfl | rfl | rfl | rfl
  · exact turns_begin g d hn vs ve w F hb
  · rcases ht : d.top 22 with _ | o
    · have e1 : d.turns 23 = d.bad := by simp [Def.turns, ht]
      rw [e1]
      exact turns_none g d 23 22 (.inl ⟨rfl, rfl⟩) ht vs ve w F hb
    · obtain ⟨h1, h2⟩ := top_form ht
      obtain ⟨sg, cap, rfl⟩ := DefB.topped ht hb rfl
      have e1 : d.turns 23 = ({ (d.meet o.a d.s).1 with s := stDead } : Def).closes := by simp [Def.turns, ht]
      rw [e1]
      exact turns_again g d _ o h1 h2 sg cap ve w F hb
  · rcases ht : (d.takes 1 0).top 22 with _ | o
    · have e1 : d.turns 24 = (d.takes 1 0).bad := by simp [Def.turns, ht]
      rw [e1]
      exact turns_none2 g d 24 (.inl rfl) ht vs ve w F hb
    · obtain ⟨h1, h2⟩ := top_form ht
      obtain ⟨sg, cap, rfl⟩ := DefB.topped ht hb (takes_stack d 1 0).symm
      rw [takes_stack] at h2
      have e1 : d.turns 24 = (((d.takes 1 0).meet o.a (d.takes 1 0).s).1).closes := by simp [Def.turns, ht]
      rw [e1]
      rw [takes_stack] at hb
      exact turns_until g d _ o h1 h2 sg cap ve w F hb
  · rcases ht : (d.takes 1 0).top 22 with _ | o
    · have e1 : d.turns 25 = (d.takes 1 0).bad := by simp [Def.turns, ht]
      rw [e1]
      exact turns_none2 g d 25 (.inr rfl) ht vs ve w F hb
    · obtain ⟨h1, h2⟩ := top_form ht
      obtain ⟨sg, cap, rfl⟩ := DefB.topped ht hb (takes_stack d 1 0).symm
      rw [takes_stack] at h2
      have e1 : d.turns 25 = { d.takes 1 0 with stack := d.stack.dropLast ++ [{ o with kind := 25, b := (d.takes 1 0).s }] } := by simp [Def.turns, ht, Def.setTop, takes_stack]
      rw [e1]
      rw [takes_stack] at hb
      exact turns_while g d _ o h1 h2 sg cap ve w F hb
  · rcases ht : d.top 25 with _ | o
    · have e1 : d.turns 26 = d.bad := by simp [Def.turns, ht]
      rw [e1]
      exact turns_none g d 26 25 (.inr ⟨rfl, rfl⟩) ht vs ve w F hb
    · obtain ⟨h1, h2⟩ := top_form ht
      obtain ⟨sg, cap, rfl⟩ := DefB.topped ht hb rfl
      have e1 : d.turns 26 = ({ (d.meet o.a d.s).1 with s := o.b } : Def).closes := by simp [Def.turns, ht]
      rw [e1]
      exact turns_repeat g d _ o h1 h2 sg cap ve w F hb
end Look
end Go.Proofs.YthejfkkmcbdlhaaGreatDoor
/- Chapter 19: counts (DO, ?DO, LOOP, +LOOP, LEAVE). Condition: fewer things open than a text has bytes. -/
namespace Go.Proofs.YthejfkkmcbdlhaaGreatDoor
set_option linter.unusedVariables false
set_option maxRecDepth 100000
open Go.RowKit Go.Lib
namespace Look
theorem meet_s (d : Def) (a b : St) : (d.meet a b).1.s = d.s := by
  unfold Def.meet
  split
  · rfl
  · split <;> rfl
set_option maxHeartbeats 2000000 in
theorem counts_do (g : Nat) (d : Def) (k : Nat) (hk : k = 27 ∨ k = 28) (hn : d.stack.length ≤ 100000) (vs ve : Value) (w : World) (F : Nat → Prop) (hb : (DefB g d vs ve).holds w F) :
    Calls Tryz.prog 155 #[.pointer (some ⟨g, 0, none⟩), .int .i64 (k : Int)] w (Post (fun u B => u = .tuple #[] ∧ ∃ vs', B = DefB g (d.counts k) vs' ve) F w) := by
  have hon := On.refl hb
  have e1 : d.counts k = (d.takes 2 0).opens ⟨27, (d.takes 2 0).s, st0, decide (k = 28)⟩ := by unfold Def.counts; rw [if_pos hk]
  have htk := fun w1 F' hb' => takes_walk g d 2 0 vs ve w1 F' hb'
  have hs1 := takes_stack d 2 0
  rw [e1]
  generalize d.takes 2 0 = d1 at *
  have hop := fun w1 F' hb' => opens_walk g d1 ⟨27, d1.s, st0, decide (k = 28)⟩ (by rw [hs1]; exact hn) vs ve w1 F' hb'
  clear hs1 hn e1 hb
  replace hon := Lib.hid hon
  replace htk := Lib.hid htk
  replace hop := Lib.hid hop
  rcases hk with rfl | rfl
  all_goals
    go_enter Tryz.func155, Tryz.ntmps155
    go_wp2_with fail
    refine (hon.out.call fun F' hb' => htk.out _ F' hb').mono ?_
    rintro e w1 ⟨v, A', ⟨rfl, rfl⟩, rfl, hon1⟩
    obtain ⟨F1, hb1, _⟩ := id hon1
    have c7 := hb1.1.blk.cell 7
    have c8 := hb1.1.blk.cell 8
    have c9 := hb1.1.blk.cell 9
    simp [defC] at c7 c8 c9
    replace hb1 := Lib.hid hb1
    replace hon1 := Lib.hid hon1
    go_wp2_with fail
    refine (hon1.out.call fun F' hb' => hop.out _ F' hb').mono ?_
    rintro e w2 ⟨v, A', ⟨rfl, vs', rfl⟩, rfl, hon2⟩
    replace hon2 := Lib.hid hon2
    clear c7 c8 c9
    go_wp2
    go_end0
    exact hon2.out.post ⟨rfl, _, rfl⟩
set_option maxHeartbeats 1000000 in
theorem counts_none (g : Nat) (d : Def) (ht : d.top 27 = none) (vs ve : Value) (w : World) (F : Nat → Prop) (hb : (DefB g d vs ve).holds w F) :
    Calls Tryz.prog 155 #[.pointer (some ⟨g, 0, none⟩), .int .i64 29] w (Post (fun u B => u = .tuple #[] ∧ ∃ vs', B = DefB g d.bad vs' ve) F w) := by
  have hon := On.refl hb
  have htp := fun w1 F' hb' => top_none g d 27 ht vs ve w1 F' hb'
  clear ht hb
  replace hon := Lib.hid hon
  replace htp := Lib.hid htp
  go_enter Tryz.func155, Tryz.ntmps155
  go_wp2_with fail
  refine (hon.out.call fun F' hb' => htp.out _ F' hb').mono ?_
  rintro e w1 ⟨v, A', ⟨rfl, rfl⟩, rfl, hon1⟩
  replace hon1 := Lib.hid hon1
  go_wp2
  go_end0
  exact hon1.out.post ⟨rfl, _, rfl⟩
set_option maxHeartbeats 1000000 in
theorem counts_none2 (g : Nat) (d : Def) (ht : (d.takes 1 0).top 27 = none) (vs ve : Value) (w : World) (F : Nat → Prop) (hb : (DefB g d vs ve).holds w F) :
    Calls Tryz.prog 155 #[.pointer (some ⟨g, 0, none⟩), .int .i64 30] w (Post (fun u B => u = .tuple #[] ∧ ∃ vs', B = DefB g (d.takes 1 0).bad vs' ve) F w) := by
  have hon := On.refl hb
  have htk := fun w1 F' hb' => takes_walk g d 1 0 vs ve w1 F' hb'
  have htp := fun w1 F' hb' => top_none g (d.takes 1 0) 27 ht vs ve w1 F' hb'
  generalize d.takes 1 0 = d1 at *
  clear ht hb
  replace hon := Lib.hid hon
  replace htp := Lib.hid htp
  replace htk := Lib.hid htk
  go_enter Tryz.func155, Tryz.ntmps155
  go_wp2_with fail
  refine (hon.out.call fun F' hb' => htk.out _ F' hb').mono ?_
  rintro e w1 ⟨v, A', ⟨rfl, rfl⟩, rfl, hon1⟩
  replace hon1 := Lib.hid hon1
  go_wp2_with fail
  refine (hon1.out.call fun F' hb' => htp.out _ F' hb').mono ?_
  rintro e w2 ⟨v, A', ⟨rfl, rfl⟩, rfl, hon2⟩
  replace hon2 := Lib.hid hon2
  go_wp2
  go_end0
  exact hon2.out.post ⟨rfl, _, rfl⟩
set_option maxHeartbeats 2000000 in
theorem counts_loop (g : Nat) (d : Def) (l : List Open) (o : Open) (hk : o.kind = 27) (hd : d.stack = l ++ [o]) (sg cap : Nat) (ve : Value) (w : World) (F : Nat → Prop) (hb : (DefB g d (.slice (some ⟨sg, 0, none⟩) (l.length + 1) cap) ve).holds w F) :
    Calls Tryz.prog 155 #[.pointer (some ⟨g, 0, none⟩), .int .i64 29] w (Post (fun u B => u = .tuple #[] ∧ ∃ vs', B = DefB g (if !(d.meet o.a d.s).1.s.dead || o.left then ({ (d.meet o.a d.s).1 with s := o.a } : Def) else (d.meet o.a d.s).1).closes vs' ve) F w) := by
  have hon := On.refl hb
  have hs1 : d.stack = l ++ [o] := hd
  have htp := fun w1 F' hb' => top_some g d l o hs1 sg cap ve w1 F' hb'
  rw [hk] at htp
  have hmt := fun w1 F' hb' => meet_walk g d o.a d.s (.slice (some ⟨sg, 0, none⟩) (l.length + 1) cap) ve w1 F' hb'
  have hs2 : (d.meet o.a d.s).1.stack = l ++ [o] := by rw [meet_stack, hs1]
  obtain ⟨d1, hd1⟩ : ∃ d1, d = d1 := ⟨_, rfl⟩
  rw [hd1] at hs1 htp hmt hs2 hon ⊢
  clear hd1 hd
  obtain ⟨d2, hd2⟩ : ∃ d2, (d1.meet o.a d1.s).1 = d2 := ⟨_, rfl⟩
  obtain ⟨s2, hs2'⟩ : ∃ s2, (d1.meet o.a d1.s).2 = s2 := ⟨_, rfl⟩
  rw [hd2] at hs2 ⊢
  rw [hd2, hs2'] at hmt
  clear hd2 hs2'
  have hcl := fun s w1 F' hb' => closes_walk g ({ d2 with s := s } : Def) (by show d2.stack ≠ []; rw [hs2]; simp) (.slice (some ⟨sg, 0, none⟩) (l.length + 1) cap) ve w1 F' hb'
  have hne : g ≠ sg := fun e => hb.1.ne1 (by rw [e]; rfl)
  obtain ⟨R, hR⟩ : ∃ R, (if !d2.s.dead || o.left then ({ d2 with s := o.a } : Def) else d2) = R := ⟨_, rfl⟩
  rw [hR]
  replace hR := Lib.hid hR
  clear hb
  replace hon := Lib.hid hon
  replace htp := Lib.hid htp
  replace hmt := Lib.hid hmt
  replace hcl := Lib.hid hcl
  replace hs1 := Lib.hid hs1
  replace hs2 := Lib.hid hs2
  replace hk := Lib.hid hk
  go_enter Tryz.func155, Tryz.ntmps155
  go_wp2_with fail
  have hon0 := hon
  refine (hon0.out.call fun F' hb' => htp.out _ F' hb').mono ?_
  rintro e w1 ⟨v, A', ⟨rfl, rfl⟩, rfl, hon1⟩
  obtain ⟨F1, hb1, _⟩ := id hon1
  have c7 := hb1.1.blk.cell 7
  have c8 := hb1.1.blk.cell 8
  have c9 := hb1.1.blk.cell 9
  have x1 := hb1.1.lastCell hs1.out 1 (by omega)
  have x2 := hb1.1.lastCell hs1.out 2 (by omega)
  have x3 := hb1.1.lastCell hs1.out 3 (by omega)
  simp [openC, stC] at x1 x2 x3
  simp [defC] at c7 c8 c9
  replace hb1 := Lib.hid hb1
  replace hon1 := Lib.hid hon1
  go_wp2_with fail
  go_region_with ((go_at_call 163; refine ((hon1.out.drew).call fun F' hb' => hmt.out _ F' hb').mono ?_; rintro e w2 ⟨v, A', ⟨rfl, rfl⟩, rfl, hon2⟩; unfold stV stC; replace hon2 := Lib.hid hon2))
  all_goals
    clear c7 c8 c9 x1 x2 x3
    obtain ⟨F2, hb2, _⟩ := id hon2.out
    have c7 := hb2.1.blk.cell 7
    have c8 := hb2.1.blk.cell 8
    have c9 := hb2.1.blk.cell 9
    have f7 := hb2.1.blk.frozen 7
    have f8 := hb2.1.blk.frozen 8
    have f9 := hb2.1.blk.frozen 9
    have x1 := hb2.1.lastCell hs2.out 1 (by omega)
    have x2 := hb2.1.lastCell hs2.out 2 (by omega)
    have x3 := hb2.1.lastCell hs2.out 3 (by omega)
    have x7 := hb2.1.lastCell hs2.out 7 (by omega)
    simp [openC, stC] at x1 x2 x3 x7
    simp [defC] at c7 c8 c9
    replace hb2 := Lib.hid hb2
    have hon3 := DefB.setSt hon2.out o.a
    replace hon3 := Lib.hid hon3
    rcases hde : d2.s.dead with _ | _
    · rw [hde] at c9
      replace hde := Lib.hid hde
      go_wp2_with fail
      refine (hon3.out.call fun F' hb' => hcl.out o.a _ F' hb').mono ?_
      rintro e w3 ⟨v, A', ⟨rfl, vs', rfl⟩, rfl, hon4⟩
      replace hon4 := Lib.hid hon4
      clear c7 c8 c9 f7 f8 f9 x1 x2 x3 x7
      go_wp2
      go_end0
      exact hon4.out.post ⟨rfl, _, by rw [← hR.out, hde.out]; rfl⟩
    · rw [hde] at c9
      replace hde := Lib.hid hde
      rcases hle : o.left with _ | _
      · rw [hle] at x7
        replace hle := Lib.hid hle
        go_wp2_with fail
        refine (hon2.out.call fun F' hb' => hcl.out d2.s _ F' hb').mono ?_
        rintro e w3 ⟨v, A', ⟨rfl, vs', rfl⟩, rfl, hon4⟩
        replace hon4 := Lib.hid hon4
        clear c7 c8 c9 f7 f8 f9 x1 x2 x3 x7
        go_wp2
        go_end0
        exact hon4.out.post ⟨rfl, _, by rw [← hR.out, hde.out, hle.out]; rfl⟩
      · rw [hle] at x7
        replace hle := Lib.hid hle
        go_wp2_with fail
        refine (hon3.out.call fun F' hb' => hcl.out o.a _ F' hb').mono ?_
        rintro e w3 ⟨v, A', ⟨rfl, vs', rfl⟩, rfl, hon4⟩
        replace hon4 := Lib.hid hon4
        clear c7 c8 c9 f7 f8 f9 x1 x2 x3 x7
        go_wp2
        go_end0
        exact hon4.out.post ⟨rfl, _, by rw [← hR.out, hde.out, hle.out]; rfl⟩
set_option maxHeartbeats 2000000 in
theorem counts_ploop (g : Nat) (d : Def) (l : List Open) (o : Open) (hk : o.kind = 27) (hd : d.stack = l ++ [o]) (sg cap : Nat) (ve : Value) (w : World) (F : Nat → Prop) (hb : (DefB g d (.slice (some ⟨sg, 0, none⟩) (l.length + 1) cap) ve).holds w F) :
    Calls Tryz.prog 155 #[.pointer (some ⟨g, 0, none⟩), .int .i64 30] w (Post (fun u B => u = .tuple #[] ∧ ∃ vs', B = DefB g (if !((d.takes 1 0).meet o.a (d.takes 1 0).s).1.s.dead || o.left then ({ ((d.takes 1 0).meet o.a (d.takes 1 0).s).1 with s := o.a } : Def) else ((d.takes 1 0).meet o.a (d.takes 1 0).s).1).closes vs' ve) F w) := by
  have hon := On.refl hb
  have htk := fun w1 F' hb' => takes_walk g d 1 0 (.slice (some ⟨sg, 0, none⟩) (l.length + 1) cap) ve w1 F' hb'
  have hs1 : (d.takes 1 0).stack = l ++ [o] := by rw [takes_stack]; exact hd
  have htp := fun w1 F' hb' => top_some g (d.takes 1 0) l o hs1 sg cap ve w1 F' hb'
  rw [hk] at htp
  have hmt := fun w1 F' hb' => meet_walk g (d.takes 1 0) o.a (d.takes 1 0).s (.slice (some ⟨sg, 0, none⟩) (l.length + 1) cap) ve w1 F' hb'
  have hs2 : ((d.takes 1 0).meet o.a (d.takes 1 0).s).1.stack = l ++ [o] := by rw [meet_stack, hs1]
  clear hd
  generalize d.takes 1 0 = d1 at *
  obtain ⟨d2, hd2⟩ : ∃ d2, (d1.meet o.a d1.s).1 = d2 := ⟨_, rfl⟩
  obtain ⟨s2, hs2'⟩ : ∃ s2, (d1.meet o.a d1.s).2 = s2 := ⟨_, rfl⟩
  rw [hd2] at hs2 ⊢
  rw [hd2, hs2'] at hmt
  clear hd2 hs2'
  have hcl := fun s w1 F' hb' => closes_walk g ({ d2 with s := s } : Def) (by show d2.stack ≠ []; rw [hs2]; simp) (.slice (some ⟨sg, 0, none⟩) (l.length + 1) cap) ve w1 F' hb'
  have hne : g ≠ sg := fun e => hb.1.ne1 (by rw [e]; rfl)
  obtain ⟨R, hR⟩ : ∃ R, (if !d2.s.dead || o.left then ({ d2 with s := o.a } : Def) else d2) = R := ⟨_, rfl⟩
  rw [hR]
  replace hR := Lib.hid hR
  clear hb
  replace hon := Lib.hid hon
  replace htp := Lib.hid htp
  replace hmt := Lib.hid hmt
  replace hcl := Lib.hid hcl
  replace hs1 := Lib.hid hs1
  replace hs2 := Lib.hid hs2
  replace hk := Lib.hid hk
  replace htk := Lib.hid htk
  go_enter Tryz.func155, Tryz.ntmps155
  go_wp2_with fail
  refine (hon.out.call fun F' hb' => htk.out _ F' hb').mono ?_
  rintro e w0 ⟨v, A', ⟨rfl, rfl⟩, rfl, hon0⟩
  replace hon0 := Lib.hid hon0
  go_wp2_with fail
  refine (hon0.out.call fun F' hb' => htp.out _ F' hb').mono ?_
  rintro e w1 ⟨v, A', ⟨rfl, rfl⟩, rfl, hon1⟩
  obtain ⟨F1, hb1, _⟩ := id hon1
  have c7 := hb1.1.blk.cell 7
  have c8 := hb1.1.blk.cell 8
  have c9 := hb1.1.blk.cell 9
  have x1 := hb1.1.lastCell hs1.out 1 (by omega)
  have x2 := hb1.1.lastCell hs1.out 2 (by omega)
  have x3 := hb1.1.lastCell hs1.out 3 (by omega)
  simp [openC, stC] at x1 x2 x3
  simp [defC] at c7 c8 c9
  replace hb1 := Lib.hid hb1
  replace hon1 := Lib.hid hon1
  go_wp2_with fail
  go_region_with ((go_at_call 163; refine ((hon1.out.drew).call fun F' hb' => hmt.out _ F' hb').mono ?_; rintro e w2 ⟨v, A', ⟨rfl, rfl⟩, rfl, hon2⟩; unfold stV stC; replace hon2 := Lib.hid hon2))
  all_goals
    clear c7 c8 c9 x1 x2 x3
    obtain ⟨F2, hb2, _⟩ := id hon2.out
    have c7 := hb2.1.blk.cell 7
    have c8 := hb2.1.blk.cell 8
    have c9 := hb2.1.blk.cell 9
    have f7 := hb2.1.blk.frozen 7
    have f8 := hb2.1.blk.frozen 8
    have f9 := hb2.1.blk.frozen 9
    have x1 := hb2.1.lastCell hs2.out 1 (by omega)
    have x2 := hb2.1.lastCell hs2.out 2 (by omega)
    have x3 := hb2.1.lastCell hs2.out 3 (by omega)
    have x7 := hb2.1.lastCell hs2.out 7 (by omega)
    simp [openC, stC] at x1 x2 x3 x7
    simp [defC] at c7 c8 c9
    replace hb2 := Lib.hid hb2
    have hon3 := DefB.setSt hon2.out o.a
    replace hon3 := Lib.hid hon3
    rcases hde : d2.s.dead with _ | _
    · rw [hde] at c9
      replace hde := Lib.hid hde
      go_wp2_with fail
      refine (hon3.out.call fun F' hb' => hcl.out o.a _ F' hb').mono ?_
      rintro e w3 ⟨v, A', ⟨rfl, vs', rfl⟩, rfl, hon4⟩
      replace hon4 := Lib.hid hon4
      clear c7 c8 c9 f7 f8 f9 x1 x2 x3 x7
      go_wp2
      go_end0
      exact hon4.out.post ⟨rfl, _, by rw [← hR.out, hde.out]; rfl⟩
    · rw [hde] at c9
      replace hde := Lib.hid hde
      rcases hle : o.left with _ | _
      · rw [hle] at x7
        replace hle := Lib.hid hle
        go_wp2_with fail
        refine (hon2.out.call fun F' hb' => hcl.out d2.s _ F' hb').mono ?_
        rintro e w3 ⟨v, A', ⟨rfl, vs', rfl⟩, rfl, hon4⟩
        replace hon4 := Lib.hid hon4
        clear c7 c8 c9 f7 f8 f9 x1 x2 x3 x7
        go_wp2
        go_end0
        exact hon4.out.post ⟨rfl, _, by rw [← hR.out, hde.out, hle.out]; rfl⟩
      · rw [hle] at x7
        replace hle := Lib.hid hle
        go_wp2_with fail
        refine (hon3.out.call fun F' hb' => hcl.out o.a _ F' hb').mono ?_
        rintro e w3 ⟨v, A', ⟨rfl, vs', rfl⟩, rfl, hon4⟩
        replace hon4 := Lib.hid hon4
        clear c7 c8 c9 f7 f8 f9 x1 x2 x3 x7
        go_wp2
        go_end0
        exact hon4.out.post ⟨rfl, _, by rw [← hR.out, hde.out, hle.out]; rfl⟩
set_option maxHeartbeats 1000000 in
theorem leave_none (g : Nat) (d : Def) (hi : innerAt d.stack = none) (vs ve : Value) (w : World) (F : Nat → Prop) (hb : (DefB g d vs ve).holds w F) :
    Calls Tryz.prog 155 #[.pointer (some ⟨g, 0, none⟩), .int .i64 31] w (Post (fun u B => u = .tuple #[] ∧ ∃ vs', B = DefB g d.bad vs' ve) F w) := by
  have hon := On.refl hb
  have hin := fun w1 F' hb' => inner_walk g d vs ve w1 F' hb'
  rw [hi] at hin
  have hbd := fun w1 F' hb' => bad_walk g d vs ve w1 F' hb'
  clear hi hb
  replace hon := Lib.hid hon
  replace hin := Lib.hid hin
  replace hbd := Lib.hid hbd
  go_enter Tryz.func155, Tryz.ntmps155
  go_wp2_with fail
  refine (hon.out.call fun F' hb' => hin.out _ F' hb').mono ?_
  rintro e w1 ⟨v, A', ⟨rfl, rfl⟩, rfl, hon1⟩
  unfold placeV
  replace hon1 := Lib.hid hon1
  go_wp2_with fail
  refine (hon1.out.call fun F' hb' => hbd.out _ F' hb').mono ?_
  rintro e w2 ⟨v, A', ⟨rfl, rfl⟩, rfl, hon2⟩
  replace hon2 := Lib.hid hon2
  go_wp2
  go_end0
  exact hon2.out.post ⟨rfl, _, rfl⟩
set_option maxHeartbeats 2000000 in
theorem leave_some (g : Nat) (d : Def) (i : Nat) (hi : innerAt d.stack = some i) (hil : i < d.stack.length) (sg n cap : Nat) (hn : n = d.stack.length) (ve : Value) (w : World) (F : Nat → Prop) (hb : (DefB g d (.slice (some ⟨sg, 0, none⟩) n cap) ve).holds w F) :
    Calls Tryz.prog 155 #[.pointer (some ⟨g, 0, none⟩), .int .i64 31] w (Post (fun u B => u = .tuple #[] ∧ B = DefB g { (d.meet (d.stack[i]).a d.s).1 with stack := d.stack.set i { d.stack[i] with left := (d.stack[i]).left || !d.s.dead }, s := stDead } (.slice (some ⟨sg, 0, none⟩) n cap) ve) F w) := by
  have hon := On.refl hb
  have hin := fun w1 F' hb' => inner_walk g d (.slice (some ⟨sg, 0, none⟩) n cap) ve w1 F' hb'
  rw [hi] at hin
  have hmt := fun w1 F' hb' => meet_walk g d (d.stack[i]).a d.s (.slice (some ⟨sg, 0, none⟩) n cap) ve w1 F' hb'
  have hs2 := meet_stack d (d.stack[i]).a d.s
  have hs3 := meet_s d (d.stack[i]).a d.s
  obtain ⟨d2, hd2⟩ : ∃ d2, (d.meet (d.stack[i]).a d.s).1 = d2 := ⟨_, rfl⟩
  obtain ⟨s2, hs2'⟩ : ∃ s2, (d.meet (d.stack[i]).a d.s).2 = s2 := ⟨_, rfl⟩
  rw [hd2] at hs2 hs3 ⊢
  rw [hd2, hs2'] at hmt
  obtain ⟨o, ho⟩ : ∃ o, d.stack[i] = o := ⟨_, rfl⟩
  rw [ho] at hmt ⊢
  clear hd2 hs2' hi
  have hne : g ≠ sg := fun e => hb.1.ne1 (by rw [e]; rfl)
  clear hb
  replace hon := Lib.hid hon
  replace hin := Lib.hid hin
  replace hmt := Lib.hid hmt
  replace hs2 := Lib.hid hs2
  replace hs3 := Lib.hid hs3
  replace ho := Lib.hid ho
  replace hil := Lib.hid hil
  replace hn := Lib.hid hn
  go_enter Tryz.func155, Tryz.ntmps155
  go_wp2_with fail
  refine (hon.out.call fun F' hb' => hin.out _ F' hb').mono ?_
  rintro e w1 ⟨v, A', ⟨rfl, rfl⟩, rfl, hon1⟩
  obtain ⟨F1, hb1, _⟩ := id hon1
  have c7 := hb1.1.blk.cell 7
  have c8 := hb1.1.blk.cell 8
  have c9 := hb1.1.blk.cell 9
  have x1 := hb1.1.cell i 1 hil.out (by omega)
  have x2 := hb1.1.cell i 2 hil.out (by omega)
  have x3 := hb1.1.cell i 3 hil.out (by omega)
  rw [ho.out] at x1 x2 x3
  simp [openC, stC] at x1 x2 x3
  simp [defC] at c7 c8 c9
  unfold placeV
  replace hb1 := Lib.hid hb1
  replace hon1 := Lib.hid hon1
  go_wp2_with fail
  go_region_with ((go_at_call 163; refine ((hon1.out.drew).call fun F' hb' => hmt.out _ F' hb').mono ?_; rintro e w2 ⟨v, A', ⟨rfl, rfl⟩, rfl, hon2⟩; unfold stV stC; replace hon2 := Lib.hid hon2))
  all_goals
    clear c7 c8 c9 x1 x2 x3
    obtain ⟨F2, hb2, _⟩ := id hon2.out
    have hil2 : i < d2.stack.length := by rw [hs2.out]; exact hil.out
    have ho2 : d2.stack[i] = o := by simp only [hs2.out]; exact ho.out
    have c7 := hb2.1.blk.cell 7
    have c8 := hb2.1.blk.cell 8
    have c9 := hb2.1.blk.cell 9
    have f7 := hb2.1.blk.frozen 7
    have f8 := hb2.1.blk.frozen 8
    have f9 := hb2.1.blk.frozen 9
    have x7 := hb2.1.cell i 7 hil2 (by omega)
    have y7 := hb2.1.cellFrozen (i * 8 + 7)
    rw [ho2] at x7
    simp [openC, stC] at x7
    simp [defC] at c7 c8 c9
    rw [hs3.out] at c9
    replace hb2 := Lib.hid hb2
    have hst : ∀ b, On F w (DefB g { d2 with stack := d.stack.set i { o with left := b }, s := stDead } (.slice (some ⟨sg, 0, none⟩) n cap) ve) _ := fun b =>
      DefB.setSt (DefB.setElem hon2.out (by rw [hs2.out]; exact hn.out) i 7 hil2 (by omega) { o with left := b } (.bool b) (by rw [ho2]; rfl) (d' := { d2 with stack := d.stack.set i { o with left := b } }) (by rw [hs2.out])) stDead
    replace hst := Lib.hid hst
    replace hil2 := Lib.hid hil2
    replace ho2 := Lib.hid ho2
    rcases hle : o.left with _ | _
    · rw [hle] at x7
      replace hle := Lib.hid hle
      rcases hde : d.s.dead with _ | _
      · rw [hde] at c9
        replace hde := Lib.hid hde
        go_wp2
        go_end0
        exact (hst.out true).post ⟨rfl, by rw [hde.out, hle.out]; rfl⟩
      · rw [hde] at c9
        replace hde := Lib.hid hde
        go_wp2
        go_end0
        exact (hst.out false).post ⟨rfl, by rw [hde.out, hle.out]; rfl⟩
    · rw [hle] at x7
      replace hle := Lib.hid hle
      go_wp2
      go_end0
      exact (hst.out true).post ⟨rfl, by rw [hle.out]; rfl⟩
theorem counts_walk (g : Nat) (d : Def) (k : Nat) (hk : 27 ≤ k ∧ k ≤ 31) (hn : d.stack.length ≤ 100000) (vs ve : Value) (w : World) (F : Nat → Prop) (hb : (DefB g d vs ve).holds w F) :
    Calls Tryz.prog 155 #[.pointer (some ⟨g, 0, none⟩), .int .i64 (k : Int)] w (Post (fun u B => u = .tuple #[] ∧ ∃ vs', B = DefB g (d.counts k) vs' ve) F w) := by
  have hk' : k = 27 ∨ k = 28 ∨ k = 29 ∨ k = 30 ∨ k = 31 := by omega
  rcases hk' with rfl | rfl | rfl | rfl | rfl
  · exact counts_do g d 27 (.inl rfl) hn vs ve w F hb
  · exact counts_do g d 28 (.inr rfl) hn vs ve w F hb
  · rcases ht : d.top 27 with _ | o
    · have e1 : d.counts 29 = d.bad := by simp [Def.counts, ht]
      rw [e1]
      exact counts_none g d ht vs ve w F hb
    · obtain ⟨h1, h2⟩ := top_form ht
      obtain ⟨sg, cap, rfl⟩ := DefB.topped ht hb rfl
      have hlen : d.stack.length = d.stack.dropLast.length + 1 := by have := congrArg List.length h2; rw [List.length_append] at this; exact this
      have e1 : d.counts 29 = (if !(d.meet o.a d.s).1.s.dead || o.left then ({ (d.meet o.a d.s).1 with s := o.a } : Def) else (d.meet o.a d.s).1).closes := by simp [Def.counts, ht]
      rw [e1]
      exact counts_loop g d _ o h1 h2 sg cap ve w F hb
  · rcases ht : (d.takes 1 0).top 27 with _ | o
    · have e1 : d.counts 30 = (d.takes 1 0).bad := by simp [Def.counts, ht]
      rw [e1]
      exact counts_none2 g d ht vs ve w F hb
    · obtain ⟨h1, h2⟩ := top_form ht
      obtain ⟨sg, cap, rfl⟩ := DefB.topped ht hb (takes_stack d 1 0).symm
      rw [takes_stack] at h2
      have e1 : d.counts 30 = (if !((d.takes 1 0).meet o.a (d.takes 1 0).s).1.s.dead || o.left then ({ ((d.takes 1 0).meet o.a (d.takes 1 0).s).1 with s := o.a } : Def) else ((d.takes 1 0).meet o.a (d.takes 1 0).s).1).closes := by simp [Def.counts, ht]
      rw [e1]
      rw [takes_stack] at hb
      exact counts_ploop g d _ o h1 h2 sg cap ve w F hb
  · rcases hi : innerAt d.stack with _ | i
    · have e1 : d.counts 31 = d.bad := by simp [Def.counts, hi]
      rw [e1]
      exact leave_none g d hi vs ve w F hb
    · obtain ⟨o, h1, _, _⟩ := innerAt_some d.stack i hi
      obtain ⟨hil, ho⟩ := List.getElem?_eq_some_iff.1 h1
      obtain ⟨sg, cap, rfl, _, _⟩ := hb.1.form (by intro h; rw [h] at hil; simp at hil)
      have e1 : d.counts 31 = { (d.meet (d.stack[i]).a d.s).1 with stack := d.stack.set i { d.stack[i] with left := (d.stack[i]).left || !d.s.dead }, s := stDead } := by simp [Def.counts, hi, List.getElem?_eq_getElem hil, meet_stack]
      rw [e1]
      refine (leave_some g d i hi hil sg _ cap rfl ve w F hb).mono ?_
      rintro e w' ⟨v, A', F', ⟨rfl, rfl⟩, h3⟩
      exact ⟨_, _, F', ⟨rfl, _, rfl⟩, h3⟩
end Look
end Go.Proofs.YthejfkkmcbdlhaaGreatDoor
/- Chapter 19: choice (CASE, OF, ENDOF, ENDCASE). Conditions: fewer things open than a text has bytes; an OF is never the first thing that is open. -/
namespace Go.Proofs.YthejfkkmcbdlhaaGreatDoor
set_option linter.unusedVariables false
set_option maxRecDepth 100000
open Go.RowKit Go.Lib
namespace Look
set_option maxHeartbeats 1000000 in
theorem choice_case (g : Nat) (d : Def) (hn : d.stack.length ≤ 100000) (vs ve : Value) (w : World) (F : Nat → Prop) (hb : (DefB g d vs ve).holds w F) :
    Calls Tryz.prog 156 #[.pointer (some ⟨g, 0, none⟩), .int .i64 32] w (Post (fun u B => u = .tuple #[] ∧ ∃ vs', B = DefB g (d.choice 32) vs' ve) F w) := by
  have hon := On.refl hb
  have hop := fun w1 F' hb' => opens_walk g d ⟨32, stDead, st0, false⟩ hn vs ve w1 F' hb'
  clear hn hb
  replace hon := Lib.hid hon
  replace hop := Lib.hid hop
  go_enter Tryz.func156, Tryz.ntmps156
  go_wp2_with fail
  refine (hon.out.call fun F' hb' => hop.out _ F' hb').mono ?_
  rintro e w2 ⟨v, A', ⟨rfl, vs', rfl⟩, rfl, hon2⟩
  replace hon2 := Lib.hid hon2
  go_wp2
  go_end0
  exact hon2.out.post ⟨rfl, _, rfl⟩
set_option maxHeartbeats 1000000 in
theorem choice_none (g : Nat) (d : Def) (k j : Nat) (hk : k = 33 ∧ j = 32 ∨ k = 34 ∧ j = 33 ∨ k = 35 ∧ j = 32) (ht : d.top j = none) (vs ve : Value) (w : World) (F : Nat → Prop) (hb : (DefB g d vs ve).holds w F) :
    Calls Tryz.prog 156 #[.pointer (some ⟨g, 0, none⟩), .int .i64 (k : Int)] w (Post (fun u B => u = .tuple #[] ∧ ∃ vs', B = DefB g d.bad vs' ve) F w) := by
  have hon := On.refl hb
  have htp := fun w1 F' hb' => top_none g d j ht vs ve w1 F' hb'
  clear ht hb
  replace hon := Lib.hid hon
  replace htp := Lib.hid htp
  rcases hk with ⟨rfl, rfl⟩ | ⟨rfl, rfl⟩ | ⟨rfl, rfl⟩
  all_goals
    go_enter Tryz.func156, Tryz.ntmps156
    go_wp2_with fail
    refine (hon.out.call fun F' hb' => htp.out _ F' hb').mono ?_
    rintro e w1 ⟨v, A', ⟨rfl, rfl⟩, rfl, hon1⟩
    replace hon1 := Lib.hid hon1
    go_wp2
    go_end0
    exact hon1.out.post ⟨rfl, _, rfl⟩
set_option maxHeartbeats 2000000 in
theorem choice_of (g : Nat) (d : Def) (hn : d.stack.length ≤ 100000) (l : List Open) (o : Open) (hk : o.kind = 32) (hd : d.stack = l ++ [o]) (sg cap : Nat) (ve : Value) (w : World) (F : Nat → Prop) (hb : (DefB g d (.slice (some ⟨sg, 0, none⟩) (l.length + 1) cap) ve).holds w F) :
    Calls Tryz.prog 156 #[.pointer (some ⟨g, 0, none⟩), .int .i64 33] w (Post (fun u B => u = .tuple #[] ∧ ∃ vs', B = DefB g (((d.takes 2 1).opens ⟨33, (d.takes 2 1).s, st0, false⟩).takes 1 0) vs' ve) F w) := by
  have hon := On.refl hb
  have htp := fun w1 F' hb' => top_some g d l o hd sg cap ve w1 F' hb'
  rw [hk] at htp
  have htk := fun w1 F' hb' => takes_walk g d 2 1 (.slice (some ⟨sg, 0, none⟩) (l.length + 1) cap) ve w1 F' hb'
  have hs1 := takes_stack d 2 1
  generalize d.takes 2 1 = d1 at *
  have hop := fun w1 F' hb' => opens_walk g d1 ⟨33, d1.s, st0, false⟩ (by rw [hs1]; exact hn) (.slice (some ⟨sg, 0, none⟩) (l.length + 1) cap) ve w1 F' hb'
  have htk2 := fun vs w1 F' hb' => takes_walk g (d1.opens ⟨33, d1.s, st0, false⟩) 1 0 vs ve w1 F' hb'
  clear hs1 hn hb hd
  replace hon := Lib.hid hon
  replace htp := Lib.hid htp
  replace htk := Lib.hid htk
  replace htk2 := Lib.hid htk2
  replace hop := Lib.hid hop
  go_enter Tryz.func156, Tryz.ntmps156
  go_wp2_with fail
  refine (hon.out.call fun F' hb' => htp.out _ F' hb').mono ?_
  rintro e w0 ⟨v, A', ⟨rfl, rfl⟩, rfl, hon0⟩
  replace hon0 := Lib.hid hon0
  go_wp2_with fail
  refine (hon0.out.call fun F' hb' => htk.out _ F' hb').mono ?_
  rintro e w1 ⟨v, A', ⟨rfl, rfl⟩, rfl, hon1⟩
  obtain ⟨F1, hb1, _⟩ := id hon1
  have c7 := hb1.1.blk.cell 7
  have c8 := hb1.1.blk.cell 8
  have c9 := hb1.1.blk.cell 9
  simp [defC] at c7 c8 c9
  replace hb1 := Lib.hid hb1
  replace hon1 := Lib.hid hon1
  go_wp2_with fail
  refine (hon1.out.call fun F' hb' => hop.out _ F' hb').mono ?_
  rintro e w2 ⟨v, A', ⟨rfl, vs', rfl⟩, rfl, hon2⟩
  replace hon2 := Lib.hid hon2
  clear c7 c8 c9
  go_wp2_with fail
  refine (hon2.out.call fun F' hb' => htk2.out vs' _ F' hb').mono ?_
  rintro e w3 ⟨v, A', ⟨rfl, rfl⟩, rfl, hon3⟩
  replace hon3 := Lib.hid hon3
  go_wp2
  go_end0
  exact hon3.out.post ⟨rfl, _, rfl⟩
set_option maxHeartbeats 2000000 in
theorem choice_endcase (g : Nat) (d : Def) (l : List Open) (o : Open) (hk : o.kind = 32) (hd : d.stack = l ++ [o]) (sg cap : Nat) (ve : Value) (w : World) (F : Nat → Prop) (hb : (DefB g d (.slice (some ⟨sg, 0, none⟩) (l.length + 1) cap) ve).holds w F) :
    Calls Tryz.prog 156 #[.pointer (some ⟨g, 0, none⟩), .int .i64 35] w (Post (fun u B => u = .tuple #[] ∧ ∃ vs', B = DefB g ({ ((d.takes 1 0).meet o.a (d.takes 1 0).s).1 with s := ((d.takes 1 0).meet o.a (d.takes 1 0).s).2 } : Def).closes vs' ve) F w) := by
  have hon := On.refl hb
  have htp := fun w1 F' hb' => top_some g d l o hd sg cap ve w1 F' hb'
  rw [hk] at htp
  have htk := fun w1 F' hb' => takes_walk g d 1 0 (.slice (some ⟨sg, 0, none⟩) (l.length + 1) cap) ve w1 F' hb'
  have hs1 : (d.takes 1 0).stack = l ++ [o] := by rw [takes_stack]; exact hd
  have hmt := fun w1 F' hb' => meet_walk g (d.takes 1 0) o.a (d.takes 1 0).s (.slice (some ⟨sg, 0, none⟩) (l.length + 1) cap) ve w1 F' hb'
  have hs2 : ((d.takes 1 0).meet o.a (d.takes 1 0).s).1.stack = l ++ [o] := by rw [meet_stack, hs1]
  clear hd
  generalize d.takes 1 0 = d1 at *
  obtain ⟨d2, hd2⟩ : ∃ d2, (d1.meet o.a d1.s).1 = d2 := ⟨_, rfl⟩
  obtain ⟨s2, hs2'⟩ : ∃ s2, (d1.meet o.a d1.s).2 = s2 := ⟨_, rfl⟩
  rw [hd2, hs2']
  rw [hd2] at hs2
  rw [hd2, hs2'] at hmt
  clear hd2 hs2'
  have hcl := fun w1 F' hb' => closes_walk g ({ d2 with s := s2 } : Def) (by show d2.stack ≠ []; rw [hs2]; simp) (.slice (some ⟨sg, 0, none⟩) (l.length + 1) cap) ve w1 F' hb'
  have hne : g ≠ sg := fun e => hb.1.ne1 (by rw [e]; rfl)
  clear hb
  replace hon := Lib.hid hon
  replace htp := Lib.hid htp
  replace htk := Lib.hid htk
  replace hmt := Lib.hid hmt
  replace hcl := Lib.hid hcl
  replace hs1 := Lib.hid hs1
  replace hs2 := Lib.hid hs2
  replace hk := Lib.hid hk
  go_enter Tryz.func156, Tryz.ntmps156
  go_wp2_with fail
  refine (hon.out.call fun F' hb' => htp.out _ F' hb').mono ?_
  rintro e w0 ⟨v, A', ⟨rfl, rfl⟩, rfl, hon0⟩
  replace hon0 := Lib.hid hon0
  go_wp2_with fail
  refine (hon0.out.call fun F' hb' => htk.out _ F' hb').mono ?_
  rintro e w1 ⟨v, A', ⟨rfl, rfl⟩, rfl, hon1⟩
  obtain ⟨F1, hb1, _⟩ := id hon1
  have c7 := hb1.1.blk.cell 7
  have c8 := hb1.1.blk.cell 8
  have c9 := hb1.1.blk.cell 9
  have x1 := hb1.1.lastCell hs1.out 1 (by omega)
  have x2 := hb1.1.lastCell hs1.out 2 (by omega)
  have x3 := hb1.1.lastCell hs1.out 3 (by omega)
  simp [openC, stC] at x1 x2 x3
  simp [defC] at c7 c8 c9
  replace hb1 := Lib.hid hb1
  replace hon1 := Lib.hid hon1
  go_wp2_with fail
  go_region_with ((go_at_call 163; refine ((hon1.out.drew).call fun F' hb' => hmt.out _ F' hb').mono ?_; rintro e w2 ⟨v, A', ⟨rfl, rfl⟩, rfl, hon2⟩; obtain ⟨F2, hb2, _⟩ := id hon2; have c7b := hb2.1.blk.cell 7; have c8b := hb2.1.blk.cell 8; have c9b := hb2.1.blk.cell 9; have f7b := hb2.1.blk.frozen 7; have f8b := hb2.1.blk.frozen 8; have f9b := hb2.1.blk.frozen 9; simp [defC] at c7b c8b c9b; unfold stV stC; replace hb2 := Lib.hid hb2; replace hon2 := Lib.hid hon2))
  all_goals
    have hon3 := DefB.setSt hon2.out s2
    clear c7 c8 c9 x1 x2 x3 c7b c8b c9b f7b f8b f9b hb2
    replace hon3 := Lib.hid hon3
    go_wp2_with fail
    refine (hon3.out.call fun F' hb' => hcl.out _ F' hb').mono ?_
    rintro e w3 ⟨v, A', ⟨rfl, vs', rfl⟩, rfl, hon4⟩
    replace hon4 := Lib.hid hon4
    go_wp2
    go_end0
    exact hon4.out.post ⟨rfl, _, rfl⟩
/-- the cells of the two topmost things -/
theorem DefAt.cell2 {w : World} {g : Nat} {d : Def} {sg cap : Nat} {ve : Value} {l : List Open} {c o : Open} (h : DefAt w g d (.slice (some ⟨sg, 0, none⟩) (l.length + 1 + 1) cap) ve) (hd : d.stack = (l ++ [c]) ++ [o]) (j : Nat) (hj : j < 8) : w.cell? ⟨sg, l.length * 8 + j, none⟩ = (openC c)[j]? := by
  have hlen : l.length < d.stack.length := by rw [hd]; simp
  have hget : d.stack[l.length]'hlen = c := by simp [hd]
  rw [h.cell l.length j hlen hj, hget]
theorem DefAt.cell3 {w : World} {g : Nat} {d : Def} {sg cap : Nat} {ve : Value} {l : List Open} {c o : Open} (h : DefAt w g d (.slice (some ⟨sg, 0, none⟩) (l.length + 1 + 1) cap) ve) (hd : d.stack = (l ++ [c]) ++ [o]) (j : Nat) (hj : j < 8) : w.cell? ⟨sg, (l.length + 1) * 8 + j, none⟩ = (openC o)[j]? := by
  have hlen : l.length + 1 < d.stack.length := by rw [hd]; simp
  have hget : d.stack[l.length + 1]'hlen = o := by simp [hd]
  rw [h.cell (l.length + 1) j hlen hj, hget]
theorem DefB.setPrev {w w' : World} {F : Nat → Prop} {g : Nat} {d : Def} {sg cap : Nat} {ve : Value} {l : List Open} {c o : Open} (h : On F w (DefB g { d with stack := (l ++ [c]) ++ [o] } (.slice (some ⟨sg, 0, none⟩) (l.length + 1 + 1) cap) ve) w') (j : Nat) (hj : j < 8) (c' : Open) (u : Value) (ho : (openC c).set j u = openC c') :
    On F w (DefB g { d with stack := (l ++ [c']) ++ [o] } (.slice (some ⟨sg, 0, none⟩) (l.length + 1 + 1) cap) ve) (w'.setCell ⟨sg, l.length * 8 + j, none⟩ u) :=
  DefB.setElem h (by simp) l.length j (by simp) hj c' u (by simpa using ho) (by simp)
set_option maxHeartbeats 4000000 in
theorem choice_endof (g : Nat) (d : Def) (l : List Open) (c o : Open) (hk : o.kind = 33) (hd : d.stack = (l ++ [c]) ++ [o]) (sg cap : Nat) (ve : Value) (w : World) (F : Nat → Prop) (hb : (DefB g d (.slice (some ⟨sg, 0, none⟩) (l.length + 1 + 1) cap) ve).holds w F) :
    Calls Tryz.prog 156 #[.pointer (some ⟨g, 0, none⟩), .int .i64 34] w (Post (fun u B => u = .tuple #[] ∧ ∃ vs', B = DefB g ({ (d.meet c.a d.s).1 with stack := (l ++ [{ c with a := (d.meet c.a d.s).2 }]) ++ [o], s := o.a } : Def).closes vs' ve) F w) := by
  have hon := On.refl hb
  have hl1 : (l ++ [c]).length = l.length + 1 := by simp
  have htp := fun w1 F' hb' => top_some g d (l ++ [c]) o hd sg cap ve w1 F' hb'
  rw [hk, hl1] at htp
  have hmt := fun w1 F' hb' => meet_walk g d c.a d.s (.slice (some ⟨sg, 0, none⟩) (l.length + 1 + 1) cap) ve w1 F' hb'
  have hs2 : (d.meet c.a d.s).1.stack = (l ++ [c]) ++ [o] := by rw [meet_stack, hd]
  obtain ⟨d2, hd2⟩ : ∃ d2, (d.meet c.a d.s).1 = d2 := ⟨_, rfl⟩
  obtain ⟨s2, hs2'⟩ : ∃ s2, (d.meet c.a d.s).2 = s2 := ⟨_, rfl⟩
  rw [hd2, hs2']
  rw [hd2] at hs2
  rw [hd2, hs2'] at hmt
  clear hd2 hs2'
  have hcl := fun w1 F' hb' => closes_walk g ({ d2 with stack := (l ++ [{ c with a := s2 }]) ++ [o], s := o.a } : Def) (by simp) (.slice (some ⟨sg, 0, none⟩) (l.length + 1 + 1) cap) ve w1 F' hb'
  have hne : g ≠ sg := fun e => hb.1.ne1 (by rw [e]; rfl)
  obtain ⟨hcap, hmax⟩ := hb.1.caps
  have hnb : (l.length : Int) + 2 ≤ 9223372036854775807 := by unfold maxLen at hmax; omega
  have hw : wrap64 (l.length : Int) = (l.length : Int) := by unfold wrap64; omega
  clear hb
  replace hon := Lib.hid hon
  replace htp := Lib.hid htp
  replace hmt := Lib.hid hmt
  replace hcl := Lib.hid hcl
  replace hs2 := Lib.hid hs2
  replace hd := Lib.hid hd
  replace hk := Lib.hid hk
  replace hl1 := Lib.hid hl1
  go_enter Tryz.func156, Tryz.ntmps156
  go_wp2_with fail
  refine (hon.out.call fun F' hb' => htp.out _ F' hb').mono ?_
  rintro e w1 ⟨v, A', ⟨rfl, rfl⟩, rfl, hon1⟩
  obtain ⟨F1, hb1, _⟩ := id hon1
  have c10 := hb1.1.blk.cell 10
  simp [defC] at c10
  replace hb1 := Lib.hid hb1
  replace hon1 := Lib.hid hon1
  go_wp2_with fail
  go_quiet (fail)
  go_wp2_with fail
  have hon1b := hon1.out.drewN nq
  generalize w1.drewN nq = w1b at hon1b ⊢
  clear hon1 hb1 c10
  obtain ⟨F1, hb1, _⟩ := id hon1b
  have c7 := hb1.1.blk.cell 7
  have c8 := hb1.1.blk.cell 8
  have c9 := hb1.1.blk.cell 9
  have x1 := hb1.1.cell2 hd.out 1 (by omega)
  have x2 := hb1.1.cell2 hd.out 2 (by omega)
  have x3 := hb1.1.cell2 hd.out 3 (by omega)
  have z1 := hb1.1.cell3 hd.out 1 (by omega)
  have z2 := hb1.1.cell3 hd.out 2 (by omega)
  have z3 := hb1.1.cell3 hd.out 3 (by omega)
  simp [openC, stC] at x1 x2 x3 z1 z2 z3
  simp [defC] at c7 c8 c9
  replace hb1 := Lib.hid hb1
  replace hon1b := Lib.hid hon1b
  generalize hP : (l.length + 1) * 8 = P1 at *
  replace hP := Lib.hid hP
  go_region_with ((go_at_call 163; refine ((hon1b.out.drew).call fun F' hb' => hmt.out _ F' hb').mono ?_; rintro e w2 ⟨v, A', ⟨rfl, rfl⟩, rfl, hon2⟩; obtain ⟨F2, hb2, _⟩ := id hon2; have c7b := hb2.1.blk.cell 7; have c8b := hb2.1.blk.cell 8; have c9b := hb2.1.blk.cell 9; have f7b := hb2.1.blk.frozen 7; have f8b := hb2.1.blk.frozen 8; have f9b := hb2.1.blk.frozen 9; have x1b := hb2.1.cell2 hs2.out 1 (by omega); have x2b := hb2.1.cell2 hs2.out 2 (by omega); have x3b := hb2.1.cell2 hs2.out 3 (by omega); have z1b := hb2.1.cell3 hs2.out 1 (by omega); have z2b := hb2.1.cell3 hs2.out 2 (by omega); have z3b := hb2.1.cell3 hs2.out 3 (by omega); rw [hP.out] at z1b z2b z3b; have y1 := hb2.1.cellFrozen (l.length * 8 + 1); have y2 := hb2.1.cellFrozen (l.length * 8 + 2); have y3 := hb2.1.cellFrozen (l.length * 8 + 3); simp [openC, stC] at x1b x2b x3b z1b z2b z3b; simp [defC] at c7b c8b c9b; unfold stV stC; replace hb2 := Lib.hid hb2; replace hon2 := Lib.hid hon2))
  all_goals
    have hon3 : On F w (DefB g { d2 with stack := (l ++ [c]) ++ [o] } (.slice (some ⟨sg, 0, none⟩) (l.length + 1 + 1) cap) ve) w2 := hs2.out ▸ hon2.out
    have hon6 := DefB.setSt (DefB.setPrev (DefB.setPrev (DefB.setPrev hon3 1 (by omega) { c with a := ⟨s2.h, c.a.r, c.a.dead⟩ } (.int .i64 s2.h) rfl) 2 (by omega) { c with a := ⟨s2.h, s2.r, c.a.dead⟩ } (.int .i64 s2.r) rfl) 3 (by omega) { c with a := s2 } (.bool s2.dead) rfl) o.a
    clear c7 c8 c9 x1 x2 x3 z1 z2 z3 c7b c8b c9b f7b f8b f9b x1b x2b x3b z1b z2b z3b y1 y2 y3 hb2 hon3
    replace hon6 := Lib.hid hon6
    go_wp2_with fail
    refine (hon6.out.call fun F' hb' => hcl.out _ F' hb').mono ?_
    rintro e w3 ⟨v, A', ⟨rfl, vs', rfl⟩, rfl, hon4⟩
    replace hon4 := Lib.hid hon4
    go_wp2
    go_end0
    exact hon4.out.post ⟨rfl, _, rfl⟩
/-- an OF is never the first thing that is open -/
def Def.Ok (d : Def) : Prop := ∀ o, d.stack.head? = some o → o.kind ≠ 33
theorem choice_walk (g : Nat) (d : Def) (k : Nat) (hk : 32 ≤ k ∧ k ≤ 35) (hok : d.Ok) (hn : d.stack.length ≤ 100000) (vs ve : Value) (w : World) (F : Nat → Prop) (hb : (DefB g d vs ve).holds w F) :
    Calls Tryz.prog 156 #[.pointer (some ⟨g, 0, none⟩), .int .i64 (k : Int)] w (Post (fun u B => u = .tuple #[] ∧ ∃ vs', B = DefB g (d.choice k) vs' ve) F w) := by
  have hk' : k = 32 ∨ k = 33 ∨ k = 34 ∨ k = 35 := by omega
  rcases hk' with rfl | rfl | rfl | rfl
  · exact choice_case g d hn vs ve w F hb
  · rcases ht : d.top 32 with _ | o
    · have e1 : d.choice 33 = d.bad := by simp [Def.choice, ht]
      rw [e1]
      exact choice_none g d 33 32 (.inl ⟨rfl, rfl⟩) ht vs ve w F hb
    · obtain ⟨h1, h2⟩ := top_form ht
      obtain ⟨sg, cap, rfl⟩ := DefB.topped ht hb rfl
      have e1 : d.choice 33 = ((d.takes 2 1).opens ⟨33, (d.takes 2 1).s, st0, false⟩).takes 1 0 := by simp [Def.choice, ht]
      rw [e1]
      exact choice_of g d hn _ o h1 h2 sg cap ve w F hb
  · rcases ht : d.top 33 with _ | o
    · have e1 : d.choice 34 = d.bad := by simp [Def.choice, ht]
      rw [e1]
      exact choice_none g d 34 33 (.inr (.inl ⟨rfl, rfl⟩)) ht vs ve w F hb
    · obtain ⟨h1, h2⟩ := top_form ht
      obtain ⟨sg, cap, rfl⟩ := DefB.topped ht hb rfl
      rcases List.eq_nil_or_concat d.stack.dropLast with h0 | ⟨l, c, h0⟩
      · rw [h0] at h2
        exact absurd h1 (hok o (by rw [h2]; rfl))
      · rw [List.concat_eq_append] at h0
        have e1 : d.choice 34 = ({ (d.meet c.a d.s).1 with stack := (l ++ [{ c with a := (d.meet c.a d.s).2 }]) ++ [o], s := o.a } : Def).closes := by
          simp only [Def.choice, ht, Def.closes, h0, List.getLast?_concat, List.dropLast_concat]
          simp
        rw [e1]
        rw [h0] at h2 hb
        rw [List.length_append] at hb
        exact choice_endof g d l c o h1 h2 sg cap ve w F hb
  · rcases ht : d.top 32 with _ | o
    · have e1 : d.choice 35 = d.bad := by simp [Def.choice, ht]
      rw [e1]
      exact choice_none g d 35 32 (.inr (.inr ⟨rfl, rfl⟩)) ht vs ve w F hb
    · obtain ⟨h1, h2⟩ := top_form ht
      obtain ⟨sg, cap, rfl⟩ := DefB.topped ht hb rfl
      have e1 : d.choice 35 = ({ ((d.takes 1 0).meet o.a (d.takes 1 0).s).1 with s := ((d.takes 1 0).meet o.a (d.takes 1 0).s).2 } : Def).closes := by simp [Def.choice, ht]
      rw [e1]
      exact choice_endcase g d _ o h1 h2 sg cap ve w F hb
end Look
end Go.Proofs.YthejfkkmcbdlhaaGreatDoor
/- Chapter 19: operation. Condition: the number is an operation's (1 to 106). -/
namespace Go.Proofs.YthejfkkmcbdlhaaGreatDoor
set_option linter.unusedVariables false
set_option maxRecDepth 100000
open Go.RowKit Go.Lib
namespace Look
def Def.base (d : Def) : Int := match d.inner with | some x => x.a.r | none => 0
def Def.opRest (d : Def) (op : Int) : Def :=
  if op = 105 then { d with s := stDead }
  else if op = 13 then { d with s := { d.s with r := wrap64 (d.s.r + 1) } }
  else if op = 14 then
    let d2 := if d.s.r ≤ d.base then d.bad else d
    { d2 with s := { d2.s with r := wrap64 (d2.s.r - 1) } }
  else if op = 15 then (if d.s.r ≤ d.base then d.bad else d)
  else d
theorem op_eq (d : Def) (op : Int) (h : ¬ (op = 29 ∨ op = 26 ∨ op = 16 ∨ op = 85 ∨ op = 10 ∨ op = 93)) : d.operation op = if (d.takes (Code.wants op).1 (Code.wants op).2).s.dead then d.takes (Code.wants op).1 (Code.wants op).2 else (d.takes (Code.wants op).1 (Code.wants op).2).opRest op := by
  unfold Def.operation
  rw [if_neg h]
  rfl
theorem DefB.setR {w w' : World} {F : Nat → Prop} {g : Nat} {d : Def} {vs ve : Value} (h : On F w (DefB g d vs ve) w') (x : Int) :
    On F w (DefB g { d with s := { d.s with r := x } } vs ve) (w'.setCell ⟨g, 8, none⟩ (.int .i64 x)) :=
  h.step fun F' hb => ⟨F', ⟨hb.1.setOwn 8 _ rfl rfl rfl, hb.2⟩, kept_setAt (Kept.refl F' w') ((hb.2 g).2 (.inl rfl)) 8 _, fun k h => .inl h⟩
set_option maxHeartbeats 1000000 in
theorem oper_bad (g : Nat) (d : Def) (op : Int) (h : op = 29 ∨ op = 26 ∨ op = 16 ∨ op = 85 ∨ op = 10 ∨ op = 93) (vs ve : Value) (w : World) (F : Nat → Prop) (hb : (DefB g d vs ve).holds w F) :
    Calls Tryz.prog 135 #[.pointer (some ⟨g, 0, none⟩), .int .i64 op] w (Post (fun u B => u = .tuple #[] ∧ B = DefB g (d.operation op) vs ve) F w) := by
  have hon := On.refl hb
  have hbd := fun w1 F' hb' => bad_walk g d vs ve w1 F' hb'
  have e1 : d.operation op = d.bad := by unfold Def.operation; rw [if_pos h]
  rw [e1]
  clear e1 hb
  replace hon := Lib.hid hon
  replace hbd := Lib.hid hbd
  rcases h with rfl | rfl | rfl | rfl | rfl | rfl
  all_goals
    go_enter Tryz.func135, Tryz.ntmps135
    go_wp2_with fail
    refine (hon.out.call fun F' hb' => hbd.out _ F' hb').mono ?_
    rintro e w1 ⟨v, A', ⟨rfl, rfl⟩, rfl, hon1⟩
    replace hon1 := Lib.hid hon1
    go_wp2
    go_end0
    exact hon1.out.post ⟨rfl, rfl⟩
set_option maxHeartbeats 2000000 in
theorem oper_105 (g : Nat) (d : Def) (hwt : ∀ w, Calls Tryz.prog 151 #[.int .i64 105] w fun e w' => e = .returned (.tuple #[.int .i64 (Code.wants 105).1, .int .i64 (Code.wants 105).2]) ∧ ∃ n, w' = w.drewN n) (vs ve : Value) (w : World) (F : Nat → Prop) (hb : (DefB g d vs ve).holds w F) :
    Calls Tryz.prog 135 #[.pointer (some ⟨g, 0, none⟩), .int .i64 105] w (Post (fun u B => u = .tuple #[] ∧ B = DefB g (d.operation 105) vs ve) F w) := by
  have hon := On.refl hb
  rw [op_eq d 105 (by omega)]
  have htk := fun w1 F' hb' => takes_walk g d (Code.wants 105).1 (Code.wants 105).2 vs ve w1 F' hb'
  obtain ⟨t, ht⟩ : ∃ t, (Code.wants 105).1 = t := ⟨_, rfl⟩
  obtain ⟨l, hl⟩ : ∃ l, (Code.wants 105).2 = l := ⟨_, rfl⟩
  rw [ht, hl] at htk ⊢
  have hwt' : ∀ w, Calls Tryz.prog 151 #[.int .i64 105] w fun e w' => e = .returned (.tuple #[.int .i64 t, .int .i64 l]) ∧ ∃ n, w' = w.drewN n := by rw [← ht, ← hl]; exact hwt
  clear hwt ht hl
  generalize d.takes t l = d1 at *
  have hin := fun w1 F' hb' => inner_walk g d1 vs ve w1 F' hb'
  have hbd := fun w1 F' hb' => bad_walk g d1 vs ve w1 F' hb'
  clear hb
  have hrest : d1.opRest 105 = { d1 with s := stDead } := rfl
  rw [hrest]
  clear hrest
  obtain ⟨R, hR⟩ : ∃ R, (if d1.s.dead then d1 else { d1 with s := stDead }) = R := ⟨_, rfl⟩
  rw [hR]
  replace hR := Lib.hid hR
  replace hon := Lib.hid hon
  replace htk := Lib.hid htk
  replace hwt' := Lib.hid hwt'
  replace hin := Lib.hid hin
  replace hbd := Lib.hid hbd
  go_enter Tryz.func135, Tryz.ntmps135
  go_wp2_with fail
  refine (hwt'.out _).mono ?_
  rintro e w' ⟨rfl, n0, rfl⟩
  go_wp2_with fail
  refine ((hon.out.drewN n0).call fun F' hb' => htk.out _ F' hb').mono ?_
  rintro e w1 ⟨v, A', ⟨rfl, rfl⟩, rfl, hon1⟩
  obtain ⟨F1, hb1, _⟩ := id hon1
  have c9 := hb1.1.blk.cell 9
  simp [defC] at c9
  clear hb1
  replace hon1 := Lib.hid hon1
  rcases hde : d1.s.dead with _ | _
  · rw [hde] at c9
    replace hde := Lib.hid hde
    go_wp2_with fail
    refine (hon1.out.call fun F' hb' => hin.out _ F' hb').mono ?_
    rintro e w2 ⟨v, A', ⟨rfl, rfl⟩, rfl, hon2⟩
    obtain ⟨F2, hb2, _⟩ := id hon2
    clear c9
    have c7 := hb2.1.blk.cell 7
    have c8 := hb2.1.blk.cell 8
    have c9 := hb2.1.blk.cell 9
    have f7 := hb2.1.blk.frozen 7
    have f8 := hb2.1.blk.frozen 8
    have f9 := hb2.1.blk.frozen 9
    simp [defC] at c7 c8 c9
    rcases hi : innerAt d1.stack with _ | i
    · have hbase : d1.base = 0 := by unfold Def.base Def.inner; rw [hi]; rfl
      replace hi := Lib.hid hi
      replace hb2 := Lib.hid hb2
      replace hon2 := Lib.hid hon2
      replace hbase := Lib.hid hbase
      unfold placeV
      have hon9 := DefB.setSt hon2.out stDead
      replace hon9 := Lib.hid hon9
      go_wp2_with fail
      go_end0
      exact hon9.out.post ⟨rfl, by rw [← hR.out, if_neg (by rw [hde.out]; simp)]⟩
    · obtain ⟨o, h1, _, _⟩ := innerAt_some d1.stack i hi
      obtain ⟨hil, hoi⟩ := List.getElem?_eq_some_iff.1 h1
      obtain ⟨sg, cap, rfl, _, _⟩ := hb2.1.form (by intro h; rw [h] at hil; simp at hil)
      have hbase : d1.base = o.a.r := by unfold Def.base Def.inner; rw [hi]; simp [h1]
      have x2 := hb2.1.cell i 2 hil (by omega)
      rw [hoi] at x2
      simp [openC, stC] at x2
      have hne : g ≠ sg := fun e => hb2.1.ne1 (by rw [e]; rfl)
      obtain ⟨b0, hb0⟩ : ∃ b0, o.a.r = b0 := ⟨_, rfl⟩
      rw [hb0] at x2 hbase
      clear h1 hb0
      replace hi := Lib.hid hi
      replace hb2 := Lib.hid hb2
      replace hon2 := Lib.hid hon2
      replace hbase := Lib.hid hbase
      replace hil := Lib.hid hil
      replace hoi := Lib.hid hoi
      unfold placeV
      have hon9 := DefB.setSt hon2.out stDead
      replace hon9 := Lib.hid hon9
      go_wp2_with fail
      go_end0
      exact hon9.out.post ⟨rfl, by rw [← hR.out, if_neg (by rw [hde.out]; simp)]⟩
  · rw [hde] at c9
    replace hde := Lib.hid hde
    go_wp2_with fail
    go_end0
    exact hon1.out.post ⟨rfl, by rw [← hR.out, if_pos hde.out]⟩
set_option maxHeartbeats 2000000 in
theorem oper_13 (g : Nat) (d : Def) (hwt : ∀ w, Calls Tryz.prog 151 #[.int .i64 13] w fun e w' => e = .returned (.tuple #[.int .i64 (Code.wants 13).1, .int .i64 (Code.wants 13).2]) ∧ ∃ n, w' = w.drewN n) (vs ve : Value) (w : World) (F : Nat → Prop) (hb : (DefB g d vs ve).holds w F) :
    Calls Tryz.prog 135 #[.pointer (some ⟨g, 0, none⟩), .int .i64 13] w (Post (fun u B => u = .tuple #[] ∧ B = DefB g (d.operation 13) vs ve) F w) := by
  have hon := On.refl hb
  rw [op_eq d 13 (by omega)]
  have htk := fun w1 F' hb' => takes_walk g d (Code.wants 13).1 (Code.wants 13).2 vs ve w1 F' hb'
  obtain ⟨t, ht⟩ : ∃ t, (Code.wants 13).1 = t := ⟨_, rfl⟩
  obtain ⟨l, hl⟩ : ∃ l, (Code.wants 13).2 = l := ⟨_, rfl⟩
  rw [ht, hl] at htk ⊢
  have hwt' : ∀ w, Calls Tryz.prog 151 #[.int .i64 13] w fun e w' => e = .returned (.tuple #[.int .i64 t, .int .i64 l]) ∧ ∃ n, w' = w.drewN n := by rw [← ht, ← hl]; exact hwt
  clear hwt ht hl
  generalize d.takes t l = d1 at *
  have hin := fun w1 F' hb' => inner_walk g d1 vs ve w1 F' hb'
  have hbd := fun w1 F' hb' => bad_walk g d1 vs ve w1 F' hb'
  clear hb
  have hrest : d1.opRest 13 = { d1 with s := { d1.s with r := wrap64 (d1.s.r + 1) } } := rfl
  rw [hrest]
  clear hrest
  obtain ⟨R, hR⟩ : ∃ R, (if d1.s.dead then d1 else { d1 with s := { d1.s with r := wrap64 (d1.s.r + 1) } }) = R := ⟨_, rfl⟩
  rw [hR]
  replace hR := Lib.hid hR
  replace hon := Lib.hid hon
  replace htk := Lib.hid htk
  replace hwt' := Lib.hid hwt'
  replace hin := Lib.hid hin
  replace hbd := Lib.hid hbd
  go_enter Tryz.func135, Tryz.ntmps135
  go_wp2_with fail
  refine (hwt'.out _).mono ?_
  rintro e w' ⟨rfl, n0, rfl⟩
  go_wp2_with fail
  refine ((hon.out.drewN n0).call fun F' hb' => htk.out _ F' hb').mono ?_
  rintro e w1 ⟨v, A', ⟨rfl, rfl⟩, rfl, hon1⟩
  obtain ⟨F1, hb1, _⟩ := id hon1
  have c9 := hb1.1.blk.cell 9
  simp [defC] at c9
  clear hb1
  replace hon1 := Lib.hid hon1
  rcases hde : d1.s.dead with _ | _
  · rw [hde] at c9
    replace hde := Lib.hid hde
    go_wp2_with fail
    refine (hon1.out.call fun F' hb' => hin.out _ F' hb').mono ?_
    rintro e w2 ⟨v, A', ⟨rfl, rfl⟩, rfl, hon2⟩
    obtain ⟨F2, hb2, _⟩ := id hon2
    clear c9
    have c7 := hb2.1.blk.cell 7
    have c8 := hb2.1.blk.cell 8
    have c9 := hb2.1.blk.cell 9
    have f7 := hb2.1.blk.frozen 7
    have f8 := hb2.1.blk.frozen 8
    have f9 := hb2.1.blk.frozen 9
    simp [defC] at c7 c8 c9
    rcases hi : innerAt d1.stack with _ | i
    · have hbase : d1.base = 0 := by unfold Def.base Def.inner; rw [hi]; rfl
      replace hi := Lib.hid hi
      replace hb2 := Lib.hid hb2
      replace hon2 := Lib.hid hon2
      replace hbase := Lib.hid hbase
      unfold placeV
      have hon9 := DefB.setR hon2.out (wrap64 (d1.s.r + 1))
      replace hon9 := Lib.hid hon9
      go_wp2_with fail
      go_end0
      exact hon9.out.post ⟨rfl, by rw [← hR.out, if_neg (by rw [hde.out]; simp)]⟩
    · obtain ⟨o, h1, _, _⟩ := innerAt_some d1.stack i hi
      obtain ⟨hil, hoi⟩ := List.getElem?_eq_some_iff.1 h1
      obtain ⟨sg, cap, rfl, _, _⟩ := hb2.1.form (by intro h; rw [h] at hil; simp at hil)
      have hbase : d1.base = o.a.r := by unfold Def.base Def.inner; rw [hi]; simp [h1]
      have x2 := hb2.1.cell i 2 hil (by omega)
      rw [hoi] at x2
      simp [openC, stC] at x2
      have hne : g ≠ sg := fun e => hb2.1.ne1 (by rw [e]; rfl)
      obtain ⟨b0, hb0⟩ : ∃ b0, o.a.r = b0 := ⟨_, rfl⟩
      rw [hb0] at x2 hbase
      clear h1 hb0
      replace hi := Lib.hid hi
      replace hb2 := Lib.hid hb2
      replace hon2 := Lib.hid hon2
      replace hbase := Lib.hid hbase
      replace hil := Lib.hid hil
      replace hoi := Lib.hid hoi
      unfold placeV
      have hon9 := DefB.setR hon2.out (wrap64 (d1.s.r + 1))
      replace hon9 := Lib.hid hon9
      go_wp2_with fail
      go_end0
      exact hon9.out.post ⟨rfl, by rw [← hR.out, if_neg (by rw [hde.out]; simp)]⟩
  · rw [hde] at c9
    replace hde := Lib.hid hde
    go_wp2_with fail
    go_end0
    exact hon1.out.post ⟨rfl, by rw [← hR.out, if_pos hde.out]⟩
set_option maxHeartbeats 2000000 in
theorem oper_14 (g : Nat) (d : Def) (hwt : ∀ w, Calls Tryz.prog 151 #[.int .i64 14] w fun e w' => e = .returned (.tuple #[.int .i64 (Code.wants 14).1, .int .i64 (Code.wants 14).2]) ∧ ∃ n, w' = w.drewN n) (vs ve : Value) (w : World) (F : Nat → Prop) (hb : (DefB g d vs ve).holds w F) :
    Calls Tryz.prog 135 #[.pointer (some ⟨g, 0, none⟩), .int .i64 14] w (Post (fun u B => u = .tuple #[] ∧ B = DefB g (d.operation 14) vs ve) F w) := by
  have hon := On.refl hb
  rw [op_eq d 14 (by omega)]
  have htk := fun w1 F' hb' => takes_walk g d (Code.wants 14).1 (Code.wants 14).2 vs ve w1 F' hb'
  obtain ⟨t, ht⟩ : ∃ t, (Code.wants 14).1 = t := ⟨_, rfl⟩
  obtain ⟨l, hl⟩ : ∃ l, (Code.wants 14).2 = l := ⟨_, rfl⟩
  rw [ht, hl] at htk ⊢
  have hwt' : ∀ w, Calls Tryz.prog 151 #[.int .i64 14] w fun e w' => e = .returned (.tuple #[.int .i64 t, .int .i64 l]) ∧ ∃ n, w' = w.drewN n := by rw [← ht, ← hl]; exact hwt
  clear hwt ht hl
  generalize d.takes t l = d1 at *
  have hin := fun w1 F' hb' => inner_walk g d1 vs ve w1 F' hb'
  have hbd := fun w1 F' hb' => bad_walk g d1 vs ve w1 F' hb'
  clear hb
  have hrest : d1.opRest 14 = (let d2 := if d1.s.r ≤ d1.base then d1.bad else d1; { d2 with s := { d2.s with r := wrap64 (d2.s.r - 1) } }) := rfl
  obtain ⟨R, hR⟩ : ∃ R, (if d1.s.dead then d1 else d1.opRest 14) = R := ⟨_, rfl⟩
  rw [hR]
  replace hR := Lib.hid hR
  replace hon := Lib.hid hon
  replace htk := Lib.hid htk
  replace hwt' := Lib.hid hwt'
  replace hin := Lib.hid hin
  replace hbd := Lib.hid hbd
  replace hrest := Lib.hid hrest
  go_enter Tryz.func135, Tryz.ntmps135
  go_wp2_with fail
  refine (hwt'.out _).mono ?_
  rintro e w' ⟨rfl, n0, rfl⟩
  go_wp2_with fail
  refine ((hon.out.drewN n0).call fun F' hb' => htk.out _ F' hb').mono ?_
  rintro e w1 ⟨v, A', ⟨rfl, rfl⟩, rfl, hon1⟩
  obtain ⟨F1, hb1, _⟩ := id hon1
  have c9 := hb1.1.blk.cell 9
  simp [defC] at c9
  clear hb1
  replace hon1 := Lib.hid hon1
  rcases hde : d1.s.dead with _ | _
  · rw [hde] at c9
    replace hde := Lib.hid hde
    go_wp2_with fail
    refine (hon1.out.call fun F' hb' => hin.out _ F' hb').mono ?_
    rintro e w2 ⟨v, A', ⟨rfl, rfl⟩, rfl, hon2⟩
    obtain ⟨F2, hb2, _⟩ := id hon2
    clear c9
    have c7 := hb2.1.blk.cell 7
    have c8 := hb2.1.blk.cell 8
    have c9 := hb2.1.blk.cell 9
    have f7 := hb2.1.blk.frozen 7
    have f8 := hb2.1.blk.frozen 8
    have f9 := hb2.1.blk.frozen 9
    simp [defC] at c7 c8 c9
    rcases hi : innerAt d1.stack with _ | i
    · have hbase : d1.base = 0 := by unfold Def.base Def.inner; rw [hi]; rfl
      replace hi := Lib.hid hi
      replace hb2 := Lib.hid hb2
      replace hon2 := Lib.hid hon2
      replace hbase := Lib.hid hbase
      unfold placeV
      by_cases hle : d1.s.r ≤ 0
      · have hle' : decide (d1.s.r ≤ 0) = true := decide_eq_true hle
        replace hle := Lib.hid hle
        go_wp2_with fail
        refine (hon2.out.call fun F' hb' => hbd.out _ F' hb').mono ?_
        rintro e w3 ⟨v, A', ⟨rfl, rfl⟩, rfl, hon3⟩
        clear c7 c8 c9 f7 f8 f9
        replace hon3 := Lib.hid hon3
        obtain ⟨F3, hb3, _⟩ := id hon3.out
        have c8 := hb3.1.blk.cell 8
        have f8 := hb3.1.blk.frozen 8
        simp [defC, Def.bad] at c8
        clear hb3
        have hon9 := DefB.setR hon3.out (wrap64 (d1.s.r - 1))
        replace hon9 := Lib.hid hon9
        go_wp2_with fail
        go_end0
        exact hon9.out.post ⟨rfl, by rw [← hR.out, if_neg (by rw [hde.out]; simp), hrest.out, hbase.out, if_pos hle.out]; rfl⟩
      · have hle' : decide (d1.s.r ≤ 0) = false := decide_eq_false hle
        replace hle := Lib.hid hle
        have hon3 := hon2
        clear c7 c9 f7 f9 
        obtain ⟨F3, hb3, _⟩ := id hon3.out
        have c8b := hb3.1.blk.cell 8
        have f8b := hb3.1.blk.frozen 8
        simp [defC] at c8b
        clear hb3
        have hon9 := DefB.setR hon3.out (wrap64 (d1.s.r - 1))
        replace hon9 := Lib.hid hon9
        go_wp2_with fail
        go_end0
        exact hon9.out.post ⟨rfl, by rw [← hR.out, if_neg (by rw [hde.out]; simp), hrest.out, hbase.out, if_neg (by have := hle.out; omega)]⟩
    · obtain ⟨o, h1, _, _⟩ := innerAt_some d1.stack i hi
      obtain ⟨hil, hoi⟩ := List.getElem?_eq_some_iff.1 h1
      obtain ⟨sg, cap, rfl, _, _⟩ := hb2.1.form (by intro h; rw [h] at hil; simp at hil)
      have hbase : d1.base = o.a.r := by unfold Def.base Def.inner; rw [hi]; simp [h1]
      have x2 := hb2.1.cell i 2 hil (by omega)
      rw [hoi] at x2
      simp [openC, stC] at x2
      have hne : g ≠ sg := fun e => hb2.1.ne1 (by rw [e]; rfl)
      obtain ⟨b0, hb0⟩ : ∃ b0, o.a.r = b0 := ⟨_, rfl⟩
      rw [hb0] at x2 hbase
      clear h1 hb0
      replace hi := Lib.hid hi
      replace hb2 := Lib.hid hb2
      replace hon2 := Lib.hid hon2
      replace hbase := Lib.hid hbase
      replace hil := Lib.hid hil
      replace hoi := Lib.hid hoi
      unfold placeV
      by_cases hle : d1.s.r ≤ b0
      · have hle' : decide (d1.s.r ≤ b0) = true := decide_eq_true hle
        replace hle := Lib.hid hle
        go_wp2_with fail
        refine (hon2.out.call fun F' hb' => hbd.out _ F' hb').mono ?_
        rintro e w3 ⟨v, A', ⟨rfl, rfl⟩, rfl, hon3⟩
        clear c7 c8 c9 f7 f8 f9
        replace hon3 := Lib.hid hon3
        obtain ⟨F3, hb3, _⟩ := id hon3.out
        have c8 := hb3.1.blk.cell 8
        have f8 := hb3.1.blk.frozen 8
        simp [defC, Def.bad] at c8
        clear hb3
        have hon9 := DefB.setR hon3.out (wrap64 (d1.s.r - 1))
        replace hon9 := Lib.hid hon9
        go_wp2_with fail
        go_end0
        exact hon9.out.post ⟨rfl, by rw [← hR.out, if_neg (by rw [hde.out]; simp), hrest.out, hbase.out, if_pos hle.out]; rfl⟩
      · have hle' : decide (d1.s.r ≤ b0) = false := decide_eq_false hle
        replace hle := Lib.hid hle
        have hon3 := hon2
        clear c7 c9 f7 f9 
        obtain ⟨F3, hb3, _⟩ := id hon3.out
        have c8b := hb3.1.blk.cell 8
        have f8b := hb3.1.blk.frozen 8
        simp [defC] at c8b
        clear hb3
        have hon9 := DefB.setR hon3.out (wrap64 (d1.s.r - 1))
        replace hon9 := Lib.hid hon9
        go_wp2_with fail
        go_end0
        exact hon9.out.post ⟨rfl, by rw [← hR.out, if_neg (by rw [hde.out]; simp), hrest.out, hbase.out, if_neg (by have := hle.out; omega)]⟩
  · rw [hde] at c9
    replace hde := Lib.hid hde
    go_wp2_with fail
    go_end0
    exact hon1.out.post ⟨rfl, by rw [← hR.out, if_pos hde.out]⟩
set_option maxHeartbeats 2000000 in
theorem oper_15 (g : Nat) (d : Def) (hwt : ∀ w, Calls Tryz.prog 151 #[.int .i64 15] w fun e w' => e = .returned (.tuple #[.int .i64 (Code.wants 15).1, .int .i64 (Code.wants 15).2]) ∧ ∃ n, w' = w.drewN n) (vs ve : Value) (w : World) (F : Nat → Prop) (hb : (DefB g d vs ve).holds w F) :
    Calls Tryz.prog 135 #[.pointer (some ⟨g, 0, none⟩), .int .i64 15] w (Post (fun u B => u = .tuple #[] ∧ B = DefB g (d.operation 15) vs ve) F w) := by
  have hon := On.refl hb
  rw [op_eq d 15 (by omega)]
  have htk := fun w1 F' hb' => takes_walk g d (Code.wants 15).1 (Code.wants 15).2 vs ve w1 F' hb'
  obtain ⟨t, ht⟩ : ∃ t, (Code.wants 15).1 = t := ⟨_, rfl⟩
  obtain ⟨l, hl⟩ : ∃ l, (Code.wants 15).2 = l := ⟨_, rfl⟩
  rw [ht, hl] at htk ⊢
  have hwt' : ∀ w, Calls Tryz.prog 151 #[.int .i64 15] w fun e w' => e = .returned (.tuple #[.int .i64 t, .int .i64 l]) ∧ ∃ n, w' = w.drewN n := by rw [← ht, ← hl]; exact hwt
  clear hwt ht hl
  generalize d.takes t l = d1 at *
  have hin := fun w1 F' hb' => inner_walk g d1 vs ve w1 F' hb'
  have hbd := fun w1 F' hb' => bad_walk g d1 vs ve w1 F' hb'
  clear hb
  have hrest : d1.opRest 15 = (if d1.s.r ≤ d1.base then d1.bad else d1) := rfl
  obtain ⟨R, hR⟩ : ∃ R, (if d1.s.dead then d1 else d1.opRest 15) = R := ⟨_, rfl⟩
  rw [hR]
  replace hR := Lib.hid hR
  replace hon := Lib.hid hon
  replace htk := Lib.hid htk
  replace hwt' := Lib.hid hwt'
  replace hin := Lib.hid hin
  replace hbd := Lib.hid hbd
  replace hrest := Lib.hid hrest
  go_enter Tryz.func135, Tryz.ntmps135
  go_wp2_with fail
  refine (hwt'.out _).mono ?_
  rintro e w' ⟨rfl, n0, rfl⟩
  go_wp2_with fail
  refine ((hon.out.drewN n0).call fun F' hb' => htk.out _ F' hb').mono ?_
  rintro e w1 ⟨v, A', ⟨rfl, rfl⟩, rfl, hon1⟩
  obtain ⟨F1, hb1, _⟩ := id hon1
  have c9 := hb1.1.blk.cell 9
  simp [defC] at c9
  clear hb1
  replace hon1 := Lib.hid hon1
  rcases hde : d1.s.dead with _ | _
  · rw [hde] at c9
    replace hde := Lib.hid hde
    go_wp2_with fail
    refine (hon1.out.call fun F' hb' => hin.out _ F' hb').mono ?_
    rintro e w2 ⟨v, A', ⟨rfl, rfl⟩, rfl, hon2⟩
    obtain ⟨F2, hb2, _⟩ := id hon2
    clear c9
    have c7 := hb2.1.blk.cell 7
    have c8 := hb2.1.blk.cell 8
    have c9 := hb2.1.blk.cell 9
    have f7 := hb2.1.blk.frozen 7
    have f8 := hb2.1.blk.frozen 8
    have f9 := hb2.1.blk.frozen 9
    simp [defC] at c7 c8 c9
    rcases hi : innerAt d1.stack with _ | i
    · have hbase : d1.base = 0 := by unfold Def.base Def.inner; rw [hi]; rfl
      replace hi := Lib.hid hi
      replace hb2 := Lib.hid hb2
      replace hon2 := Lib.hid hon2
      replace hbase := Lib.hid hbase
      unfold placeV
      by_cases hle : d1.s.r ≤ 0
      · have hle' : decide (d1.s.r ≤ 0) = true := decide_eq_true hle
        replace hle := Lib.hid hle
        go_wp2_with fail
        refine (hon2.out.call fun F' hb' => hbd.out _ F' hb').mono ?_
        rintro e w3 ⟨v, A', ⟨rfl, rfl⟩, rfl, hon3⟩
        clear c7 c8 c9 f7 f8 f9
        replace hon3 := Lib.hid hon3
        go_wp2_with fail
        go_end0
        exact hon3.out.post ⟨rfl, by rw [← hR.out, if_neg (by rw [hde.out]; simp), hrest.out, hbase.out, if_pos hle.out]⟩
      · have hle' : decide (d1.s.r ≤ 0) = false := decide_eq_false hle
        replace hle := Lib.hid hle
        have hon3 := hon2
        clear c7 c9 f7 f9 
        go_wp2_with fail
        go_end0
        exact hon3.out.post ⟨rfl, by rw [← hR.out, if_neg (by rw [hde.out]; simp), hrest.out, hbase.out, if_neg (by have := hle.out; omega)]⟩
    · obtain ⟨o, h1, _, _⟩ := innerAt_some d1.stack i hi
      obtain ⟨hil, hoi⟩ := List.getElem?_eq_some_iff.1 h1
      obtain ⟨sg, cap, rfl, _, _⟩ := hb2.1.form (by intro h; rw [h] at hil; simp at hil)
      have hbase : d1.base = o.a.r := by unfold Def.base Def.inner; rw [hi]; simp [h1]
      have x2 := hb2.1.cell i 2 hil (by omega)
      rw [hoi] at x2
      simp [openC, stC] at x2
      have hne : g ≠ sg := fun e => hb2.1.ne1 (by rw [e]; rfl)
      obtain ⟨b0, hb0⟩ : ∃ b0, o.a.r = b0 := ⟨_, rfl⟩
      rw [hb0] at x2 hbase
      clear h1 hb0
      replace hi := Lib.hid hi
      replace hb2 := Lib.hid hb2
      replace hon2 := Lib.hid hon2
      replace hbase := Lib.hid hbase
      replace hil := Lib.hid hil
      replace hoi := Lib.hid hoi
      unfold placeV
      by_cases hle : d1.s.r ≤ b0
      · have hle' : decide (d1.s.r ≤ b0) = true := decide_eq_true hle
        replace hle := Lib.hid hle
        go_wp2_with fail
        refine (hon2.out.call fun F' hb' => hbd.out _ F' hb').mono ?_
        rintro e w3 ⟨v, A', ⟨rfl, rfl⟩, rfl, hon3⟩
        clear c7 c8 c9 f7 f8 f9
        replace hon3 := Lib.hid hon3
        go_wp2_with fail
        go_end0
        exact hon3.out.post ⟨rfl, by rw [← hR.out, if_neg (by rw [hde.out]; simp), hrest.out, hbase.out, if_pos hle.out]⟩
      · have hle' : decide (d1.s.r ≤ b0) = false := decide_eq_false hle
        replace hle := Lib.hid hle
        have hon3 := hon2
        clear c7 c9 f7 f9 
        go_wp2_with fail
        go_end0
        exact hon3.out.post ⟨rfl, by rw [← hR.out, if_neg (by rw [hde.out]; simp), hrest.out, hbase.out, if_neg (by have := hle.out; omega)]⟩
  · rw [hde] at c9
    replace hde := Lib.hid hde
    go_wp2_with fail
    go_end0
    exact hon1.out.post ⟨rfl, by rw [← hR.out, if_pos hde.out]⟩
set_option maxHeartbeats 2000000 in
theorem oper_x (g : Nat) (d : Def) (op : Int) (ho : ¬ (op = 29 ∨ op = 26 ∨ op = 16 ∨ op = 85 ∨ op = 10 ∨ op = 93)) (ho2 : ¬ (op = 105 ∨ op = 13 ∨ op = 14 ∨ op = 15)) (hwt : ∀ w, Calls Tryz.prog 151 #[.int .i64 op] w fun e w' => e = .returned (.tuple #[.int .i64 (Code.wants op).1, .int .i64 (Code.wants op).2]) ∧ ∃ n, w' = w.drewN n) (vs ve : Value) (w : World) (F : Nat → Prop) (hb : (DefB g d vs ve).holds w F) :
    Calls Tryz.prog 135 #[.pointer (some ⟨g, 0, none⟩), .int .i64 op] w (Post (fun u B => u = .tuple #[] ∧ B = DefB g (d.operation op) vs ve) F w) := by
  have hon := On.refl hb
  rw [op_eq d op ho]
  have htk := fun w1 F' hb' => takes_walk g d (Code.wants op).1 (Code.wants op).2 vs ve w1 F' hb'
  obtain ⟨t, ht⟩ : ∃ t, (Code.wants op).1 = t := ⟨_, rfl⟩
  obtain ⟨l, hl⟩ : ∃ l, (Code.wants op).2 = l := ⟨_, rfl⟩
  rw [ht, hl] at htk ⊢
  have hwt' : ∀ w, Calls Tryz.prog 151 #[.int .i64 op] w fun e w' => e = .returned (.tuple #[.int .i64 t, .int .i64 l]) ∧ ∃ n, w' = w.drewN n := by rw [← ht, ← hl]; exact hwt
  clear hwt ht hl
  generalize d.takes t l = d1 at *
  have hin := fun w1 F' hb' => inner_walk g d1 vs ve w1 F' hb'
  have hbd := fun w1 F' hb' => bad_walk g d1 vs ve w1 F' hb'
  clear hb
  have q1 : (op == 29) = false := by rw [beq_eq_false_iff_ne]; omega
  have q2 : (op == 26) = false := by rw [beq_eq_false_iff_ne]; omega
  have q3 : (op == 16) = false := by rw [beq_eq_false_iff_ne]; omega
  have q4 : (op == 85) = false := by rw [beq_eq_false_iff_ne]; omega
  have q5 : (op == 10) = false := by rw [beq_eq_false_iff_ne]; omega
  have q6 : (op == 93) = false := by rw [beq_eq_false_iff_ne]; omega
  have q7 : (op == 105) = false := by rw [beq_eq_false_iff_ne]; omega
  have q8 : (op == 13) = false := by rw [beq_eq_false_iff_ne]; omega
  have q9 : (op == 14) = false := by rw [beq_eq_false_iff_ne]; omega
  have q10 : (op == 15) = false := by rw [beq_eq_false_iff_ne]; omega
  have hrest : d1.opRest op = d1 := by unfold Def.opRest; rw [if_neg (by omega), if_neg (by omega), if_neg (by omega), if_neg (by omega)]
  rw [hrest]
  clear ho ho2 hrest
  obtain ⟨R, hR⟩ : ∃ R, (if d1.s.dead then d1 else d1) = R := ⟨_, rfl⟩
  rw [hR]
  replace hR := Lib.hid hR
  replace hon := Lib.hid hon
  replace htk := Lib.hid htk
  replace hwt' := Lib.hid hwt'
  replace hin := Lib.hid hin
  replace hbd := Lib.hid hbd
  go_enter Tryz.func135, Tryz.ntmps135
  go_wp2_with fail
  refine (hwt'.out _).mono ?_
  rintro e w' ⟨rfl, n0, rfl⟩
  go_wp2_with fail
  refine ((hon.out.drewN n0).call fun F' hb' => htk.out _ F' hb').mono ?_
  rintro e w1 ⟨v, A', ⟨rfl, rfl⟩, rfl, hon1⟩
  obtain ⟨F1, hb1, _⟩ := id hon1
  have c9 := hb1.1.blk.cell 9
  simp [defC] at c9
  clear hb1
  replace hon1 := Lib.hid hon1
  rcases hde : d1.s.dead with _ | _
  · rw [hde] at c9
    replace hde := Lib.hid hde
    go_wp2_with fail
    refine (hon1.out.call fun F' hb' => hin.out _ F' hb').mono ?_
    rintro e w2 ⟨v, A', ⟨rfl, rfl⟩, rfl, hon2⟩
    obtain ⟨F2, hb2, _⟩ := id hon2
    clear c9
    have c7 := hb2.1.blk.cell 7
    have c8 := hb2.1.blk.cell 8
    have c9 := hb2.1.blk.cell 9
    have f7 := hb2.1.blk.frozen 7
    have f8 := hb2.1.blk.frozen 8
    have f9 := hb2.1.blk.frozen 9
    simp [defC] at c7 c8 c9
    rcases hi : innerAt d1.stack with _ | i
    · have hbase : d1.base = 0 := by unfold Def.base Def.inner; rw [hi]; rfl
      replace hi := Lib.hid hi
      replace hb2 := Lib.hid hb2
      replace hon2 := Lib.hid hon2
      replace hbase := Lib.hid hbase
      unfold placeV
      go_wp2_with fail
      go_end0
      exact hon2.out.post ⟨rfl, by rw [← hR.out, if_neg (by rw [hde.out]; simp)]⟩
    · obtain ⟨o, h1, _, _⟩ := innerAt_some d1.stack i hi
      obtain ⟨hil, hoi⟩ := List.getElem?_eq_some_iff.1 h1
      obtain ⟨sg, cap, rfl, _, _⟩ := hb2.1.form (by intro h; rw [h] at hil; simp at hil)
      have hbase : d1.base = o.a.r := by unfold Def.base Def.inner; rw [hi]; simp [h1]
      have x2 := hb2.1.cell i 2 hil (by omega)
      rw [hoi] at x2
      simp [openC, stC] at x2
      have hne : g ≠ sg := fun e => hb2.1.ne1 (by rw [e]; rfl)
      obtain ⟨b0, hb0⟩ : ∃ b0, o.a.r = b0 := ⟨_, rfl⟩
      rw [hb0] at x2 hbase
      clear h1 hb0
      replace hi := Lib.hid hi
      replace hb2 := Lib.hid hb2
      replace hon2 := Lib.hid hon2
      replace hbase := Lib.hid hbase
      replace hil := Lib.hid hil
      replace hoi := Lib.hid hoi
      unfold placeV
      go_wp2_with fail
      go_end0
      exact hon2.out.post ⟨rfl, by rw [← hR.out, if_neg (by rw [hde.out]; simp)]⟩
  · rw [hde] at c9
    replace hde := Lib.hid hde
    go_wp2_with fail
    go_end0
    exact hon1.out.post ⟨rfl, by rw [← hR.out, if_pos hde.out]⟩
theorem operation_walk (g : Nat) (d : Def) (op : Nat) (h1 : 1 ≤ op) (h2 : op ≤ 106) (vs ve : Value) (w : World) (F : Nat → Prop) (hb : (DefB g d vs ve).holds w F) :
    Calls Tryz.prog 135 #[.pointer (some ⟨g, 0, none⟩), .int .i64 (op : Int)] w (Post (fun u B => u = .tuple #[] ∧ B = DefB g (d.operation op) vs ve) F w) := by
  have hwt : ∀ w, Calls Tryz.prog 151 #[.int .i64 (op : Int)] w fun e w' => e = .returned (.tuple #[.int .i64 (Code.wants op).1, .int .i64 (Code.wants op).2]) ∧ ∃ n, w' = w.drewN n := by
    intro w
    obtain ⟨i, rfl⟩ : ∃ i, op = i + 1 := ⟨op - 1, by omega⟩
    exact wants_in i (by omega) w
  by_cases h : (op : Int) = 29 ∨ (op : Int) = 26 ∨ (op : Int) = 16 ∨ (op : Int) = 85 ∨ (op : Int) = 10 ∨ (op : Int) = 93
  · exact oper_bad g d op h vs ve w F hb
  · by_cases h2 : (op : Int) = 105 ∨ (op : Int) = 13 ∨ (op : Int) = 14 ∨ (op : Int) = 15
    · rcases h2 with h2 | h2 | h2 | h2
      · rw [h2] at hwt ⊢; exact oper_105 g d hwt vs ve w F hb
      · rw [h2] at hwt ⊢; exact oper_13 g d hwt vs ve w F hb
      · rw [h2] at hwt ⊢; exact oper_14 g d hwt vs ve w F hb
      · rw [h2] at hwt ⊢; exact oper_15 g d hwt vs ve w F hb
    · exact oper_x g d op h h2 hwt vs ve w F hb
end Look
end Go.Proofs.YthejfkkmcbdlhaaGreatDoor
/- Chapter 19: special. Conditions: fewer things open, fewer ends than a text has bytes; an OF is never the first thing that is open. -/
namespace Go.Proofs.YthejfkkmcbdlhaaGreatDoor
set_option linter.unusedVariables false
set_option maxRecDepth 100000
open Go.RowKit Go.Lib
namespace Look
/-- a method that makes the definition another -/
def Makes (g : Nat) (d' : Def) (F : Nat → Prop) (w : World) : Ending → World → Prop := Post (fun u B => u = .tuple #[] ∧ ∃ vs' ve', B = DefB g d' vs' ve') F w
set_option maxHeartbeats 2000000 in
theorem special_still (g : Nat) (d : Def) (k : Nat) (hk : k = 15 ∨ k = 16 ∨ k = 18) (vs ve : Value) (w : World) (F : Nat → Prop) (hb : (DefB g d vs ve).holds w F) :
    Calls Tryz.prog 136 #[.pointer (some ⟨g, 0, none⟩), .int .i64 (k : Int)] w (Makes g d F w) := by
  have hon := On.refl hb
  clear hb
  replace hon := Lib.hid hon
  unfold Makes
  rcases hk with rfl | rfl | rfl
  all_goals
    go_enter Tryz.func136, Tryz.ntmps136
    go_wp2_with fail
    go_end0
    exact hon.out.post ⟨rfl, _, _, rfl⟩
set_option maxHeartbeats 2000000 in
theorem special_one (g : Nat) (d : Def) (k : Nat) (hk : k = 8 ∨ k = 10) (vs ve : Value) (w : World) (F : Nat → Prop) (hb : (DefB g d vs ve).holds w F) :
    Calls Tryz.prog 136 #[.pointer (some ⟨g, 0, none⟩), .int .i64 (k : Int)] w (Makes g (d.takes 0 1) F w) := by
  have hon := On.refl hb
  have hcl := fun w1 F' hb' => takes_walk g d 0 1 vs ve w1 F' hb'
  clear hb
  replace hon := Lib.hid hon
  unfold Makes
  rcases hk with rfl | rfl
  all_goals
    replace hcl := Lib.hid hcl
    go_enter Tryz.func136, Tryz.ntmps136
    go_wp2_with fail
    refine (hon.out.call fun F' hb' => hcl.out _ F' hb').mono ?_
    rintro e w1 ⟨v, A', ⟨rfl, rfl⟩, rfl, hon1⟩
    replace hon1 := Lib.hid hon1
    go_wp2_with fail
    go_end0
    exact hon1.out.post ⟨rfl, _, _, rfl⟩
set_option maxHeartbeats 2000000 in
theorem special_two (g : Nat) (d : Def) (k : Nat) (hk : k = 17) (vs ve : Value) (w : World) (F : Nat → Prop) (hb : (DefB g d vs ve).holds w F) :
    Calls Tryz.prog 136 #[.pointer (some ⟨g, 0, none⟩), .int .i64 (k : Int)] w (Makes g (d.takes 0 2) F w) := by
  have hon := On.refl hb
  have hcl := fun w1 F' hb' => takes_walk g d 0 2 vs ve w1 F' hb'
  clear hb
  replace hon := Lib.hid hon
  unfold Makes
  rcases hk with rfl
  all_goals
    replace hcl := Lib.hid hcl
    go_enter Tryz.func136, Tryz.ntmps136
    go_wp2_with fail
    refine (hon.out.call fun F' hb' => hcl.out _ F' hb').mono ?_
    rintro e w1 ⟨v, A', ⟨rfl, rfl⟩, rfl, hon1⟩
    replace hon1 := Lib.hid hon1
    go_wp2_with fail
    go_end0
    exact hon1.out.post ⟨rfl, _, _, rfl⟩
set_option maxHeartbeats 2000000 in
theorem special_branch (g : Nat) (d : Def) (k : Nat) (hk : k = 19 ∨ k = 20 ∨ k = 21) (hn : d.stack.length ≤ 100000) (vs ve : Value) (w : World) (F : Nat → Prop) (hb : (DefB g d vs ve).holds w F) :
    Calls Tryz.prog 136 #[.pointer (some ⟨g, 0, none⟩), .int .i64 (k : Int)] w (Makes g (d.branch k) F w) := by
  have hon := On.refl hb
  have hcl := fun w1 F' hb' => branch_walk g d k (by omega) hn vs ve w1 F' hb'
  clear hb
  replace hon := Lib.hid hon
  unfold Makes
  rcases hk with rfl | rfl | rfl
  all_goals
    replace hcl := Lib.hid hcl
    go_enter Tryz.func136, Tryz.ntmps136
    go_wp2_with fail
    refine (hon.out.call fun F' hb' => hcl.out _ F' hb').mono ?_
    rintro e w1 ⟨v, A', ⟨rfl, vs', rfl⟩, rfl, hon1⟩
    replace hon1 := Lib.hid hon1
    go_wp2_with fail
    go_end0
    exact hon1.out.post ⟨rfl, _, _, rfl⟩
set_option maxHeartbeats 2000000 in
theorem special_turns (g : Nat) (d : Def) (k : Nat) (hk : k = 22 ∨ k = 23 ∨ k = 24 ∨ k = 25 ∨ k = 26) (hn : d.stack.length ≤ 100000) (vs ve : Value) (w : World) (F : Nat → Prop) (hb : (DefB g d vs ve).holds w F) :
    Calls Tryz.prog 136 #[.pointer (some ⟨g, 0, none⟩), .int .i64 (k : Int)] w (Makes g (d.turns k) F w) := by
  have hon := On.refl hb
  have hcl := fun w1 F' hb' => turns_walk g d k (by omega) hn vs ve w1 F' hb'
  clear hb
  replace hon := Lib.hid hon
  unfold Makes
  rcases hk with rfl | rfl | rfl | rfl | rfl
  all_goals
    replace hcl := Lib.hid hcl
    go_enter Tryz.func136, Tryz.ntmps136
    go_wp2_with fail
    refine (hon.out.call fun F' hb' => hcl.out _ F' hb').mono ?_
    rintro e w1 ⟨v, A', ⟨rfl, vs', rfl⟩, rfl, hon1⟩
    replace hon1 := Lib.hid hon1
    go_wp2_with fail
    go_end0
    exact hon1.out.post ⟨rfl, _, _, rfl⟩
set_option maxHeartbeats 2000000 in
theorem special_counts (g : Nat) (d : Def) (k : Nat) (hk : k = 27 ∨ k = 28 ∨ k = 29 ∨ k = 30 ∨ k = 31) (hn : d.stack.length ≤ 100000) (vs ve : Value) (w : World) (F : Nat → Prop) (hb : (DefB g d vs ve).holds w F) :
    Calls Tryz.prog 136 #[.pointer (some ⟨g, 0, none⟩), .int .i64 (k : Int)] w (Makes g (d.counts k) F w) := by
  have hon := On.refl hb
  have hcl := fun w1 F' hb' => counts_walk g d k (by omega) hn vs ve w1 F' hb'
  clear hb
  replace hon := Lib.hid hon
  unfold Makes
  rcases hk with rfl | rfl | rfl | rfl | rfl
  all_goals
    replace hcl := Lib.hid hcl
    go_enter Tryz.func136, Tryz.ntmps136
    go_wp2_with fail
    refine (hon.out.call fun F' hb' => hcl.out _ F' hb').mono ?_
    rintro e w1 ⟨v, A', ⟨rfl, vs', rfl⟩, rfl, hon1⟩
    replace hon1 := Lib.hid hon1
    go_wp2_with fail
    go_end0
    exact hon1.out.post ⟨rfl, _, _, rfl⟩
set_option maxHeartbeats 2000000 in
theorem special_choice (g : Nat) (d : Def) (k : Nat) (hk : k = 32 ∨ k = 33 ∨ k = 34 ∨ k = 35) (hok : d.Ok) (hn : d.stack.length ≤ 100000) (vs ve : Value) (w : World) (F : Nat → Prop) (hb : (DefB g d vs ve).holds w F) :
    Calls Tryz.prog 136 #[.pointer (some ⟨g, 0, none⟩), .int .i64 (k : Int)] w (Makes g (d.choice k) F w) := by
  have hon := On.refl hb
  have hcl := fun w1 F' hb' => choice_walk g d k (by omega) hok hn vs ve w1 F' hb'
  clear hb
  replace hon := Lib.hid hon
  unfold Makes
  rcases hk with rfl | rfl | rfl | rfl
  all_goals
    replace hcl := Lib.hid hcl
    go_enter Tryz.func136, Tryz.ntmps136
    go_wp2_with fail
    refine (hon.out.call fun F' hb' => hcl.out _ F' hb').mono ?_
    rintro e w1 ⟨v, A', ⟨rfl, vs', rfl⟩, rfl, hon1⟩
    replace hon1 := Lib.hid hon1
    go_wp2_with fail
    go_end0
    exact hon1.out.post ⟨rfl, _, _, rfl⟩
set_option maxHeartbeats 2000000 in
theorem special_else (g : Nat) (d : Def) (k : Nat) (hk : ¬ (k = 8 ∨ k = 10 ∨ 15 ≤ k ∧ k ≤ 36)) (vs ve : Value) (w : World) (F : Nat → Prop) (hb : (DefB g d vs ve).holds w F) :
    Calls Tryz.prog 136 #[.pointer (some ⟨g, 0, none⟩), .int .i64 (k : Int)] w (Makes g d.bad F w) := by
  have hon := On.refl hb
  have hcl := fun w1 F' hb' => bad_walk g d vs ve w1 F' hb'
  clear hb
  obtain ⟨kk, hkk⟩ : ∃ kk : Int, (k : Int) = kk := ⟨_, rfl⟩
  have q15 : (kk == 15) = false := by rw [beq_eq_false_iff_ne]; omega
  have q16 : (kk == 16) = false := by rw [beq_eq_false_iff_ne]; omega
  have q18 : (kk == 18) = false := by rw [beq_eq_false_iff_ne]; omega
  have q8 : (kk == 8) = false := by rw [beq_eq_false_iff_ne]; omega
  have q10 : (kk == 10) = false := by rw [beq_eq_false_iff_ne]; omega
  have q17 : (kk == 17) = false := by rw [beq_eq_false_iff_ne]; omega
  have q19 : (kk == 19) = false := by rw [beq_eq_false_iff_ne]; omega
  have q20 : (kk == 20) = false := by rw [beq_eq_false_iff_ne]; omega
  have q21 : (kk == 21) = false := by rw [beq_eq_false_iff_ne]; omega
  have q22 : (kk == 22) = false := by rw [beq_eq_false_iff_ne]; omega
  have q23 : (kk == 23) = false := by rw [beq_eq_false_iff_ne]; omega
  have q24 : (kk == 24) = false := by rw [beq_eq_false_iff_ne]; omega
  have q25 : (kk == 25) = false := by rw [beq_eq_false_iff_ne]; omega
  have q26 : (kk == 26) = false := by rw [beq_eq_false_iff_ne]; omega
  have q27 : (kk == 27) = false := by rw [beq_eq_false_iff_ne]; omega
  have q28 : (kk == 28) = false := by rw [beq_eq_false_iff_ne]; omega
  have q29 : (kk == 29) = false := by rw [beq_eq_false_iff_ne]; omega
  have q30 : (kk == 30) = false := by rw [beq_eq_false_iff_ne]; omega
  have q31 : (kk == 31) = false := by rw [beq_eq_false_iff_ne]; omega
  have q32 : (kk == 32) = false := by rw [beq_eq_false_iff_ne]; omega
  have q33 : (kk == 33) = false := by rw [beq_eq_false_iff_ne]; omega
  have q34 : (kk == 34) = false := by rw [beq_eq_false_iff_ne]; omega
  have q35 : (kk == 35) = false := by rw [beq_eq_false_iff_ne]; omega
  have q36 : (kk == 36) = false := by rw [beq_eq_false_iff_ne]; omega
  rw [hkk]
  clear hk hkk
  replace hon := Lib.hid hon
  replace hcl := Lib.hid hcl
  unfold Makes
  go_enter Tryz.func136, Tryz.ntmps136
  go_wp2_with fail
  refine (hon.out.call fun F' hb' => hcl.out _ F' hb').mono ?_
  rintro e w1 ⟨v, A', ⟨rfl, rfl⟩, rfl, hon1⟩
  replace hon1 := Lib.hid hon1
  go_wp2_with fail
  go_end0
  exact hon1.out.post ⟨rfl, _, _, rfl⟩
/-- EXIT -/
def Def.exits (d : Def) : Def := { d.end_ with s := { d.end_.s with dead := true } }
theorem DefB.setDead {w w' : World} {F : Nat → Prop} {g : Nat} {d : Def} {vs ve : Value} (h : On F w (DefB g d vs ve) w') :
    On F w (DefB g { d with s := { d.s with dead := true } } vs ve) (w'.setCell ⟨g, 9, none⟩ (.bool true)) :=
  h.step fun F' hb => ⟨F', ⟨hb.1.setOwn 9 _ rfl rfl rfl, hb.2⟩, kept_setAt (Kept.refl F' w') ((hb.2 g).2 (.inl rfl)) 9 _, fun k h => .inl h⟩
set_option maxHeartbeats 2000000 in
theorem exit_in (g : Nat) (d : Def) (hi : innerAt d.stack ≠ none) (hn : d.ends.length ≤ 100000) (vs ve : Value) (w : World) (F : Nat → Prop) (hb : (DefB g d vs ve).holds w F) :
    Calls Tryz.prog 136 #[.pointer (some ⟨g, 0, none⟩), .int .i64 36] w (Makes g d.bad.exits F w) := by
  have hon := On.refl hb
  have hin := fun w1 F' hb' => inner_walk g d vs ve w1 F' hb'
  have hbd := fun w1 F' hb' => bad_walk g d vs ve w1 F' hb'
  have hen := fun w1 F' hb' => end_walk g d.bad hn vs ve w1 F' hb'
  obtain ⟨i, hi2⟩ : ∃ i, innerAt d.stack = some i := Option.ne_none_iff_exists'.1 hi
  obtain ⟨o, h1, _, _⟩ := innerAt_some d.stack i hi2
  obtain ⟨hil, hoi⟩ := List.getElem?_eq_some_iff.1 h1
  obtain ⟨sg, cap, rfl, _, _⟩ := hb.1.form (by intro h; rw [h] at hil; simp at hil)
  rw [hi2] at hin
  unfold placeV at hin
  clear hi2 h1 hil hoi
  clear hb hi hn
  unfold Def.exits Makes
  replace hon := Lib.hid hon
  replace hin := Lib.hid hin
  replace hbd := Lib.hid hbd
  replace hen := Lib.hid hen
  go_enter Tryz.func136, Tryz.ntmps136
  go_wp2_with fail
  refine (hon.out.call fun F' hb' => hin.out _ F' hb').mono ?_
  rintro e w1 ⟨v, A', ⟨rfl, rfl⟩, rfl, hon1⟩
  replace hon1 := Lib.hid hon1
  go_wp2_with fail
  refine (hon1.out.call fun F' hb' => hbd.out _ F' hb').mono ?_
  rintro e w2 ⟨v, A', ⟨rfl, rfl⟩, rfl, hon2⟩
  replace hon2 := Lib.hid hon2
  go_wp2_with fail
  refine (hon2.out.call fun F' hb' => hen.out _ F' hb').mono ?_
  rintro e w3 ⟨v, A', ⟨rfl, ve', rfl⟩, rfl, hon3⟩
  obtain ⟨F3, hb3, _⟩ := id hon3
  have c9 := hb3.1.blk.cell 9
  have f9 := hb3.1.blk.frozen 9
  simp [defC] at c9
  clear hb3
  have hon4 := DefB.setDead hon3
  replace hon3 := Lib.hid hon3
  replace hon4 := Lib.hid hon4
  go_wp2_with fail
  go_end0
  exact hon4.out.post ⟨rfl, _, _, rfl⟩
set_option maxHeartbeats 2000000 in
theorem exit_out (g : Nat) (d : Def) (hi : innerAt d.stack = none) (hn : d.ends.length ≤ 100000) (vs ve : Value) (w : World) (F : Nat → Prop) (hb : (DefB g d vs ve).holds w F) :
    Calls Tryz.prog 136 #[.pointer (some ⟨g, 0, none⟩), .int .i64 36] w (Makes g d.exits F w) := by
  have hon := On.refl hb
  have hin := fun w1 F' hb' => inner_walk g d vs ve w1 F' hb'
  have hbd := fun w1 F' hb' => bad_walk g d vs ve w1 F' hb'
  have hen := fun w1 F' hb' => end_walk g d hn vs ve w1 F' hb'
  rw [hi] at hin
  unfold placeV at hin
  clear hb hi hn
  unfold Def.exits Makes
  replace hon := Lib.hid hon
  replace hin := Lib.hid hin
  replace hbd := Lib.hid hbd
  replace hen := Lib.hid hen
  go_enter Tryz.func136, Tryz.ntmps136
  go_wp2_with fail
  refine (hon.out.call fun F' hb' => hin.out _ F' hb').mono ?_
  rintro e w1 ⟨v, A', ⟨rfl, rfl⟩, rfl, hon1⟩
  replace hon1 := Lib.hid hon1
  go_wp2_with fail
  have hon2 := hon1
  refine (hon2.out.call fun F' hb' => hen.out _ F' hb').mono ?_
  rintro e w3 ⟨v, A', ⟨rfl, ve', rfl⟩, rfl, hon3⟩
  obtain ⟨F3, hb3, _⟩ := id hon3
  have c9 := hb3.1.blk.cell 9
  have f9 := hb3.1.blk.frozen 9
  simp [defC] at c9
  clear hb3
  have hon4 := DefB.setDead hon3
  replace hon3 := Lib.hid hon3
  replace hon4 := Lib.hid hon4
  go_wp2_with fail
  go_end0
  exact hon4.out.post ⟨rfl, _, _, rfl⟩
theorem special_walk (g : Nat) (d : Def) (k : Nat) (hok : d.Ok) (hn : d.stack.length ≤ 100000) (hn2 : d.ends.length ≤ 100000) (vs ve : Value) (w : World) (F : Nat → Prop) (hb : (DefB g d vs ve).holds w F) :
    Calls Tryz.prog 136 #[.pointer (some ⟨g, 0, none⟩), .int .i64 (k : Int)] w (Makes g (d.special k) F w) := by
  by_cases h1 : k = 15 ∨ k = 16 ∨ k = 18
  · have e : d.special k = d := by unfold Def.special; rw [if_pos h1]
    rw [e]; exact special_still g d k h1 vs ve w F hb
  by_cases h2 : k = 8 ∨ k = 10
  · have e : d.special k = d.takes 0 1 := by unfold Def.special; rw [if_neg h1, if_pos h2]
    rw [e]; exact special_one g d k h2 vs ve w F hb
  by_cases h3 : k = 17
  · have e : d.special k = d.takes 0 2 := by unfold Def.special; rw [if_neg h1, if_neg h2, if_pos h3]
    rw [e]; exact special_two g d k h3 vs ve w F hb
  by_cases h4 : k = 19 ∨ k = 20 ∨ k = 21
  · have e : d.special k = d.branch k := by unfold Def.special; rw [if_neg h1, if_neg h2, if_neg h3, if_pos h4]
    rw [e]; exact special_branch g d k h4 hn vs ve w F hb
  by_cases h5 : 22 ≤ k ∧ k ≤ 26
  · have e : d.special k = d.turns k := by unfold Def.special; rw [if_neg h1, if_neg h2, if_neg h3, if_neg h4, if_pos h5]
    rw [e]; exact special_turns g d k (by omega) hn vs ve w F hb
  by_cases h6 : 27 ≤ k ∧ k ≤ 31
  · have e : d.special k = d.counts k := by unfold Def.special; rw [if_neg h1, if_neg h2, if_neg h3, if_neg h4, if_neg h5, if_pos h6]
    rw [e]; exact special_counts g d k (by omega) hn vs ve w F hb
  by_cases h7 : 32 ≤ k ∧ k ≤ 35
  · have e : d.special k = d.choice k := by unfold Def.special; rw [if_neg h1, if_neg h2, if_neg h3, if_neg h4, if_neg h5, if_neg h6, if_pos h7]
    rw [e]; exact special_choice g d k (by omega) hok hn vs ve w F hb
  by_cases h8 : k = 36
  · subst h8
    rcases hi : innerAt d.stack with _ | i
    · have e : d.special 36 = d.exits := by simp [Def.special, Def.inner, hi, Def.exits]
      rw [e]; exact exit_out g d hi hn2 vs ve w F hb
    · obtain ⟨o, h1, _, _⟩ := innerAt_some d.stack i hi
      have e : d.special 36 = d.bad.exits := by simp [Def.special, Def.inner, hi, h1, Def.exits]
      rw [e]; exact exit_in g d (by rw [hi]; simp) hn2 vs ve w F hb
  · have e : d.special k = d.bad := by unfold Def.special; rw [if_neg h1, if_neg h2, if_neg h3, if_neg h4, if_neg h5, if_neg h6, if_neg h7, if_neg h8]
    rw [e]; exact special_else g d k (by omega) vs ve w F hb
end Look
end Go.Proofs.YthejfkkmcbdlhaaGreatDoor
/- Chapter 19: closed: a definition's effect, at its end. Condition: fewer ends than a text has bytes. -/
namespace Go.Proofs.YthejfkkmcbdlhaaGreatDoor
set_option linter.unusedVariables false
set_option maxRecDepth 100000
open Go.RowKit Go.Lib
namespace Look
def effC (e : Eff) : List Value := [.string ⟨e.name.toArray⟩, .int .i64 e.inn, .int .i64 e.out, .bool e.known, .int .i64 (e.needs : Int)]
def effV (e : Eff) : Value := .agg (effC e).toArray
def Def.shut (d : Def) : Def := (if d.stack.isEmpty then d else d.bad).end_
def Def.final (d : Def) : Eff := if d.e.known then { d.e with inn := d.want, out := match d.ends with | [] => d.want | x :: _ => wrap64 (d.want + x) } else d.e
theorem closed_eq (d : Def) : d.closed = d.shut.final := rfl
theorem DefB.setOwn {w w' : World} {F : Nat → Prop} {L : List Asr} {g : Nat} {d d' : Def} {vs ve : Value} (h : On F w (AllA (DefB g d vs ve :: L)) w') (i : Nat) (u : Value) (hs : d'.stack = d.stack) (he : d'.ends = d.ends) (hc : (defC d vs ve).setIfInBounds i u = defC d' vs ve) :
    On F w (AllA (DefB g d' vs ve :: L)) (w'.setCell ⟨g, i, none⟩ u) :=
  h.stepA fun F' hb => ⟨F', ⟨hb.1.setOwn i u hs he hc, hb.2⟩, kept_setAt (Kept.refl F' w') ((hb.2 g).2 (.inl rfl)) i u, fun k h => .inl h⟩
theorem On.drewA {w w' : World} {F : Nat → Prop} {A : Asr} (h : On F w A w') : On F w A w'.drew := h.drew
theorem stack_len {w : World} {g : Nat} {d : Def} {vs ve : Value} (h : DefAt w g d vs ve) : ∃ p c, vs = .slice p d.stack.length c ∧ (d.stack.length : Int) ≤ 9223372036854775807 := by
  rcases hs : d.stack with _ | ⟨o, l⟩
  · have h1 := h.stack
    rw [hs] at h1
    obtain ⟨p, c, rfl⟩ := ownsRow_slice h1
    exact ⟨p, c, rfl, by simp⟩
  · obtain ⟨sg, cap, rfl, h1, h2⟩ := h.form (by rw [hs]; simp)
    refine ⟨_, _, by rw [← hs], ?_⟩
    rw [← hs]
    unfold maxLen at h2
    omega
set_option maxHeartbeats 2000000 in
theorem closed_walk (g : Nat) (d : Def) (hn : d.ends.length ≤ 100000) (vs ve : Value) (w : World) (F : Nat → Prop) (hb : (DefB g d vs ve).holds w F) :
    Calls Tryz.prog 103 #[.pointer (some ⟨g, 0, none⟩)] w (Post (fun u B => u = effV d.closed ∧ ∃ d' ve', B = DefB g d' vs ve') F w) := by
  have hon := On.one (On.refl hb)
  have hbd := fun w1 F' hb' => bad_walk g d vs ve w1 F' hb'
  obtain ⟨d0, hd0⟩ : ∃ d0, (if d.stack.isEmpty then d else d.bad) = d0 := ⟨_, rfl⟩
  have hen := fun w1 F' hb' => end_walk g d0 (by rw [← hd0]; split <;> exact hn) vs ve w1 F' hb'
  have c10 := hb.1.blk.cell 10
  simp [defC] at c10
  have hlt := hb.1.blk.lt
  obtain ⟨p, c, hvs, hlb⟩ := stack_len hb.1
  rw [hvs] at c10
  obtain ⟨E, hE⟩ : ∃ E, effV d.closed = E := ⟨_, rfl⟩
  rw [hE]
  have hE' : effV d0.end_.final = E := by rw [← hE, closed_eq]; unfold Def.shut; rw [hd0]
  clear hb hE hn
  replace hE' := Lib.hid hE'
  replace hbd := Lib.hid hbd
  replace hen := Lib.hid hen
  replace hvs := Lib.hid hvs
  have hon0 := fun cs => hon.boxA cs 34
  replace hon0 := Lib.hid hon0
  rcases hs : d.stack.isEmpty with _ | _
  · have hpos : 0 < d.stack.length := by cases h : d.stack <;> simp_all
    have e0 : d0 = d.bad := by rw [← hd0, hs]; rfl
    replace hs := Lib.hid hs
    replace hd0 := Lib.hid hd0
    replace hon := Lib.hid hon
    generalize d.stack.length = n at *
    have hgt : decide (0 < (n : Int)) = true := decide_eq_true (by omega)
    go_enter Tryz.func103, Tryz.ntmps103
    go_wp2_with fail
    refine (((hon0.out _).swapA).callA fun F' hb' => hbd.out _ F' hb').mono ?_
    rintro e w1 ⟨v, A', ⟨rfl, rfl⟩, rfl, hon1⟩
    rw [← e0] at hon1
    replace hon1 := Lib.hid hon1
    go_wp2_with fail
    refine (hon1.out.callA fun F' hb' => hen.out _ F' hb').mono ?_
    rintro e w2 ⟨v, A', ⟨rfl, ve', rfl⟩, rfl, hon2⟩
    try rw [← e0] at hon2
    generalize d0.end_ = D at *
    obtain ⟨F2, hb2⟩ := hon2.firstA
    have c0 := hb2.1.blk.cell 0
    have c1 := hb2.1.blk.cell 1
    have c2 := hb2.1.blk.cell 2
    have c3 := hb2.1.blk.cell 3
    have c4 := hb2.1.blk.cell 4
    have c6 := hb2.1.blk.cell 6
    have f1 := hb2.1.blk.frozen 1
    have f2 := hb2.1.blk.frozen 2
    have c11 := hb2.1.blk.cell 11
    have hbx := hon2.swapA.blkA
    have b0 := hbx.cell 0
    have b1 := hbx.cell 1
    have b2 := hbx.cell 2
    have b3 := hbx.cell 3
    have b4 := hbx.cell 4
    have g0 := hbx.frozen 0
    have g1 := hbx.frozen 1
    have g2 := hbx.frozen 2
    have g3 := hbx.frozen 3
    have g4 := hbx.frozen 4
    simp [defC] at c0 c1 c2 c3 c4 c6 c11 b0 b1 b2 b3 b4
    clear hbx c10
    have hgb : g ≠ w.heap.size := by omega
    rcases hk : D.e.known with _ | _
    · rw [hk] at c3
      have hfin : E = .agg #[.string ⟨D.e.name.toArray⟩, .int .i64 D.e.inn, .int .i64 D.e.out, .bool false, .int .i64 (D.e.needs : Int)] := by rw [← hE'.out]; unfold Def.final; rw [hk]; simp [effV, effC, hk]
      replace hfin := Lib.hid hfin
      replace hk := Lib.hid hk
      clear c6 c11 f1 f2
      have hon3 := hon2.swapA
      replace hon2 := Lib.hid hon2
      have hon8 := fun u0 u1 u2 u3 u4 => ((((hon3.setA 0 u0).setA 1 u1).setA 2 u2).setA 3 u3).setA 4 u4
      replace hon8 := Lib.hid hon8
      clear hon3
      replace hb2 := Lib.hid hb2
      go_wp2_with fail
      have hr := (hon8.out (.string ⟨D.e.name.toArray⟩) (.int .i64 D.e.inn) (.int .i64 D.e.out) (.bool false) (.int .i64 (D.e.needs : Int))).blkA
      have r0 := hr.cell 0
      have r1 := hr.cell 1
      have r2 := hr.cell 2
      have r3 := hr.cell 3
      have r4 := hr.cell 4
      simp at r0 r1 r2 r3 r4
      refine bodyPost_ret (v := .agg #[.string ⟨D.e.name.toArray⟩, .int .i64 D.e.inn, .int .i64 D.e.out, .bool false, .int .i64 (D.e.needs : Int)]) (by simp [results, Tryz.results103, go_sem, r0, r1, r2, r3, r4]) rfl ?_
      exact (hon8.out _ _ _ _ _).tailA.headA.post ⟨hfin.out.symm, _, _, rfl⟩
    · rw [hk] at c3
      rcases hen2 : D.ends with _ | ⟨x, l⟩
      · have hend := hb2.1.ends
        rw [hen2] at hend
        obtain ⟨ep, ec, hve⟩ := ownsRow_slice hend
        rw [hve] at c11
        have hfin : E = .agg #[.string ⟨D.e.name.toArray⟩, .int .i64 D.want, .int .i64 D.want, .bool true, .int .i64 (D.e.needs : Int)] := by rw [← hE'.out]; unfold Def.final; rw [hk, hen2]; simp [effV, effC, hk]
        replace hfin := Lib.hid hfin
        replace hk := Lib.hid hk
        have hon3 := DefB.setOwn (d' := { D with e := { D.e with inn := D.want } }) hon2 1 (.int .i64 D.want) rfl rfl rfl
        have hon4 := (DefB.setOwn (d' := { D with e := { D.e with inn := D.want, out := D.want } }) hon3 2 (.int .i64 D.want) rfl rfl rfl).swapA
        clear hon3 hend
        have hon8 := fun u0 u1 u2 u3 u4 => ((((hon4.setA 0 u0).setA 1 u1).setA 2 u2).setA 3 u3).setA 4 u4
        replace hon8 := Lib.hid hon8
        replace hon2 := Lib.hid hon2
        replace hb2 := Lib.hid hb2
        clear hon4
        replace hve := Lib.hid hve
        replace hen2 := Lib.hid hen2
        go_wp2_with fail
        go_region
        all_goals
          go_wp2_with fail
          have hr := (hon8.out (.string ⟨D.e.name.toArray⟩) (.int .i64 D.want) (.int .i64 D.want) (.bool true) (.int .i64 (D.e.needs : Int))).blkA
          have r0 := hr.cell 0
          have r1 := hr.cell 1
          have r2 := hr.cell 2
          have r3 := hr.cell 3
          have r4 := hr.cell 4
          simp at r0 r1 r2 r3 r4
          refine bodyPost_ret (v := .agg #[.string ⟨D.e.name.toArray⟩, .int .i64 D.want, .int .i64 D.want, .bool true, .int .i64 (D.e.needs : Int)]) (by simp [results, Tryz.results103, go_sem, r0, r1, r2, r3, r4]) rfl ?_
          have hpp := (hon8.out (.string ⟨D.e.name.toArray⟩) (.int .i64 D.want) (.int .i64 D.want) (.bool true) (.int .i64 (D.e.needs : Int))).tailA.headA
          first
            | exact hpp.drew.post ⟨hfin.out.symm, _, _, rfl⟩
            | exact hpp.drew.drew.post ⟨hfin.out.symm, _, _, rfl⟩
            | exact (hpp.drewN _).post ⟨hfin.out.symm, _, _, rfl⟩
      · obtain ⟨eg, ec, hve, hce⟩ := first_end hb2.1 hen2
        have hne2 : g ≠ eg := fun e => hb2.1.ne2 (by rw [hve, e]; rfl)
        have hltg : l.length + 1 ≤ maxLen := by
          have h1 := hb2.1.ends
          rw [hen2] at h1
          obtain ⟨_, _, _, h2, h3⟩ := stack_form h1
          omega
        have hltb : ((l.length : Int) + 1) ≤ 9223372036854775807 := by unfold maxLen at hltg; omega
        rw [hve] at c11
        have hfin : E = .agg #[.string ⟨D.e.name.toArray⟩, .int .i64 D.want, .int .i64 (wrap64 (D.want + x)), .bool true, .int .i64 (D.e.needs : Int)] := by rw [← hE'.out]; unfold Def.final; rw [hk, hen2]; simp [effV, effC, hk]
        replace hfin := Lib.hid hfin
        replace hk := Lib.hid hk
        have hon3 := DefB.setOwn (d' := { D with e := { D.e with inn := D.want } }) hon2 1 (.int .i64 D.want) rfl rfl rfl
        have hon3b := DefB.setOwn (d' := { D with e := { D.e with inn := D.want, out := D.want } }) hon3 2 (.int .i64 D.want) rfl rfl rfl
        have hon4 := (DefB.setOwn (d' := { D with e := { D.e with inn := D.want, out := wrap64 (D.want + x) } }) hon3b 2 (.int .i64 (wrap64 (D.want + x))) rfl rfl rfl).swapA
        clear hon3 hon3b hltg
        replace hon4 := Lib.hid hon4
        replace hon2 := Lib.hid hon2
        replace hb2 := Lib.hid hb2
        replace hve := Lib.hid hve
        replace hen2 := Lib.hid hen2
        go_wp2_with fail
        go_region
        all_goals
          go_wp2_with fail
          go_region
        all_goals
          have hon5 := hon4.out.drew.drew
          obtain ⟨F5, hb5⟩ := hon5.swapA.firstA
          have d0 := hb5.1.blk.cell 0
          have d1 := hb5.1.blk.cell 1
          have d2 := hb5.1.blk.cell 2
          have d3 := hb5.1.blk.cell 3
          have d4 := hb5.1.blk.cell 4
          have hbx := hon5.blkA
          have e0 := hbx.cell 0
          have e1 := hbx.cell 1
          have e2 := hbx.cell 2
          have e3 := hbx.cell 3
          have e4 := hbx.cell 4
          have i0 := hbx.frozen 0
          have i1 := hbx.frozen 1
          have i2 := hbx.frozen 2
          have i3 := hbx.frozen 3
          have i4 := hbx.frozen 4
          simp only [defC, hk.out] at d0 d1 d2 d3 d4
          generalize (((w2.setCell ⟨g, 1, none⟩ (.int .i64 D.want)).setCell ⟨g, 2, none⟩ (.int .i64 D.want)).setCell ⟨g, 2, none⟩ (.int .i64 (wrap64 (D.want + x)))).drew.drew = w5 at *
          simp at d0 d1 d2 d3 d4 e0 e1 e2 e3 e4
          have hon8 := fun u0 u1 u2 u3 u4 => ((((hon5.setA 0 u0).setA 1 u1).setA 2 u2).setA 3 u3).setA 4 u4
          clear hbx hb5 c0 c1 c2 c3 c4 c6 c11 b0 b1 b2 b3 b4 g0 g1 g2 g3 g4 hce f1 f2
          replace hon8 := Lib.hid hon8
          replace hon5 := Lib.hid hon5
          go_wp2_with fail
          have hr := (hon8.out (.string ⟨D.e.name.toArray⟩) (.int .i64 D.want) (.int .i64 (wrap64 (D.want + x))) (.bool true) (.int .i64 (D.e.needs : Int))).blkA
          have r0 := hr.cell 0
          have r1 := hr.cell 1
          have r2 := hr.cell 2
          have r3 := hr.cell 3
          have r4 := hr.cell 4
          simp at r0 r1 r2 r3 r4
          refine bodyPost_ret (v := .agg #[.string ⟨D.e.name.toArray⟩, .int .i64 D.want, .int .i64 (wrap64 (D.want + x)), .bool true, .int .i64 (D.e.needs : Int)]) (by simp [results, Tryz.results103, go_sem, r0, r1, r2, r3, r4]) rfl ?_
          exact (hon8.out _ _ _ _ _).tailA.headA.post ⟨hfin.out.symm, _, _, rfl⟩
  · have h0 : d.stack.length = 0 := by cases h : d.stack <;> simp_all
    have e0 : d0 = d := by rw [← hd0, hs]; rfl
    replace hs := Lib.hid hs
    replace hd0 := Lib.hid hd0
    replace hon := Lib.hid hon
    rw [h0] at c10
    replace h0 := Lib.hid h0
    go_enter Tryz.func103, Tryz.ntmps103
    go_wp2_with fail
    rw [e0] at hen
    refine (((hon0.out _).swapA).callA fun F' hb' => hen.out _ F' hb').mono ?_
    rintro e w2 ⟨v, A', ⟨rfl, ve', rfl⟩, rfl, hon2⟩
    try rw [← e0] at hon2
    generalize d0.end_ = D at *
    obtain ⟨F2, hb2⟩ := hon2.firstA
    have c0 := hb2.1.blk.cell 0
    have c1 := hb2.1.blk.cell 1
    have c2 := hb2.1.blk.cell 2
    have c3 := hb2.1.blk.cell 3
    have c4 := hb2.1.blk.cell 4
    have c6 := hb2.1.blk.cell 6
    have f1 := hb2.1.blk.frozen 1
    have f2 := hb2.1.blk.frozen 2
    have c11 := hb2.1.blk.cell 11
    have hbx := hon2.swapA.blkA
    have b0 := hbx.cell 0
    have b1 := hbx.cell 1
    have b2 := hbx.cell 2
    have b3 := hbx.cell 3
    have b4 := hbx.cell 4
    have g0 := hbx.frozen 0
    have g1 := hbx.frozen 1
    have g2 := hbx.frozen 2
    have g3 := hbx.frozen 3
    have g4 := hbx.frozen 4
    simp [defC] at c0 c1 c2 c3 c4 c6 c11 b0 b1 b2 b3 b4
    clear hbx c10
    have hgb : g ≠ w.heap.size := by omega
    rcases hk : D.e.known with _ | _
    · rw [hk] at c3
      have hfin : E = .agg #[.string ⟨D.e.name.toArray⟩, .int .i64 D.e.inn, .int .i64 D.e.out, .bool false, .int .i64 (D.e.needs : Int)] := by rw [← hE'.out]; unfold Def.final; rw [hk]; simp [effV, effC, hk]
      replace hfin := Lib.hid hfin
      replace hk := Lib.hid hk
      clear c6 c11 f1 f2
      have hon3 := hon2.swapA
      replace hon2 := Lib.hid hon2
      have hon8 := fun u0 u1 u2 u3 u4 => ((((hon3.setA 0 u0).setA 1 u1).setA 2 u2).setA 3 u3).setA 4 u4
      replace hon8 := Lib.hid hon8
      clear hon3
      replace hb2 := Lib.hid hb2
      go_wp2_with fail
      have hr := (hon8.out (.string ⟨D.e.name.toArray⟩) (.int .i64 D.e.inn) (.int .i64 D.e.out) (.bool false) (.int .i64 (D.e.needs : Int))).blkA
      have r0 := hr.cell 0
      have r1 := hr.cell 1
      have r2 := hr.cell 2
      have r3 := hr.cell 3
      have r4 := hr.cell 4
      simp at r0 r1 r2 r3 r4
      refine bodyPost_ret (v := .agg #[.string ⟨D.e.name.toArray⟩, .int .i64 D.e.inn, .int .i64 D.e.out, .bool false, .int .i64 (D.e.needs : Int)]) (by simp [results, Tryz.results103, go_sem, r0, r1, r2, r3, r4]) rfl ?_
      exact (hon8.out _ _ _ _ _).tailA.headA.post ⟨hfin.out.symm, _, _, rfl⟩
    · rw [hk] at c3
      rcases hen2 : D.ends with _ | ⟨x, l⟩
      · have hend := hb2.1.ends
        rw [hen2] at hend
        obtain ⟨ep, ec, hve⟩ := ownsRow_slice hend
        rw [hve] at c11
        have hfin : E = .agg #[.string ⟨D.e.name.toArray⟩, .int .i64 D.want, .int .i64 D.want, .bool true, .int .i64 (D.e.needs : Int)] := by rw [← hE'.out]; unfold Def.final; rw [hk, hen2]; simp [effV, effC, hk]
        replace hfin := Lib.hid hfin
        replace hk := Lib.hid hk
        have hon3 := DefB.setOwn (d' := { D with e := { D.e with inn := D.want } }) hon2 1 (.int .i64 D.want) rfl rfl rfl
        have hon4 := (DefB.setOwn (d' := { D with e := { D.e with inn := D.want, out := D.want } }) hon3 2 (.int .i64 D.want) rfl rfl rfl).swapA
        clear hon3 hend
        have hon8 := fun u0 u1 u2 u3 u4 => ((((hon4.setA 0 u0).setA 1 u1).setA 2 u2).setA 3 u3).setA 4 u4
        replace hon8 := Lib.hid hon8
        replace hon2 := Lib.hid hon2
        replace hb2 := Lib.hid hb2
        clear hon4
        replace hve := Lib.hid hve
        replace hen2 := Lib.hid hen2
        go_wp2_with fail
        go_region
        all_goals
          go_wp2_with fail
          have hr := (hon8.out (.string ⟨D.e.name.toArray⟩) (.int .i64 D.want) (.int .i64 D.want) (.bool true) (.int .i64 (D.e.needs : Int))).blkA
          have r0 := hr.cell 0
          have r1 := hr.cell 1
          have r2 := hr.cell 2
          have r3 := hr.cell 3
          have r4 := hr.cell 4
          simp at r0 r1 r2 r3 r4
          refine bodyPost_ret (v := .agg #[.string ⟨D.e.name.toArray⟩, .int .i64 D.want, .int .i64 D.want, .bool true, .int .i64 (D.e.needs : Int)]) (by simp [results, Tryz.results103, go_sem, r0, r1, r2, r3, r4]) rfl ?_
          have hpp := (hon8.out (.string ⟨D.e.name.toArray⟩) (.int .i64 D.want) (.int .i64 D.want) (.bool true) (.int .i64 (D.e.needs : Int))).tailA.headA
          first
            | exact hpp.drew.post ⟨hfin.out.symm, _, _, rfl⟩
            | exact hpp.drew.drew.post ⟨hfin.out.symm, _, _, rfl⟩
            | exact (hpp.drewN _).post ⟨hfin.out.symm, _, _, rfl⟩
      · obtain ⟨eg, ec, hve, hce⟩ := first_end hb2.1 hen2
        have hne2 : g ≠ eg := fun e => hb2.1.ne2 (by rw [hve, e]; rfl)
        have hltg : l.length + 1 ≤ maxLen := by
          have h1 := hb2.1.ends
          rw [hen2] at h1
          obtain ⟨_, _, _, h2, h3⟩ := stack_form h1
          omega
        have hltb : ((l.length : Int) + 1) ≤ 9223372036854775807 := by unfold maxLen at hltg; omega
        rw [hve] at c11
        have hfin : E = .agg #[.string ⟨D.e.name.toArray⟩, .int .i64 D.want, .int .i64 (wrap64 (D.want + x)), .bool true, .int .i64 (D.e.needs : Int)] := by rw [← hE'.out]; unfold Def.final; rw [hk, hen2]; simp [effV, effC, hk]
        replace hfin := Lib.hid hfin
        replace hk := Lib.hid hk
        have hon3 := DefB.setOwn (d' := { D with e := { D.e with inn := D.want } }) hon2 1 (.int .i64 D.want) rfl rfl rfl
        have hon3b := DefB.setOwn (d' := { D with e := { D.e with inn := D.want, out := D.want } }) hon3 2 (.int .i64 D.want) rfl rfl rfl
        have hon4 := (DefB.setOwn (d' := { D with e := { D.e with inn := D.want, out := wrap64 (D.want + x) } }) hon3b 2 (.int .i64 (wrap64 (D.want + x))) rfl rfl rfl).swapA
        clear hon3 hon3b hltg
        replace hon4 := Lib.hid hon4
        replace hon2 := Lib.hid hon2
        replace hb2 := Lib.hid hb2
        replace hve := Lib.hid hve
        replace hen2 := Lib.hid hen2
        go_wp2_with fail
        go_region
        all_goals
          go_wp2_with fail
          go_region
        all_goals
          have hon5 := hon4.out.drew.drew
          obtain ⟨F5, hb5⟩ := hon5.swapA.firstA
          have d0 := hb5.1.blk.cell 0
          have d1 := hb5.1.blk.cell 1
          have d2 := hb5.1.blk.cell 2
          have d3 := hb5.1.blk.cell 3
          have d4 := hb5.1.blk.cell 4
          have hbx := hon5.blkA
          have e0 := hbx.cell 0
          have e1 := hbx.cell 1
          have e2 := hbx.cell 2
          have e3 := hbx.cell 3
          have e4 := hbx.cell 4
          have i0 := hbx.frozen 0
          have i1 := hbx.frozen 1
          have i2 := hbx.frozen 2
          have i3 := hbx.frozen 3
          have i4 := hbx.frozen 4
          simp only [defC, hk.out] at d0 d1 d2 d3 d4
          generalize (((w2.setCell ⟨g, 1, none⟩ (.int .i64 D.want)).setCell ⟨g, 2, none⟩ (.int .i64 D.want)).setCell ⟨g, 2, none⟩ (.int .i64 (wrap64 (D.want + x)))).drew.drew = w5 at *
          simp at d0 d1 d2 d3 d4 e0 e1 e2 e3 e4
          have hon8 := fun u0 u1 u2 u3 u4 => ((((hon5.setA 0 u0).setA 1 u1).setA 2 u2).setA 3 u3).setA 4 u4
          clear hbx hb5 c0 c1 c2 c3 c4 c6 c11 b0 b1 b2 b3 b4 g0 g1 g2 g3 g4 hce f1 f2
          replace hon8 := Lib.hid hon8
          replace hon5 := Lib.hid hon5
          go_wp2_with fail
          have hr := (hon8.out (.string ⟨D.e.name.toArray⟩) (.int .i64 D.want) (.int .i64 (wrap64 (D.want + x))) (.bool true) (.int .i64 (D.e.needs : Int))).blkA
          have r0 := hr.cell 0
          have r1 := hr.cell 1
          have r2 := hr.cell 2
          have r3 := hr.cell 3
          have r4 := hr.cell 4
          simp at r0 r1 r2 r3 r4
          refine bodyPost_ret (v := .agg #[.string ⟨D.e.name.toArray⟩, .int .i64 D.want, .int .i64 (wrap64 (D.want + x)), .bool true, .int .i64 (D.e.needs : Int)]) (by simp [results, Tryz.results103, go_sem, r0, r1, r2, r3, r4]) rfl ?_
          exact (hon8.out _ _ _ _ _).tailA.headA.post ⟨hfin.out.symm, _, _, rfl⟩
end Look
end Go.Proofs.YthejfkkmcbdlhaaGreatDoor
