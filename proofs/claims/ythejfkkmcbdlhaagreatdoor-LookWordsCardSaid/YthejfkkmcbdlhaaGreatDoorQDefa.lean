/- Chapter 19: opens, end, top, inner. Condition: fewer things open than a text has bytes. -/
import Derived.Test.YthejfkkmcbdlhaaGreatDoorQSpec
import Derived.Deep.AppendLies
import Derived.Deep.RegionLaw
import Derived.OwnWalk
import Derived.BigQuiet
namespace Go.Proofs.YthejfkkmcbdlhaaGreatDoor
set_option linter.unusedVariables false
open Go.RowKit Go.Lib
namespace Look
theorem info_open : (Tryz.prog.info? 211).map (fun i => (i.zero, i.size, i.bytes)) = some (some (.agg #[.int .i64 0, .int .i64 0, .int .i64 0, .bool false, .int .i64 0, .int .i64 0, .bool false, .bool false]), 8, 64) := by kernel_rfl
theorem info_int : (Tryz.prog.info? 3).map (fun i => (i.zero, i.size, i.bytes)) = some (some (.int .i64 0), 1, 8) := by kernel_rfl
def openV (o : Open) : Value := .agg (openC o).toArray
theorem DefAt.ltB {w : World} {g : Nat} {d : Def} {vs ve : Value} (h : DefAt w g d vs ve) : g < w.heap.size := h.blk.lt
/-- the stack's row has grown, and the field is set -/
theorem DefAt.grewStack {w w0 w1 : World} {F : Nat → Prop} {g : Nat} {d d' : Def} {vs ve v' : Value} (h : DefAt w g d vs ve) (hF : ∀ k, F k ↔ k = g ∨ vs.ownBlock = some k ∨ ve.ownBlock = some k) (hk0 : Kept Nob w w0) (hg : w0.grownBy w1 vs.ownBlock)
    (hown : w1.ownsRow 0 211 8 v' d'.stack.length (stackC d'.stack)) (hat : ∀ k, v'.ownBlock = some k → vs.ownBlock = some k ∨ w.heap.size ≤ k) (he : d'.ends = d.ends) (hc : (defC d vs ve).setIfInBounds 10 v' = defC d' v' ve) :
    On F w (DefB g d' v' ve) (w1.setCell ⟨g, 10, none⟩ v') := by
  have hlt := h.blk.lt
  have h0 : DefAt w0 g d vs ve := ((DefB g d vs ve).kept ⟨h, fun k => Iff.rfl⟩ hk0 (fun _ _ h => h)).1
  have B1 := h0.blk.grown hg (fun e => h.ne1 e.symm)
  have hends := ownsRow_of_block (w' := w1) h0.ends fun k hv => hg.block k (h0.ends.lt _ hv).2 (fun e => h.ne3 k e.symm hv)
  have hne : v'.ownBlock ≠ some g := fun e => by
    rcases hat g e with h1 | h1
    · exact h.ne1 h1
    · omega
  refine ⟨fun k => k = g ∨ v'.ownBlock = some k ∨ ve.ownBlock = some k, ⟨⟨hc ▸ B1.set_ 10 v', ?_, ?_, hne, h.ne2, ?_⟩, fun k => Iff.rfl⟩, ?_, ?_⟩
  · exact ownsRow_of_block hown fun k hv => Below.heap_setCell _ _ _ _ (fun e => hne (by subst e; exact hv))
  · rw [he]; exact ownsRow_of_block hends fun k hv => Below.heap_setCell _ _ _ _ (fun e => h.ne2 (by subst e; exact hv))
  · intro k hv hv2
    rcases hat k hv with h1 | h1
    · exact h.ne3 k h1 hv2
    · have := (h.ends.lt _ hv2).2; omega
  · exact kept_setAt (Kept.grown (hk0.mono (fun _ h => h.elim)) hg (fun k hv => .inl ((hF k).2 (.inr (.inl hv))))) ((hF g).2 (.inl rfl)) 10 v'
  · rintro k (h1 | h1 | h1)
    · exact .inl ((hF k).2 (.inl h1))
    · rcases hat k h1 with h2 | h2
      · exact .inl ((hF k).2 (.inr (.inl h2)))
      · exact .inr h2
    · exact .inl ((hF k).2 (.inr (.inr h1)))
/-- the ends' row has grown, and the field is set -/
theorem DefAt.grewEnds {w w0 w1 : World} {F : Nat → Prop} {g : Nat} {d d' : Def} {vs ve v' : Value} (h : DefAt w g d vs ve) (hF : ∀ k, F k ↔ k = g ∨ vs.ownBlock = some k ∨ ve.ownBlock = some k) (hk0 : Kept Nob w w0) (hg : w0.grownBy w1 ve.ownBlock)
    (hown : w1.ownsRow 0 3 1 v' d'.ends.length (endsC d'.ends)) (hat : ∀ k, v'.ownBlock = some k → ve.ownBlock = some k ∨ w.heap.size ≤ k) (he : d'.stack = d.stack) (hc : (defC d vs ve).setIfInBounds 11 v' = defC d' vs v') :
    On F w (DefB g d' vs v') (w1.setCell ⟨g, 11, none⟩ v') := by
  have hlt := h.blk.lt
  have h0 : DefAt w0 g d vs ve := ((DefB g d vs ve).kept ⟨h, fun k => Iff.rfl⟩ hk0 (fun _ _ h => h)).1
  have B1 := h0.blk.grown hg (fun e => h.ne2 e.symm)
  have hst := ownsRow_of_block (w' := w1) h0.stack fun k hv => hg.block k (h0.stack.lt _ hv).2 (fun e => h.ne3 k hv e.symm)
  have hne : v'.ownBlock ≠ some g := fun e => by
    rcases hat g e with h1 | h1
    · exact h.ne2 h1
    · omega
  refine ⟨fun k => k = g ∨ vs.ownBlock = some k ∨ v'.ownBlock = some k, ⟨⟨hc ▸ B1.set_ 11 v', ?_, ?_, h.ne1, hne, ?_⟩, fun k => Iff.rfl⟩, ?_, ?_⟩
  · rw [he]; exact ownsRow_of_block hst fun k hv => Below.heap_setCell _ _ _ _ (fun e => h.ne1 (by subst e; exact hv))
  · exact ownsRow_of_block hown fun k hv => Below.heap_setCell _ _ _ _ (fun e => hne (by subst e; exact hv))
  · intro k hv hv2
    rcases hat k hv2 with h1 | h1
    · exact h.ne3 k hv h1
    · have := (h.stack.lt _ hv).2; omega
  · exact kept_setAt (Kept.grown (hk0.mono (fun _ h => h.elim)) hg (fun k hv => .inl ((hF k).2 (.inr (.inr hv))))) ((hF g).2 (.inl rfl)) 11 v'
  · rintro k (h1 | h1 | h1)
    · exact .inl ((hF k).2 (.inl h1))
    · exact .inl ((hF k).2 (.inr (.inl h1)))
    · rcases hat k h1 with h2 | h2
      · exact .inl ((hF k).2 (.inr (.inr h2)))
      · exact .inr h2
theorem open_news {w : World} {B : Nat} {t : TypeId} {o : Open} (hb : Blk w B t (openC o).toArray) : ∀ j u, (openC o)[j]? = some u → w.cell? ((⟨B, 0, none⟩ : Addr).add j) = some u := fun j u hu => World.news_of_block hb j u (by simpa using hu)
theorem open_one (o : Open) : ∀ u ∈ openC o, u.oneCell' = true := by
  intro u hu
  simp [openC, stC] at hu
  rcases hu with rfl | rfl | rfl | rfl | rfl | rfl | rfl | rfl <;> rfl
set_option maxHeartbeats 1000000 in
theorem opens_walk (g : Nat) (d : Def) (o : Open) (hn : d.stack.length ≤ 100000) (vs ve : Value) (w : World) (F : Nat → Prop) (hb : (DefB g d vs ve).holds w F) :
    Calls Tryz.prog 161 #[.pointer (some ⟨g, 0, none⟩), openV o] w (Post (fun u B => u = .tuple #[] ∧ ∃ vs', B = DefB g (d.opens o) vs' ve) F w) := by
  obtain ⟨h, hF⟩ := hb
  have f10 := h.blk.frozen 10
  have c10 := h.blk.cell 10
  simp [defC] at c10
  have hlt := h.blk.lt
  obtain ⟨k, ⟨ah, ar, ad⟩, ⟨bh, br, bd⟩, lf⟩ := o
  obtain ⟨i0, hi, hz0, hz1, hz2⟩ := info_parts info_open
  replace hi := Lib.hid hi
  replace hz0 := Lib.hid hz0
  replace hz1 := Lib.hid hz1
  replace hz2 := Lib.hid hz2
  replace h := Lib.hid h
  replace hF := Lib.hid hF
  replace hn := Lib.hid hn
  unfold openV openC stC
  simp only [List.cons_append, List.nil_append]
  go_enter Tryz.func161, Tryz.ntmps161
  go_wp2_with fail
  have hnlen : d.stack.length + 1 ≤ maxLen ∧ (d.stack.length + 1) * 64 ≤ 140737488355328 := by have := hn.out; unfold maxLen; omega
  replace hnlen := Lib.hid hnlen
  go_region_law ((refine step_append_lies _ rfl (.tmp 8) (.tmp 10) 145 rfl 0 211 i0 (.agg #[.int .i64 0, .int .i64 0, .int .i64 0, .bool false, .int .i64 0, .int .i64 0, .bool false, .bool false]) 8 64 ?_ ?_ ?_ ?_ ?_ ?_ ?_ vs d.stack.length (stackC d.stack) ?_ ?_ ⟨w.heap.size + 1, 0, none⟩ 1 1 (openC ⟨k, ⟨ah, ar, ad⟩, ⟨bh, br, bd⟩, lf⟩) ?_ ?_ ?_ ?_ ?_ ?_ ?_ ?_ (w.heap.size + 1 + 1) ?_ ?_; exact Tryz.underlying145; exact hi.out; exact hz0.out; exact hz1.out; exact hz2.out; rfl; omega; rfl; exact ownsRow_drew ((h.out.stack.alloc _).alloc _); rfl; rfl; refine (open_news (o := ⟨k, ⟨ah, ar, ad⟩, ⟨bh, br, bd⟩, lf⟩) (t := 211) ?_); refine Blk.drew (Blk.new' ?_); simp; exact open_one _; omega; exact hnlen.out.1; exact hnlen.out.2; omega; simp; intro sg cap w1 hG hgrow hat hlt1; have hB1 := Blk.grown ((h.out.blk.alloc _).alloc _).drew hgrow (fun e => h.out.ne1 e.symm); have c10b := hB1.cell 10; have f10b := hB1.frozen 10; simp [defC] at c10b))
  all_goals
    have hon := h.out.grewStack (F := F) (d' := d.opens ⟨k, ⟨ah, ar, ad⟩, ⟨bh, br, bd⟩, lf⟩) hF.out ((((Kept.refl Nob w).alloc _).alloc _).drew) hgrow (v' := .slice (some ⟨sg, 0, none⟩) (d.stack.length + 1) cap) (by
      have e1 : (d.opens ⟨k, ⟨ah, ar, ad⟩, ⟨bh, br, bd⟩, lf⟩).stack.length = d.stack.length + 1 := by simp [Def.opens]
      have e2 : stackC (d.opens ⟨k, ⟨ah, ar, ad⟩, ⟨bh, br, bd⟩, lf⟩).stack = stackC d.stack ++ openC ⟨k, ⟨ah, ar, ad⟩, ⟨bh, br, bd⟩, lf⟩ := by simp [Def.opens, stackC]
      rw [e1, e2]; exact hG) (fun k hk => by
        have hk : some sg = some k := hk
        cases hk
        rcases hat with h1 | h1
        · exact .inl h1
        · exact .inr (by omega)) rfl rfl
    clear hG hgrow hat hlt1 hB1 c10b f10b c10 f10
    replace hon := Lib.hid hon
    go_wp2
    go_end0
    exact hon.out.post ⟨rfl, _, rfl⟩
end Look
end Go.Proofs.YthejfkkmcbdlhaaGreatDoor
/- Chapter 19: end. Condition: fewer ends than a text has bytes. -/
namespace Go.Proofs.YthejfkkmcbdlhaaGreatDoor
set_option linter.unusedVariables false
open Go.RowKit Go.Lib
namespace Look
theorem DefAt.setSt {w : World} {g : Nat} {d : Def} {vs ve : Value} (h : DefAt w g d vs ve) (s : St) :
    DefAt (((w.setCell ⟨g, 7, none⟩ (.int .i64 s.h)).setCell ⟨g, 8, none⟩ (.int .i64 s.r)).setCell ⟨g, 9, none⟩ (.bool s.dead)) g { d with s := s } vs ve :=
  ((h.setOwn (d' := { d with s := ⟨s.h, d.s.r, d.s.dead⟩ }) 7 _ rfl rfl rfl).setOwn (d' := { d with s := ⟨s.h, s.r, d.s.dead⟩ }) 8 _ rfl rfl rfl).setOwn (d' := { d with s := s }) 9 _ rfl rfl rfl
theorem DefB.setSt {w w' : World} {F : Nat → Prop} {g : Nat} {d : Def} {vs ve : Value} (h : On F w (DefB g d vs ve) w') (s : St) :
    On F w (DefB g { d with s := s } vs ve) (((w'.setCell ⟨g, 7, none⟩ (.int .i64 s.h)).setCell ⟨g, 8, none⟩ (.int .i64 s.r)).setCell ⟨g, 9, none⟩ (.bool s.dead)) :=
  h.step fun F' hb => ⟨F', ⟨hb.1.setSt s, hb.2⟩, kept_setAt (kept_setAt (kept_setAt (Kept.refl F' w') ((hb.2 g).2 (.inl rfl)) 7 _) ((hb.2 g).2 (.inl rfl)) 8 _) ((hb.2 g).2 (.inl rfl)) 9 _, fun k h => .inl h⟩
theorem ownsRow_slice {w : World} {b : Nat} {e : TypeId} {size n : Nat} {v : Value} {xs : List Value} (h : w.ownsRow b e size v n xs) : ∃ p c, v = .slice p n c := by
  obtain ⟨hx, ⟨h, rfl⟩ | ⟨g', cap', cur, hv, _⟩⟩ := h
  · exact ⟨none, 0, h⟩
  · exact ⟨_, _, hv⟩
theorem int_one (x : Int) : ∀ u ∈ [Value.int IntKind.i64 x], u.oneCell' = true := by
  intro u hu
  rw [List.mem_singleton] at hu
  subst hu
  rfl
theorem int_news {w : World} {B : Nat} {t : TypeId} {x : Int} (hb : Blk w B t #[Value.int IntKind.i64 x]) : ∀ j u, [Value.int IntKind.i64 x][j]? = some u → w.cell? ((⟨B, 0, none⟩ : Addr).add j) = some u := fun j u hu => World.news_of_block hb j u (by simpa using hu)
theorem first_end {w : World} {g : Nat} {d : Def} {vs ve : Value} (h : DefAt w g d vs ve) {x : Int} {l : List Int} (he : d.ends = x :: l) : ∃ eg cap, ve = .slice (some ⟨eg, 0, none⟩) (l.length + 1) cap ∧ w.cell? ⟨eg, 0, none⟩ = some (.int .i64 x) := by
  have h1 := h.ends
  rw [he] at h1
  obtain ⟨eg, cap, hv, _, _⟩ := stack_form h1
  refine ⟨eg, cap, hv, ?_⟩
  have := h1.cells (g := eg) (by rw [hv]; rfl) 0 (.int .i64 x) (by simp [endsC])
  simpa [Addr.add] using this
set_option maxHeartbeats 2000000 in
theorem end_walk (g : Nat) (d : Def) (hn : d.ends.length ≤ 100000) (vs ve : Value) (w : World) (F : Nat → Prop) (hb : (DefB g d vs ve).holds w F) :
    Calls Tryz.prog 133 #[.pointer (some ⟨g, 0, none⟩)] w (Post (fun u B => u = .tuple #[] ∧ ∃ ve', B = DefB g d.end_ vs ve') F w) := by
  rcases hd : d.s.dead with _ | _
  · obtain ⟨h, hF⟩ := hb
    have c7 := h.blk.cell 7
    have c8 := h.blk.cell 8
    have c9 := h.blk.cell 9
    have c11 := h.blk.cell 11
    simp [defC] at c7 c8 c9 c11
    rw [hd] at c9
    have hon : On F w (DefB g d vs ve) w := On.refl ⟨h, hF⟩
    have hends := h.ends
    obtain ⟨dh, hdh⟩ : ∃ dh, d.s.h = dh := ⟨_, rfl⟩
    obtain ⟨dr, hdr⟩ : ∃ dr, d.s.r = dr := ⟨_, rfl⟩
    rw [hdh] at c7
    rw [hdr] at c8
    replace h := Lib.hid h
    replace hF := Lib.hid hF
    replace hd := Lib.hid hd
    replace hdh := Lib.hid hdh
    replace hdr := Lib.hid hdr
    replace hn := Lib.hid hn
    replace hon := Lib.hid hon
    have tail : ∀ (b : Bool), d.odd = b → d.end_ = { (if b then d.bad else d) with ends := d.ends ++ [dh], s := stDead } := by
      intro b hb
      unfold Def.end_
      rw [hd.out, hb, ← hdh.out]
      cases b <;> rfl
    rcases hr0 : (dr != 0) with _ | _
    · have hr1 : d.s.r = 0 := by rw [hdr.out]; simpa using hr0
      rcases hen : d.ends with _ | ⟨x, l⟩
      · have hfin := tail false (by simp [Def.odd, hr1, hen])
        rw [hen] at hends
        obtain ⟨ep, ec, hve⟩ := ownsRow_slice hends
        rw [hve] at c11
        have hlen : (decide ((0 : Int) > 0)) = false := rfl
        replace hve := Lib.hid hve
        replace hen := Lib.hid hen
        replace hfin := Lib.hid hfin
        replace hends := Lib.hid hends
        clear tail
        replace hr1 := Lib.hid hr1
        go_enter Tryz.func133, Tryz.ntmps133
        go_wp2
        go_quiet (fail)
        go_wp2_with fail
        have hon1 := hon.out.drewN nq
        generalize w.drewN nq = w1 at hon1 ⊢
        obtain ⟨d1, hon1, e1, e2, e3⟩ : ∃ d1, On F w (DefB g d1 vs ve) w1 ∧ d1.s.h = dh ∧ d1.ends = d.ends ∧ d.end_ = { d1 with ends := d1.ends ++ [dh], s := stDead } := ⟨d, hon1, hdh.out, rfl, hfin.out⟩
        obtain ⟨F1, hb1, hk1, hF1⟩ := hon1
        clear c7 c8 c9 c11
        have c7 := hb1.1.blk.cell 7
        have c11 := hb1.1.blk.cell 11
        have f11 := hb1.1.blk.frozen 11
        have hlt := hb1.1.blk.lt
        simp [defC] at c7 c11
        rw [e1] at c7
        have hon1 : On F w (DefB g d1 vs ve) w1 := ⟨F1, hb1, hk1, hF1⟩
        have hnlen : d1.ends.length + 1 ≤ maxLen ∧ (d1.ends.length + 1) * 8 ≤ 140737488355328 := by rw [e2]; have := hn.out; unfold maxLen; omega
        obtain ⟨i0, hi, hz0, hz1, hz2⟩ := info_parts info_int
        replace hi := Lib.hid hi
        replace hz0 := Lib.hid hz0
        replace hz1 := Lib.hid hz1
        replace hz2 := Lib.hid hz2
        replace hb1 := Lib.hid hb1
        replace hon1 := Lib.hid hon1
        replace hnlen := Lib.hid hnlen
        replace e1 := Lib.hid e1
        replace e2 := Lib.hid e2
        replace e3 := Lib.hid e3
        replace hk1 := Lib.hid hk1
        replace hF1 := Lib.hid hF1
        go_region_law ((refine step_append_lies _ rfl (.tmp 41) (.tmp 47) 103 rfl 0 3 i0 (.int .i64 0) 1 8 ?_ ?_ ?_ ?_ ?_ ?_ ?_ ve d1.ends.length (endsC d1.ends) ?_ ?_ ⟨w1.heap.size, 0, none⟩ 1 1 [.int .i64 dh] ?_ ?_ ?_ ?_ ?_ ?_ ?_ ?_ (w1.heap.size + 1) ?_ ?_; exact Tryz.underlying103; exact hi.out; exact hz0.out; exact hz1.out; exact hz2.out; rfl; omega; rfl; exact ownsRow_drew (hb1.out.1.ends.alloc _); rfl; rfl; refine int_news (t := 3) ?_; refine Blk.drew (Blk.new' ?_); rfl; exact int_one _; omega; exact hnlen.out.1; exact hnlen.out.2; omega; simp; intro sg cap w2 hG hgrow hat hlt1; have hB1 := Blk.grown (hb1.out.1.blk.alloc _).drew hgrow (fun e => hb1.out.1.ne2 e.symm); have c11b := hB1.cell 11; have f11b := hB1.frozen 11; simp [defC] at c11b))
        all_goals
          have hon2 := hb1.out.1.grewEnds (F := F1) (d' := { d1 with ends := d1.ends ++ [dh] }) hb1.out.2 (((Kept.refl Nob w1).alloc _).drew) hgrow (v' := .slice (some ⟨sg, 0, none⟩) (d1.ends.length + 1) cap) (by
            have q1 : (d1.ends ++ [dh]).length = d1.ends.length + 1 := by simp
            have q2 : endsC (d1.ends ++ [dh]) = endsC d1.ends ++ [.int .i64 dh] := by simp [endsC]
            show World.ownsRow _ _ _ _ _ (d1.ends ++ [dh]).length (endsC (d1.ends ++ [dh]))
            rw [q1, q2]; exact hG) (fun k hk => by
              have hk : some sg = some k := hk
              cases hk
              rcases hat with h1 | h1
              · exact .inl h1
              · exact .inr (by omega)) rfl rfl
          have hon3 : On F w (DefB g { d1 with ends := d1.ends ++ [dh] } vs (.slice (some ⟨sg, 0, none⟩) (d1.ends.length + 1) cap)) (w2.setCell ⟨g, 11, none⟩ (.slice (some ⟨sg, 0, none⟩) (d1.ends.length + 1) cap)) := hon1.out.step fun F9 h9 => by
            have h9F : ∀ k, F9 k ↔ F1 k := fun k => (h9.2 k).trans (hb1.out.2 k).symm
            obtain ⟨F8, a1, a2, a3⟩ := hon2
            exact ⟨F8, a1, a2.mono fun k h => (h9F k).2 h, fun k h => (a3 k h).imp (fun h => (h9F k).2 h) id⟩
          clear hG hgrow hat hlt1 hB1 c11b f11b c11 f11 c7 hon2
          obtain ⟨F2, hb2, _⟩ := id hon3
          have c7 := hb2.1.blk.cell 7
          have c8 := hb2.1.blk.cell 8
          have c9 := hb2.1.blk.cell 9
          have f7 := hb2.1.blk.frozen 7
          have f8 := hb2.1.blk.frozen 8
          have f9 := hb2.1.blk.frozen 9
          simp [defC] at c7 c8 c9
          replace hb2 := Lib.hid hb2
          replace hon3 := Lib.hid hon3
          generalize hw3 : w2.setCell ⟨g, 11, none⟩ (.slice (some ⟨sg, 0, none⟩) (d1.ends.length + 1) cap) = w3 at *
          replace hw3 := Lib.hid hw3
          go_wp2
          go_end0
          rw [e3.out]
          exact (DefB.setSt hon3.out stDead).post ⟨rfl, _, rfl⟩
      · obtain ⟨eg, ec, hve, hce⟩ := first_end h.out hen
        rw [hve] at c11
        rcases hxb : (x != dh) with _ | _
        · have hfin := tail false (by simp at hxb; simp [Def.odd, hr1, hen, hdh.out, hxb])
          replace hve := Lib.hid hve
          replace hen := Lib.hid hen
          replace hfin := Lib.hid hfin
          clear tail hends
          replace hr1 := Lib.hid hr1
          go_enter Tryz.func133, Tryz.ntmps133
          go_wp2
          go_quiet (fail)
          go_wp2_with fail
          have hon1 := hon.out.drewN nq
          generalize w.drewN nq = w1 at hon1 ⊢
          obtain ⟨d1, hon1, e1, e2, e3⟩ : ∃ d1, On F w (DefB g d1 vs ve) w1 ∧ d1.s.h = dh ∧ d1.ends = d.ends ∧ d.end_ = { d1 with ends := d1.ends ++ [dh], s := stDead } := ⟨d, hon1, hdh.out, rfl, hfin.out⟩
          obtain ⟨F1, hb1, hk1, hF1⟩ := hon1
          clear c7 c8 c9 c11
          have c7 := hb1.1.blk.cell 7
          have c11 := hb1.1.blk.cell 11
          have f11 := hb1.1.blk.frozen 11
          have hlt := hb1.1.blk.lt
          simp [defC] at c7 c11
          rw [e1] at c7
          have hon1 : On F w (DefB g d1 vs ve) w1 := ⟨F1, hb1, hk1, hF1⟩
          have hnlen : d1.ends.length + 1 ≤ maxLen ∧ (d1.ends.length + 1) * 8 ≤ 140737488355328 := by rw [e2]; have := hn.out; unfold maxLen; omega
          obtain ⟨i0, hi, hz0, hz1, hz2⟩ := info_parts info_int
          replace hi := Lib.hid hi
          replace hz0 := Lib.hid hz0
          replace hz1 := Lib.hid hz1
          replace hz2 := Lib.hid hz2
          replace hb1 := Lib.hid hb1
          replace hon1 := Lib.hid hon1
          replace hnlen := Lib.hid hnlen
          replace e1 := Lib.hid e1
          replace e2 := Lib.hid e2
          replace e3 := Lib.hid e3
          replace hk1 := Lib.hid hk1
          replace hF1 := Lib.hid hF1
          go_region_law ((refine step_append_lies _ rfl (.tmp 41) (.tmp 47) 103 rfl 0 3 i0 (.int .i64 0) 1 8 ?_ ?_ ?_ ?_ ?_ ?_ ?_ ve d1.ends.length (endsC d1.ends) ?_ ?_ ⟨w1.heap.size, 0, none⟩ 1 1 [.int .i64 dh] ?_ ?_ ?_ ?_ ?_ ?_ ?_ ?_ (w1.heap.size + 1) ?_ ?_; exact Tryz.underlying103; exact hi.out; exact hz0.out; exact hz1.out; exact hz2.out; rfl; omega; rfl; exact ownsRow_drew (hb1.out.1.ends.alloc _); rfl; rfl; refine int_news (t := 3) ?_; refine Blk.drew (Blk.new' ?_); rfl; exact int_one _; omega; exact hnlen.out.1; exact hnlen.out.2; omega; simp; intro sg cap w2 hG hgrow hat hlt1; have hB1 := Blk.grown (hb1.out.1.blk.alloc _).drew hgrow (fun e => hb1.out.1.ne2 e.symm); have c11b := hB1.cell 11; have f11b := hB1.frozen 11; simp [defC] at c11b))
          all_goals
            have hon2 := hb1.out.1.grewEnds (F := F1) (d' := { d1 with ends := d1.ends ++ [dh] }) hb1.out.2 (((Kept.refl Nob w1).alloc _).drew) hgrow (v' := .slice (some ⟨sg, 0, none⟩) (d1.ends.length + 1) cap) (by
              have q1 : (d1.ends ++ [dh]).length = d1.ends.length + 1 := by simp
              have q2 : endsC (d1.ends ++ [dh]) = endsC d1.ends ++ [.int .i64 dh] := by simp [endsC]
              show World.ownsRow _ _ _ _ _ (d1.ends ++ [dh]).length (endsC (d1.ends ++ [dh]))
              rw [q1, q2]; exact hG) (fun k hk => by
                have hk : some sg = some k := hk
                cases hk
                rcases hat with h1 | h1
                · exact .inl h1
                · exact .inr (by omega)) rfl rfl
            have hon3 : On F w (DefB g { d1 with ends := d1.ends ++ [dh] } vs (.slice (some ⟨sg, 0, none⟩) (d1.ends.length + 1) cap)) (w2.setCell ⟨g, 11, none⟩ (.slice (some ⟨sg, 0, none⟩) (d1.ends.length + 1) cap)) := hon1.out.step fun F9 h9 => by
              have h9F : ∀ k, F9 k ↔ F1 k := fun k => (h9.2 k).trans (hb1.out.2 k).symm
              obtain ⟨F8, a1, a2, a3⟩ := hon2
              exact ⟨F8, a1, a2.mono fun k h => (h9F k).2 h, fun k h => (a3 k h).imp (fun h => (h9F k).2 h) id⟩
            clear hG hgrow hat hlt1 hB1 c11b f11b c11 f11 c7 hon2
            obtain ⟨F2, hb2, _⟩ := id hon3
            have c7 := hb2.1.blk.cell 7
            have c8 := hb2.1.blk.cell 8
            have c9 := hb2.1.blk.cell 9
            have f7 := hb2.1.blk.frozen 7
            have f8 := hb2.1.blk.frozen 8
            have f9 := hb2.1.blk.frozen 9
            simp [defC] at c7 c8 c9
            replace hb2 := Lib.hid hb2
            replace hon3 := Lib.hid hon3
            generalize hw3 : w2.setCell ⟨g, 11, none⟩ (.slice (some ⟨sg, 0, none⟩) (d1.ends.length + 1) cap) = w3 at *
            replace hw3 := Lib.hid hw3
            go_wp2
            go_end0
            rw [e3.out]
            exact (DefB.setSt hon3.out stDead).post ⟨rfl, _, rfl⟩
        · have hfin := tail true (by simp at hxb; simp [Def.odd, hr1, hen, hdh.out, hxb])
          replace hve := Lib.hid hve
          replace hen := Lib.hid hen
          replace hfin := Lib.hid hfin
          clear tail hends
          replace hr1 := Lib.hid hr1
          go_enter Tryz.func133, Tryz.ntmps133
          go_wp2
          go_quiet (fail)
          go_wp2_with fail
          refine ((hon.out.drewN _).call fun F' hb' => bad_walk g d vs ve _ F' hb').mono ?_
          rintro e w1 ⟨v, A', ⟨rfl, rfl⟩, rfl, hon1⟩
          replace hon1 := Lib.hid hon1
          go_wp2_with fail
          replace hon1 := hon1.out
          obtain ⟨d1, hon1, e1, e2, e3⟩ : ∃ d1, On F w (DefB g d1 vs ve) w1 ∧ d1.s.h = dh ∧ d1.ends = d.ends ∧ d.end_ = { d1 with ends := d1.ends ++ [dh], s := stDead } := ⟨d.bad, hon1, hdh.out, rfl, hfin.out⟩
          obtain ⟨F1, hb1, hk1, hF1⟩ := hon1
          clear c7 c8 c9 c11
          have c7 := hb1.1.blk.cell 7
          have c11 := hb1.1.blk.cell 11
          have f11 := hb1.1.blk.frozen 11
          have hlt := hb1.1.blk.lt
          simp [defC] at c7 c11
          rw [e1] at c7
          have hon1 : On F w (DefB g d1 vs ve) w1 := ⟨F1, hb1, hk1, hF1⟩
          have hnlen : d1.ends.length + 1 ≤ maxLen ∧ (d1.ends.length + 1) * 8 ≤ 140737488355328 := by rw [e2]; have := hn.out; unfold maxLen; omega
          obtain ⟨i0, hi, hz0, hz1, hz2⟩ := info_parts info_int
          replace hi := Lib.hid hi
          replace hz0 := Lib.hid hz0
          replace hz1 := Lib.hid hz1
          replace hz2 := Lib.hid hz2
          replace hb1 := Lib.hid hb1
          replace hon1 := Lib.hid hon1
          replace hnlen := Lib.hid hnlen
          replace e1 := Lib.hid e1
          replace e2 := Lib.hid e2
          replace e3 := Lib.hid e3
          replace hk1 := Lib.hid hk1
          replace hF1 := Lib.hid hF1
          go_region_law ((refine step_append_lies _ rfl (.tmp 41) (.tmp 47) 103 rfl 0 3 i0 (.int .i64 0) 1 8 ?_ ?_ ?_ ?_ ?_ ?_ ?_ ve d1.ends.length (endsC d1.ends) ?_ ?_ ⟨w1.heap.size, 0, none⟩ 1 1 [.int .i64 dh] ?_ ?_ ?_ ?_ ?_ ?_ ?_ ?_ (w1.heap.size + 1) ?_ ?_; exact Tryz.underlying103; exact hi.out; exact hz0.out; exact hz1.out; exact hz2.out; rfl; omega; rfl; exact ownsRow_drew (hb1.out.1.ends.alloc _); rfl; rfl; refine int_news (t := 3) ?_; refine Blk.drew (Blk.new' ?_); rfl; exact int_one _; omega; exact hnlen.out.1; exact hnlen.out.2; omega; simp; intro sg cap w2 hG hgrow hat hlt1; have hB1 := Blk.grown (hb1.out.1.blk.alloc _).drew hgrow (fun e => hb1.out.1.ne2 e.symm); have c11b := hB1.cell 11; have f11b := hB1.frozen 11; simp [defC] at c11b))
          all_goals
            have hon2 := hb1.out.1.grewEnds (F := F1) (d' := { d1 with ends := d1.ends ++ [dh] }) hb1.out.2 (((Kept.refl Nob w1).alloc _).drew) hgrow (v' := .slice (some ⟨sg, 0, none⟩) (d1.ends.length + 1) cap) (by
              have q1 : (d1.ends ++ [dh]).length = d1.ends.length + 1 := by simp
              have q2 : endsC (d1.ends ++ [dh]) = endsC d1.ends ++ [.int .i64 dh] := by simp [endsC]
              show World.ownsRow _ _ _ _ _ (d1.ends ++ [dh]).length (endsC (d1.ends ++ [dh]))
              rw [q1, q2]; exact hG) (fun k hk => by
                have hk : some sg = some k := hk
                cases hk
                rcases hat with h1 | h1
                · exact .inl h1
                · exact .inr (by omega)) rfl rfl
            have hon3 : On F w (DefB g { d1 with ends := d1.ends ++ [dh] } vs (.slice (some ⟨sg, 0, none⟩) (d1.ends.length + 1) cap)) (w2.setCell ⟨g, 11, none⟩ (.slice (some ⟨sg, 0, none⟩) (d1.ends.length + 1) cap)) := hon1.out.step fun F9 h9 => by
              have h9F : ∀ k, F9 k ↔ F1 k := fun k => (h9.2 k).trans (hb1.out.2 k).symm
              obtain ⟨F8, a1, a2, a3⟩ := hon2
              exact ⟨F8, a1, a2.mono fun k h => (h9F k).2 h, fun k h => (a3 k h).imp (fun h => (h9F k).2 h) id⟩
            clear hG hgrow hat hlt1 hB1 c11b f11b c11 f11 c7 hon2
            obtain ⟨F2, hb2, _⟩ := id hon3
            have c7 := hb2.1.blk.cell 7
            have c8 := hb2.1.blk.cell 8
            have c9 := hb2.1.blk.cell 9
            have f7 := hb2.1.blk.frozen 7
            have f8 := hb2.1.blk.frozen 8
            have f9 := hb2.1.blk.frozen 9
            simp [defC] at c7 c8 c9
            replace hb2 := Lib.hid hb2
            replace hon3 := Lib.hid hon3
            generalize hw3 : w2.setCell ⟨g, 11, none⟩ (.slice (some ⟨sg, 0, none⟩) (d1.ends.length + 1) cap) = w3 at *
            replace hw3 := Lib.hid hw3
            go_wp2
            go_end0
            rw [e3.out]
            exact (DefB.setSt hon3.out stDead).post ⟨rfl, _, rfl⟩
    · have hfin := tail true (by have : d.s.r ≠ 0 := (by rw [hdr.out]; simpa using hr0); simp [Def.odd, this])
      replace hfin := Lib.hid hfin
      clear tail hends
      go_enter Tryz.func133, Tryz.ntmps133
      go_wp2
      go_quiet (fail)
      go_wp2_with fail
      refine ((hon.out.drewN _).call fun F' hb' => bad_walk g d vs ve _ F' hb').mono ?_
      rintro e w1 ⟨v, A', ⟨rfl, rfl⟩, rfl, hon1⟩
      replace hon1 := Lib.hid hon1
      go_wp2_with fail
      replace hon1 := hon1.out
      obtain ⟨d1, hon1, e1, e2, e3⟩ : ∃ d1, On F w (DefB g d1 vs ve) w1 ∧ d1.s.h = dh ∧ d1.ends = d.ends ∧ d.end_ = { d1 with ends := d1.ends ++ [dh], s := stDead } := ⟨d.bad, hon1, hdh.out, rfl, hfin.out⟩
      obtain ⟨F1, hb1, hk1, hF1⟩ := hon1
      clear c7 c8 c9 c11
      have c7 := hb1.1.blk.cell 7
      have c11 := hb1.1.blk.cell 11
      have f11 := hb1.1.blk.frozen 11
      have hlt := hb1.1.blk.lt
      simp [defC] at c7 c11
      rw [e1] at c7
      have hon1 : On F w (DefB g d1 vs ve) w1 := ⟨F1, hb1, hk1, hF1⟩
      have hnlen : d1.ends.length + 1 ≤ maxLen ∧ (d1.ends.length + 1) * 8 ≤ 140737488355328 := by rw [e2]; have := hn.out; unfold maxLen; omega
      obtain ⟨i0, hi, hz0, hz1, hz2⟩ := info_parts info_int
      replace hi := Lib.hid hi
      replace hz0 := Lib.hid hz0
      replace hz1 := Lib.hid hz1
      replace hz2 := Lib.hid hz2
      replace hb1 := Lib.hid hb1
      replace hon1 := Lib.hid hon1
      replace hnlen := Lib.hid hnlen
      replace e1 := Lib.hid e1
      replace e2 := Lib.hid e2
      replace e3 := Lib.hid e3
      replace hk1 := Lib.hid hk1
      replace hF1 := Lib.hid hF1
      go_region_law ((refine step_append_lies _ rfl (.tmp 41) (.tmp 47) 103 rfl 0 3 i0 (.int .i64 0) 1 8 ?_ ?_ ?_ ?_ ?_ ?_ ?_ ve d1.ends.length (endsC d1.ends) ?_ ?_ ⟨w1.heap.size, 0, none⟩ 1 1 [.int .i64 dh] ?_ ?_ ?_ ?_ ?_ ?_ ?_ ?_ (w1.heap.size + 1) ?_ ?_; exact Tryz.underlying103; exact hi.out; exact hz0.out; exact hz1.out; exact hz2.out; rfl; omega; rfl; exact ownsRow_drew (hb1.out.1.ends.alloc _); rfl; rfl; refine int_news (t := 3) ?_; refine Blk.drew (Blk.new' ?_); rfl; exact int_one _; omega; exact hnlen.out.1; exact hnlen.out.2; omega; simp; intro sg cap w2 hG hgrow hat hlt1; have hB1 := Blk.grown (hb1.out.1.blk.alloc _).drew hgrow (fun e => hb1.out.1.ne2 e.symm); have c11b := hB1.cell 11; have f11b := hB1.frozen 11; simp [defC] at c11b))
      all_goals
        have hon2 := hb1.out.1.grewEnds (F := F1) (d' := { d1 with ends := d1.ends ++ [dh] }) hb1.out.2 (((Kept.refl Nob w1).alloc _).drew) hgrow (v' := .slice (some ⟨sg, 0, none⟩) (d1.ends.length + 1) cap) (by
          have q1 : (d1.ends ++ [dh]).length = d1.ends.length + 1 := by simp
          have q2 : endsC (d1.ends ++ [dh]) = endsC d1.ends ++ [.int .i64 dh] := by simp [endsC]
          show World.ownsRow _ _ _ _ _ (d1.ends ++ [dh]).length (endsC (d1.ends ++ [dh]))
          rw [q1, q2]; exact hG) (fun k hk => by
            have hk : some sg = some k := hk
            cases hk
            rcases hat with h1 | h1
            · exact .inl h1
            · exact .inr (by omega)) rfl rfl
        have hon3 : On F w (DefB g { d1 with ends := d1.ends ++ [dh] } vs (.slice (some ⟨sg, 0, none⟩) (d1.ends.length + 1) cap)) (w2.setCell ⟨g, 11, none⟩ (.slice (some ⟨sg, 0, none⟩) (d1.ends.length + 1) cap)) := hon1.out.step fun F9 h9 => by
          have h9F : ∀ k, F9 k ↔ F1 k := fun k => (h9.2 k).trans (hb1.out.2 k).symm
          obtain ⟨F8, a1, a2, a3⟩ := hon2
          exact ⟨F8, a1, a2.mono fun k h => (h9F k).2 h, fun k h => (a3 k h).imp (fun h => (h9F k).2 h) id⟩
        clear hG hgrow hat hlt1 hB1 c11b f11b c11 f11 c7 hon2
        obtain ⟨F2, hb2, _⟩ := id hon3
        have c7 := hb2.1.blk.cell 7
        have c8 := hb2.1.blk.cell 8
        have c9 := hb2.1.blk.cell 9
        have f7 := hb2.1.blk.frozen 7
        have f8 := hb2.1.blk.frozen 8
        have f9 := hb2.1.blk.frozen 9
        simp [defC] at c7 c8 c9
        replace hb2 := Lib.hid hb2
        replace hon3 := Lib.hid hon3
        generalize hw3 : w2.setCell ⟨g, 11, none⟩ (.slice (some ⟨sg, 0, none⟩) (d1.ends.length + 1) cap) = w3 at *
        replace hw3 := Lib.hid hw3
        go_wp2
        go_end0
        rw [e3.out]
        exact (DefB.setSt hon3.out stDead).post ⟨rfl, _, rfl⟩
  · have he : d.end_ = d := by unfold Def.end_; rw [hd]; rfl
    rw [he]
    obtain ⟨h, hF⟩ := hb
    have c9 := h.blk.cell 9
    simp [defC] at c9
    rw [hd] at c9
    have hon : On F w (DefB g d vs ve) w := On.refl ⟨h, hF⟩
    replace h := Lib.hid h
    replace hF := Lib.hid hF
    replace he := Lib.hid he
    replace hon := Lib.hid hon
    go_enter Tryz.func133, Tryz.ntmps133
    go_wp2
    go_end0
    exact hon.out.post ⟨rfl, _, rfl⟩
end Look
end Go.Proofs.YthejfkkmcbdlhaaGreatDoor
/- Chapter 19: top, inner: places within the stack's row. No condition. -/
namespace Go.Proofs.YthejfkkmcbdlhaaGreatDoor
set_option linter.unusedVariables false
open Go.RowKit Go.Lib
namespace Look
theorem stackC_at : ∀ (l : List Open) (i j : Nat) (hi : i < l.length) (hj : j < 8), (stackC l)[i * 8 + j]? = (openC (l[i]))[j]?
  | [], _, _, h, _ => by simp at h
  | o :: l, 0, j, _, hj => by
    unfold stackC
    rw [List.flatMap_cons, List.getElem?_append_left (by rw [openC_len]; omega)]
    simp
  | o :: l, i + 1, j, h, hj => by
    have ih := stackC_at l i j (by simpa using h) hj
    unfold stackC at ih ⊢
    rw [List.flatMap_cons, List.getElem?_append_right (by rw [openC_len]; omega), openC_len, show (i + 1) * 8 + j - 8 = i * 8 + j by omega, ih]
    simp
/-- the row of the stack where something is open -/
theorem DefAt.form {w : World} {g : Nat} {d : Def} {vs ve : Value} (h : DefAt w g d vs ve) (hne : d.stack ≠ []) : ∃ sg cap, vs = .slice (some ⟨sg, 0, none⟩) d.stack.length cap ∧ d.stack.length ≤ cap ∧ cap ≤ maxLen := by
  obtain ⟨n, hn⟩ : ∃ n, d.stack.length = n + 1 := ⟨d.stack.length - 1, by have := List.length_pos_iff.2 hne; omega⟩
  have h1 := h.stack
  rw [hn] at h1 ⊢
  exact stack_form h1
theorem DefAt.cell {w : World} {g : Nat} {d : Def} {sg n cap : Nat} {ve : Value} (h : DefAt w g d (.slice (some ⟨sg, 0, none⟩) n cap) ve) (i j : Nat) (hi : i < d.stack.length) (hj : j < 8) : w.cell? ⟨sg, i * 8 + j, none⟩ = (openC (d.stack[i]))[j]? := by
  have he := stackC_at d.stack i j hi hj
  have hl : j < (openC d.stack[i]).length := by rw [openC_len]; exact hj
  rw [List.getElem?_eq_getElem hl] at he ⊢
  have := h.stack.cells (g := sg) rfl (i * 8 + j) _ he
  rw [← this]
  unfold Addr.add
  split <;> simp_all
theorem DefAt.caps {w : World} {g : Nat} {d : Def} {p : Option Addr} {n cap : Nat} {ve : Value} (h : DefAt w g d (.slice p n cap) ve) : n ≤ cap ∧ cap ≤ maxLen := by
  obtain ⟨hx, ⟨h1, _⟩ | ⟨g', cap', cur, hv, hg, hc, h2, h3, _⟩⟩ := h.stack
  · rw [Value.slice.injEq] at h1
    unfold maxLen
    omega
  · rw [Value.slice.injEq] at hv
    unfold maxLen at *
    omega
theorem DefAt.cellFrozen {w : World} {g : Nat} {d : Def} {sg n cap : Nat} {ve : Value} (h : DefAt w g d (.slice (some ⟨sg, 0, none⟩) n cap) ve) (i : Nat) : w.frozen? ⟨sg, i, none⟩ = false := by
  obtain ⟨hx, ⟨h1, _⟩ | ⟨g', cap', cur, hv, hg, hc, _⟩⟩ := h.stack
  · cases h1
  · cases hv
    exact Blk.frozen hc i
set_option maxHeartbeats 1000000 in
theorem top_some (g : Nat) (d : Def) (l : List Open) (o : Open) (hd : d.stack = l ++ [o]) (sg cap : Nat) (ve : Value) (w : World) (F : Nat → Prop) (hb : (DefB g d (.slice (some ⟨sg, 0, none⟩) (l.length + 1) cap) ve).holds w F) :
    Calls Tryz.prog 162 #[.pointer (some ⟨g, 0, none⟩), .int .i64 (o.kind : Int)] w (Post (fun u B => u = .pointer (some ⟨sg, l.length * 8, none⟩) ∧ B = DefB g d (.slice (some ⟨sg, 0, none⟩) (l.length + 1) cap) ve) F w) := by
  have hon := On.refl hb
  obtain ⟨h, hF⟩ := hb
  have hlen : d.stack.length = l.length + 1 := by rw [hd]; simp
  obtain ⟨hcap, hmax⟩ := h.caps
  have c10 := h.blk.cell 10
  have ck := h.cell l.length 0 (by omega) (by omega)
  have hk : d.stack[l.length]'(by omega) = o := by simp [hd]
  rw [hk] at ck
  simp [openC] at ck
  simp [defC] at c10
  clear h hk hd hF
  obtain ⟨m, hm⟩ : ∃ m, l.length = m := ⟨_, rfl⟩
  obtain ⟨kk, hkk⟩ : ∃ kk : Int, (o.kind : Int) = kk := ⟨_, rfl⟩
  rw [hkk] at ck ⊢
  rw [hm] at hlen hcap ck c10 hon ⊢
  have hnb : (m : Int) + 1 ≤ 9223372036854775807 := by unfold maxLen at hmax; omega
  have hw : wrap64 (m : Int) = (m : Int) := by unfold wrap64; omega
  clear hlen hm
  replace hon := Lib.hid hon
  go_enter Tryz.func162, Tryz.ntmps162
  go_wp2
  go_ret
  exact hon.out.post ⟨rfl, rfl⟩
set_option maxHeartbeats 1000000 in
theorem top_none (g : Nat) (d : Def) (k : Nat) (hd : d.top k = none) (vs ve : Value) (w : World) (F : Nat → Prop) (hb : (DefB g d vs ve).holds w F) :
    Calls Tryz.prog 162 #[.pointer (some ⟨g, 0, none⟩), .int .i64 (k : Int)] w (Post (fun u B => u = .pointer none ∧ B = DefB g d.bad vs ve) F w) := by
  have hon := On.refl hb
  obtain ⟨h, hF⟩ := hb
  have c10 := h.blk.cell 10
  simp [defC] at c10
  rcases List.eq_nil_or_concat d.stack with h0 | ⟨l, o, h0⟩
  · have hst := h.stack
    rw [h0] at hst
    obtain ⟨p, c, rfl⟩ := ownsRow_slice hst
    have hp : (.slice p ([] : List Open).length c : Value) = .slice p 0 c := rfl
    rw [hp] at *
    clear hp hst h hF hd h0
    replace hon := Lib.hid hon
    go_enter Tryz.func162, Tryz.ntmps162
    go_wp2_with fail
    refine (hon.out.call fun F' hb' => bad_walk g d _ ve _ F' hb').mono ?_
    rintro e w1 ⟨v, A', ⟨rfl, rfl⟩, rfl, hon1⟩
    replace hon1 := Lib.hid hon1
    go_wp2
    go_ret
    exact hon1.out.post ⟨rfl, rfl⟩
  · rw [List.concat_eq_append] at h0
    have hlen : d.stack.length = l.length + 1 := by rw [h0]; simp
    obtain ⟨sg, cap, rfl, hcap, hmax⟩ := h.form (by rw [h0]; simp)
    have ck := h.cell l.length 0 (by omega) (by omega)
    have hk : d.stack[l.length]'(by omega) = o := by simp [h0]
    rw [hk] at ck
    simp [openC] at ck
    rw [hlen] at c10 hcap hon
    have hne : o.kind ≠ k := fun e => by
      unfold Def.top at hd
      rw [h0, List.getLast?_concat] at hd
      simp [e] at hd
    clear h hk hd hF h0
    obtain ⟨m, hm⟩ : ∃ m, l.length = m := ⟨_, rfl⟩
    obtain ⟨kk, hkk⟩ : ∃ kk : Int, (o.kind : Int) = kk := ⟨_, rfl⟩
    obtain ⟨k', hk'⟩ : ∃ kk : Int, (k : Int) = kk := ⟨_, rfl⟩
    have hne' : (kk == k') = false := by rw [beq_eq_false_iff_ne]; omega
    rw [hkk] at ck
    rw [hk']
    rw [hm] at hlen hcap ck c10 hon
    rw [hlen]
    have hnb : (m : Int) + 1 ≤ 9223372036854775807 := by unfold maxLen at hmax; omega
    have hw : wrap64 (m : Int) = (m : Int) := by unfold wrap64; omega
    clear hlen hm hkk hk' hne
    replace hon := Lib.hid hon
    go_enter Tryz.func162, Tryz.ntmps162
    go_wp2_with fail
    refine (hon.out.call fun F' hb' => bad_walk g d _ ve _ F' hb').mono ?_
    rintro e w1 ⟨v, A', ⟨rfl, rfl⟩, rfl, hon1⟩
    replace hon1 := Lib.hid hon1
    go_wp2
    go_ret
    exact hon1.out.post ⟨rfl, rfl⟩
theorem innerAt_none : ∀ (l : List Open), innerAt l = none → ∀ o ∈ l, o.kind ≠ 27
  | [], _, _, h => by simp at h
  | o :: l, h, x, hx => by
    unfold innerAt at h
    rcases hl : innerAt l with _ | i
    · rw [hl] at h
      rcases List.mem_cons.1 hx with rfl | hx
      · intro e; simp [e] at h
      · exact innerAt_none l hl x hx
    · rw [hl] at h; simp at h
theorem innerAt_some : ∀ (l : List Open) (i : Nat), innerAt l = some i → ∃ o, l[i]? = some o ∧ o.kind = 27 ∧ ∀ j o', i < j → l[j]? = some o' → o'.kind ≠ 27
  | [], _, h => by simp [innerAt] at h
  | o :: l, i, h => by
    unfold innerAt at h
    rcases hl : innerAt l with _ | i'
    · rw [hl] at h
      simp only at h
      split at h
      · next hk =>
        cases h
        refine ⟨o, rfl, hk, fun j o' hj ho' => ?_⟩
        obtain ⟨j', rfl⟩ : ∃ j', j = j' + 1 := ⟨j - 1, by omega⟩
        exact innerAt_none l hl o' (List.mem_of_getElem? (by simpa using ho'))
      · cases h
    · rw [hl] at h
      cases h
      obtain ⟨o1, h1, h2, h3⟩ := innerAt_some l i' hl
      refine ⟨o1, by simpa using h1, h2, fun j o' hj ho' => ?_⟩
      obtain ⟨j', rfl⟩ : ∃ j', j = j' + 1 := ⟨j - 1, by omega⟩
      exact h3 j' o' (by omega) (by simpa using ho')
theorem innerAt_no : ∀ (l : List Open), (∀ o ∈ l, o.kind ≠ 27) → innerAt l = none
  | [], _ => rfl
  | o :: l, h => by
    unfold innerAt
    rw [innerAt_no l fun x hx => h x (List.mem_cons_of_mem _ hx)]
    simp [h o (by simp)]
theorem innerAt_is : ∀ (l : List Open) (i : Nat) (o : Open), l[i]? = some o → o.kind = 27 → (∀ j o', i < j → l[j]? = some o' → o'.kind ≠ 27) → innerAt l = some i
  | [], _, _, h, _, _ => by simp at h
  | x :: l, 0, o, h, hk, hl => by
    unfold innerAt
    rw [innerAt_no l fun y hy => by
      obtain ⟨j, hj⟩ := List.mem_iff_getElem?.1 hy
      exact hl (j + 1) y (by omega) (by simpa using hj)]
    simp at h
    subst h
    simp [hk]
  | x :: l, i + 1, o, h, hk, hl => by
    unfold innerAt
    rw [innerAt_is l i o (by simpa using h) hk fun j o' hj h' => hl (j + 1) o' (by omega) (by simpa using h')]
/-- the place of a thing that is open -/
def placeV (vs : Value) (x : Option Nat) : Value := match x with
  | none => .pointer none
  | some i => match vs with
    | .slice (some a) _ _ => .pointer (some ⟨a.block, i * 8, none⟩)
    | _ => .pointer none
set_option maxHeartbeats 1000000 in
theorem inner_walk (g : Nat) (d : Def) (vs ve : Value) (w : World) (F : Nat → Prop) (hb : (DefB g d vs ve).holds w F) :
    Calls Tryz.prog 152 #[.pointer (some ⟨g, 0, none⟩)] w (Post (fun u B => u = placeV vs (innerAt d.stack) ∧ B = DefB g d vs ve) F w) := by
  have hon := On.refl hb
  obtain ⟨h, hF⟩ := hb
  have c10 := h.blk.cell 10
  simp [defC] at c10
  rcases hs : d.stack with _ | ⟨o0, l0⟩
  · have hst := h.stack
    rw [hs] at hst
    obtain ⟨p, c, rfl⟩ := ownsRow_slice hst
    have hp : (.slice p ([] : List Open).length c : Value) = .slice p 0 c := rfl
    rw [hp] at *
    clear hp hst h hF hs
    replace hon := Lib.hid hon
    go_enter Tryz.func152, Tryz.ntmps152
    go_wp2
    go_loop [3] (fun i => i = .int .i64 (-1)) (fun _ => 0)
    case atStart => first | rfl | exact rfl
    case round =>
      subst hrel
      go_wp2
      go_ret
      exact hon.out.post ⟨rfl, rfl⟩
  · rw [← hs]
    obtain ⟨sg, cap, rfl, hcap, hmax⟩ := h.form (by rw [hs]; simp)
    have ck : ∀ i (hi : i < d.stack.length), w.cell? ⟨sg, i * 8, none⟩ = some (.int .i64 ((d.stack[i]).kind : Int)) := fun i hi => by
      have := h.cell i 0 hi (by omega)
      simpa [openC] using this
    obtain ⟨n, hn⟩ : ∃ n, d.stack.length = n := ⟨_, rfl⟩
    have hnb : (n : Int) ≤ 9223372036854775807 := by unfold maxLen at hmax; omega
    rw [hn] at c10 hcap hon ⊢
    generalize d.stack = st at *
    clear h hF hs
    replace hon := Lib.hid hon
    replace ck := Lib.hid ck
    replace hn := Lib.hid hn
    clear l0 o0
    go_enter Tryz.func152, Tryz.ntmps152
    go_wp2
    go_loop [3] (fun i => ∃ j : Nat, j ≤ n ∧ i = .int .i64 ((j : Int) - 1) ∧ ∀ q o, j ≤ q → st[q]? = some o → o.kind ≠ 27) (fun i => (RowKit.intOf i + 1).toNat)
    case atStart => exact ⟨n, by omega, by go_num, fun q o hq ho => by have := (List.getElem?_eq_some_iff.1 ho).1; have := hn.out; omega⟩
    case round =>
      obtain ⟨j, hj, rfl, hno⟩ := hrel
      by_cases hlt : 0 < j
      · obtain ⟨j, rfl⟩ : ∃ q, j = q + 1 := ⟨j - 1, by omega⟩
        have hjl : j < st.length := by rw [hn.out]; omega
        have e1 : ((j + 1 : Nat) : Int) - 1 = j := by omega
        rw [e1]
        have hc := ck.out j hjl
        by_cases hk : st[j].kind = 27
        · have hres : innerAt st = some j := innerAt_is st j st[j] (List.getElem?_eq_getElem hjl) hk fun q o hq ho => hno q o (by omega) ho
          rw [hk] at hc
          replace hno := Lib.hid hno
          replace hres := Lib.hid hres
          clear hk hlt e1
          go_wp2
          go_ret
          exact hon.out.post ⟨by rw [hres.out]; rfl, rfl⟩
        · have hno2 : ∀ q o, j ≤ q → st[q]? = some o → o.kind ≠ 27 := fun q o hq ho => by
            rcases Nat.lt_or_ge j q with h1 | h1
            · exact hno q o (by omega) ho
            · have : q = j := by omega
              subst this
              rw [List.getElem?_eq_getElem hjl] at ho
              cases ho
              exact hk
          obtain ⟨kk, hkk⟩ : ∃ kk : Int, (st[j].kind : Int) = kk := ⟨_, rfl⟩
          rw [hkk] at hc
          have hkb : (kk == 27) = false := by rw [beq_eq_false_iff_ne]; omega
          replace hno := Lib.hid hno
          replace hno2 := Lib.hid hno2
          clear hkk hk hlt e1
          go_wp2
          go_round
          case rel => exact ⟨j, by omega, by go_num, hno2.out⟩
          case measure => simp [RowKit.intOf]
      · obtain rfl : j = 0 := by omega
        have hres : innerAt st = none := innerAt_no st fun o ho => by
          obtain ⟨q, hq⟩ := List.mem_iff_getElem?.1 ho
          exact hno q o (by omega) hq
        replace hres := Lib.hid hres
        clear hno
        go_wp2
        go_ret
        exact hon.out.post ⟨by rw [hres.out]; rfl, rfl⟩
end Look
end Go.Proofs.YthejfkkmcbdlhaaGreatDoor
