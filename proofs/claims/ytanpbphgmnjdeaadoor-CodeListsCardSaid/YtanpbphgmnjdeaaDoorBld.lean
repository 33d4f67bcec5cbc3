/- strings.Builder as an object among others: WriteString, String with the blocks that they touch. Conditions: as written. -/
import Derived.Test.YtanpbphgmnjdeaaDoorRowB
import Derived.Test.YtanpbphgmnjdeaaDoorShelf
import Derived.Test.YtanpbphgmnjdeaaDoorSame
import Derived.RegionTactic
import Derived.BigRegion
import Derived.Lib.UnsafeStr
namespace Go.Proofs.YtanpbphgmnjdeaaDoor
set_option linter.unusedVariables false
open Go.RowKit Go.Lib Go.Shelf

theorem bld_l240 : Lays.n240 Tryd.prog Tryd.lays230_ren := { Tryd.lays230 with }
theorem info_u8' : (Tryd.prog.info? 5).map (fun i => (i.zero, i.size, i.bytes)) = some (some (.int .u8 0), 1, 1) := by kernel_rfl
/-- a builder -/
def BldA (b : Nat) (bs : List UInt8) : Asr where
  holds w F := ∃ p v, Blk w b 85 #[p, v] ∧ (p = .pointer none ∨ p = .pointer (some ⟨b, 0, none⟩)) ∧ Buf w 5 v bs ∧ ∀ k, F k ↔ (k = b ∨ v.ownBlock = some k)
  lt := by
    rintro w F k ⟨p, v, h1, h2, h3, h4⟩ hk
    rcases (h4 k).1 hk with rfl | h
    · exact h1.lt
    · exact h3.lt h
  kept := by
    rintro w w' F T ⟨p, v, h1, h2, h3, h4⟩ hk hT
    exact ⟨p, v, h1.kept hk (hT b ((h4 b).2 (.inl rfl))), h2, h3.kept hk (fun k hv => hT k ((h4 k).2 (.inr hv))), h4⟩
section
variable {w0 w : World} {b : Nat} {bs : List UInt8} {L : List Asr}
theorem At.bld (h : At w0 w L) : At w0 (w.alloc (.cells #[.pointer none, .slice none 0 0] 85)) (BldA w.heap.size [] :: L) :=
  h.add (A := BldA w.heap.size []) (F' := fun k => k = w.heap.size) ⟨_, _, Blk.new w _ _, .inl rfl, Buf.nil _ _, fun k => by simp [Value.ownBlock]⟩ ((Kept.refl _ _).alloc _) (fun k hk => Nat.le_of_eq hk.symm)
set_option maxRecDepth 100000 in
set_option maxHeartbeats 1000000 in
theorem bld_write_core (p v : Value) (hb : Blk w b 85 #[p, v]) (hp : p = .pointer none ∨ p = .pointer (some ⟨b, 0, none⟩)) (hv : Buf w 5 v bs) (s : ByteArray) (hs : bs.length + s.size ≤ 140737488355328) :
    Calls Tryd.prog 65 #[.pointer (some ⟨b, 0, none⟩), .string s] w fun e w' => e = .returned (.tuple #[.int .i64 s.size, .nilIface]) ∧
      ∃ v', Blk w' b 85 #[.pointer (some ⟨b, 0, none⟩), v'] ∧ Buf w' 5 v' (bs ++ s.data.toList) ∧ (v'.ownBlock = v.ownBlock ∨ v'.ownBlock = some w.heap.size) ∧ Kept (fun k => k = b ∨ v.ownBlock = some k) w w' := by
  have hcc : Calls Tryd.prog 88 #[.pointer (some ⟨b, 0, none⟩)] w fun e w' => e = .returned (.tuple #[]) ∧ Blk w' b 85 #[.pointer (some ⟨b, 0, none⟩), v] ∧ Kept (fun k => k = b) w w' ∧ w'.heap.size = w.heap.size := by
    rcases hp with rfl | rfl
    · refine (Any.Builder_copyCheck_fresh bld_l240 Tryd.Builder_Extra_230.toX72 b w (hb.cell 0) ?_ (hb.frozen 0)).mono ?_
      · unfold Blk at hb; simp [World.shape?, hb]; rfl
      · rintro e w' ⟨rfl, rfl⟩
        exact ⟨rfl, hb.set_ 0 _, Kept.setCell (p := ⟨b, 0, none⟩) (Kept.refl (fun k => k = b) w) (.inl rfl) _, by simp [World.setCell]⟩
    · refine (Any.Builder_copyCheck_used bld_l240 Tryd.Builder_Extra_230.toX72 b w (hb.cell 0)).mono ?_
      rintro e w' ⟨rfl, rfl⟩
      exact ⟨rfl, hb, Kept.refl _ _, rfl⟩
  have hne := hv.ne_blk hb (by decide)
  obtain ⟨i0, hi, hz0, hz1, hz2⟩ := info_parts info_u8'
  replace hcc := Lib.hid hcc
  replace hi := Lib.hid hi
  replace hz0 := Lib.hid hz0
  replace hz1 := Lib.hid hz1
  replace hz2 := Lib.hid hz2
  clear hp
  replace hb := Lib.hid hb
  replace hs := Lib.hid hs
  go_enter Tryd.func65, Tryd.ntmps65
  go_wp2_with fail
  refine hcc.out.mono ?_
  rintro e w1 ⟨rfl, hb1, hk1, hsz⟩
  have hv1 : Buf w1 5 v bs := hv.kept hk1 (fun k hk e => hne (by rw [hk, e]))
  have c1 := hb1.cell 1
  have f1 := hb1.frozen 1
  simp only [List.getElem?_toArray, List.getElem?_cons_succ, List.getElem?_cons_zero] at c1
  obtain ⟨A0, cap0, hve, _⟩ := hv1.form'
  subst hve
  replace hsz := Lib.hid hsz
  replace hb1 := Lib.hid hb1
  replace hk1 := Lib.hid hk1
  replace hv1 := Lib.hid hv1
  replace hv := Lib.hid hv
  replace hne := Lib.hid hne
  go_wp2_with (at_builtin; refine wpList_append_buf rfl (.tmp 12) (.tmp 13) 76 9 rfl 5 i0 Tryd.underlying76 Tryd.underlying9 hi.out hz0.out hz1.out hz2.out _ bs rfl hv1.out s rfl hs.out ?_)
  intro v' w2 hv2 hg hat
  have hb2 := hb1.out.grown hg (fun e => hne.out e.symm)
  have c2 := hb2.cell 1
  have f2 := hb2.frozen 1
  simp only [List.getElem?_toArray, List.getElem?_cons_succ, List.getElem?_cons_zero] at c2
  obtain ⟨A2, cap2, hve, _⟩ := hv2.form'
  subst hve
  have hne2 := hv2.ne_blk hb2 (by decide)
  replace hb2 := Lib.hid hb2
  replace hv2 := Lib.hid hv2
  replace hat := Lib.hid hat
  replace hg := Lib.hid hg
  replace hne2 := Lib.hid hne2
  go_wp2
  go_ret2
  have hv3 := hv2.out.setCell (p := ⟨b, 1, none⟩) hne2.out (.slice A2 (bs.length + s.size) cap2)
  rw [show (bs ++ s.data.toList).length = bs.length + s.size by rw [List.length_append, Array.length_toList]; rfl] at hv3
  refine ⟨rfl, _, hb2.out.set_ 1 _, hv3, ?_, ?_⟩
  · rw [← hsz.out]
    have := hat.out
    rw [show (bs ++ s.data.toList).length = bs.length + s.size by rw [List.length_append, Array.length_toList]; rfl] at this
    exact this
  · refine Kept.setCell ((Kept.mono hk1.out (fun k hk => Or.inl hk)).grown hg.out (fun k hk => .inl (.inr hk))) (.inl (.inl rfl)) _
theorem bld_write (h : At w0 w (BldA b bs :: L)) (s : ByteArray) (hs : bs.length + s.size ≤ 140737488355328) :
    Calls Tryd.prog 65 #[.pointer (some ⟨b, 0, none⟩), .string s] w (Got1 (.tuple #[.int .i64 s.size, .nilIface]) (BldA b (bs ++ s.data.toList)) w0 L) := by
  refine h.call1 ?_
  rintro F ⟨p, v, hb, hp, hv, hF⟩
  refine (bld_write_core p v hb hp hv s hs).mono ?_
  rintro e w' ⟨rfl, v', hb', hv', hat, hk⟩
  refine ⟨_, _, fun k => k = b ∨ v'.ownBlock = some k, ⟨rfl, rfl⟩, rfl, ⟨_, v', hb', .inr rfl, hv', fun k => Iff.rfl⟩, hk.mono (fun k hk => (hF k).2 hk), ?_⟩
  intro k hk
  rcases hk with rfl | hk
  · exact .inl ((hF _).2 (.inl rfl))
  · rcases hat with h1 | h1
    · exact .inl ((hF _).2 (.inr (h1 ▸ hk)))
    · exact .inr (Nat.le_of_eq (Option.some.inj (h1.symm.trans hk)))

/-! ### String -/
theorem freeze_kept (w : World) (p : Addr) (n : Nat) : Kept (fun k => k = p.block) w (w.freeze p n) := by
  unfold World.freeze
  split
  · exact Kept.refl _ _
  · exact ⟨rfl, rfl, rfl, by simp, fun k hk hs => by
      simp only [Array.getElem?_modify]
      rw [if_neg (fun e => hs e.symm)]⟩
def StrPost (bs : List UInt8) (v : Value) (w : World) (e : Ending) (w' : World) : Prop := e = .returned (.string ⟨bs.toArray⟩) ∧ Kept (fun k => v.ownBlock = some k) w w'
set_option maxRecDepth 100000 in
set_option maxHeartbeats 2000000 in
theorem bld_string_core (p v : Value) (hb : Blk w b 85 #[p, v]) (hv : Buf w 5 v bs) :
    Calls Tryd.prog 67 #[.pointer (some ⟨b, 0, none⟩)] w (StrPost bs v w) := by
  have hUS0 : ∀ (W : World) (q : Option Addr), (Builtin.unsafeString_ #[115, 3] 9 #[.pointer q, .int .i64 0]).run Tryd.prog W = .ok (.string .empty) W := Any.unsafeString_none Tryd.lays169 Tryd.Builder_Extra_169
  rcases hv.2 with ⟨rfl, h2⟩ | ⟨g, cap, cur, rfl, _, hg, h3, h4, h5, h6⟩
  · have hbs : bs = [] := List.eq_nil_of_length_eq_zero h2
    subst hbs
    have c1 : w.drew.cell? ⟨b, 1, none⟩ = some (.slice none 0 0) := hb.cell 1
    have hSD : (Builtin.unsafeSliceData_ #[76] 115 #[.slice none 0 0]).run Tryd.prog w.drew = .ok (.pointer none) w.drew := rfl
    clear hv hb h2
    go_enter Tryd.func67, Tryd.ntmps67
    go_wp2
    go_region
    all_goals (go_wp2; go_ret; exact ⟨rfl, (Kept.refl _ _).drew⟩)
  · cases bs with
    | nil =>
      by_cases hc0 : cap = 0
      · subst hc0
        have c1 : w.drew.cell? ⟨b, 1, none⟩ = some (.slice (some ⟨g, 0, none⟩) 0 0) := hb.cell 1
        have c0 : w.cell? ⟨b, 1, none⟩ = some (.slice (some ⟨g, 0, none⟩) 0 0) := c1
        have hSD : (Builtin.unsafeSliceData_ #[76] 115 #[.slice (some ⟨g, 0, none⟩) 0 0]).run Tryd.prog w.drew = .ok (.pointer (some ⟨w.drew.heap.size, 0, none⟩)) (w.drew.alloc (.view ⟨g, 0, none⟩ 5)) :=
          Lib.run_unsafeSliceData_zero w.drew _ _ 5 Tryd.lays169.t127 ⟨g, 0, none⟩ 0 (5, cur.size) (by have hg' : w.drew.heap[g]? = some (.cells cur 5 (0, 0)) := hg; simp [World.shape?, hg'])
        have c2 : (w.drew.alloc (.view ⟨g, 0, none⟩ 5)).cell? ⟨b, 1, none⟩ = some (.slice (some ⟨g, 0, none⟩) 0 0) := (hb.drew.alloc _).cell 1
        have c3 : (w.alloc (.view ⟨g, 0, none⟩ 5)).drew.cell? ⟨b, 1, none⟩ = some (.slice (some ⟨g, 0, none⟩) 0 0) := c2
        clear hv hb h6 h5 h4 h3 hg
        go_enter Tryd.func67, Tryd.ntmps67
        go_wp2
        go_region
        all_goals (go_wp2; go_ret; exact ⟨rfl, ((Kept.refl _ _).drew).alloc _⟩)
      · have c1 : w.drew.cell? ⟨b, 1, none⟩ = some (.slice (some ⟨g, 0, none⟩) 0 cap) := hb.cell 1
        have hSD : (Builtin.unsafeSliceData_ #[76] 115 #[.slice (some ⟨g, 0, none⟩) 0 cap]).run Tryd.prog w.drew = .ok (.pointer (some ⟨g, 0, none⟩)) w.drew :=
          Lib.run_unsafeSliceData_row _ _ _ _ _ _ hc0
        clear hv hb h6 h5 h4 h3 hg hc0
        go_enter Tryd.func67, Tryd.ntmps67
        go_wp2
        go_region
        all_goals (go_wp2; go_ret; exact ⟨rfl, (Kept.refl _ _).drew⟩)
    | cons x r =>
      have c1 : w.drew.cell? ⟨b, 1, none⟩ = some (.slice (some ⟨g, 0, none⟩) (x :: r).length cap) := hb.cell 1
      have hl0 : 0 < (x :: r).length := by simp
      have hSD : (Builtin.unsafeSliceData_ #[76] 115 #[.slice (some ⟨g, 0, none⟩) (x :: r).length cap]).run Tryd.prog w.drew = .ok (.pointer (some ⟨g, 0, none⟩)) w.drew :=
        Lib.run_unsafeSliceData_row _ _ _ _ _ _ (by omega)
      have hUS : (Builtin.unsafeString_ #[115, 3] 9 #[.pointer (some ⟨g, 0, none⟩), .int .i64 ((x :: r).length : Int)]).run Tryd.prog w.drew = .ok (.string ⟨(x :: r).toArray⟩) (w.drew.freeze ⟨g, 0, none⟩ (x :: r).length) := by
        refine Lib.run_unsafeString_row w.drew 115 (3) 9 5 Tryd.lays169.t127 Tryd.Builder_Extra_169.cellsByte g cur.size (by have hg' : w.drew.heap[g]? = some (.cells cur 5 (0, 0)) := hg; simp [World.shape?, hg']) (x :: r) (by simp) (by omega) (by unfold maxLen at h4; omega) ?_
        intro j y hy
        exact World.ownsRow.cells (g := g) hv rfl j (.int .u8 y.toNat) (by unfold bcells; rw [List.getElem?_map, hy]; rfl)
      generalize x :: r = bs at *
      clear hv hb h6 h5 h4 h3 hg hUS0
      go_enter Tryd.func67, Tryd.ntmps67
      go_wp2
      go_region
      all_goals (go_wp2; go_ret; exact ⟨rfl, ((Kept.refl _ _).drew).trans ((freeze_kept _ _ _).mono (fun k hk => by subst hk; rfl))⟩)
theorem bld_string (h : At w0 w (BldA b bs :: L)) : Calls Tryd.prog 67 #[.pointer (some ⟨b, 0, none⟩)] w fun e w' => e = .returned (.string ⟨bs.toArray⟩) ∧ At w0 w' L := by
  obtain ⟨F, ⟨F1, F2, ⟨p, v, hb, hp, hv, hF1⟩, h2, hd, hF⟩, hbl, hbel⟩ := h
  refine (bld_string_core p v hb hv).mono ?_
  rintro e w' ⟨rfl, hk⟩
  refine ⟨rfl, F2, h2.kept hk (fun k a c => hd k ((hF1 k).2 (.inr c)) a), fun k hk => hbl k ((hF k).2 (.inr hk)), Below.andKept hbel hk (fun k c => hbl k ((hF k).2 (.inl ((hF1 k).2 (.inr c))))) (Nat.le_refl _)⟩
end
end Go.Proofs.YtanpbphgmnjdeaaDoor
