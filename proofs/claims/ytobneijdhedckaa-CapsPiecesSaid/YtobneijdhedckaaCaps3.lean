/- The program's package caps: the methods of its table. Conditions: the table lies in memory as CRep says; a string that is handed in is no longer than a string may be. -/
import Derived.Test.YtobneijdhedckaaCaps2
namespace Go.Proofs.Ytobneijdhedckaa
set_option linter.unusedVariables false
open Go.RowKit Go.Lib

theorem meth_bput (a : Addr) (w : World) : (method 189 58 (.pointer (some a)) "proctor/caps.put").run Try.prog w = .ok (52, .pointer (some a)) w := by kernel_rfl
theorem meth_lput (a : Addr) (w : World) : (method 189 62 (.pointer (some a)) "proctor/caps.put").run Try.prog w = .ok (54, .pointer (some a)) w := by kernel_rfl
theorem meth_btext (a : Addr) (w : World) : (method 189 58 (.pointer (some a)) "proctor/caps.text").run Try.prog w = .ok (53, .pointer (some a)) w := by kernel_rfl
theorem meth_ltext (g : Nat) (w : World) : (method 189 62 (.pointer (some ⟨g, 0, none⟩)) "proctor/caps.text").run Try.prog w = .ok (53, .pointer (some ⟨g, 0, none⟩)) w := by kernel_rfl

theorem mk_toList (s : ByteArray) : (⟨s.data.toList.toArray⟩ : ByteArray) = s := by cases s; rfl

section
variable {w : World} {g : Nat} {S : Caps.Tab} {F : Nat → Prop}

set_option maxHeartbeats 400000 in
theorem CRep.output (h : CRep w g S F) : Calls Try.prog 18 #[.pointer (some ⟨g, 0, none⟩)] w (Same (.string S.out) w) := by
  obtain ⟨o, l, vo, vl, h1, h2, h3, h4, h5, h6, hF⟩ := h.rep
  have c2 := h1.cell 2
  simp at c2
  have hm := meth_btext ⟨o, 0, none⟩
  go_enter Try.func18, Try.ntmps18
  go_wp2_with fail
  refine (text_any o 61 vo S.room S.out.data.toList w h2 h4).mono ?_
  rintro e w' ⟨rfl, rfl⟩
  rw [mk_toList]
  go_wp2
  go_ret
  exact ⟨rfl, rfl⟩

set_option maxHeartbeats 400000 in
theorem CRep.log (h : CRep w g S F) : Calls Try.prog 19 #[.pointer (some ⟨g, 0, none⟩)] w (Same (.string S.log) w) := by
  obtain ⟨o, l, vo, vl, h1, h2, h3, h4, h5, h6, hF⟩ := h.rep
  have c3 := h1.cell 3
  simp at c3
  have hm := meth_ltext l
  go_enter Try.func19, Try.ntmps19
  go_wp2_with fail
  refine (text_any l 64 vl S.room S.log.data.toList w h3 h5).mono ?_
  rintro e w' ⟨rfl, rfl⟩
  rw [mk_toList]
  go_wp2
  go_ret
  exact ⟨rfl, rfl⟩

set_option maxHeartbeats 400000 in
theorem CRep.left (h : CRep w g S F) : Calls Try.prog 21 #[.pointer (some ⟨g, 0, none⟩)] w (Same (.int .i64 S.inp.size) w) := by
  obtain ⟨o, l, vo, vl, h1, h2, h3, h4, h5, h6, hF⟩ := h.rep
  have c1 := h1.cell 1
  simp at c1
  go_enter Try.func21, Try.ntmps21
  go_wp2
  go_ret
  exact ⟨rfl, rfl⟩

set_option maxHeartbeats 400000 in
theorem CRep.points (h : CRep w g S F) : Calls Try.prog 26 #[.pointer (some ⟨g, 0, none⟩)] w (Draws (.tuple #[.int .i64 S.points, .bool S.said]) w) := by
  obtain ⟨o, l, vo, vl, h1, h2, h3, h4, h5, h6, hF⟩ := h.rep
  have c4 := h1.cell 4
  have c5 := h1.cell 5
  simp at c4 c5
  go_enter Try.func26, Try.ntmps26
  go_wp2
  go_quiet (fail)
  go_wp2
  go_ret2
  exact ⟨rfl, _, rfl⟩

/-- the table behind a change of its own cells alone -/
theorem CRep.change (h : CRep w g S F) {w' : World} {S' : Caps.Tab} (hok : S'.Ok) (hp : S'.room = S.room) (ho : S'.out = S.out) (hl : S'.log = S.log)
    (hk : Kept (fun k => k = g) w w') (hb : ∀ o l : Nat, Blk w g 68 #[.int .i64 S.pupil, .string S.inp, .iface 58 (.pointer (some ⟨o, 0, none⟩)), .iface 62 (.pointer (some ⟨l, 0, none⟩)), .int .i64 S.points, .bool S.said] →
      Blk w' g 68 #[.int .i64 S'.pupil, .string S'.inp, .iface 58 (.pointer (some ⟨o, 0, none⟩)), .iface 62 (.pointer (some ⟨l, 0, none⟩)), .int .i64 S'.points, .bool S'.said]) : CRep w' g S' F := by
  obtain ⟨o, l, vo, vl, h1, h2, h3, h4, h5, h6, hF⟩ := h.rep
  refine ⟨hok, o, l, vo, vl, hb o l h1, ?_, ?_, ?_, ?_, h6, hF⟩
  · rw [hp]; exact h2.kept hk (Blk.ne_ h2 h1 (by decide))
  · rw [hp]; exact h3.kept hk (Blk.ne_ h3 h1 (by decide))
  · rw [ho]; exact h4.kept hk (fun k hv e => h4.ne_blk h1 (by decide) (by rw [hv, e]))
  · rw [hl]; exact h5.kept hk (fun k hv e => h5.ne_blk h1 (by decide) (by rw [hv, e]))
theorem CRep.gin (h : CRep w g S F) : F g := by
  obtain ⟨o, l, vo, vl, h1, h2, h3, h4, h5, h6, hF⟩ := h.rep
  exact (hF g).2 (.inl rfl)

set_option maxHeartbeats 400000 in
theorem CRep.say (h : CRep w g S F) (m p : Int) : Calls Try.prog 25 #[.pointer (some ⟨g, 0, none⟩), .int .i64 m, .int .i64 p] w (CPost (.int .i64 (Caps.sayE S m p)) g (Caps.sayS S m p) F w) := by
  have hh := h.has m 8
  have hok := Caps.say_ok h.ok m p
  by_cases hc : Caps.has S.pupil m 8 = true
  · rw [hc] at hh
    by_cases hp : p < 0 ∨ 100 < p
    · have e1 : Caps.sayE S m p = 19 := by simp [Caps.sayE, hc, hp]
      have e2 : Caps.sayS S m p = S := by unfold Caps.sayS; rw [if_neg (by omega)]
      rw [e1, e2]
      have H := Lib.hid h
      clear e1 e2 hok hc h
      go_enter Try.func25, Try.ntmps25
      go_wp2_with fail
      refine hh.mono ?_
      rintro e w' ⟨rfl, rfl⟩
      clear hh
      go_wp2
      all_goals first | (go_ret; exact ⟨rfl, F, H.out, Kept.refl _ _, fun k hk => .inl hk⟩) | (exfalso; omega)
    · have e1 : Caps.sayE S m p = 0 := by simp [Caps.sayE, hc, hp]
      have e2 : Caps.sayS S m p = { S with points := p, said := true } := by unfold Caps.sayS; rw [if_pos ⟨hc, by omega, by omega⟩]
      rw [e2] at hok
      rw [e1, e2]
      obtain ⟨o, l, vo, vl, h1, h2, h3, h4, h5, h6, hF⟩ := h.rep
      have c4 := h1.cell 4
      have c5 := h1.cell 5
      have f4 := h1.frozen 4
      have f5 := h1.frozen 5
      simp at c4 c5
      have H := Lib.hid h
      have q1 : 0 ≤ p := by omega
      have q2 : p ≤ 100 := by omega
      clear e1 e2 hc h hF h6 hp
      go_enter Try.func25, Try.ntmps25
      go_wp2_with fail
      refine hh.mono ?_
      rintro e w' ⟨rfl, rfl⟩
      clear hh
      go_wp2
      go_ret
      refine ⟨rfl, F, H.out.change hok rfl rfl rfl ?_ ?_, ?_, fun k hk => .inl hk⟩
      · refine Kept.setCell (Kept.setCell (Kept.refl _ _) ?_ _) ?_ _ <;> exact .inl rfl
      · intro o l hb
        exact ((hb.set_ 4 _).set_ 5 _)
      · refine Kept.setCell (Kept.setCell (Kept.refl _ _) ?_ _) ?_ _ <;> exact .inl H.out.gin
  · have hc' : Caps.has S.pupil m 8 = false := by simpa using hc
    rw [hc'] at hh
    have e1 : Caps.sayE S m p = 11 := by simp [Caps.sayE, hc']
    have e2 : Caps.sayS S m p = S := by simp [Caps.sayS, hc']
    rw [e1, e2]
    have H := Lib.hid h
    clear e1 e2 hc hc' h hok
    go_enter Try.func25, Try.ntmps25
    go_wp2_with fail
    refine hh.mono ?_
    rintro e w' ⟨rfl, rfl⟩
    clear hh
    go_wp2
    go_ret
    exact ⟨rfl, F, H.out, Kept.refl _ _, fun k hk => .inl hk⟩
end
end Go.Proofs.Ytobneijdhedckaa
