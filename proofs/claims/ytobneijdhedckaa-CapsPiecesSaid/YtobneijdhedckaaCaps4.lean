/- The program's package caps: its table's Type, Emit, Key and Accept. Conditions: the table lies in memory as CRep says; a string that is handed in is no longer than a string may be. -/
import Derived.Test.YtobneijdhedckaaCaps3
namespace Go.Proofs.Ytobneijdhedckaa
set_option linter.unusedVariables false
open Go.RowKit Go.Lib

section
variable {w : World} {g : Nat} {S : Caps.Tab} {F : Nat → Prop}

theorem fit_list (r : Int) (was s : ByteArray) : (Caps.behind r was s).data.toList = was.data.toList ++ s.data.toList.take (Caps.fit r was s) := by
  unfold Caps.behind
  simp

/-- after a put into the table's output -/
theorem put_out (s : ByteArray) {w' : World} {o l m : Nat} {vo vl : Value} {e : Ending}
    (h1 : Blk w g 68 #[.int .i64 S.pupil, .string S.inp, .iface 58 (.pointer (some ⟨o, 0, none⟩)), .iface 62 (.pointer (some ⟨l, 0, none⟩)), .int .i64 S.points, .bool S.said])
    (h2 : Blk w o 61 #[vo, .int .i64 S.room]) (h3 : Blk w l 64 #[vl, .int .i64 S.room]) (h4 : Buf w 5 vo S.out.data.toList) (h5 : Buf w 5 vl S.log.data.toList)
    (h6 : ∀ k, vo.ownBlock = some k → vl.ownBlock = some k → False) (hF : ∀ k, F k ↔ (k = g ∨ k = o ∨ k = l ∨ vo.ownBlock = some k ∨ vl.ownBlock = some k))
    (hok : ({ S with out := Caps.behind S.room S.out s } : Caps.Tab).Ok)
    (hp : PutPost o 61 vo S.room S.out.data.toList s (Caps.fit S.room S.out s) m w e w') :
    e = .returned (.int .i64 m) ∧ ∃ F', CRep w' g { S with out := Caps.behind S.room S.out s } F' ∧ Kept F w w' ∧ ∀ k, F' k → F k ∨ w.heap.size ≤ k := by
  obtain ⟨v', he, b2, b4, hk, hv⟩ := hp
  have hgo : g ≠ o := Blk.ne_ h1 h2 (by decide)
  have hlo : l ≠ o := Blk.ne_ h3 h2 (by decide)
  refine ⟨he, fun k => k = g ∨ k = o ∨ k = l ∨ v'.ownBlock = some k ∨ vl.ownBlock = some k, ⟨hok, o, l, v', vl, ?_, b2, ?_, by rw [fit_list]; exact b4, ?_, ?_, fun k => Iff.rfl⟩, ?_, ?_⟩
  · exact h1.kept hk (by rintro (e | e); exact hgo e; exact h4.ne_blk h1 (by decide) e)
  · exact h3.kept hk (by rintro (e | e); exact hlo e; exact h4.ne_blk h3 (by decide) e)
  · exact h5.kept hk (by intro k hv; rintro (e | e); exact h5.ne_blk h2 (by decide) (by rw [hv, e]); exact h6 k e hv)
  · intro k a b
    rcases hv k a with c | c
    · exact h6 k c b
    · have := h5.lt b; omega
  · exact hk.mono (by intro k; rintro (e | e); exact (hF k).2 (.inr (.inl e)); exact (hF k).2 (.inr (.inr (.inr (.inl e)))))
  · intro k hk'
    rcases hk' with e | e | e | e | e
    · exact .inl ((hF k).2 (.inl e))
    · exact .inl ((hF k).2 (.inr (.inl e)))
    · exact .inl ((hF k).2 (.inr (.inr (.inl e))))
    · rcases hv k e with c | c
      · exact .inl ((hF k).2 (.inr (.inr (.inr (.inl c)))))
      · exact .inr c
    · exact .inl ((hF k).2 (.inr (.inr (.inr (.inr e)))))

theorem put_log (s : ByteArray) {w' : World} {o l m : Nat} {vo vl : Value} {e : Ending}
    (h1 : Blk w g 68 #[.int .i64 S.pupil, .string S.inp, .iface 58 (.pointer (some ⟨o, 0, none⟩)), .iface 62 (.pointer (some ⟨l, 0, none⟩)), .int .i64 S.points, .bool S.said])
    (h2 : Blk w o 61 #[vo, .int .i64 S.room]) (h3 : Blk w l 64 #[vl, .int .i64 S.room]) (h4 : Buf w 5 vo S.out.data.toList) (h5 : Buf w 5 vl S.log.data.toList)
    (h6 : ∀ k, vo.ownBlock = some k → vl.ownBlock = some k → False) (hF : ∀ k, F k ↔ (k = g ∨ k = o ∨ k = l ∨ vo.ownBlock = some k ∨ vl.ownBlock = some k))
    (hok : ({ S with log := Caps.behind S.room S.log s } : Caps.Tab).Ok)
    (hp : PutPost l 64 vl S.room S.log.data.toList s (Caps.fit S.room S.log s) m w e w') :
    e = .returned (.int .i64 m) ∧ ∃ F', CRep w' g { S with log := Caps.behind S.room S.log s } F' ∧ Kept F w w' ∧ ∀ k, F' k → F k ∨ w.heap.size ≤ k := by
  obtain ⟨v', he, b3, b5, hk, hv⟩ := hp
  have hgl : g ≠ l := Blk.ne_ h1 h3 (by decide)
  have hol : o ≠ l := Blk.ne_ h2 h3 (by decide)
  refine ⟨he, fun k => k = g ∨ k = o ∨ k = l ∨ vo.ownBlock = some k ∨ v'.ownBlock = some k, ⟨hok, o, l, vo, v', ?_, ?_, b3, ?_, by rw [fit_list]; exact b5, ?_, fun k => Iff.rfl⟩, ?_, ?_⟩
  · exact h1.kept hk (by rintro (e | e); exact hgl e; exact h5.ne_blk h1 (by decide) e)
  · exact h2.kept hk (by rintro (e | e); exact hol e; exact h5.ne_blk h2 (by decide) e)
  · exact h4.kept hk (by intro k hv; rintro (e | e); exact h4.ne_blk h3 (by decide) (by rw [hv, e]); exact h6 k hv e)
  · intro k a b
    rcases hv k b with c | c
    · exact h6 k a c
    · have := h4.lt a; omega
  · exact hk.mono (by intro k; rintro (e | e); exact (hF k).2 (.inr (.inr (.inl e))); exact (hF k).2 (.inr (.inr (.inr (.inr e)))))
  · intro k hk'
    rcases hk' with e | e | e | e | e
    · exact .inl ((hF k).2 (.inl e))
    · exact .inl ((hF k).2 (.inr (.inl e)))
    · exact .inl ((hF k).2 (.inr (.inr (.inl e))))
    · exact .inl ((hF k).2 (.inr (.inr (.inr (.inl e)))))
    · rcases hv k e with c | c
      · exact .inl ((hF k).2 (.inr (.inr (.inr (.inr c)))))
      · exact .inr c

set_option maxHeartbeats 1000000 in
theorem CRep.typ (h : CRep w g S F) (m : Int) (s : ByteArray) (hs : s.size ≤ maxLen) : Calls Try.prog 17 #[.pointer (some ⟨g, 0, none⟩), .int .i64 m, .string s] w (CPost (.int .i64 (Caps.typE S m s)) g (Caps.typS S m s) F w) := by
  have hh := h.has m 1
  have hok := Caps.typ_ok h.ok m s
  have hsl : s.size ≤ 9223372036854775807 := by unfold maxLen at hs; omega
  by_cases hc : Caps.has S.pupil m 1 = true
  · rw [hc] at hh
    obtain ⟨o, l, vo, vl, h1, h2, h3, h4, h5, h6, hF⟩ := h.rep
    have r1 := h.ok.r1
    have ro := h.ok.out
    have rl := h.ok.log
    have c2 := h1.cell 2
    have c3 := h1.cell 3
    simp at c2 c3
    by_cases hm : m = 1
    · subst hm
      have e2 : Caps.typS S 1 s = { S with out := Caps.behind S.room S.out s } := by simp [Caps.typS, hc]
      rw [e2] at hok ⊢
      have hmp := meth_bput ⟨o, 0, none⟩
      by_cases hf : (S.room - S.out.size : Int) < s.size
      · have e1 : Caps.typE S 1 s = 12 := by simp [Caps.typE, hc, hf]
        rw [e1]
        have hfit : min s.size (S.room.toNat - S.out.data.toList.length) = Caps.fit S.room S.out s := by rw [Caps.size_data]; rfl
        have hlt : Caps.fit S.room S.out s < s.size := by unfold Caps.fit; omega
        have hp0 := put_any o 61 vo S.room S.out.data.toList s w h2 h4 (by decide) ⟨by rw [Caps.size_data]; exact ro, r1⟩
        rw [hfit] at hp0
        have P0 := Lib.hid hp0
        have H := Lib.hid h
        have HH := Lib.hid hh
        clear hp0 e1 e2 hc hf hh h hfit
        go_enter Try.func17, Try.ntmps17
        go_wp2_with fail
        refine HH.out.mono ?_
        rintro e w' ⟨rfl, rfl⟩
        go_wp2_with fail
        refine P0.out.mono ?_
        rintro e w' hp
        obtain ⟨rfl, F', hr, hk, hF'⟩ := put_out s h1 h2 h3 h4 h5 h6 hF hok hp
        clear hp P0 h1 h2 h3 h4 h5 h6 hF
        have HF := Lib.hid hF'
        clear hF'
        go_wp2
        go_ret
        exact ⟨rfl, F', hr, hk, HF.out⟩
      · have e1 : Caps.typE S 1 s = 0 := by simp [Caps.typE, hc, hf]
        rw [e1]
        have hfit : min s.size (S.room.toNat - S.out.data.toList.length) = Caps.fit S.room S.out s := by rw [Caps.size_data]; rfl
        have hlt : s.size ≤ Caps.fit S.room S.out s := by unfold Caps.fit; omega
        have hp0 := put_any o 61 vo S.room S.out.data.toList s w h2 h4 (by decide) ⟨by rw [Caps.size_data]; exact ro, r1⟩
        rw [hfit] at hp0
        have P0 := Lib.hid hp0
        have H := Lib.hid h
        have HH := Lib.hid hh
        clear hp0 e1 e2 hc hf hh h hfit
        go_enter Try.func17, Try.ntmps17
        go_wp2_with fail
        refine HH.out.mono ?_
        rintro e w' ⟨rfl, rfl⟩
        go_wp2_with fail
        refine P0.out.mono ?_
        rintro e w' hp
        obtain ⟨rfl, F', hr, hk, hF'⟩ := put_out s h1 h2 h3 h4 h5 h6 hF hok hp
        clear hp P0 h1 h2 h3 h4 h5 h6 hF
        have HF := Lib.hid hF'
        clear hF'
        go_wp2
        go_ret
        exact ⟨rfl, F', hr, hk, HF.out⟩
    · have hm' : (m == 1) = false := by simpa using hm
      have e2 : Caps.typS S m s = { S with log := Caps.behind S.room S.log s } := by simp [Caps.typS, hc, hm]
      have e1 : Caps.typE S m s = 0 := by simp [Caps.typE, hc, hm]
      rw [e2] at hok ⊢
      rw [e1]
      have hmp := meth_lput ⟨l, 0, none⟩
      have hfit : min s.size (S.room.toNat - S.log.data.toList.length) = Caps.fit S.room S.log s := by rw [Caps.size_data]; rfl
      have hp0 := lossy_put l 64 vl S.room S.log.data.toList s w h3 h5 (by decide) ⟨by rw [Caps.size_data]; exact rl, r1⟩ hs
      rw [hfit] at hp0
      have P0 := Lib.hid hp0
      have H := Lib.hid h
      have HH := Lib.hid hh
      clear hp0 e1 e2 hc hh h hfit
      go_enter Try.func17, Try.ntmps17
      go_wp2_with fail
      refine HH.out.mono ?_
      rintro e w' ⟨rfl, rfl⟩
      go_wp2_with fail
      refine P0.out.mono ?_
      rintro e w' hp
      obtain ⟨rfl, F', hr, hk, hF'⟩ := put_log s h1 h2 h3 h4 h5 h6 hF hok hp
      clear hp P0 h1 h2 h3 h4 h5 h6 hF
      have HF := Lib.hid hF'
      clear hF'
      go_wp2
      go_ret
      exact ⟨rfl, F', hr, hk, HF.out⟩
  · have hc' : Caps.has S.pupil m 1 = false := by simpa using hc
    rw [hc'] at hh
    have e1 : Caps.typE S m s = 11 := by simp [Caps.typE, hc']
    have e2 : Caps.typS S m s = S := by simp [Caps.typS, hc']
    rw [e1, e2]
    have H := Lib.hid h
    have HH := Lib.hid hh
    clear e1 e2 hc hc' h hok hh
    go_enter Try.func17, Try.ntmps17
    go_wp2_with fail
    refine HH.out.mono ?_
    rintro e w' ⟨rfl, rfl⟩
    go_wp2
    go_ret
    exact ⟨rfl, F, H.out, Kept.refl _ _, fun k hk => .inl hk⟩
end
end Go.Proofs.Ytobneijdhedckaa
