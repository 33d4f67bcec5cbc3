/- The program's package caps: what each of its functions does to a table that lies in memory. Conditions: the table's numbers are in their bounds (Tab.Ok). -/
import Derived.Test.YtjhdpmimccpcdaaGreatDoorT00
import Derived.Test.YtjhdpmimccpcdaaGreatDoorTShelf
namespace Go.Proofs.YtjhdpmimccpcdaaGreatDoor
set_option linter.unusedVariables false
open Go.RowKit Go.Lib

/-- the table of the program -/
structure CRep (w : World) (g : Nat) (S : Caps.Tab) (F : Nat → Prop) : Prop where
  ok : S.Ok
  rep : ∃ o l vo vl, Blk w g 128 #[.int .i64 S.pupil, .string S.inp, .iface 161 (.pointer (some ⟨o, 0, none⟩)), .iface 164 (.pointer (some ⟨l, 0, none⟩)), .int .i64 S.points, .bool S.said] ∧
    Blk w o 163 #[vo, .int .i64 S.room] ∧ Blk w l 166 #[vl, .int .i64 S.room] ∧
    Buf w 5 vo S.out.data.toList ∧ Buf w 5 vl S.log.data.toList ∧ (∀ k, vo.ownBlock = some k → vl.ownBlock = some k → False) ∧
    (∀ k, F k ↔ (k = g ∨ k = o ∨ k = l ∨ vo.ownBlock = some k ∨ vl.ownBlock = some k))

theorem CRep.lt {w : World} {g : Nat} {S : Caps.Tab} {F : Nat → Prop} (h : CRep w g S F) {k : Nat} (hk : F k) : k < w.heap.size := by
  obtain ⟨o, l, vo, vl, h1, h2, h3, h4, h5, _, hF⟩ := h.rep
  rcases (hF k).1 hk with rfl | rfl | rfl | h | h
  · exact h1.lt
  · exact h2.lt
  · exact h3.lt
  · exact h4.lt h
  · exact h5.lt h
theorem CRep.kept {w w' : World} {g : Nat} {S : Caps.Tab} {F T : Nat → Prop} (h : CRep w g S F) (hk : Kept T w w') (hT : ∀ k, F k → ¬ T k) : CRep w' g S F := by
  obtain ⟨o, l, vo, vl, h1, h2, h3, h4, h5, h6, hF⟩ := h.rep
  exact ⟨h.ok, o, l, vo, vl, h1.kept hk (hT _ ((hF _).2 (.inl rfl))), h2.kept hk (hT _ ((hF _).2 (.inr (.inl rfl)))), h3.kept hk (hT _ ((hF _).2 (.inr (.inr (.inl rfl))))),
    h4.kept hk (fun k hv => hT _ ((hF _).2 (.inr (.inr (.inr (.inl hv)))))), h5.kept hk (fun k hv => hT _ ((hF _).2 (.inr (.inr (.inr (.inr hv)))))), h6, hF⟩
theorem CRep.drewN {w : World} {g : Nat} {S : Caps.Tab} {F : Nat → Prop} (h : CRep w g S F) (n : Nat) : CRep (w.drewN n) g S F :=
  h.kept (T := Nob) ((Kept.refl _ w).drewN n) (fun _ _ h => h)

/-- behind a call that changes one table: the answer, the table as it is then, and where it lies -/
def CPost (v : Value) (g : Nat) (S' : Caps.Tab) (F : Nat → Prop) (w : World) (e : Ending) (w' : World) : Prop :=
  e = .returned v ∧ ∃ F', CRep w' g S' F' ∧ Kept F w w' ∧ ∀ k, F' k → F k ∨ w.heap.size ≤ k
def Draws (v : Value) (w : World) (e : Ending) (w' : World) : Prop := e = .returned v ∧ ∃ n, w' = w.drewN n

theorem and_bit (p c : Int) (h : 0 ≤ p ∧ p ≤ 31) (hc : c = 1 ∨ c = 2 ∨ c = 4 ∨ c = 8 ∨ c = 16) : (bits .and .i64 p c != 0) = (p / c % 2 == 1) := by
  obtain ⟨n, rfl⟩ := Int.eq_ofNat_of_zero_le h.1
  have hn : n < 32 := by omega
  have key : ∀ k : Fin 32, (bits .and .i64 (k.val : Int) 1 != 0) = ((k.val : Int) / 1 % 2 == 1) ∧ (bits .and .i64 (k.val : Int) 2 != 0) = ((k.val : Int) / 2 % 2 == 1) ∧
      (bits .and .i64 (k.val : Int) 4 != 0) = ((k.val : Int) / 4 % 2 == 1) ∧ (bits .and .i64 (k.val : Int) 8 != 0) = ((k.val : Int) / 8 % 2 == 1) ∧ (bits .and .i64 (k.val : Int) 16 != 0) = ((k.val : Int) / 16 % 2 == 1) := by decide +kernel
  have := key ⟨n, hn⟩
  rcases hc with rfl | rfl | rfl | rfl | rfl
  · exact this.1
  · exact this.2.1
  · exact this.2.2.1
  · exact this.2.2.2.1
  · exact this.2.2.2.2

set_option maxHeartbeats 400000 in
theorem has_no (g : Nat) (p m c : Int) (w : World) (hc : ¬ (c = 1 ∨ c = 2 ∨ c = 4 ∨ c = 8 ∨ c = 16)) :
    Calls Tryz.prog 112 #[.pointer (some ⟨g, 0, none⟩), .int .i64 m, .int .i64 c] w (Same (.bool (Caps.has p m c)) w) := by
  have e : Caps.has p m c = false := by simp [Caps.has, Caps.isCap]; omega
  rw [e]
  have a1 : (c == 1) = false := by simp; omega
  have a2 : (c == 2) = false := by simp; omega
  have a4 : (c == 4) = false := by simp; omega
  have a8 : (c == 8) = false := by simp; omega
  have a16 : (c == 16) = false := by simp; omega
  go_enter Tryz.func112, Tryz.ntmps112
  go_wp2
  go_ret
  exact ⟨rfl, rfl⟩

set_option maxHeartbeats 1000000 in
theorem has_yes (g : Nat) (p m c : Int) (w : World) (hc : c = 1 ∨ c = 2 ∨ c = 4 ∨ c = 8 ∨ c = 16) (hp : 0 ≤ p ∧ p ≤ 31) (hw : w.cell? ⟨g, 0, none⟩ = some (.int .i64 p)) :
    Calls Tryz.prog 112 #[.pointer (some ⟨g, 0, none⟩), .int .i64 m, .int .i64 c] w (Same (.bool (Caps.has p m c)) w) := by
  have hb := and_bit p c hp hc
  by_cases m1 : m = 1
  · subst m1
    have e : Caps.has p 1 c = (bits .and .i64 p c != 0) := by rw [hb]; simp [Caps.has, Caps.isCap]; omega
    rw [e]
    clear e hb
    rcases hc with rfl | rfl | rfl | rfl | rfl
    all_goals
      go_enter Tryz.func112, Tryz.ntmps112
      go_wp2
      go_ret
      exact ⟨rfl, rfl⟩
  · have e : Caps.has p m c = (m == 0 || m == 2) := by
      have : (m == 1) = false := by simpa using m1
      simp [Caps.has, Caps.isCap, this]; omega
    rw [e]
    clear e hb
    have m1' : (m == 1) = false := by simpa using m1
    by_cases m0 : m = 0
    · subst m0
      rcases hc with rfl | rfl | rfl | rfl | rfl
      all_goals
        go_enter Tryz.func112, Tryz.ntmps112
        go_wp2
        go_ret
        exact ⟨rfl, rfl⟩
    · have m0' : (m == 0) = false := by simpa using m0
      by_cases m2 : m = 2
      · subst m2
        rcases hc with rfl | rfl | rfl | rfl | rfl
        all_goals
          go_enter Tryz.func112, Tryz.ntmps112
          go_wp2
          go_ret
          exact ⟨rfl, rfl⟩
      · have m2' : (m == 2) = false := by simpa using m2
        rcases hc with rfl | rfl | rfl | rfl | rfl
        all_goals
          go_enter Tryz.func112, Tryz.ntmps112
          go_wp2
          go_ret
          exact ⟨by rw [m0', m2']; rfl, rfl⟩

theorem CRep.has {w : World} {g : Nat} {S : Caps.Tab} {F : Nat → Prop} (h : CRep w g S F) (m c : Int) :
    Calls Tryz.prog 112 #[.pointer (some ⟨g, 0, none⟩), .int .i64 m, .int .i64 c] w (Same (.bool (Caps.has S.pupil m c)) w) := by
  by_cases hc : c = 1 ∨ c = 2 ∨ c = 4 ∨ c = 8 ∨ c = 16
  · obtain ⟨o, l, vo, vl, h1, _⟩ := h.rep
    exact has_yes g S.pupil m c w hc ⟨h.ok.p0, h.ok.p1⟩ (by simpa using h1.cell 0)
  · exact has_no g S.pupil m c w hc

/-- New -/
def NewPost (p r : Int) (s : ByteArray) (w : World) (e : Ending) (w' : World) : Prop :=
  if Caps.newErr p r s = 0 then ∃ g F, e = .returned (.tuple #[.pointer (some ⟨g, 0, none⟩), .int .i64 0]) ∧ CRep w' g (Caps.made p r s) F ∧ Kept Nob w w' ∧ ∀ k, F k → w.heap.size ≤ k
  else e = .returned (.tuple #[.pointer none, .int .i64 (Caps.newErr p r s)]) ∧ w' = w

set_option maxHeartbeats 400000 in
theorem caps_new (p r : Int) (s : ByteArray) (w : World) : Calls Tryz.prog 35 #[.int .i64 p, .int .i64 r, .string s] w (NewPost p r s w) := by
  by_cases hbad : p < 0 ∨ 31 < p ∨ r < 0 ∨ 65536 < r
  · have e1 : Caps.newErr p r s = 1 := by unfold Caps.newErr; rw [if_pos hbad]
    have fin : NewPost p r s w (.returned (.tuple #[.pointer none, .int .i64 1])) w := by
      unfold NewPost; rw [e1]; simp
    have Fin := Lib.hid fin
    clear fin
    clear e1
    go_enter Tryz.func35, Tryz.ntmps35
    go_wp2
    all_goals first | (go_ret2; exact Fin.out) | (exfalso; omega)
  · by_cases hl : 4096 < s.size
    · have e1 : Caps.newErr p r s = 2 := by unfold Caps.newErr; rw [if_neg hbad, if_pos hl]
      have fin : NewPost p r s w (.returned (.tuple #[.pointer none, .int .i64 2])) w := by
        unfold NewPost; rw [e1]; simp
      have Fin := Lib.hid fin
      clear fin e1
      have q1 : 0 ≤ p := by omega
      have q2 : p ≤ 31 := by omega
      have q3 : 0 ≤ r := by omega
      have q4 : r ≤ 65536 := by omega
      clear hbad
      go_enter Tryz.func35, Tryz.ntmps35
      go_wp2
      all_goals first | (go_ret2; exact Fin.out) | (exfalso; omega)
    · have e1 : Caps.newErr p r s = 0 := by unfold Caps.newErr; rw [if_neg hbad, if_neg hl]
      have hok := Caps.made_ok e1
      have E1 := Lib.hid e1
      clear e1
      have q1 : 0 ≤ p := by omega
      have q2 : p ≤ 31 := by omega
      have q3 : 0 ≤ r := by omega
      have q4 : r ≤ 65536 := by omega
      have q5 : s.size ≤ 4096 := by omega
      clear hbad hl
      go_enter Tryz.func35, Tryz.ntmps35
      go_wp2
      go_ret2
      unfold NewPost
      rw [if_pos E1.out]
      refine ⟨_, fun k => k = w.heap.size + 1 + 1 ∨ k = w.heap.size ∨ k = w.heap.size + 1, rfl, ⟨hok, w.heap.size, w.heap.size + 1, .slice none 0 0, .slice none 0 0, ?_, ?_, ?_, ?_, ?_, ?_, ?_⟩, ?_, ?_⟩
      · exact Blk.new' (by simp)
      · exact (((Blk.new w _ _).alloc _).alloc _)
      · exact ((Blk.new' (by simp)).alloc _)
      · exact Buf.nil _ _
      · exact Buf.nil _ _
      · intro k hk; cases hk
      · intro k; simp [Value.ownBlock]
      · exact (((Kept.refl _ w).alloc _).alloc _).alloc _
      · intro k hk; omega
end Go.Proofs.YtjhdpmimccpcdaaGreatDoor
/- The program's package caps, the functions that write and read a table's output. Conditions: the table lies in memory as CRep says; a string that is handed in is no longer than a string may be. -/
namespace Go.Proofs.YtjhdpmimccpcdaaGreatDoor
set_option linter.unusedVariables false
set_option maxRecDepth 100000
open Go.RowKit Go.Lib

set_option maxHeartbeats 400000 in
theorem text_any (b tb : Nat) (v : Value) (room : Int) (bs : List UInt8) (w : World) (hb : Blk w b tb #[v, .int .i64 room]) (hv : Buf w 5 v bs) :
    Calls Tryz.prog 393 #[.pointer (some ⟨b, 0, none⟩)] w (Same (.string ⟨bs.toArray⟩) w) := by
  obtain ⟨A, cap, rfl, hcap⟩ := hv.form'
  have c0 := hb.cell 0
  simp at c0
  have hc := hv.to_string (P := Tryz.prog) 123 9 Tryz.underlying123 Tryz.underlying5 Tryz.underlying9
  go_enter Tryz.func393, Tryz.ntmps393
  go_wp2
  go_ret
  exact ⟨rfl, rfl⟩
end Go.Proofs.YtjhdpmimccpcdaaGreatDoor
/- The program's package caps: the methods of its table. Conditions: the table lies in memory as CRep says; a string that is handed in is no longer than a string may be. -/
namespace Go.Proofs.YtjhdpmimccpcdaaGreatDoor
set_option linter.unusedVariables false
set_option maxRecDepth 100000
open Go.RowKit Go.Lib

theorem meth_btext (a : Addr) (w : World) : (method 532 161 (.pointer (some a)) "proctor/caps.text").run Tryz.prog w = .ok (393, .pointer (some a)) w := by kernel_rfl
theorem mk_toList (s : ByteArray) : (⟨s.data.toList.toArray⟩ : ByteArray) = s := by cases s; rfl

section
variable {w : World} {g : Nat} {S : Caps.Tab} {F : Nat → Prop}

set_option maxHeartbeats 400000 in
theorem CRep.output (h : CRep w g S F) : Calls Tryz.prog 23 #[.pointer (some ⟨g, 0, none⟩)] w (Same (.string S.out) w) := by
  obtain ⟨o, l, vo, vl, h1, h2, h3, h4, h5, h6, hF⟩ := h.rep
  have c2 := h1.cell 2
  simp at c2
  have hm := meth_btext ⟨o, 0, none⟩
  go_enter Tryz.func23, Tryz.ntmps23
  go_wp2_with fail
  refine (text_any o 163 vo S.room S.out.data.toList w h2 h4).mono ?_
  rintro e w' ⟨rfl, rfl⟩
  rw [mk_toList]
  go_wp2
  go_ret
  exact ⟨rfl, rfl⟩

set_option maxHeartbeats 400000 in
theorem CRep.points (h : CRep w g S F) : Calls Tryz.prog 24 #[.pointer (some ⟨g, 0, none⟩)] w (Draws (.tuple #[.int .i64 S.points, .bool S.said]) w) := by
  obtain ⟨o, l, vo, vl, h1, h2, h3, h4, h5, h6, hF⟩ := h.rep
  have c4 := h1.cell 4
  have c5 := h1.cell 5
  simp at c4 c5
  go_enter Tryz.func24, Tryz.ntmps24
  go_wp2
  go_quiet (fail)
  go_wp2
  go_ret2
  exact ⟨rfl, _, rfl⟩

/-- the table behind a change of its own cells alone -/
theorem CRep.change (h : CRep w g S F) {w' : World} {S' : Caps.Tab} (hok : S'.Ok) (hp : S'.room = S.room) (ho : S'.out = S.out) (hl : S'.log = S.log)
    (hk : Kept (fun k => k = g) w w') (hb : ∀ o l : Nat, Blk w g 128 #[.int .i64 S.pupil, .string S.inp, .iface 161 (.pointer (some ⟨o, 0, none⟩)), .iface 164 (.pointer (some ⟨l, 0, none⟩)), .int .i64 S.points, .bool S.said] →
      Blk w' g 128 #[.int .i64 S'.pupil, .string S'.inp, .iface 161 (.pointer (some ⟨o, 0, none⟩)), .iface 164 (.pointer (some ⟨l, 0, none⟩)), .int .i64 S'.points, .bool S'.said]) : CRep w' g S' F := by
  obtain ⟨o, l, vo, vl, h1, h2, h3, h4, h5, h6, hF⟩ := h.rep
  refine ⟨hok, o, l, vo, vl, hb o l h1, ?_, ?_, ?_, ?_, h6, hF⟩
  · rw [hp]; exact h2.kept hk (Blk.ne_ h2 h1 (by decide))
  · rw [hp]; exact h3.kept hk (Blk.ne_ h3 h1 (by decide))
  · rw [ho]; exact h4.kept hk (fun k hv e => h4.ne_blk h1 (by decide) (by rw [hv, e]))
  · rw [hl]; exact h5.kept hk (fun k hv e => h5.ne_blk h1 (by decide) (by rw [hv, e]))
theorem CRep.gin (h : CRep w g S F) : F g := by
  obtain ⟨o, l, vo, vl, h1, h2, h3, h4, h5, h6, hF⟩ := h.rep
  exact (hF g).2 (.inl rfl)

set_option maxHeartbeats 400000 in
theorem CRep.say (h : CRep w g S F) (m p : Int) : Calls Tryz.prog 173 #[.pointer (some ⟨g, 0, none⟩), .int .i64 m, .int .i64 p] w (CPost (.int .i64 (Caps.sayE S m p)) g (Caps.sayS S m p) F w) := by
  have hh := h.has m 8
  have hok := Caps.say_ok h.ok m p
  by_cases hc : Caps.has S.pupil m 8 = true
  · rw [hc] at hh
    by_cases hp : p < 0 ∨ 100 < p
    · have e1 : Caps.sayE S m p = 19 := by simp [Caps.sayE, hc, hp]
      have e2 : Caps.sayS S m p = S := by unfold Caps.sayS; rw [if_neg (by omega)]
      rw [e1, e2]
      have H := Lib.hid h
      clear e1 e2 hok hc h
      go_enter Tryz.func173, Tryz.ntmps173
      go_wp2_with fail
      refine hh.mono ?_
      rintro e w' ⟨rfl, rfl⟩
      clear hh
      go_wp2
      all_goals first | (go_ret; exact ⟨rfl, F, H.out, Kept.refl _ _, fun k hk => .inl hk⟩) | (exfalso; omega)
    · have e1 : Caps.sayE S m p = 0 := by simp [Caps.sayE, hc, hp]
      have e2 : Caps.sayS S m p = { S with points := p, said := true } := by unfold Caps.sayS; rw [if_pos ⟨hc, by omega, by omega⟩]
      rw [e2] at hok
      rw [e1, e2]
      obtain ⟨o, l, vo, vl, h1, h2, h3, h4, h5, h6, hF⟩ := h.rep
      have c4 := h1.cell 4
      have c5 := h1.cell 5
      have f4 := h1.frozen 4
      have f5 := h1.frozen 5
      simp at c4 c5
      have H := Lib.hid h
      have q1 : 0 ≤ p := by omega
      have q2 : p ≤ 100 := by omega
      clear e1 e2 hc h hF h6 hp
      go_enter Tryz.func173, Tryz.ntmps173
      go_wp2_with fail
      refine hh.mono ?_
      rintro e w' ⟨rfl, rfl⟩
      clear hh
      go_wp2
      go_ret
      refine ⟨rfl, F, H.out.change hok rfl rfl rfl ?_ ?_, ?_, fun k hk => .inl hk⟩
      · refine Kept.setCell (Kept.setCell (Kept.refl _ _) ?_ _) ?_ _ <;> exact .inl rfl
      · intro o l hb
        exact ((hb.set_ 4 _).set_ 5 _)
      · refine Kept.setCell (Kept.setCell (Kept.refl _ _) ?_ _) ?_ _ <;> exact .inl H.out.gin
  · have hc' : Caps.has S.pupil m 8 = false := by simpa using hc
    rw [hc'] at hh
    have e1 : Caps.sayE S m p = 11 := by simp [Caps.sayE, hc']
    have e2 : Caps.sayS S m p = S := by simp [Caps.sayS, hc']
    rw [e1, e2]
    have H := Lib.hid h
    clear e1 e2 hc hc' h hok
    go_enter Tryz.func173, Tryz.ntmps173
    go_wp2_with fail
    refine hh.mono ?_
    rintro e w' ⟨rfl, rfl⟩
    clear hh
    go_wp2
    go_ret
    exact ⟨rfl, F, H.out, Kept.refl _ _, fun k hk => .inl hk⟩
end
end Go.Proofs.YtjhdpmimccpcdaaGreatDoor
/- The program's package caps: its table's Type, Emit, Key and Accept. Conditions: the table lies in memory as CRep says; a string that is handed in is no longer than a string may be. -/
namespace Go.Proofs.YtjhdpmimccpcdaaGreatDoor
set_option linter.unusedVariables false
set_option maxRecDepth 100000
open Go.RowKit Go.Lib

section
variable {w : World} {g : Nat} {S : Caps.Tab} {F : Nat → Prop}

end
end Go.Proofs.YtjhdpmimccpcdaaGreatDoor
/- The program's package caps: its table's Emit, Key and Accept. Conditions: the table lies in memory as CRep says. -/
namespace Go.Proofs.YtjhdpmimccpcdaaGreatDoor
set_option linter.unusedVariables false
set_option maxRecDepth 100000
open Go.RowKit Go.Lib

section
variable {w : World} {g : Nat} {S : Caps.Tab} {F : Nat → Prop}

set_option maxHeartbeats 400000 in
theorem CRep.key (h : CRep w g S F) (m : Int) : Calls Tryz.prog 165 #[.pointer (some ⟨g, 0, none⟩), .int .i64 m] w
    (CPost (.tuple #[.int .u8 (Caps.keyB S m), .int .i64 (Caps.keyE S m)]) g (Caps.keyS S m) F w) := by
  have hh := h.has m 2
  have hok := Caps.key_ok h.ok m
  by_cases hc : Caps.has S.pupil m 2 = true
  · rw [hc] at hh
    obtain ⟨o, l, vo, vl, h1, h2, h3, h4, h5, h6, hF⟩ := h.rep
    have c1 := h1.cell 1
    have f1 := h1.frozen 1
    simp at c1
    by_cases hz : S.inp.size = 0
    · have hd : S.inp.data.toList = [] := List.eq_nil_of_length_eq_zero (by rw [Caps.size_data]; exact hz)
      have e0 : Caps.keyB S m = 0 := by simp [Caps.keyB, hd]
      have e1 : Caps.keyE S m = 18 := by simp [Caps.keyE, hc, hz]
      have e2 : Caps.keyS S m = S := by
        unfold Caps.keyS; rw [if_pos hc]
        have : S.inp.extract 1 S.inp.size = S.inp := Caps.ext _ _ (by simp [hd])
        rw [this]
      rw [e0, e1, e2]
      have H := Lib.hid h
      have HH := Lib.hid hh
      have hs0 : S.inp.toList = [] := by rw [Lib.toList_data]; exact hd
      clear e0 e1 e2 hc hh h hok hF h6 hd hz
      go_enter Tryz.func165, Tryz.ntmps165
      go_wp2_with fail
      refine HH.out.mono ?_
      rintro e w' ⟨rfl, rfl⟩
      go_wp2
      go_ret2
      exact ⟨rfl, F, H.out, Kept.refl _ _, fun k hk => .inl hk⟩
    · obtain ⟨c, t, hd⟩ : ∃ c t, S.inp.data.toList = c :: t := by
        cases hh : S.inp.data.toList with
        | nil => exfalso; apply hz; rw [← Caps.size_data, hh]; rfl
        | cons c t => exact ⟨c, t, rfl⟩
      have e0 : Caps.keyB S m = c.toNat := by simp [Caps.keyB, hd, hc]
      have e1 : Caps.keyE S m = 0 := by simp [Caps.keyE, hc, hz]
      have e2 : Caps.keyS S m = { S with inp := S.inp.extract 1 S.inp.size } := by
        unfold Caps.keyS; rw [if_pos hc]
      rw [e2] at hok
      rw [e0, e1, e2]
      have H := Lib.hid h
      have HH := Lib.hid hh
      have hs0 : (S.inp.toList.isEmpty) = false := by rw [Lib.toList_data, hd]; rfl
      have hlt : 0 < S.inp.size := by omega
      have hc0 : S.inp[0] = c := by
        have : S.inp.data.toList[0]'(by rw [Caps.size_data]; exact hlt) = c := by simp [hd]
        show S.inp.data[0] = c
        simpa using this
      have hsz := h.ok.inp
      clear e0 e1 e2 hc hh h hF h6 hd hz
      go_enter Tryz.func165, Tryz.ntmps165
      go_wp2_with fail
      refine HH.out.mono ?_
      rintro e w' ⟨rfl, rfl⟩
      go_wp2
      go_ret2
      refine ⟨rfl, F, H.out.change hok rfl rfl rfl ?_ ?_, ?_, fun k hk => .inl hk⟩
      · refine Kept.setCell (Kept.refl _ _) ?_ _; exact .inl rfl
      · intro o l hb
        exact hb.set_ 1 _
      · refine Kept.setCell (Kept.refl _ _) ?_ _; exact .inl H.out.gin
  · have hc' : Caps.has S.pupil m 2 = false := by simpa using hc
    rw [hc'] at hh
    have e0 : Caps.keyB S m = 0 := by simp [Caps.keyB, hc']
    have e1 : Caps.keyE S m = 11 := by simp [Caps.keyE, hc']
    have e2 : Caps.keyS S m = S := by simp [Caps.keyS, hc']
    rw [e0, e1, e2]
    have H := Lib.hid h
    have HH := Lib.hid hh
    clear e0 e1 e2 hc hc' h hok hh
    go_enter Tryz.func165, Tryz.ntmps165
    go_wp2_with fail
    refine HH.out.mono ?_
    rintro e w' ⟨rfl, rfl⟩
    go_wp2
    go_ret2
    exact ⟨rfl, F, H.out, Kept.refl _ _, fun k hk => .inl hk⟩

end
end Go.Proofs.YtjhdpmimccpcdaaGreatDoor
/- The reference's package proctorref9: what each of its functions does to a table that lies in memory. Conditions: the table's numbers are in their bounds (Tab.Ok). -/
namespace Go.Proofs.YtjhdpmimccpcdaaGreatDoor
set_option linter.unusedVariables false
open Go.RowKit Go.Lib

def rcells (S : Caps.Tab) : Array Value := #[.int .i64 S.pupil, .int .i64 S.room, .string S.inp, .string S.out, .string S.log, .int .i64 S.points, .bool S.said]
structure RRep (w : World) (g : Nat) (S : Caps.Tab) : Prop where
  ok : S.Ok
  blk : Blk w g 202 (rcells S)

theorem RRep.kept {w w' : World} {g : Nat} {S : Caps.Tab} {T : Nat → Prop} (h : RRep w g S) (hk : Kept T w w') (hT : ¬ T g) : RRep w' g S := ⟨h.ok, h.blk.kept hk hT⟩
theorem RRep.lt {w : World} {g : Nat} {S : Caps.Tab} (h : RRep w g S) : g < w.heap.size := h.blk.lt

def RPost (v : Value) (g : Nat) (S' : Caps.Tab) (w : World) (e : Ending) (w' : World) : Prop :=
  e = .returned v ∧ RRep w' g S' ∧ Kept (fun k => k = g) w w'

/-- the seven cells, each as the walk wants it -/
theorem RRep.cells {w : World} {g : Nat} {S : Caps.Tab} (h : RRep w g S) :
    w.cell? ⟨g, 0, none⟩ = some (.int .i64 S.pupil) ∧ w.cell? ⟨g, 1, none⟩ = some (.int .i64 S.room) ∧ w.cell? ⟨g, 2, none⟩ = some (.string S.inp) ∧ w.cell? ⟨g, 3, none⟩ = some (.string S.out) ∧
      w.cell? ⟨g, 4, none⟩ = some (.string S.log) ∧ w.cell? ⟨g, 5, none⟩ = some (.int .i64 S.points) ∧ w.cell? ⟨g, 6, none⟩ = some (.bool S.said) :=
  ⟨h.blk.cell 0, h.blk.cell 1, h.blk.cell 2, h.blk.cell 3, h.blk.cell 4, h.blk.cell 5, h.blk.cell 6⟩
theorem RRep.frozen {w : World} {g : Nat} {S : Caps.Tab} (h : RRep w g S) (i : Nat) : w.frozen? ⟨g, i, none⟩ = false := h.blk.frozen i

def RNewPost (p r : Int) (s : ByteArray) (w : World) (e : Ending) (w' : World) : Prop :=
  if Caps.newErr p r s = 0 then e = .returned (.tuple #[.pointer (some ⟨w.heap.size, 0, none⟩), .int .i64 0]) ∧ RRep w' w.heap.size (Caps.made p r s) ∧ Kept Nob w w'
  else e = .returned (.tuple #[.pointer none, .int .i64 (Caps.newErr p r s)]) ∧ w' = w

set_option maxHeartbeats 400000 in
theorem ref_new (p r : Int) (s : ByteArray) (w : World) : Calls Tryz.prog 69 #[.int .i64 p, .int .i64 r, .string s] w (RNewPost p r s w) := by
  by_cases hbad : p < 0 ∨ 31 < p ∨ r < 0 ∨ 65536 < r
  · have e1 : Caps.newErr p r s = 1 := by unfold Caps.newErr; rw [if_pos hbad]
    have fin : RNewPost p r s w (.returned (.tuple #[.pointer none, .int .i64 1])) w := by
      unfold RNewPost; rw [e1]; simp
    have Fin := Lib.hid fin
    clear fin
    clear e1
    go_enter Tryz.func69, Tryz.ntmps69
    go_wp2
    all_goals first | (go_ret2; exact Fin.out) | (exfalso; omega)
  · by_cases hl : 4096 < s.size
    · have e1 : Caps.newErr p r s = 2 := by unfold Caps.newErr; rw [if_neg hbad, if_pos hl]
      have fin : RNewPost p r s w (.returned (.tuple #[.pointer none, .int .i64 2])) w := by
        unfold RNewPost; rw [e1]; simp
      have Fin := Lib.hid fin
      clear fin e1
      have q1 : 0 ≤ p := by omega
      have q2 : p ≤ 31 := by omega
      have q3 : 0 ≤ r := by omega
      have q4 : r ≤ 65536 := by omega
      clear hbad
      go_enter Tryz.func69, Tryz.ntmps69
      go_wp2
      all_goals first | (go_ret2; exact Fin.out) | (exfalso; omega)
    · have e1 : Caps.newErr p r s = 0 := by unfold Caps.newErr; rw [if_neg hbad, if_neg hl]
      have hok := Caps.made_ok e1
      have E1 := Lib.hid e1
      clear e1
      have q1 : 0 ≤ p := by omega
      have q2 : p ≤ 31 := by omega
      have q3 : 0 ≤ r := by omega
      have q4 : r ≤ 65536 := by omega
      have q5 : s.size ≤ 4096 := by omega
      clear hbad hl
      go_enter Tryz.func69, Tryz.ntmps69
      go_wp2
      go_ret2
      unfold RNewPost
      rw [if_pos E1.out]
      exact ⟨rfl, ⟨hok, Blk.new' rfl⟩, (Kept.refl _ w).alloc _⟩

set_option maxHeartbeats 1000000 in
theorem refHas_no (g : Nat) (p m c : Int) (w : World) (hc : ¬ (c = 1 ∨ c = 2 ∨ c = 4 ∨ c = 8 ∨ c = 16)) :
    Calls Tryz.prog 230 #[.pointer (some ⟨g, 0, none⟩), .int .i64 m, .int .i64 c] w (Same (.bool (Caps.has p m c)) w) := by
  have e : Caps.has p m c = false := by simp [Caps.has, Caps.isCap]; omega
  rw [e]
  have a1 : (c == 1) = false := by simp; omega
  have a2 : (c == 2) = false := by simp; omega
  have a4 : (c == 4) = false := by simp; omega
  have a8 : (c == 8) = false := by simp; omega
  have a16 : (c == 16) = false := by simp; omega
  have b1 : (c != 1) = true := by simp; omega
  have b2 : (c != 2) = true := by simp; omega
  have b4 : (c != 4) = true := by simp; omega
  have b8 : (c != 8) = true := by simp; omega
  have b16 : (c != 16) = true := by simp; omega
  go_enter Tryz.func230, Tryz.ntmps230
  go_wp2
  go_ret
  exact ⟨rfl, rfl⟩

set_option maxHeartbeats 1000000 in
theorem refHas_yes (g : Nat) (p m c : Int) (w : World) (hc : c = 1 ∨ c = 2 ∨ c = 4 ∨ c = 8 ∨ c = 16) (hp : 0 ≤ p ∧ p ≤ 31) (hw : w.cell? ⟨g, 0, none⟩ = some (.int .i64 p)) :
    Calls Tryz.prog 230 #[.pointer (some ⟨g, 0, none⟩), .int .i64 m, .int .i64 c] w (Same (.bool (Caps.has p m c)) w) := by
  by_cases m1 : m = 1
  · subst m1
    have e : Caps.has p 1 c = (p / c % 2 == 1) := by simp [Caps.has, Caps.isCap]; omega
    rw [e]
    clear e
    rcases hc with rfl | rfl | rfl | rfl | rfl
    all_goals
      go_enter Tryz.func230, Tryz.ntmps230
      go_wp2
      go_ret
      exact ⟨by simp, rfl⟩
  · have e : Caps.has p m c = (m == 0 || m == 2) := by
      have : (m == 1) = false := by simpa using m1
      simp [Caps.has, Caps.isCap, this]; omega
    rw [e]
    clear e
    have m1' : (m == 1) = false := by simpa using m1
    by_cases m0 : m = 0
    · subst m0
      rcases hc with rfl | rfl | rfl | rfl | rfl
      all_goals
        go_enter Tryz.func230, Tryz.ntmps230
        go_wp2
        go_ret
        exact ⟨rfl, rfl⟩
    · have m0' : (m == 0) = false := by simpa using m0
      by_cases m2 : m = 2
      · subst m2
        rcases hc with rfl | rfl | rfl | rfl | rfl
        all_goals
          go_enter Tryz.func230, Tryz.ntmps230
          go_wp2
          go_ret
          exact ⟨rfl, rfl⟩
      · have m2' : (m == 2) = false := by simpa using m2
        rcases hc with rfl | rfl | rfl | rfl | rfl
        all_goals
          go_enter Tryz.func230, Tryz.ntmps230
          go_wp2
          go_ret
          exact ⟨by rw [m0', m2']; rfl, rfl⟩

section
variable {w : World} {g : Nat} {S : Caps.Tab}
theorem RRep.has (h : RRep w g S) (m c : Int) :
    Calls Tryz.prog 230 #[.pointer (some ⟨g, 0, none⟩), .int .i64 m, .int .i64 c] w (Same (.bool (Caps.has S.pupil m c)) w) := by
  by_cases hc : c = 1 ∨ c = 2 ∨ c = 4 ∨ c = 8 ∨ c = 16
  · exact refHas_yes g S.pupil m c w hc ⟨h.ok.p0, h.ok.p1⟩ h.cells.1
  · exact refHas_no g S.pupil m c w hc

set_option maxHeartbeats 400000 in
theorem RRep.behind (h : RRep w g S) (was s : ByteArray) (hw : (was.size : Int) ≤ S.room) (hs : s.size ≤ maxLen) :
    Calls Tryz.prog 358 #[.pointer (some ⟨g, 0, none⟩), .string was, .string s] w (Same (.string (Caps.behind S.room was s)) w) := by
  obtain ⟨-, c1, -⟩ := h.cells
  have r1 := h.ok.r1
  unfold maxLen at hs
  obtain ⟨n, hrn⟩ : ∃ n : Nat, S.room - (was.size : Int) = n := ⟨(S.room - was.size).toNat, by omega⟩
  have efit : Caps.fit S.room was s = min s.size n := by unfold Caps.fit; congr 1; omega
  unfold Caps.behind
  rw [efit]
  clear efit
  by_cases hn : s.size < n
  · rw [Nat.min_eq_left (by omega)]
    go_enter Tryz.func358, Tryz.ntmps358
    go_wp2
    go_ret
    exact ⟨by simp, rfl⟩
  · rw [Nat.min_eq_right (by omega)]
    have hle : n ≤ s.size := by omega
    go_enter Tryz.func358, Tryz.ntmps358
    go_wp2
    go_ret
    exact ⟨rfl, rfl⟩

set_option maxHeartbeats 400000 in
theorem RRep.say (h : RRep w g S) (m p : Int) : Calls Tryz.prog 292 #[.pointer (some ⟨g, 0, none⟩), .int .i64 m, .int .i64 p] w (RPost (.int .i64 (Caps.sayE S m p)) g (Caps.sayS S m p) w) := by
  have hh := h.has m 8
  have hok := Caps.say_ok h.ok m p
  by_cases hc : Caps.has S.pupil m 8 = true
  · rw [hc] at hh
    by_cases hp : p < 0 ∨ 100 < p
    · have e1 : Caps.sayE S m p = 19 := by simp [Caps.sayE, hc, hp]
      have e2 : Caps.sayS S m p = S := by unfold Caps.sayS; rw [if_neg (by omega)]
      rw [e1, e2]
      have H := Lib.hid h
      clear e1 e2 hok hc h
      go_enter Tryz.func292, Tryz.ntmps292
      go_wp2_with fail
      refine hh.mono ?_
      rintro e w' ⟨rfl, rfl⟩
      clear hh
      go_wp2
      all_goals first | (go_ret; exact ⟨rfl, H.out, Kept.refl _ _⟩) | (exfalso; omega)
    · have e1 : Caps.sayE S m p = 0 := by simp [Caps.sayE, hc, hp]
      have e2 : Caps.sayS S m p = { S with points := p, said := true } := by unfold Caps.sayS; rw [if_pos ⟨hc, by omega, by omega⟩]
      rw [e2] at hok
      rw [e1, e2]
      obtain ⟨-, -, -, -, -, c5, c6⟩ := h.cells
      have f5 := h.frozen 5
      have f6 := h.frozen 6
      have H := Lib.hid h
      have q1 : 0 ≤ p := by omega
      have q2 : p ≤ 100 := by omega
      clear e1 e2 hc h hp
      go_enter Tryz.func292, Tryz.ntmps292
      go_wp2_with fail
      refine hh.mono ?_
      rintro e w' ⟨rfl, rfl⟩
      clear hh
      go_wp2
      go_ret
      refine ⟨rfl, ⟨hok, (H.out.blk.set_ 5 _).set_ 6 _⟩, ?_⟩
      refine Kept.setCell (Kept.setCell (Kept.refl _ _) ?_ _) ?_ _ <;> exact .inl rfl
  · have hc' : Caps.has S.pupil m 8 = false := by simpa using hc
    rw [hc'] at hh
    have e1 : Caps.sayE S m p = 11 := by simp [Caps.sayE, hc']
    have e2 : Caps.sayS S m p = S := by simp [Caps.sayS, hc']
    rw [e1, e2]
    have H := Lib.hid h
    clear e1 e2 hc hc' h hok
    go_enter Tryz.func292, Tryz.ntmps292
    go_wp2_with fail
    refine hh.mono ?_
    rintro e w' ⟨rfl, rfl⟩
    clear hh
    go_wp2
    go_ret
    exact ⟨rfl, H.out, Kept.refl _ _⟩

set_option maxHeartbeats 400000 in
theorem RRep.key (h : RRep w g S) (m : Int) : Calls Tryz.prog 287 #[.pointer (some ⟨g, 0, none⟩), .int .i64 m] w
    (RPost (.tuple #[.int .u8 (Caps.keyB S m), .int .i64 (Caps.keyE S m)]) g (Caps.keyS S m) w) := by
  have hh := h.has m 2
  have hok := Caps.key_ok h.ok m
  by_cases hc : Caps.has S.pupil m 2 = true
  · rw [hc] at hh
    obtain ⟨-, -, c2, -⟩ := h.cells
    have f2 := h.frozen 2
    by_cases hz : S.inp.size = 0
    · have hd : S.inp.data.toList = [] := List.eq_nil_of_length_eq_zero (by rw [Caps.size_data]; exact hz)
      have e0 : Caps.keyB S m = 0 := by simp [Caps.keyB, hd]
      have e1 : Caps.keyE S m = 18 := by simp [Caps.keyE, hc, hz]
      have e2 : Caps.keyS S m = S := by
        unfold Caps.keyS; rw [if_pos hc]
        have : S.inp.extract 1 S.inp.size = S.inp := Caps.ext _ _ (by simp [hd])
        rw [this]
      rw [e0, e1, e2]
      have H := Lib.hid h
      have HH := Lib.hid hh
      have hs0 : S.inp.toList = [] := by rw [Lib.toList_data]; exact hd
      clear e0 e1 e2 hc hh h hok hd hz
      go_enter Tryz.func287, Tryz.ntmps287
      go_wp2_with fail
      refine HH.out.mono ?_
      rintro e w' ⟨rfl, rfl⟩
      go_wp2
      go_ret2
      exact ⟨rfl, H.out, Kept.refl _ _⟩
    · obtain ⟨c, t, hd⟩ : ∃ c t, S.inp.data.toList = c :: t := by
        cases hh : S.inp.data.toList with
        | nil => exfalso; apply hz; rw [← Caps.size_data, hh]; rfl
        | cons c t => exact ⟨c, t, rfl⟩
      have e0 : Caps.keyB S m = c.toNat := by simp [Caps.keyB, hd, hc]
      have e1 : Caps.keyE S m = 0 := by simp [Caps.keyE, hc, hz]
      have e2 : Caps.keyS S m = { S with inp := S.inp.extract 1 S.inp.size } := by
        unfold Caps.keyS; rw [if_pos hc]
      rw [e2] at hok
      rw [e0, e1, e2]
      have H := Lib.hid h
      have HH := Lib.hid hh
      have hs0 : (S.inp.toList.isEmpty) = false := by rw [Lib.toList_data, hd]; rfl
      have hlt : 0 < S.inp.size := by omega
      have hc0 : S.inp[0] = c := by
        have : S.inp.data.toList[0]'(by rw [Caps.size_data]; exact hlt) = c := by simp [hd]
        show S.inp.data[0] = c
        simpa using this
      have hsz := h.ok.inp
      clear e0 e1 e2 hc hh h hd hz
      go_enter Tryz.func287, Tryz.ntmps287
      go_wp2_with fail
      refine HH.out.mono ?_
      rintro e w' ⟨rfl, rfl⟩
      go_wp2
      go_ret2
      refine ⟨rfl, ⟨hok, H.out.blk.set_ 2 _⟩, ?_⟩
      refine Kept.setCell (Kept.refl _ _) ?_ _; exact .inl rfl
  · have hc' : Caps.has S.pupil m 2 = false := by simpa using hc
    rw [hc'] at hh
    have e0 : Caps.keyB S m = 0 := by simp [Caps.keyB, hc']
    have e1 : Caps.keyE S m = 11 := by simp [Caps.keyE, hc']
    have e2 : Caps.keyS S m = S := by simp [Caps.keyS, hc']
    rw [e0, e1, e2]
    have H := Lib.hid h
    have HH := Lib.hid hh
    clear e0 e1 e2 hc hc' h hok hh
    go_enter Tryz.func287, Tryz.ntmps287
    go_wp2_with fail
    refine HH.out.mono ?_
    rintro e w' ⟨rfl, rfl⟩
    go_wp2
    go_ret2
    exact ⟨rfl, H.out, Kept.refl _ _⟩
end
end Go.Proofs.YtjhdpmimccpcdaaGreatDoor
/- The reference's package proctorref9: its table's Type and Accept. Conditions: the table lies in memory as RRep says; a string that is handed in is no longer than a string may be. -/
namespace Go.Proofs.YtjhdpmimccpcdaaGreatDoor
set_option linter.unusedVariables false
open Go.RowKit Go.Lib

section
variable {w : World} {g : Nat} {S : Caps.Tab}
theorem isEmpty_false (s : ByteArray) (h : 0 < s.size) : s.toList.isEmpty = false := by
  rw [Lib.toList_data]
  cases hd : s.data.toList with
  | nil => exfalso; rw [← Caps.size_data, hd] at h; simp at h
  | cons c t => rfl
end
end Go.Proofs.YtjhdpmimccpcdaaGreatDoor
/- The tables of the program and of the reference as objects beside others; each call as a step of one of them; and the laws' own small functions. -/
namespace Go.Proofs.YtjhdpmimccpcdaaGreatDoor
set_option linter.unusedVariables false
open Go.RowKit Go.Lib

def TabA (g : Nat) (S : Caps.Tab) : Asr where
  holds w F := CRep w g S F
  lt h hk := h.lt hk
  kept h hk hT := h.kept hk hT
def RefA (g : Nat) (S : Caps.Tab) : Asr where
  holds w F := RRep w g S ∧ ∀ k, F k ↔ k = g
  lt h hk := by have := (h.2 _).1 hk; subst this; exact h.1.lt
  kept h hk hT := ⟨h.1.kept hk (hT _ ((h.2 _).2 rfl)), h.2⟩

section
variable {w0 w : World} {g : Nat} {S : Caps.Tab} {L : List Asr}
theorem TabA.crep (h : At w0 w (TabA g S :: L)) : ∃ F, CRep w g S F := h.first
theorem t_new (h : At w0 w L) (p r : Int) (s : ByteArray) (h0 : Caps.newErr p r s = 0) : Calls Tryz.prog 35 #[.int .i64 p, .int .i64 r, .string s] w
    (fun e w' => ∃ g, e = .returned (.tuple #[.pointer (some ⟨g, 0, none⟩), .int .i64 0]) ∧ At w0 w' (TabA g (Caps.made p r s) :: L)) := by
  refine (caps_new p r s w).mono ?_
  intro e w' hp
  unfold NewPost at hp
  rw [if_pos h0] at hp
  obtain ⟨g, F, he, hr, hk, hF⟩ := hp
  exact ⟨g, he, h.add (A := TabA g (Caps.made p r s)) hr hk hF⟩
theorem r_new (h : At w0 w L) (p r : Int) (s : ByteArray) (h0 : Caps.newErr p r s = 0) : Calls Tryz.prog 69 #[.int .i64 p, .int .i64 r, .string s] w
    (fun e w' => ∃ g, e = .returned (.tuple #[.pointer (some ⟨g, 0, none⟩), .int .i64 0]) ∧ At w0 w' (RefA g (Caps.made p r s) :: L)) := by
  refine (ref_new p r s w).mono ?_
  intro e w' hp
  unfold RNewPost at hp
  rw [if_pos h0] at hp
  obtain ⟨he, hr, hk⟩ := hp
  exact ⟨_, he, h.add (A := RefA _ (Caps.made p r s)) (F' := fun k => k = w.heap.size) ⟨hr, fun _ => Iff.rfl⟩ hk (fun k hk => Nat.le_of_eq hk.symm)⟩
end
end Go.Proofs.YtjhdpmimccpcdaaGreatDoor
