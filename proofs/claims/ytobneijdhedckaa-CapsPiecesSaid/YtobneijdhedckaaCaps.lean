/- The program's package caps: what each of its functions does to a table that lies in memory. Conditions: the table's numbers are in their bounds (Tab.Ok). -/
import Derived.Test.YtobneijdhedckaaMem
import Derived.Test.YtobneijdhedckaaCapsSpec
import Derived.Test.YtobneijdhedckaaShelf
namespace Go.Proofs.Ytobneijdhedckaa
set_option linter.unusedVariables false
open Go.RowKit Go.Lib

theorem Try.infoU8 : (Try.prog.info? 5).map (fun i => (i.zero, i.size, i.bytes)) = some (some (.int .u8 0), 1, 1) := by kernel_rfl

/-- the table of the program -/
structure CRep (w : World) (g : Nat) (S : Caps.Tab) (F : Nat → Prop) : Prop where
  ok : S.Ok
  rep : ∃ o l vo vl, Blk w g 68 #[.int .i64 S.pupil, .string S.inp, .iface 58 (.pointer (some ⟨o, 0, none⟩)), .iface 62 (.pointer (some ⟨l, 0, none⟩)), .int .i64 S.points, .bool S.said] ∧
    Blk w o 61 #[vo, .int .i64 S.room] ∧ Blk w l 64 #[vl, .int .i64 S.room] ∧
    Buf w 5 vo S.out.data.toList ∧ Buf w 5 vl S.log.data.toList ∧ (∀ k, vo.ownBlock = some k → vl.ownBlock = some k → False) ∧
    (∀ k, F k ↔ (k = g ∨ k = o ∨ k = l ∨ vo.ownBlock = some k ∨ vl.ownBlock = some k))

theorem CRep.lt {w : World} {g : Nat} {S : Caps.Tab} {F : Nat → Prop} (h : CRep w g S F) {k : Nat} (hk : F k) : k < w.heap.size := by
  obtain ⟨o, l, vo, vl, h1, h2, h3, h4, h5, _, hF⟩ := h.rep
  rcases (hF k).1 hk with rfl | rfl | rfl | h | h
  · exact h1.lt
  · exact h2.lt
  · exact h3.lt
  · exact h4.lt h
  · exact h5.lt h
theorem CRep.kept {w w' : World} {g : Nat} {S : Caps.Tab} {F T : Nat → Prop} (h : CRep w g S F) (hk : Kept T w w') (hT : ∀ k, F k → ¬ T k) : CRep w' g S F := by
  obtain ⟨o, l, vo, vl, h1, h2, h3, h4, h5, h6, hF⟩ := h.rep
  exact ⟨h.ok, o, l, vo, vl, h1.kept hk (hT _ ((hF _).2 (.inl rfl))), h2.kept hk (hT _ ((hF _).2 (.inr (.inl rfl)))), h3.kept hk (hT _ ((hF _).2 (.inr (.inr (.inl rfl))))),
    h4.kept hk (fun k hv => hT _ ((hF _).2 (.inr (.inr (.inr (.inl hv)))))), h5.kept hk (fun k hv => hT _ ((hF _).2 (.inr (.inr (.inr (.inr hv)))))), h6, hF⟩
theorem CRep.drewN {w : World} {g : Nat} {S : Caps.Tab} {F : Nat → Prop} (h : CRep w g S F) (n : Nat) : CRep (w.drewN n) g S F :=
  h.kept (T := Nob) ((Kept.refl _ w).drewN n) (fun _ _ h => h)

/-- behind a call that changes one table: the answer, the table as it is then, and where it lies -/
def CPost (v : Value) (g : Nat) (S' : Caps.Tab) (F : Nat → Prop) (w : World) (e : Ending) (w' : World) : Prop :=
  e = .returned v ∧ ∃ F', CRep w' g S' F' ∧ Kept F w w' ∧ ∀ k, F' k → F k ∨ w.heap.size ≤ k
def Draws (v : Value) (w : World) (e : Ending) (w' : World) : Prop := e = .returned v ∧ ∃ n, w' = w.drewN n
def Same (v : Value) (w : World) (e : Ending) (w' : World) : Prop := e = .returned v ∧ w' = w

theorem and_bit (p c : Int) (h : 0 ≤ p ∧ p ≤ 31) (hc : c = 1 ∨ c = 2 ∨ c = 4 ∨ c = 8 ∨ c = 16) : (bits .and .i64 p c != 0) = (p / c % 2 == 1) := by
  obtain ⟨n, rfl⟩ := Int.eq_ofNat_of_zero_le h.1
  have hn : n < 32 := by omega
  have key : ∀ k : Fin 32, (bits .and .i64 (k.val : Int) 1 != 0) = ((k.val : Int) / 1 % 2 == 1) ∧ (bits .and .i64 (k.val : Int) 2 != 0) = ((k.val : Int) / 2 % 2 == 1) ∧
      (bits .and .i64 (k.val : Int) 4 != 0) = ((k.val : Int) / 4 % 2 == 1) ∧ (bits .and .i64 (k.val : Int) 8 != 0) = ((k.val : Int) / 8 % 2 == 1) ∧ (bits .and .i64 (k.val : Int) 16 != 0) = ((k.val : Int) / 16 % 2 == 1) := by decide +kernel
  have := key ⟨n, hn⟩
  rcases hc with rfl | rfl | rfl | rfl | rfl
  · exact this.1
  · exact this.2.1
  · exact this.2.2.1
  · exact this.2.2.2.1
  · exact this.2.2.2.2

set_option maxHeartbeats 400000 in
theorem has_no (g : Nat) (p m c : Int) (w : World) (hc : ¬ (c = 1 ∨ c = 2 ∨ c = 4 ∨ c = 8 ∨ c = 16)) :
    Calls Try.prog 13 #[.pointer (some ⟨g, 0, none⟩), .int .i64 m, .int .i64 c] w (Same (.bool (Caps.has p m c)) w) := by
  have e : Caps.has p m c = false := by simp [Caps.has, Caps.isCap]; omega
  rw [e]
  have a1 : (c == 1) = false := by simp; omega
  have a2 : (c == 2) = false := by simp; omega
  have a4 : (c == 4) = false := by simp; omega
  have a8 : (c == 8) = false := by simp; omega
  have a16 : (c == 16) = false := by simp; omega
  go_enter Try.func13, Try.ntmps13
  go_wp2
  go_ret
  exact ⟨rfl, rfl⟩

set_option maxHeartbeats 1000000 in
theorem has_yes (g : Nat) (p m c : Int) (w : World) (hc : c = 1 ∨ c = 2 ∨ c = 4 ∨ c = 8 ∨ c = 16) (hp : 0 ≤ p ∧ p ≤ 31) (hw : w.cell? ⟨g, 0, none⟩ = some (.int .i64 p)) :
    Calls Try.prog 13 #[.pointer (some ⟨g, 0, none⟩), .int .i64 m, .int .i64 c] w (Same (.bool (Caps.has p m c)) w) := by
  have hb := and_bit p c hp hc
  by_cases m1 : m = 1
  · subst m1
    have e : Caps.has p 1 c = (bits .and .i64 p c != 0) := by rw [hb]; simp [Caps.has, Caps.isCap]; omega
    rw [e]
    clear e hb
    rcases hc with rfl | rfl | rfl | rfl | rfl
    all_goals
      go_enter Try.func13, Try.ntmps13
      go_wp2
      go_ret
      exact ⟨rfl, rfl⟩
  · have e : Caps.has p m c = (m == 0 || m == 2) := by
      have : (m == 1) = false := by simpa using m1
      simp [Caps.has, Caps.isCap, this]; omega
    rw [e]
    clear e hb
    have m1' : (m == 1) = false := by simpa using m1
    by_cases m0 : m = 0
    · subst m0
      rcases hc with rfl | rfl | rfl | rfl | rfl
      all_goals
        go_enter Try.func13, Try.ntmps13
        go_wp2
        go_ret
        exact ⟨rfl, rfl⟩
    · have m0' : (m == 0) = false := by simpa using m0
      by_cases m2 : m = 2
      · subst m2
        rcases hc with rfl | rfl | rfl | rfl | rfl
        all_goals
          go_enter Try.func13, Try.ntmps13
          go_wp2
          go_ret
          exact ⟨rfl, rfl⟩
      · have m2' : (m == 2) = false := by simpa using m2
        rcases hc with rfl | rfl | rfl | rfl | rfl
        all_goals
          go_enter Try.func13, Try.ntmps13
          go_wp2
          go_ret
          exact ⟨by rw [m0', m2']; rfl, rfl⟩

theorem CRep.has {w : World} {g : Nat} {S : Caps.Tab} {F : Nat → Prop} (h : CRep w g S F) (m c : Int) :
    Calls Try.prog 13 #[.pointer (some ⟨g, 0, none⟩), .int .i64 m, .int .i64 c] w (Same (.bool (Caps.has S.pupil m c)) w) := by
  by_cases hc : c = 1 ∨ c = 2 ∨ c = 4 ∨ c = 8 ∨ c = 16
  · obtain ⟨o, l, vo, vl, h1, _⟩ := h.rep
    exact has_yes g S.pupil m c w hc ⟨h.ok.p0, h.ok.p1⟩ (by simpa using h1.cell 0)
  · exact has_no g S.pupil m c w hc

/-- New -/
def NewPost (p r : Int) (s : ByteArray) (w : World) (e : Ending) (w' : World) : Prop :=
  if Caps.newErr p r s = 0 then ∃ g F, e = .returned (.tuple #[.pointer (some ⟨g, 0, none⟩), .int .i64 0]) ∧ CRep w' g (Caps.made p r s) F ∧ Kept Nob w w' ∧ ∀ k, F k → w.heap.size ≤ k
  else e = .returned (.tuple #[.pointer none, .int .i64 (Caps.newErr p r s)]) ∧ w' = w

set_option maxHeartbeats 400000 in
theorem caps_new (p r : Int) (s : ByteArray) (w : World) : Calls Try.prog 10 #[.int .i64 p, .int .i64 r, .string s] w (NewPost p r s w) := by
  by_cases hbad : p < 0 ∨ 31 < p ∨ r < 0 ∨ 65536 < r
  · have e1 : Caps.newErr p r s = 1 := by unfold Caps.newErr; rw [if_pos hbad]
    have fin : NewPost p r s w (.returned (.tuple #[.pointer none, .int .i64 1])) w := by
      unfold NewPost; rw [e1]; simp
    have Fin := Lib.hid fin
    clear fin
    clear e1
    go_enter Try.func10, Try.ntmps10
    go_wp2
    all_goals first | (go_ret2; exact Fin.out) | (exfalso; omega)
  · by_cases hl : 4096 < s.size
    · have e1 : Caps.newErr p r s = 2 := by unfold Caps.newErr; rw [if_neg hbad, if_pos hl]
      have fin : NewPost p r s w (.returned (.tuple #[.pointer none, .int .i64 2])) w := by
        unfold NewPost; rw [e1]; simp
      have Fin := Lib.hid fin
      clear fin e1
      have q1 : 0 ≤ p := by omega
      have q2 : p ≤ 31 := by omega
      have q3 : 0 ≤ r := by omega
      have q4 : r ≤ 65536 := by omega
      clear hbad
      go_enter Try.func10, Try.ntmps10
      go_wp2
      all_goals first | (go_ret2; exact Fin.out) | (exfalso; omega)
    · have e1 : Caps.newErr p r s = 0 := by unfold Caps.newErr; rw [if_neg hbad, if_neg hl]
      have hok := Caps.made_ok e1
      have E1 := Lib.hid e1
      clear e1
      have q1 : 0 ≤ p := by omega
      have q2 : p ≤ 31 := by omega
      have q3 : 0 ≤ r := by omega
      have q4 : r ≤ 65536 := by omega
      have q5 : s.size ≤ 4096 := by omega
      clear hbad hl
      go_enter Try.func10, Try.ntmps10
      go_wp2
      go_ret2
      unfold NewPost
      rw [if_pos E1.out]
      refine ⟨_, fun k => k = w.heap.size + 1 + 1 ∨ k = w.heap.size ∨ k = w.heap.size + 1, rfl, ⟨hok, w.heap.size, w.heap.size + 1, .slice none 0 0, .slice none 0 0, ?_, ?_, ?_, ?_, ?_, ?_, ?_⟩, ?_, ?_⟩
      · exact Blk.new' (by simp)
      · exact (((Blk.new w _ _).alloc _).alloc _)
      · exact ((Blk.new' (by simp)).alloc _)
      · exact Buf.nil _ _
      · exact Buf.nil _ _
      · intro k hk; cases hk
      · intro k; simp [Value.ownBlock]
      · exact (((Kept.refl _ w).alloc _).alloc _).alloc _
      · intro k hk; omega
end Go.Proofs.Ytobneijdhedckaa
