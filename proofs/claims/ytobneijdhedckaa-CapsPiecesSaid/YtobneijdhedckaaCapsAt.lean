/- The tables of the program and of the reference as objects beside others; each call as a step of one of them; and the laws' own small functions. -/
import Derived.Test.YtobneijdhedckaaCapsRef2
import Derived.Test.YtobneijdhedckaaSep
namespace Go.Proofs.Ytobneijdhedckaa
set_option linter.unusedVariables false
open Go.RowKit Go.Lib

def TabA (g : Nat) (S : Caps.Tab) : Asr where
  holds w F := CRep w g S F
  lt h hk := h.lt hk
  kept h hk hT := h.kept hk hT
def RefA (g : Nat) (S : Caps.Tab) : Asr where
  holds w F := RRep w g S ∧ ∀ k, F k ↔ k = g
  lt h hk := by have := (h.2 _).1 hk; subst this; exact h.1.lt
  kept h hk hT := ⟨h.1.kept hk (hT _ ((h.2 _).2 rfl)), h.2⟩

section
variable {w0 w : World} {g : Nat} {S : Caps.Tab} {L : List Asr}
theorem CPost.toPost {v : Value} {S' : Caps.Tab} {F : Nat → Prop} {e : Ending} {w' : World} (h : CPost v g S' F w e w') : Post (fun u B => u = v ∧ B = TabA g S') F w e w' := by
  obtain ⟨he, F', hr, hk, hF⟩ := h
  exact ⟨v, TabA g S', F', ⟨rfl, rfl⟩, he, hr, hk, hF⟩
theorem RPost.toPost {v : Value} {S' : Caps.Tab} {F : Nat → Prop} (hF : ∀ k, F k ↔ k = g) {e : Ending} {w' : World} (h : RPost v g S' w e w') : Post (fun u B => u = v ∧ B = RefA g S') F w e w' := by
  obtain ⟨he, hr, hk⟩ := h
  exact ⟨v, RefA g S', F, ⟨rfl, rfl⟩, he, ⟨hr, hF⟩, hk.mono (fun k hk => (hF k).2 hk), fun k hk => .inl hk⟩

theorem TabA.crep (h : At w0 w (TabA g S :: L)) : ∃ F, CRep w g S F := h.first
theorem RefA.rrep (h : At w0 w (RefA g S :: L)) : RRep w g S := by obtain ⟨F, h1, _⟩ := h.first; exact h1

theorem t_typ (h : At w0 w (TabA g S :: L)) (m : Int) (s : ByteArray) (hs : s.size ≤ maxLen) : Calls Try.prog 17 #[.pointer (some ⟨g, 0, none⟩), .int .i64 m, .string s] w (Got1 (.int .i64 (Caps.typE S m s)) (TabA g (Caps.typS S m s)) w0 L) :=
  h.call1 fun _ hF => (CRep.typ hF m s hs).mono fun _ _ h => h.toPost
theorem t_emit (h : At w0 w (TabA g S :: L)) (m b : Int) : Calls Try.prog 24 #[.pointer (some ⟨g, 0, none⟩), .int .i64 m, .int .u8 b] w (Got1 (.int .i64 (Caps.typE S m (byteStr b))) (TabA g (Caps.typS S m (byteStr b))) w0 L) :=
  h.call1 fun _ hF => (CRep.emit hF m b).mono fun _ _ h => h.toPost
theorem t_key (h : At w0 w (TabA g S :: L)) (m : Int) : Calls Try.prog 20 #[.pointer (some ⟨g, 0, none⟩), .int .i64 m] w (Got1 (.tuple #[.int .u8 (Caps.keyB S m), .int .i64 (Caps.keyE S m)]) (TabA g (Caps.keyS S m)) w0 L) :=
  h.call1 fun _ hF => (CRep.key hF m).mono fun _ _ h => h.toPost
theorem t_accept (h : At w0 w (TabA g S :: L)) (m n : Int) : Calls Try.prog 22 #[.pointer (some ⟨g, 0, none⟩), .int .i64 m, .int .i64 n] w (Got1 (.tuple #[.string (Caps.accB S m n), .int .i64 (Caps.accE S m n)]) (TabA g (Caps.accS S m n)) w0 L) :=
  h.call1 fun _ hF => (CRep.accept hF m n).mono fun _ _ h => h.toPost
theorem t_say (h : At w0 w (TabA g S :: L)) (m p : Int) : Calls Try.prog 25 #[.pointer (some ⟨g, 0, none⟩), .int .i64 m, .int .i64 p] w (Got1 (.int .i64 (Caps.sayE S m p)) (TabA g (Caps.sayS S m p)) w0 L) :=
  h.call1 fun _ hF => (CRep.say hF m p).mono fun _ _ h => h.toPost
theorem t_has (h : At w0 w (TabA g S :: L)) (m c : Int) : Calls Try.prog 13 #[.pointer (some ⟨g, 0, none⟩), .int .i64 m, .int .i64 c] w (Same (.bool (Caps.has S.pupil m c)) w) := by
  obtain ⟨F, hF⟩ := h.first; exact CRep.has hF m c
theorem t_output (h : At w0 w (TabA g S :: L)) : Calls Try.prog 18 #[.pointer (some ⟨g, 0, none⟩)] w (Same (.string S.out) w) := by
  obtain ⟨F, hF⟩ := h.first; exact CRep.output hF
theorem t_log (h : At w0 w (TabA g S :: L)) : Calls Try.prog 19 #[.pointer (some ⟨g, 0, none⟩)] w (Same (.string S.log) w) := by
  obtain ⟨F, hF⟩ := h.first; exact CRep.log hF
theorem t_left (h : At w0 w (TabA g S :: L)) : Calls Try.prog 21 #[.pointer (some ⟨g, 0, none⟩)] w (Same (.int .i64 S.inp.size) w) := by
  obtain ⟨F, hF⟩ := h.first; exact CRep.left hF
theorem t_points (h : At w0 w (TabA g S :: L)) : Calls Try.prog 26 #[.pointer (some ⟨g, 0, none⟩)] w (fun e w' => e = .returned (.tuple #[.int .i64 S.points, .bool S.said]) ∧ At w0 w' (TabA g S :: L)) := by
  obtain ⟨F, hF⟩ := h.first
  refine (CRep.points hF).mono ?_
  rintro e w' ⟨he, n, rfl⟩
  exact ⟨he, h.drewN n⟩
theorem r_typ (h : At w0 w (RefA g S :: L)) (m : Int) (s : ByteArray) (hs : s.size ≤ maxLen) : Calls Try.prog 28 #[.pointer (some ⟨g, 0, none⟩), .int .i64 m, .string s] w (Got1 (.int .i64 (Caps.typE S m s)) (RefA g (Caps.typS S m s)) w0 L) :=
  h.call1 fun _ hF => (RRep.typ hF.1 m s hs).mono fun _ _ h => h.toPost hF.2
theorem r_key (h : At w0 w (RefA g S :: L)) (m : Int) : Calls Try.prog 29 #[.pointer (some ⟨g, 0, none⟩), .int .i64 m] w (Got1 (.tuple #[.int .u8 (Caps.keyB S m), .int .i64 (Caps.keyE S m)]) (RefA g (Caps.keyS S m)) w0 L) :=
  h.call1 fun _ hF => (RRep.key hF.1 m).mono fun _ _ h => h.toPost hF.2
theorem r_accept (h : At w0 w (RefA g S :: L)) (m n : Int) : Calls Try.prog 30 #[.pointer (some ⟨g, 0, none⟩), .int .i64 m, .int .i64 n] w (Got1 (.tuple #[.string (Caps.accB S m n), .int .i64 (Caps.accE S m n)]) (RefA g (Caps.accS S m n)) w0 L) :=
  h.call1 fun _ hF => (RRep.accept hF.1 m n).mono fun _ _ h => h.toPost hF.2
theorem r_say (h : At w0 w (RefA g S :: L)) (m p : Int) : Calls Try.prog 31 #[.pointer (some ⟨g, 0, none⟩), .int .i64 m, .int .i64 p] w (Got1 (.int .i64 (Caps.sayE S m p)) (RefA g (Caps.sayS S m p)) w0 L) :=
  h.call1 fun _ hF => (RRep.say hF.1 m p).mono fun _ _ h => h.toPost hF.2
theorem r_has (h : At w0 w (RefA g S :: L)) (m c : Int) : Calls Try.prog 14 #[.pointer (some ⟨g, 0, none⟩), .int .i64 m, .int .i64 c] w (Same (.bool (Caps.has S.pupil m c)) w) :=
  (RefA.rrep h).has m c

theorem t_new (h : At w0 w L) (p r : Int) (s : ByteArray) (h0 : Caps.newErr p r s = 0) : Calls Try.prog 10 #[.int .i64 p, .int .i64 r, .string s] w
    (fun e w' => ∃ g, e = .returned (.tuple #[.pointer (some ⟨g, 0, none⟩), .int .i64 0]) ∧ At w0 w' (TabA g (Caps.made p r s) :: L)) := by
  refine (caps_new p r s w).mono ?_
  intro e w' hp
  unfold NewPost at hp
  rw [if_pos h0] at hp
  obtain ⟨g, F, he, hr, hk, hF⟩ := hp
  exact ⟨g, he, h.add (A := TabA g (Caps.made p r s)) hr hk hF⟩
theorem t_new_bad (p r : Int) (s : ByteArray) (w : World) (h0 : Caps.newErr p r s ≠ 0) : Calls Try.prog 10 #[.int .i64 p, .int .i64 r, .string s] w (Same (.tuple #[.pointer none, .int .i64 (Caps.newErr p r s)]) w) := by
  refine (caps_new p r s w).mono ?_
  intro e w' hp
  unfold NewPost at hp
  rw [if_neg h0] at hp
  exact hp
theorem r_new (h : At w0 w L) (p r : Int) (s : ByteArray) (h0 : Caps.newErr p r s = 0) : Calls Try.prog 11 #[.int .i64 p, .int .i64 r, .string s] w
    (fun e w' => ∃ g, e = .returned (.tuple #[.pointer (some ⟨g, 0, none⟩), .int .i64 0]) ∧ At w0 w' (RefA g (Caps.made p r s) :: L)) := by
  refine (ref_new p r s w).mono ?_
  intro e w' hp
  unfold RNewPost at hp
  rw [if_pos h0] at hp
  obtain ⟨he, hr, hk⟩ := hp
  exact ⟨_, he, h.add (A := RefA _ (Caps.made p r s)) (F' := fun k => k = w.heap.size) ⟨hr, fun _ => Iff.rfl⟩ hk (fun k hk => Nat.le_of_eq hk.symm)⟩
theorem r_new_bad (p r : Int) (s : ByteArray) (w : World) (h0 : Caps.newErr p r s ≠ 0) : Calls Try.prog 11 #[.int .i64 p, .int .i64 r, .string s] w (Same (.tuple #[.pointer none, .int .i64 (Caps.newErr p r s)]) w) := by
  refine (ref_new p r s w).mono ?_
  intro e w' hp
  unfold RNewPost at hp
  rw [if_neg h0] at hp
  exact hp
end
end Go.Proofs.Ytobneijdhedckaa
