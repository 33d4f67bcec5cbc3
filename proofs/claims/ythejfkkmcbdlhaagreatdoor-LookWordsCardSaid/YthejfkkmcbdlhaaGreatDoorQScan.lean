/- A string's byte at an index, run. No condition. -/
import Derived.Test.YthejfkkmcbdlhaaGreatDoorQMem
namespace Go.Proofs.YthejfkkmcbdlhaaGreatDoor
set_option linter.unusedVariables false
open Go.RowKit Go.Lib
theorem idx_str (s : ByteArray) (i : Nat) (hi : i < s.size) (w : World) : (Instr.index 9 (.string s) (.int .i64 (i : Int))).run Tryz.prog w = .ok (.int .u8 ((s.data.toList.getD i 0).toNat : Int)) w := by
  rw [run_index_string w _ s .i64 (i : Int) Tryz.underlying9, dif_pos ⟨by omega, by omega⟩]
  have h2 : i < s.data.toList.length := by rw [← Lib.size_eq]; exact hi
  congr 4
  rw [List.getD_eq_getElem?_getD, List.getElem?_eq_getElem h2]
  rfl
end Go.Proofs.YthejfkkmcbdlhaaGreatDoor
/- What a call leaves that makes nothing. No condition. -/
namespace Go.Proofs.YthejfkkmcbdlhaaGreatDoor
set_option linter.unusedVariables false
/-- it answers v, and the world is as it was -/
def Same (v : Value) (w : World) (e : Ending) (w' : World) : Prop := e = .returned v ∧ w' = w
end Go.Proofs.YthejfkkmcbdlhaaGreatDoor
/- The plain specification of chapter 7 (code): one for the program and for the document's answer. No condition. -/
namespace Go.Proofs.YthejfkkmcbdlhaaGreatDoor
set_option linter.unusedVariables false
namespace Code

def isAddr (op : Int) : Bool := op == 3 || op == 4 || op == 5 || op == 7 || op == 8 || op == 9 || op == 17
def form (op : Int) : Int := if isAddr op then 1 else if op == 19 then 2 else if op == 20 then 3 else 0
/-- what may go with an operation -/
def argOk (op a : Int) : Bool :=
  if isAddr op then decide (-36028797018963968 ≤ a) && decide (a < 36028797018963968)
  else if op == 19 then decide (0 ≤ a) && decide (a < 36028797018963968)
  else if op == 20 then decide (1 ≤ a) && decide (a ≤ 36) else a == 0
def inOps (op : Int) : Bool := decide (1 ≤ op) && decide (op ≤ 106)
def right (op a : Int) : Bool := inOps op && argOk op a
def pack (op a : Int) : Int := if right op a then 256 * a + op else 0
def unOp (v : Int) : Int := v % 256
def unArg (v : Int) : Int := v / 256
def unpack (v : Int) : Int × Int × Bool := if right (unOp v) (unArg v) then (unOp v, unArg v, true) else (0, 0, false)
end Code
end Go.Proofs.YthejfkkmcbdlhaaGreatDoor
/- Chapter 7: which operations and arguments are right; packing and unpacking: the program's functions and the document's. Conditions: the numbers are of their kind (int). -/
namespace Go.Proofs.YthejfkkmcbdlhaaGreatDoor
set_option linter.unusedVariables false
open Go.RowKit Go.Lib

theorem Code.right_iff (op a : Int) : Code.right op a = true ↔ 1 ≤ op ∧ op ≤ 106 ∧
    (((op = 3 ∨ op = 4 ∨ op = 5 ∨ op = 7 ∨ op = 8 ∨ op = 9 ∨ op = 17) ∧ -36028797018963968 ≤ a ∧ a < 36028797018963968) ∨ (op = 19 ∧ 0 ≤ a ∧ a < 36028797018963968) ∨ (op = 20 ∧ 1 ≤ a ∧ a ≤ 36) ∨
      (op ≠ 3 ∧ op ≠ 4 ∧ op ≠ 5 ∧ op ≠ 7 ∧ op ≠ 8 ∧ op ≠ 9 ∧ op ≠ 17 ∧ op ≠ 19 ∧ op ≠ 20 ∧ a = 0)) := by
  unfold Code.right Code.argOk Code.inOps
  by_cases h1 : Code.isAddr op = true
  · rw [if_pos h1]
    simp [Code.isAddr] at h1
    simp
    omega
  · rw [if_neg h1]
    simp [Code.isAddr] at h1
    by_cases h2 : op = 19
    · simp [h2]
    by_cases h3 : op = 20
    · simp [h3]
    simp [h2, h3]
    omega
theorem Code.form_iff (op : Int) : (Code.form op = 1 ∧ (op = 3 ∨ op = 4 ∨ op = 5 ∨ op = 7 ∨ op = 8 ∨ op = 9 ∨ op = 17)) ∨ (Code.form op = 2 ∧ op = 19) ∨ (Code.form op = 3 ∧ op = 20) ∨
    (Code.form op = 0 ∧ op ≠ 3 ∧ op ≠ 4 ∧ op ≠ 5 ∧ op ≠ 7 ∧ op ≠ 8 ∧ op ≠ 9 ∧ op ≠ 17 ∧ op ≠ 19 ∧ op ≠ 20) := by
  unfold Code.form
  by_cases h1 : Code.isAddr op = true
  · rw [if_pos h1]
    simp [Code.isAddr] at h1
    omega
  · rw [if_neg h1]
    simp [Code.isAddr] at h1
    by_cases h2 : op = 19
    · simp [h2]
    by_cases h3 : op = 20
    · simp [h3]
    simp [h2, h3]
    omega

end Go.Proofs.YthejfkkmcbdlhaaGreatDoor
/- Chapter 7: how many cells an operation takes and lays. No condition. -/
namespace Go.Proofs.YthejfkkmcbdlhaaGreatDoor
set_option linter.unusedVariables false
open Go.RowKit Go.Lib

def Code.wants (op : Int) : Int × Int :=
  if op ∈ [2, 11, 12, 14, 15, 17, 30, 72, 77, 83, 89, 90, 91] then (0, 1)
  else if op ∈ [5, 9, 13, 16, 22, 73, 74, 75, 78, 80, 81, 88, 100, 101, 102] then (1, 0)
  else if op ∈ [6, 7, 66, 68, 69, 79, 82] then (2, 0)
  else if op ∈ [19, 87, 104] then (0, 2)
  else if op ∈ [21, 26] then (1, 2)
  else if op ∈ [23, 36, 53, 54, 86, 97] then (2, 2)
  else if op ∈ [24, 28] then (2, 3)
  else if op ∈ [25] then (3, 3)
  else if op ∈ [27, 31, 32, 33, 34, 35, 41, 42, 47, 48, 49, 51, 52, 58, 59, 60, 61, 62, 84, 98] then (2, 1)
  else if op ∈ [29, 39, 40, 43, 44, 45, 46, 50, 63, 64, 65, 67, 92] then (1, 1)
  else if op ∈ [37, 93] then (3, 1)
  else if op ∈ [38, 55, 56, 57, 99] then (3, 2)
  else if op ∈ [70, 71] then (3, 0)
  else if op ∈ [94, 95, 96] then (4, 2)
  else (0, 0)

set_option maxHeartbeats 4000000 in
set_option maxRecDepth 100000 in
theorem Wants_walk (op : Int) (w : World) : Calls Tryz.prog 110 #[.int .i64 op] w (Same (.tuple #[.int .i64 (Code.wants op).1, .int .i64 (Code.wants op).2]) w) := by
  go_enter Tryz.func110, Tryz.ntmps110
  go_wp2
  all_goals go_ret2
  all_goals refine ⟨?_, rfl⟩
  all_goals first
    | (have hx := eq_of_beq ‹(op == _) = true›; rw [hx]; rfl)
    | skip
  all_goals simp only [beq_eq_false_iff_ne, ne_eq] at *
  all_goals simp [Code.wants, *]
end Go.Proofs.YthejfkkmcbdlhaaGreatDoor
/- Chapter 7: the program's Wants. No condition. -/
namespace Go.Proofs.YthejfkkmcbdlhaaGreatDoor
set_option linter.unusedVariables false
open Go.RowKit Go.Lib
theorem wants_out (op : Int) (h : Code.inOps op = false) (w : World) : Calls Tryz.prog 151 #[.int .i64 op] w (Same (.tuple #[.int .i64 0, .int .i64 0]) w) := by
  simp [Code.inOps] at h
  go_enter Tryz.func151, Tryz.ntmps151
  go_wp2
  all_goals go_ret2
  all_goals exact ⟨rfl, rfl⟩
def Code.takes : ByteArray := ⟨((List.range 106).map fun i : Nat => UInt8.ofNat (48 + (Code.wants ((i : Int) + 1)).1.toNat)).toArray⟩
def Code.lays : ByteArray := ⟨((List.range 106).map fun i : Nat => UInt8.ofNat (48 + (Code.wants ((i : Int) + 1)).2.toNat)).toArray⟩
theorem lit_takes : ({ data := ([48, 48, 48, 48, 49, 50, 50, 48, 49, 48, 48, 48, 49, 48, 48, 49, 48, 48, 48, 48, 49, 49, 50, 50, 51, 49, 50, 50, 49, 48, 50, 50, 50, 50, 50, 50, 51, 51, 49, 49, 50, 50, 49, 49, 49, 49, 50, 50, 50, 49, 50, 50, 50].append [50, 51, 51, 51, 50, 50, 50, 50, 50, 49, 49, 49, 50, 49, 50, 50, 51, 51, 48, 49, 49, 49, 48, 48, 49, 50, 49, 49, 50, 48, 50, 48, 50, 48, 49, 48, 48, 48, 49, 51, 52, 52, 52, 50, 50, 51, 49, 49, 49, 48, 48, 48, 48]).toArray } : ByteArray) = Code.takes := by kernel_rfl
theorem lit_takes' : ({ data := #[48, 48, 48, 48, 49, 50, 50, 48, 49, 48, 48, 48, 49, 48, 48, 49, 48, 48, 48, 48, 49, 49, 50, 50, 51, 49, 50, 50, 49, 48, 50, 50, 50, 50, 50, 50, 51, 51, 49, 49, 50, 50, 49, 49, 49, 49, 50, 50, 50, 49, 50, 50, 50, 50, 51, 51, 51, 50, 50, 50, 50, 50, 49, 49, 49, 50, 49, 50, 50, 51, 51, 48, 49, 49, 49, 48, 48, 49, 50, 49, 49, 50, 48, 50, 48, 50, 48, 49, 48, 48, 48, 49, 51, 52, 52, 52, 50, 50, 51, 49, 49, 49, 48, 48, 48, 48] } : ByteArray) = Code.takes := by kernel_rfl
theorem lit_lays : ({ data := ([48, 49, 48, 48, 48, 48, 48, 48, 48, 48, 49, 49, 48, 49, 49, 48, 49, 48, 50, 48, 50, 48, 50, 51, 51, 50, 49, 51, 49, 49, 49, 49, 49, 49, 49, 50, 49, 50, 49, 49, 49, 49, 49, 49, 49, 49, 49, 49, 49, 49, 49, 49, 50].append [50, 50, 50, 50, 49, 49, 49, 49, 49, 49, 49, 49, 48, 49, 48, 48, 48, 48, 49, 48, 48, 48, 48, 49, 48, 48, 48, 48, 48, 49, 49, 48, 50, 50, 48, 49, 49, 49, 49, 49, 50, 50, 50, 50, 49, 50, 48, 48, 48, 48, 50, 48, 48]).toArray } : ByteArray) = Code.lays := by kernel_rfl
theorem lit_lays' : ({ data := #[48, 49, 48, 48, 48, 48, 48, 48, 48, 48, 49, 49, 48, 49, 49, 48, 49, 48, 50, 48, 50, 48, 50, 51, 51, 50, 49, 51, 49, 49, 49, 49, 49, 49, 49, 50, 49, 50, 49, 49, 49, 49, 49, 49, 49, 49, 49, 49, 49, 49, 49, 49, 50, 50, 50, 50, 50, 49, 49, 49, 49, 49, 49, 49, 49, 48, 49, 48, 48, 48, 48, 49, 48, 48, 48, 48, 49, 48, 48, 48, 48, 48, 49, 49, 48, 50, 50, 48, 49, 49, 49, 49, 49, 50, 50, 50, 50, 49, 50, 48, 48, 48, 48, 50, 48, 48] } : ByteArray) = Code.lays := by kernel_rfl
theorem takes_size : Code.takes.size = 106 := by kernel_rfl
theorem lays_size : Code.lays.size = 106 := by kernel_rfl
theorem takes_at : ∀ i : Fin 106, (Code.takes.data.toList.getD i.val 0).toNat = 48 + (Code.wants ((i.val : Int) + 1)).1.toNat ∧ (Code.lays.data.toList.getD i.val 0).toNat = 48 + (Code.wants ((i.val : Int) + 1)).2.toNat ∧
    0 ≤ (Code.wants ((i.val : Int) + 1)).1 ∧ (Code.wants ((i.val : Int) + 1)).1 ≤ 4 ∧ 0 ≤ (Code.wants ((i.val : Int) + 1)).2 ∧ (Code.wants ((i.val : Int) + 1)).2 ≤ 4 := by decide +kernel
set_option maxHeartbeats 1000000 in
theorem wants_in (i : Nat) (hi : i < 106) (w : World) : Calls Tryz.prog 151 #[.int .i64 ((i : Int) + 1)] w fun e w' => e = .returned (.tuple #[.int .i64 (Code.wants ((i : Int) + 1)).1, .int .i64 (Code.wants ((i : Int) + 1)).2]) ∧ ∃ n, w' = w.drewN n := by
  have a1 : ((i : Int) + 1 < 1) = False := by simp; omega
  have a2 : ((107 : Int) ≤ (i : Int) + 1) = False := by simp; omega
  have e1 : wrap64 ((i : Int) + 1 - 1) = (i : Int) := by unfold wrap64; omega
  have i1 := fun w => idx_str Code.takes i (by rw [takes_size]; exact hi) w
  have i2 := fun w => idx_str Code.lays i (by rw [lays_size]; exact hi) w
  obtain ⟨k1, k2, k3⟩ := takes_at ⟨i, hi⟩
  simp only at k1 k2 k3
  rw [k1] at i1
  rw [k2] at i2
  clear k1 k2
  generalize Code.wants ((i : Int) + 1) = x at *
  obtain ⟨x, y⟩ := x
  have k3 := Lib.hid k3
  have i1 := Lib.hid i1
  have i2 := Lib.hid i2
  go_enter Tryz.func151, Tryz.ntmps151
  go_wp2
  first | rw [lit_takes, lit_lays] | rw [lit_takes', lit_lays']
  have i1 := i1.out
  have i2 := i2.out
  go_quiet (fail)
  clear i1 i2
  go_wp2
  go_ret2
  have k3 := k3.out
  have m1 : 48 + max x 0 - 48 = x := by omega
  have m2 : 48 + max y 0 - 48 = y := by omega
  refine ⟨?_, nq, rfl⟩
  rw [m1, m2]
  rfl
end Go.Proofs.YthejfkkmcbdlhaaGreatDoor
/- Objects in memory, each with the blocks that it lies in; several of them apart; what a call does to one of them leaves the others. Plain lemmas. -/
namespace Go.Proofs.YthejfkkmcbdlhaaGreatDoor
set_option linter.unusedVariables false
open Go.RowKit Go.Lib

/-- An object: when it lies in a world, over just the blocks F. -/
structure Asr where
  holds : World → (Nat → Prop) → Prop
  lt : ∀ {w F k}, holds w F → F k → k < w.heap.size
  kept : ∀ {w w' F T}, holds w F → Kept T w w' → (∀ k, F k → ¬ T k) → holds w' F

/-- a block that is known whole -/
def BlkA (g : Nat) (t : TypeId) (cs : Array Value) : Asr where
  holds w F := Blk w g t cs ∧ ∀ k, F k ↔ k = g
  lt h hk := by have := (h.2 _).1 hk; subst this; exact h.1.lt
  kept h hk hT := ⟨h.1.kept hk (hT _ ((h.2 _).2 rfl)), h.2⟩

def All : List Asr → World → (Nat → Prop) → Prop
  | [], _, F => ∀ k, ¬ F k
  | A :: L, w, F => ∃ F1 F2, A.holds w F1 ∧ All L w F2 ∧ (∀ k, F1 k → F2 k → False) ∧ ∀ k, F k ↔ F1 k ∨ F2 k

theorem All.lt : ∀ {L : List Asr} {w F k}, All L w F → F k → k < w.heap.size
  | [], _, _, _, h, hk => (h _ hk).elim
  | A :: L, _, _, _, ⟨F1, F2, h1, h2, _, hF⟩, hk => by
    rcases (hF _).1 hk with h | h
    · exact A.lt h1 h
    · exact All.lt h2 h
theorem All.kept : ∀ {L : List Asr} {w w' F T}, All L w F → Kept T w w' → (∀ k, F k → ¬ T k) → All L w' F
  | [], _, _, _, _, h, _, _ => h
  | A :: L, _, _, _, _, ⟨F1, F2, h1, h2, hd, hF⟩, hk, hT =>
    ⟨F1, F2, A.kept h1 hk (fun k h => hT k ((hF k).2 (.inl h))), All.kept h2 hk (fun k h => hT k ((hF k).2 (.inr h))), hd, hF⟩
theorem All.swap {A B : Asr} {L : List Asr} {w F} (h : All (A :: B :: L) w F) : All (B :: A :: L) w F := by
  obtain ⟨F1, F2, h1, ⟨F3, F4, h3, h4, hd2, hF2⟩, hd, hF⟩ := h
  refine ⟨F3, fun k => F1 k ∨ F4 k, h3, ⟨F1, F4, h1, h4, fun k a b => hd k a ((hF2 k).2 (.inr b)), fun k => Iff.rfl⟩, ?_, ?_⟩
  · intro k a b
    rcases b with b | b
    · exact hd k b ((hF2 k).2 (.inl a))
    · exact hd2 k a b
  · intro k
    rw [hF, hF2]
    constructor
    · rintro (h | h | h)
      · exact .inr (.inl h)
      · exact .inl h
      · exact .inr (.inr h)
    · rintro (h | h | h)
      · exact .inr (.inl h)
      · exact .inl h
      · exact .inr (.inr h)

/-- The objects of L lie in w; all of them are younger than w0; of what lay in w0 nothing has turned. -/
def At (w0 w : World) (L : List Asr) : Prop := ∃ F, All L w F ∧ (∀ k, F k → w0.heap.size ≤ k) ∧ Below w0.heap.size w0 w

/-- behind a call that works over the blocks F: some answer, and the object that is there then -/
def Post (R : Value → Asr → Prop) (F : Nat → Prop) (w : World) (e : Ending) (w' : World) : Prop :=
  ∃ v A' F', R v A' ∧ e = .returned v ∧ A'.holds w' F' ∧ Kept F w w' ∧ ∀ k, F' k → F k ∨ w.heap.size ≤ k

section
variable {P : Program} {f : FuncId} {args : Array Value} {w0 w w' : World} {A A' B C D : Asr} {L : List Asr} {R : Value → Asr → Prop}

theorem At.refl (w : World) : At w w [] := ⟨Nob, fun _ h => h, fun _ h => h.elim, Below.refl _ _⟩
theorem At.swap (h : At w0 w (A :: B :: L)) : At w0 w (B :: A :: L) := let ⟨F, h1, h2, h3⟩ := h; ⟨F, h1.swap, h2, h3⟩
theorem At.tail (h : At w0 w (A :: L)) : At w0 w L := by
  obtain ⟨F, ⟨F1, F2, h1, h2, hd, hF⟩, hb, hbl⟩ := h
  exact ⟨F2, h2, fun k hk => hb k ((hF k).2 (.inr hk)), hbl⟩
theorem At.cons {L L' : List Asr} (hL : ∀ w F, All L w F → All L' w F) (h : At w0 w (A :: L)) : At w0 w (A :: L') := by
  obtain ⟨F, ⟨F1, F2, h1, h2, hd, hF⟩, hb, hbl⟩ := h
  exact ⟨F, ⟨F1, F2, h1, hL _ _ h2, hd, hF⟩, hb, hbl⟩
/-- the third to the front -/
theorem At.rot3 (h : At w0 w (A :: B :: C :: L)) : At w0 w (C :: A :: B :: L) := (At.cons (fun _ _ => All.swap) h).swap
theorem At.rot4 (h : At w0 w (A :: B :: C :: D :: L)) : At w0 w (D :: A :: B :: C :: L) :=
  (At.cons (fun _ _ h => by obtain ⟨F1, F2, h1, h2, hd, hF⟩ := h; exact All.swap ⟨F1, F2, h1, h2.swap, hd, hF⟩) h).swap
theorem At.drop3 (h : At w0 w (A :: B :: C :: L)) : At w0 w (A :: B :: L) := h.rot3.tail
theorem At.below (h : At w0 w L) : Below w0.heap.size w0 w := let ⟨_, _, _, h3⟩ := h; h3
theorem At.keptNob (h : At w0 w L) (hk : Kept Nob w w') : At w0 w' L := by
  obtain ⟨F, h1, h2, h3⟩ := h
  exact ⟨F, h1.kept hk (fun _ _ h => h), h2, Below.andKept h3 hk (fun _ h => h.elim) (Nat.le_refl _)⟩
theorem At.drewN (h : At w0 w L) (n : Nat) : At w0 (w.drewN n) L := h.keptNob ((Kept.refl _ _).drewN n)
theorem At.drew (h : At w0 w L) : At w0 w.drew L := h.keptNob (Kept.refl _ _).drew
theorem At.alloc (h : At w0 w L) (o : Obj) : At w0 (w.alloc o) L := h.keptNob ((Kept.refl _ _).alloc o)

/-- a new object beside the others -/
theorem At.add (h : At w0 w L) {F' : Nat → Prop} (ha : A.holds w' F') (hk : Kept Nob w w') (hF' : ∀ k, F' k → w.heap.size ≤ k) : At w0 w' (A :: L) := by
  obtain ⟨F, h1, h2, h3⟩ := h
  refine ⟨fun k => F' k ∨ F k, ⟨F', F, ha, h1.kept hk (fun _ _ h => h), fun k a b => ?_, fun k => Iff.rfl⟩, ?_, Below.andKept h3 hk (fun _ h => h.elim) (Nat.le_refl _)⟩
  · have := hF' k a
    have := h1.lt b
    omega
  · intro k hk'
    rcases hk' with h | h
    · exact Nat.le_trans h3.size (hF' k h)
    · exact h2 k h
/-- the first object changed -/
theorem At.step_aux {F F1 F2 F' : Nat → Prop} (h2 : All L w F2) (hd : ∀ k, F1 k → F2 k → False) (hF : ∀ k, F k ↔ F1 k ∨ F2 k) (hb : ∀ k, F k → w0.heap.size ≤ k) (hbl : Below w0.heap.size w0 w)
    (ha : A'.holds w' F') (hk : Kept F1 w w') (hF' : ∀ k, F' k → F1 k ∨ w.heap.size ≤ k) : At w0 w' (A' :: L) := by
  refine ⟨fun k => F' k ∨ F2 k, ⟨F', F2, ha, h2.kept hk (fun k a b => hd k b a), fun k a b => ?_, fun k => Iff.rfl⟩, ?_, ?_⟩
  · rcases hF' k a with c | c
    · exact hd k c b
    · have := h2.lt b; omega
  · intro k hk'
    rcases hk' with h | h
    · rcases hF' k h with c | c
      · exact hb k ((hF k).2 (.inl c))
      · exact Nat.le_trans hbl.size c
    · exact hb k ((hF k).2 (.inr h))
  · exact Below.andKept hbl hk (fun k hk => hb k ((hF k).2 (.inl hk))) (Nat.le_refl _)
theorem At.step (h : At w0 w (A :: L)) (hs : ∀ F, A.holds w F → ∃ F', A'.holds w' F' ∧ Kept F w w' ∧ ∀ k, F' k → F k ∨ w.heap.size ≤ k) : At w0 w' (A' :: L) := by
  obtain ⟨F, ⟨F1, F2, h1, h2, hd, hF⟩, hb, hbl⟩ := h
  obtain ⟨F', ha, hk, hF'⟩ := hs F1 h1
  exact At.step_aux h2 hd hF hb hbl ha hk hF'

def Got (R : Value → Asr → Prop) (w0 : World) (L : List Asr) (e : Ending) (w' : World) : Prop := ∃ v A', R v A' ∧ e = .returned v ∧ At w0 w' (A' :: L)
/-- the same, of one answer and one object -/
def Got1 (v : Value) (A' : Asr) (w0 : World) (L : List Asr) (e : Ending) (w' : World) : Prop := e = .returned v ∧ At w0 w' (A' :: L)

/-- a call that works over the first object -/
theorem At.call (h : At w0 w (A :: L)) (hc : ∀ F, A.holds w F → Calls P f args w (Post R F w)) : Calls P f args w (Got R w0 L) := by
  obtain ⟨F, ⟨F1, F2, h1, h2, hd, hF⟩, hb, hbl⟩ := h
  refine (hc F1 h1).mono ?_
  rintro e w' ⟨v, A', F', hR, he, ha, hk, hF'⟩
  exact ⟨v, A', hR, he, At.step_aux h2 hd hF hb hbl ha hk hF'⟩
theorem At.call1 {v : Value} (h : At w0 w (A :: L)) (hc : ∀ F, A.holds w F → Calls P f args w (Post (fun u B => u = v ∧ B = A') F w)) : Calls P f args w (Got1 v A' w0 L) := by
  refine (At.call h hc).mono ?_
  rintro e w' ⟨u, B, ⟨rfl, rfl⟩, he, h⟩
  exact ⟨he, h⟩
/-- a call that works over nothing that is there, and makes an object -/
theorem At.make (h : At w0 w L) (hc : Calls P f args w (Post R Nob w)) : Calls P f args w (Got R w0 L) := by
  refine hc.mono ?_
  rintro e w' ⟨v, A', F', hR, he, ha, hk, hF'⟩
  exact ⟨v, A', hR, he, At.add h ha hk (fun k hk => (hF' k hk).elim (fun h => h.elim) id)⟩
/-- a box that the walk has laid -/
theorem At.box (h : At w0 w L) (cs : Array Value) (t : TypeId) : At w0 (w.alloc (.cells cs t)) (BlkA w.heap.size t cs :: L) :=
  h.add (A := BlkA w.heap.size t cs) (F' := fun k => k = w.heap.size) ⟨Blk.new w t cs, fun _ => Iff.rfl⟩ ((Kept.refl _ _).alloc _) (fun k hk => Nat.le_of_eq hk.symm)
theorem At.set {g : Nat} {t : TypeId} {cs : Array Value} (h : At w0 w (BlkA g t cs :: L)) (i : Nat) (u : Value) : At w0 (w.setCell ⟨g, i, none⟩ u) (BlkA g t (cs.setIfInBounds i u) :: L) :=
  h.step fun F hF => ⟨F, ⟨hF.1.set_ i u, hF.2⟩, Kept.setCell (Kept.refl _ _) (.inl ((hF.2 _).2 rfl)) _, fun _ h => .inl h⟩
theorem At.blk {g : Nat} {t : TypeId} {cs : Array Value} (h : At w0 w (BlkA g t cs :: L)) : Blk w g t cs := by
  obtain ⟨F, ⟨F1, F2, h1, _⟩, _⟩ := h
  exact h1.1
/-- the first object, alone -/
theorem At.first (h : At w0 w (A :: L)) : ∃ F, A.holds w F := by
  obtain ⟨F, ⟨F1, F2, h1, _⟩, _⟩ := h
  exact ⟨F1, h1⟩
/-- an old cell -/
theorem At.old (h : At w0 w L) {p : Addr} {v : Value} (hc : w0.cell? p = some v) : w.cell? p = some v :=
  (h.below.cell (World.block_lt_of_cell? w0 p hc)).trans hc
end
end Go.Proofs.YthejfkkmcbdlhaaGreatDoor
/- Chapter 6, the program's scan: a source, word by word. No condition but that the text is no longer than a string may be. -/
namespace Go.Proofs.YthejfkkmcbdlhaaGreatDoor
set_option linter.unusedVariables false
open Go.RowKit Go.Lib

/-- how many line feeds -/
def lfs (l : List UInt8) : Nat := l.count 10
/-- a source: its text, how far it has been read -/
def SrcA (g : Nat) (s : ByteArray) (at_ : Nat) : Asr := BlkA g 112 #[.string s, .int .i64 (at_ : Int), .int .i64 ((lfs (s.data.toList.take at_) : Nat) : Int)]
/-- how far one goes while p -/
def goesTo (p : UInt8 → Bool) (s : List UInt8) (i : Nat) : Nat := i + ((s.drop i).takeWhile p).length
def stepTo (s : List UInt8) (i : Nat) : Nat := if i < s.length then i + 1 else i

theorem lfs_next {s : List UInt8} {i : Nat} (h : i < s.length) : lfs (s.take (i + 1)) = lfs (s.take i) + (if s.getD i 0 = 10 then 1 else 0) := by
  unfold lfs
  rw [List.take_succ_eq_append_getElem h, List.count_append]
  congr 1
  have : s.getD i 0 = s[i] := by simp [List.getD, h]
  rw [this]
  by_cases e : s[i] = 10 <;> simp [e]

set_option maxHeartbeats 1000000 in
theorem step_walk (g : Nat) (s : ByteArray) (hs : s.size ≤ 140737488355327) (i : Nat) (hi : i ≤ s.size) (w : World) (F : Nat → Prop) (hb : (SrcA g s i).holds w F) :
    Calls Tryz.prog 95 #[.pointer (some ⟨g, 0, none⟩)] w (Post (fun u B => u = .tuple #[] ∧ B = SrcA g s (stepTo s.data.toList i)) F w) := by
  obtain ⟨hb, hF⟩ := hb
  have c0 := hb.cell 0
  have c1 := hb.cell 1
  have c2 := hb.cell 2
  have f0 := hb.frozen 0
  have f1 := hb.frozen 1
  have f2 := hb.frozen 2
  simp at c0 c1 c2
  have hl : s.data.toList.length = s.size := by rw [Lib.size_eq]
  by_cases hlt : i < s.size
  · have hix := fun w => idx_str s i hlt w
    have hle := lfs_next (s := s.data.toList) (i := i) (by omega)
    have hst : stepTo s.data.toList i = i + 1 := by unfold stepTo; rw [if_pos (by omega)]
    have hcnt : lfs (s.data.toList.take i) ≤ i := by
      unfold lfs
      refine Nat.le_trans List.count_le_length ?_
      simp; omega
    rw [hst]
    unfold SrcA
    rw [hle]
    clear hle hst
    generalize s.data.toList.getD i 0 = c at *
    generalize lfs (s.data.toList.take i) = n at *
    replace hl := Lib.hid hl
    replace hF := Lib.hid hF
    replace hb := Lib.hid hb
    by_cases hc : c = 10
    · subst hc
      go_enter Tryz.func95, Tryz.ntmps95
      go_wp2
      go_quiet (fail)
      go_wp2
      go_quiet (fail)
      go_wp2
      go_end0
      refine ⟨_, _, F, ⟨rfl, rfl⟩, rfl, ⟨?_, hF.out⟩, ?_, fun k h => .inl h⟩
      · simpa using ((hb.out.drewN _).set_ 2 _).set_ 1 _
      · exact Kept.setCell (Kept.setCell ((Kept.refl F w).drewN _) (.inl ((hF.out _).2 rfl)) _) (.inl ((hF.out _).2 rfl)) _
    · have hcb : ((c.toNat : Int) == 10) = false := by
        rw [beq_eq_false_iff_ne]
        intro e
        exact hc (UInt8.toNat_inj.1 (by simp; omega))
      go_enter Tryz.func95, Tryz.ntmps95
      go_wp2
      go_quiet (fail)
      go_wp2
      go_quiet (fail)
      go_wp2
      go_end0
      refine ⟨_, _, F, ⟨rfl, rfl⟩, rfl, ⟨?_, hF.out⟩, ?_, fun k h => .inl h⟩
      · simpa [hc] using (hb.out.drewN _).set_ 1 _
      · exact Kept.setCell ((Kept.refl F w).drewN _) (.inl ((hF.out _).2 rfl)) _
  · have hst : stepTo s.data.toList i = i := by unfold stepTo; rw [if_neg (by omega)]
    rw [hst]
    replace hl := Lib.hid hl
    replace hF := Lib.hid hF
    replace hb := Lib.hid hb
    go_enter Tryz.func95, Tryz.ntmps95
    go_wp2
    go_quiet (fail)
    go_wp2
    go_end0
    exact ⟨_, _, F, ⟨rfl, rfl⟩, rfl, ⟨hb.out.drewN _, hF.out⟩, (Kept.refl F w).drewN _, fun k h => .inl h⟩
end Go.Proofs.YthejfkkmcbdlhaaGreatDoor
/- Chapter 6, the program's scan: words. -/
namespace Go.Proofs.YthejfkkmcbdlhaaGreatDoor
set_option linter.unusedVariables false
open Go.RowKit Go.Lib
theorem goesTo_next {p : UInt8 → Bool} {s : List UInt8} {i : Nat} (h : i < s.length) (hp : p (s.getD i 0) = true) : goesTo p s (i + 1) = goesTo p s i := by
  unfold goesTo
  rw [List.drop_eq_getElem_cons h, List.takeWhile_cons]
  have : s.getD i 0 = s[i] := by simp [List.getD, h]
  rw [this] at hp
  rw [if_pos hp]
  simp
  omega
theorem goesTo_stop {p : UInt8 → Bool} {s : List UInt8} {i : Nat} (hp : s.length ≤ i ∨ p (s.getD i 0) = false) : goesTo p s i = i := by
  unfold goesTo
  by_cases h : i < s.length
  · rw [List.drop_eq_getElem_cons h, List.takeWhile_cons]
    have : s.getD i 0 = s[i] := by simp [List.getD, h]
    rw [this] at hp
    rw [if_neg (by rcases hp with hp | hp; omega; simp [hp])]
    rfl
  · rw [List.drop_eq_nil_of_le (by omega)]
    rfl
theorem goesTo_le {p : UInt8 → Bool} {s : List UInt8} {i : Nat} (hi : i ≤ s.length) : goesTo p s i ≤ s.length := by
  unfold goesTo
  have h := (List.takeWhile_sublist (p := p) (l := s.drop i)).length_le
  simp at h
  omega
theorem le_goesTo (p : UInt8 → Bool) (s : List UInt8) (i : Nat) : i ≤ goesTo p s i := by unfold goesTo; omega
-- GOES
def isLow (c : UInt8) : Bool := decide (c.toNat ≤ 32)
def isHigh (c : UInt8) : Bool := decide (32 < c.toNat)
def notLf (c : UInt8) : Bool := decide (c.toNat ≠ 10)
def notB (b c : UInt8) : Bool := decide (c ≠ b)
theorem lit_low (c : UInt8) (w : World) : Calls Tryz.prog 93 #[.int .u8 (c.toNat : Int)] w (Same (.bool (isLow c)) w) := by
  have e : decide ((c.toNat : Int) ≤ 32) = isLow c := by unfold isLow; rw [decide_eq_decide]; omega
  go_enter Tryz.func93, Tryz.ntmps93
  go_wp2
  all_goals go_ret
  all_goals exact ⟨by rw [← e]; simp; try omega, rfl⟩
theorem lit_high (c : UInt8) (w : World) : Calls Tryz.prog 94 #[.int .u8 (c.toNat : Int)] w (Same (.bool (isHigh c)) w) := by
  have e : decide ((c.toNat : Int) > 32) = isHigh c := by unfold isHigh; rw [decide_eq_decide]; omega
  go_enter Tryz.func94, Tryz.ntmps94
  go_wp2
  all_goals go_ret
  all_goals exact ⟨by rw [← e]; simp; try omega, rfl⟩
theorem lit_until (b : UInt8) (bb : Nat) (c : UInt8) (w : World) (h : w.cell? ⟨bb, 0, none⟩ = some (.int .u8 (b.toNat : Int))) : Calls Tryz.prog 130 #[.int .u8 (c.toNat : Int), .pointer (some ⟨bb, 0, none⟩)] w (Same (.bool (notB b c)) w) := by
  have e : ((c.toNat : Int) != (b.toNat : Int)) = notB b c := by
    unfold notB
    by_cases hc : c = b
    · simp [hc]
    · have : (c.toNat : Int) ≠ (b.toNat : Int) := fun h => hc (UInt8.toNat_inj.1 (by omega))
      simp only [ne_eq, hc, not_false_eq_true, decide_true]
      rw [bne_iff_ne]
      exact this
  go_enter Tryz.func130, Tryz.ntmps130
  go_wp2
  all_goals go_ret
  all_goals exact ⟨by rw [← e]; rfl, rfl⟩
theorem lf_eq (a : Int) : (a != 10) = decide (a ≠ 10) := by
  by_cases h : a = 10 <;> simp [bne, h]
theorem lit_lf (c : UInt8) (w : World) : Calls Tryz.prog 131 #[.int .u8 (c.toNat : Int)] w (Same (.bool (notLf c)) w) := by
  have e : decide ((c.toNat : Int) ≠ 10) = notLf c := by unfold notLf; rw [decide_eq_decide]; omega
  go_enter Tryz.func131, Tryz.ntmps131
  go_wp2
  all_goals go_ret
  all_goals exact ⟨by rw [← e, ← lf_eq]; rfl, rfl⟩
set_option maxHeartbeats 1000000 in
theorem goes_low (g : Nat) (s : ByteArray) (hs : s.size ≤ 140737488355327) (i : Nat) (hi : i ≤ s.size) (w : World) (F : Nat → Prop) (hb : (SrcA g s i).holds w F) :
    Calls Tryz.prog 92 #[.pointer (some ⟨g, 0, none⟩), .func (.func 93) #[] #[]] w
      (Post (fun u B => u = .string (s.extract i (goesTo isLow s.data.toList i)) ∧ B = SrcA g s (goesTo isLow s.data.toList i)) F w) := by
  have c1 := hb.1.cell 1
  simp at c1
  have hl : s.data.toList.length = s.size := by rw [Lib.size_eq]
  have hp := lit_low
  generalize isLow = p at *
  obtain ⟨e, he⟩ : ∃ e, goesTo p s.data.toList i = e := ⟨_, rfl⟩
  rw [he]
  have hes : e ≤ s.size := by rw [← he, ← hl]; exact goesTo_le (by omega)
  replace hb := Lib.hid hb
  replace hp := Lib.hid hp
  replace hl := Lib.hid hl
  replace he := Lib.hid he
  go_enter Tryz.func92, Tryz.ntmps92
  go_wp2
  clear c1
  go_loopw [] (fun wr => ∃ j : Nat, j ≤ s.size ∧ i ≤ j ∧ goesTo p s.data.toList j = e ∧ (SrcA g s j).holds wr F ∧ Kept F w wr) (fun wr => s.size - (match wr.cell? ⟨g, 1, none⟩ with | some v => (RowKit.intOf v).toNat | none => 0))
  case atStart => exact ⟨i, hi, Nat.le_refl _, he.out, hb.out, Kept.refl _ _⟩
  case round =>
    obtain ⟨j, hj, hij, hg, hR, hK⟩ := hrel
    have c0 := hR.1.cell 0
    have c1 := hR.1.cell 1
    simp at c0 c1
    replace hR := Lib.hid hR
    replace hK := Lib.hid hK
    replace hg := Lib.hid hg
    by_cases hlt : j < s.size
    · have hix := fun w => idx_str s j hlt w
      obtain ⟨c, hc⟩ : ∃ c, s.data.toList.getD j 0 = c := ⟨_, rfl⟩
      rw [hc] at hix
      replace hc := Lib.hid hc
      have hpc := hp.out c
      rcases hpb : p c with _ | _
      · rw [hpb] at hpc
        replace hpc := Lib.hid hpc
        have hje : j = e := by rw [← hg.out]; exact (goesTo_stop (.inr (by rw [hc.out, hpb]))).symm
        subst hje
        go_wp2
        go_quiet ((go_at_call 93; exact Calls.quiet_of_same (hpc.out _)))
        go_wp2
        go_quiet (fail)
        go_wp2
        go_ret
        refine ⟨_, _, F, ⟨rfl, rfl⟩, rfl, ⟨by first | exact hR.out.1 | exact hR.out.1.drewN nq | exact hR.out.1.drewN _, hR.out.2⟩, ?_, fun k h => .inl h⟩
        first | exact (hK.out.drewN _).drewN _ | exact hK.out.drewN _
      · rw [hpb] at hpc
        replace hpc := Lib.hid hpc
        go_wp2
        go_quiet ((go_at_call 93; exact Calls.quiet_of_same (hpc.out _)))
        have hst : stepTo s.data.toList j = j + 1 := by unfold stepTo; rw [if_pos (by rw [hl.out]; exact hlt)]
        have hnx := goesTo_next (p := p) (s := s.data.toList) (i := j) (by rw [hl.out]; exact hlt) (by rw [hc.out, hpb])
        rw [hg.out] at hnx
        have hsw := fun w (h : (SrcA g s j).holds w F) => step_walk g s hs j hj w F h
        rw [hst] at hsw
        replace hsw := Lib.hid hsw
        replace hnx := Lib.hid hnx
        clear hst
        go_wp2_with fail
        refine (hsw.out _ ⟨hR.out.1.drewN _, hR.out.2⟩).mono ?_
        rintro e2 w2 ⟨v, A', F', ⟨rfl, rfl⟩, rfl, h1, h2, -⟩
        have hd := h1.1.cell 1
        simp at hd
        replace h1 := Lib.hid h1
        replace h2 := Lib.hid h2
        go_wp2
        go_roundw
        case rel => exact ⟨j + 1, by omega, by omega, hnx.out, ⟨h1.out.1, hR.out.2⟩, (hK.out.drewN _).trans h2.out⟩
        case measure =>
          have hm : s.size - (j + 1) < s.size - j := by omega
          simpa [c1, hd, RowKit.intOf] using hm
    · have hje : j = e := by rw [← hg.out]; exact (goesTo_stop (.inl (by rw [hl.out]; omega))).symm
      subst hje
      go_wp2
      go_quiet (fail)
      go_wp2
      go_quiet (fail)
      go_wp2
      go_ret
      refine ⟨_, _, F, ⟨rfl, rfl⟩, rfl, ⟨by first | exact hR.out.1 | exact hR.out.1.drewN nq | exact hR.out.1.drewN _, hR.out.2⟩, ?_, fun k h => .inl h⟩
      first | exact (hK.out.drewN _).drewN _ | exact hK.out.drewN _
set_option maxHeartbeats 1000000 in
theorem goes_high (g : Nat) (s : ByteArray) (hs : s.size ≤ 140737488355327) (i : Nat) (hi : i ≤ s.size) (w : World) (F : Nat → Prop) (hb : (SrcA g s i).holds w F) :
    Calls Tryz.prog 92 #[.pointer (some ⟨g, 0, none⟩), .func (.func 94) #[] #[]] w
      (Post (fun u B => u = .string (s.extract i (goesTo isHigh s.data.toList i)) ∧ B = SrcA g s (goesTo isHigh s.data.toList i)) F w) := by
  have c1 := hb.1.cell 1
  simp at c1
  have hl : s.data.toList.length = s.size := by rw [Lib.size_eq]
  have hp := lit_high
  generalize isHigh = p at *
  obtain ⟨e, he⟩ : ∃ e, goesTo p s.data.toList i = e := ⟨_, rfl⟩
  rw [he]
  have hes : e ≤ s.size := by rw [← he, ← hl]; exact goesTo_le (by omega)
  replace hb := Lib.hid hb
  replace hp := Lib.hid hp
  replace hl := Lib.hid hl
  replace he := Lib.hid he
  go_enter Tryz.func92, Tryz.ntmps92
  go_wp2
  clear c1
  go_loopw [] (fun wr => ∃ j : Nat, j ≤ s.size ∧ i ≤ j ∧ goesTo p s.data.toList j = e ∧ (SrcA g s j).holds wr F ∧ Kept F w wr) (fun wr => s.size - (match wr.cell? ⟨g, 1, none⟩ with | some v => (RowKit.intOf v).toNat | none => 0))
  case atStart => exact ⟨i, hi, Nat.le_refl _, he.out, hb.out, Kept.refl _ _⟩
  case round =>
    obtain ⟨j, hj, hij, hg, hR, hK⟩ := hrel
    have c0 := hR.1.cell 0
    have c1 := hR.1.cell 1
    simp at c0 c1
    replace hR := Lib.hid hR
    replace hK := Lib.hid hK
    replace hg := Lib.hid hg
    by_cases hlt : j < s.size
    · have hix := fun w => idx_str s j hlt w
      obtain ⟨c, hc⟩ : ∃ c, s.data.toList.getD j 0 = c := ⟨_, rfl⟩
      rw [hc] at hix
      replace hc := Lib.hid hc
      have hpc := hp.out c
      rcases hpb : p c with _ | _
      · rw [hpb] at hpc
        replace hpc := Lib.hid hpc
        have hje : j = e := by rw [← hg.out]; exact (goesTo_stop (.inr (by rw [hc.out, hpb]))).symm
        subst hje
        go_wp2
        go_quiet ((go_at_call 94; exact Calls.quiet_of_same (hpc.out _)))
        go_wp2
        go_quiet (fail)
        go_wp2
        go_ret
        refine ⟨_, _, F, ⟨rfl, rfl⟩, rfl, ⟨by first | exact hR.out.1 | exact hR.out.1.drewN nq | exact hR.out.1.drewN _, hR.out.2⟩, ?_, fun k h => .inl h⟩
        first | exact (hK.out.drewN _).drewN _ | exact hK.out.drewN _
      · rw [hpb] at hpc
        replace hpc := Lib.hid hpc
        go_wp2
        go_quiet ((go_at_call 94; exact Calls.quiet_of_same (hpc.out _)))
        have hst : stepTo s.data.toList j = j + 1 := by unfold stepTo; rw [if_pos (by rw [hl.out]; exact hlt)]
        have hnx := goesTo_next (p := p) (s := s.data.toList) (i := j) (by rw [hl.out]; exact hlt) (by rw [hc.out, hpb])
        rw [hg.out] at hnx
        have hsw := fun w (h : (SrcA g s j).holds w F) => step_walk g s hs j hj w F h
        rw [hst] at hsw
        replace hsw := Lib.hid hsw
        replace hnx := Lib.hid hnx
        clear hst
        go_wp2_with fail
        refine (hsw.out _ ⟨hR.out.1.drewN _, hR.out.2⟩).mono ?_
        rintro e2 w2 ⟨v, A', F', ⟨rfl, rfl⟩, rfl, h1, h2, -⟩
        have hd := h1.1.cell 1
        simp at hd
        replace h1 := Lib.hid h1
        replace h2 := Lib.hid h2
        go_wp2
        go_roundw
        case rel => exact ⟨j + 1, by omega, by omega, hnx.out, ⟨h1.out.1, hR.out.2⟩, (hK.out.drewN _).trans h2.out⟩
        case measure =>
          have hm : s.size - (j + 1) < s.size - j := by omega
          simpa [c1, hd, RowKit.intOf] using hm
    · have hje : j = e := by rw [← hg.out]; exact (goesTo_stop (.inl (by rw [hl.out]; omega))).symm
      subst hje
      go_wp2
      go_quiet (fail)
      go_wp2
      go_quiet (fail)
      go_wp2
      go_ret
      refine ⟨_, _, F, ⟨rfl, rfl⟩, rfl, ⟨by first | exact hR.out.1 | exact hR.out.1.drewN nq | exact hR.out.1.drewN _, hR.out.2⟩, ?_, fun k h => .inl h⟩
      first | exact (hK.out.drewN _).drewN _ | exact hK.out.drewN _
set_option maxHeartbeats 1000000 in
theorem goes_lf (g : Nat) (s : ByteArray) (hs : s.size ≤ 140737488355327) (i : Nat) (hi : i ≤ s.size) (w : World) (F : Nat → Prop) (hb : (SrcA g s i).holds w F) :
    Calls Tryz.prog 92 #[.pointer (some ⟨g, 0, none⟩), .func (.func 131) #[] #[]] w
      (Post (fun u B => u = .string (s.extract i (goesTo notLf s.data.toList i)) ∧ B = SrcA g s (goesTo notLf s.data.toList i)) F w) := by
  have c1 := hb.1.cell 1
  simp at c1
  have hl : s.data.toList.length = s.size := by rw [Lib.size_eq]
  have hp := lit_lf
  generalize notLf = p at *
  obtain ⟨e, he⟩ : ∃ e, goesTo p s.data.toList i = e := ⟨_, rfl⟩
  rw [he]
  have hes : e ≤ s.size := by rw [← he, ← hl]; exact goesTo_le (by omega)
  replace hb := Lib.hid hb
  replace hp := Lib.hid hp
  replace hl := Lib.hid hl
  replace he := Lib.hid he
  go_enter Tryz.func92, Tryz.ntmps92
  go_wp2
  clear c1
  go_loopw [] (fun wr => ∃ j : Nat, j ≤ s.size ∧ i ≤ j ∧ goesTo p s.data.toList j = e ∧ (SrcA g s j).holds wr F ∧ Kept F w wr) (fun wr => s.size - (match wr.cell? ⟨g, 1, none⟩ with | some v => (RowKit.intOf v).toNat | none => 0))
  case atStart => exact ⟨i, hi, Nat.le_refl _, he.out, hb.out, Kept.refl _ _⟩
  case round =>
    obtain ⟨j, hj, hij, hg, hR, hK⟩ := hrel
    have c0 := hR.1.cell 0
    have c1 := hR.1.cell 1
    simp at c0 c1
    replace hR := Lib.hid hR
    replace hK := Lib.hid hK
    replace hg := Lib.hid hg
    by_cases hlt : j < s.size
    · have hix := fun w => idx_str s j hlt w
      obtain ⟨c, hc⟩ : ∃ c, s.data.toList.getD j 0 = c := ⟨_, rfl⟩
      rw [hc] at hix
      replace hc := Lib.hid hc
      have hpc := hp.out c
      rcases hpb : p c with _ | _
      · rw [hpb] at hpc
        replace hpc := Lib.hid hpc
        have hje : j = e := by rw [← hg.out]; exact (goesTo_stop (.inr (by rw [hc.out, hpb]))).symm
        subst hje
        go_wp2
        go_quiet ((go_at_call 131; exact Calls.quiet_of_same (hpc.out _)))
        go_wp2
        go_quiet (fail)
        go_wp2
        go_ret
        refine ⟨_, _, F, ⟨rfl, rfl⟩, rfl, ⟨by first | exact hR.out.1 | exact hR.out.1.drewN nq | exact hR.out.1.drewN _, hR.out.2⟩, ?_, fun k h => .inl h⟩
        first | exact (hK.out.drewN _).drewN _ | exact hK.out.drewN _
      · rw [hpb] at hpc
        replace hpc := Lib.hid hpc
        go_wp2
        go_quiet ((go_at_call 131; exact Calls.quiet_of_same (hpc.out _)))
        have hst : stepTo s.data.toList j = j + 1 := by unfold stepTo; rw [if_pos (by rw [hl.out]; exact hlt)]
        have hnx := goesTo_next (p := p) (s := s.data.toList) (i := j) (by rw [hl.out]; exact hlt) (by rw [hc.out, hpb])
        rw [hg.out] at hnx
        have hsw := fun w (h : (SrcA g s j).holds w F) => step_walk g s hs j hj w F h
        rw [hst] at hsw
        replace hsw := Lib.hid hsw
        replace hnx := Lib.hid hnx
        clear hst
        go_wp2_with fail
        refine (hsw.out _ ⟨hR.out.1.drewN _, hR.out.2⟩).mono ?_
        rintro e2 w2 ⟨v, A', F', ⟨rfl, rfl⟩, rfl, h1, h2, -⟩
        have hd := h1.1.cell 1
        simp at hd
        replace h1 := Lib.hid h1
        replace h2 := Lib.hid h2
        go_wp2
        go_roundw
        case rel => exact ⟨j + 1, by omega, by omega, hnx.out, ⟨h1.out.1, hR.out.2⟩, (hK.out.drewN _).trans h2.out⟩
        case measure =>
          have hm : s.size - (j + 1) < s.size - j := by omega
          simpa [c1, hd, RowKit.intOf] using hm
    · have hje : j = e := by rw [← hg.out]; exact (goesTo_stop (.inl (by rw [hl.out]; omega))).symm
      subst hje
      go_wp2
      go_quiet (fail)
      go_wp2
      go_quiet (fail)
      go_wp2
      go_ret
      refine ⟨_, _, F, ⟨rfl, rfl⟩, rfl, ⟨by first | exact hR.out.1 | exact hR.out.1.drewN nq | exact hR.out.1.drewN _, hR.out.2⟩, ?_, fun k h => .inl h⟩
      first | exact (hK.out.drewN _).drewN _ | exact hK.out.drewN _
set_option maxHeartbeats 1000000 in
theorem goes_until (b : UInt8) (bb : Nat) (g : Nat) (s : ByteArray) (hs : s.size ≤ 140737488355327) (i : Nat) (hi : i ≤ s.size) (w : World) (F : Nat → Prop) (hb : (SrcA g s i).holds w F) (hcell : w.cell? ⟨bb, 0, none⟩ = some (.int .u8 (b.toNat : Int))) (hne : bb ≠ g) :
    Calls Tryz.prog 92 #[.pointer (some ⟨g, 0, none⟩), .func (.func 130) #[] #[.pointer (some ⟨bb, 0, none⟩)]] w
      (Post (fun u B => u = .string (s.extract i (goesTo (notB b) s.data.toList i)) ∧ B = SrcA g s (goesTo (notB b) s.data.toList i)) F w) := by
  have c1 := hb.1.cell 1
  simp at c1
  have hl : s.data.toList.length = s.size := by rw [Lib.size_eq]
  have hp := lit_until b bb
  generalize (notB b) = p at *
  obtain ⟨e, he⟩ : ∃ e, goesTo p s.data.toList i = e := ⟨_, rfl⟩
  rw [he]
  have hes : e ≤ s.size := by rw [← he, ← hl]; exact goesTo_le (by omega)
  replace hb := Lib.hid hb
  replace hp := Lib.hid hp
  replace hcell := Lib.hid hcell
  replace hl := Lib.hid hl
  replace he := Lib.hid he
  go_enter Tryz.func92, Tryz.ntmps92
  go_wp2
  clear c1
  go_loopw [] (fun wr => ∃ j : Nat, j ≤ s.size ∧ i ≤ j ∧ goesTo p s.data.toList j = e ∧ (SrcA g s j).holds wr F ∧ Kept F w wr) (fun wr => s.size - (match wr.cell? ⟨g, 1, none⟩ with | some v => (RowKit.intOf v).toNat | none => 0))
  case atStart => exact ⟨i, hi, Nat.le_refl _, he.out, hb.out, Kept.refl _ _⟩
  case round =>
    obtain ⟨j, hj, hij, hg, hR, hK⟩ := hrel
    have hcb := hK.cell hcell.out (fun h => hne ((hR.2 _).1 h))
    have c0 := hR.1.cell 0
    have c1 := hR.1.cell 1
    simp at c0 c1
    replace hR := Lib.hid hR
    replace hK := Lib.hid hK
    replace hcb := Lib.hid hcb
    replace hg := Lib.hid hg
    by_cases hlt : j < s.size
    · have hix := fun w => idx_str s j hlt w
      obtain ⟨c, hc⟩ : ∃ c, s.data.toList.getD j 0 = c := ⟨_, rfl⟩
      rw [hc] at hix
      replace hc := Lib.hid hc
      have hpc := hp.out c
      rcases hpb : p c with _ | _
      · rw [hpb] at hpc
        replace hpc := Lib.hid hpc
        have hje : j = e := by rw [← hg.out]; exact (goesTo_stop (.inr (by rw [hc.out, hpb]))).symm
        subst hje
        go_wp2
        go_quiet ((go_at_call 130; exact Calls.quiet_of_same (hpc.out _ hcb.out)))
        go_wp2
        go_quiet (fail)
        go_wp2
        go_ret
        refine ⟨_, _, F, ⟨rfl, rfl⟩, rfl, ⟨by first | exact hR.out.1 | exact hR.out.1.drewN nq | exact hR.out.1.drewN _, hR.out.2⟩, ?_, fun k h => .inl h⟩
        first | exact (hK.out.drewN _).drewN _ | exact hK.out.drewN _
      · rw [hpb] at hpc
        replace hpc := Lib.hid hpc
        go_wp2
        go_quiet ((go_at_call 130; exact Calls.quiet_of_same (hpc.out _ hcb.out)))
        have hst : stepTo s.data.toList j = j + 1 := by unfold stepTo; rw [if_pos (by rw [hl.out]; exact hlt)]
        have hnx := goesTo_next (p := p) (s := s.data.toList) (i := j) (by rw [hl.out]; exact hlt) (by rw [hc.out, hpb])
        rw [hg.out] at hnx
        have hsw := fun w (h : (SrcA g s j).holds w F) => step_walk g s hs j hj w F h
        rw [hst] at hsw
        replace hsw := Lib.hid hsw
        replace hnx := Lib.hid hnx
        clear hst
        go_wp2_with fail
        refine (hsw.out _ ⟨hR.out.1.drewN _, hR.out.2⟩).mono ?_
        rintro e2 w2 ⟨v, A', F', ⟨rfl, rfl⟩, rfl, h1, h2, -⟩
        have hd := h1.1.cell 1
        simp at hd
        replace h1 := Lib.hid h1
        replace h2 := Lib.hid h2
        go_wp2
        go_roundw
        case rel => exact ⟨j + 1, by omega, by omega, hnx.out, ⟨h1.out.1, hR.out.2⟩, (hK.out.drewN _).trans h2.out⟩
        case measure =>
          have hm : s.size - (j + 1) < s.size - j := by omega
          simpa [c1, hd, RowKit.intOf] using hm
    · have hje : j = e := by rw [← hg.out]; exact (goesTo_stop (.inl (by rw [hl.out]; omega))).symm
      subst hje
      go_wp2
      go_quiet (fail)
      go_wp2
      go_quiet (fail)
      go_wp2
      go_ret
      refine ⟨_, _, F, ⟨rfl, rfl⟩, rfl, ⟨by first | exact hR.out.1 | exact hR.out.1.drewN nq | exact hR.out.1.drewN _, hR.out.2⟩, ?_, fun k h => .inl h⟩
      first | exact (hK.out.drewN _).drewN _ | exact hK.out.drewN _
end Go.Proofs.YthejfkkmcbdlhaaGreatDoor
/- Chapter 6, the program's scan: New, Word, Rest, Until. -/
namespace Go.Proofs.YthejfkkmcbdlhaaGreatDoor
set_option linter.unusedVariables false
open Go.RowKit Go.Lib

def wordFrom (s : List UInt8) (i : Nat) : Nat := goesTo isLow s i
def wordTo (s : List UInt8) (i : Nat) : Nat := goesTo isHigh s (wordFrom s i)
def wordEnd (s : List UInt8) (i : Nat) : Nat := stepTo s (wordTo s i)
def restEnd (s : List UInt8) (i : Nat) : Nat := stepTo s (goesTo notLf s i)
theorem stepTo_le {s : List UInt8} {i : Nat} (h : i ≤ s.length) : stepTo s i ≤ s.length := by unfold stepTo; split <;> omega
theorem le_stepTo (s : List UInt8) (i : Nat) : i ≤ stepTo s i := by unfold stepTo; split <;> omega

theorem new_walk (s : ByteArray) (hs : s.size ≤ 60000) (w : World) : Calls Tryz.prog 34 #[.string s] w (Post (fun u B => ∃ g, u = .tuple #[.pointer (some ⟨g, 0, none⟩), .int .i64 0] ∧ B = SrcA g s 0) Nob w) := by
  go_enter Tryz.func34, Tryz.ntmps34
  go_wp2
  go_ret2
  refine ⟨_, _, fun k => k = w.heap.size, ⟨w.heap.size, rfl, rfl⟩, rfl, ⟨?_, fun _ => Iff.rfl⟩, (Kept.refl _ _).alloc _, fun k h => .inr (by omega)⟩
  exact Blk.new w _ _
theorem new_long (s : ByteArray) (hs : 60000 < s.size) (w : World) : Calls Tryz.prog 34 #[.string s] w (Same (.tuple #[.pointer none, .int .i64 2]) w) := by
  go_enter Tryz.func34, Tryz.ntmps34
  go_wp2
  go_ret2
  exact ⟨rfl, rfl⟩
set_option maxHeartbeats 1000000 in
theorem word_walk (g : Nat) (s : ByteArray) (hs : s.size ≤ 140737488355327) (i : Nat) (hi : i ≤ s.size) (w : World) (F : Nat → Prop) (hb : (SrcA g s i).holds w F) :
    Calls Tryz.prog 60 #[.pointer (some ⟨g, 0, none⟩)] w
      (Post (fun u B => u = .tuple #[.string (s.extract (wordFrom s.data.toList i) (wordTo s.data.toList i)), .int .i64 ((wordEnd s.data.toList i : Nat) - (i : Int))] ∧ B = SrcA g s (wordEnd s.data.toList i)) F w) := by
  have c1 := hb.1.cell 1
  simp at c1
  have hl : s.data.toList.length = s.size := by rw [Lib.size_eq]
  have b1 : wordFrom s.data.toList i ≤ s.size := by unfold wordFrom; rw [← hl]; exact goesTo_le (by omega)
  have b2 : wordTo s.data.toList i ≤ s.size := by unfold wordTo; rw [← hl]; exact goesTo_le (by rw [hl]; exact b1)
  have b3 : wordEnd s.data.toList i ≤ s.size := by unfold wordEnd; rw [← hl]; exact stepTo_le (by rw [hl]; exact b2)
  have b4 : i ≤ wordEnd s.data.toList i := Nat.le_trans (le_goesTo isLow _ _) (Nat.le_trans (le_goesTo isHigh _ _) (le_stepTo _ _))
  have g1 := goes_low g s hs i hi w F hb
  have g2 := fun w h => goes_high g s hs (wordFrom s.data.toList i) b1 w F h
  have g3 := fun w h => step_walk g s hs (wordTo s.data.toList i) b2 w F h
  change Calls _ _ _ _ (Post (fun u B => u = .string (s.extract i (wordFrom s.data.toList i)) ∧ B = SrcA g s (wordFrom s.data.toList i)) F w) at g1
  change ∀ w, _ → Calls _ _ _ _ (Post (fun u B => u = .string (s.extract (wordFrom s.data.toList i) (wordTo s.data.toList i)) ∧ B = SrcA g s (wordTo s.data.toList i)) F w) at g2
  change ∀ w, _ → Calls _ _ _ _ (Post (fun u B => u = .tuple #[] ∧ B = SrcA g s (wordEnd s.data.toList i)) F w) at g3
  generalize wordFrom s.data.toList i = a at *
  generalize wordTo s.data.toList i = b at *
  generalize wordEnd s.data.toList i = c at *
  have hF := hb.2
  replace g1 := Lib.hid g1
  replace g2 := Lib.hid g2
  replace g3 := Lib.hid g3
  replace hF := Lib.hid hF
  clear hl hb
  go_enter Tryz.func60, Tryz.ntmps60
  go_wp2_with fail
  refine g1.out.mono ?_
  rintro e1 w1 ⟨v1, A1, F1, ⟨rfl, rfl⟩, rfl, h1, k1, -⟩
  replace h1 := Lib.hid h1.1
  replace k1 := Lib.hid k1
  go_wp2_with fail
  refine (g2.out _ ⟨h1.out, hF.out⟩).mono ?_
  rintro e2 w2 ⟨v2, A2, F2, ⟨rfl, rfl⟩, rfl, h2, k2, -⟩
  replace h2 := Lib.hid h2.1
  replace k2 := Lib.hid (k1.out.trans k2)
  go_wp2_with fail
  refine (g3.out _ ⟨h2.out, hF.out⟩).mono ?_
  rintro e3 w3 ⟨v3, A3, F3, ⟨rfl, rfl⟩, rfl, h3, k3, -⟩
  replace h3 := h3.1
  replace k3 := Lib.hid (k2.out.trans k3)
  have d1 := h3.cell 1
  simp at d1
  replace h3 := Lib.hid h3
  go_wp2
  go_quiet (fail)
  go_wp2
  go_ret2
  exact ⟨_, _, F, ⟨rfl, rfl⟩, rfl, ⟨h3.out.drewN _, hF.out⟩, k3.out.drewN _, fun k h => .inl h⟩
set_option maxHeartbeats 1000000 in
theorem rest_walk (g : Nat) (s : ByteArray) (hs : s.size ≤ 140737488355327) (i : Nat) (hi : i ≤ s.size) (w : World) (F : Nat → Prop) (hb : (SrcA g s i).holds w F) :
    Calls Tryz.prog 101 #[.pointer (some ⟨g, 0, none⟩)] w
      (Post (fun u B => u = .int .i64 ((restEnd s.data.toList i : Nat) - (i : Int)) ∧ B = SrcA g s (restEnd s.data.toList i)) F w) := by
  have c1 := hb.1.cell 1
  simp at c1
  have hl : s.data.toList.length = s.size := by rw [Lib.size_eq]
  have b1 : goesTo notLf s.data.toList i ≤ s.size := by rw [← hl]; exact goesTo_le (by omega)
  have b3 : restEnd s.data.toList i ≤ s.size := by unfold restEnd; rw [← hl]; exact stepTo_le (by rw [hl]; exact b1)
  have b4 : i ≤ restEnd s.data.toList i := Nat.le_trans (le_goesTo notLf _ _) (le_stepTo _ _)
  have g1 := goes_lf g s hs i hi w F hb
  have g3 := fun w h => step_walk g s hs (goesTo notLf s.data.toList i) b1 w F h
  change ∀ w, _ → Calls _ _ _ _ (Post (fun u B => u = .tuple #[] ∧ B = SrcA g s (restEnd s.data.toList i)) F w) at g3
  generalize restEnd s.data.toList i = c at *
  generalize goesTo notLf s.data.toList i = a at *
  have hF := hb.2
  replace g1 := Lib.hid g1
  replace g3 := Lib.hid g3
  replace hF := Lib.hid hF
  clear hl hb
  go_enter Tryz.func101, Tryz.ntmps101
  go_wp2_with fail
  refine g1.out.mono ?_
  rintro e1 w1 ⟨v1, A1, F1, ⟨rfl, rfl⟩, rfl, h1, k1, -⟩
  replace h1 := Lib.hid h1.1
  replace k1 := Lib.hid k1
  go_wp2_with fail
  refine (g3.out _ ⟨h1.out, hF.out⟩).mono ?_
  rintro e3 w3 ⟨v3, A3, F3, ⟨rfl, rfl⟩, rfl, h3, k3, -⟩
  replace h3 := h3.1
  replace k3 := Lib.hid (k1.out.trans k3)
  have d1 := h3.cell 1
  simp at d1
  replace h3 := Lib.hid h3
  go_wp2
  go_ret
  exact ⟨_, _, F, ⟨rfl, rfl⟩, rfl, ⟨h3.out, hF.out⟩, k3.out, fun k h => .inl h⟩
end Go.Proofs.YthejfkkmcbdlhaaGreatDoor
/- Chapter 6, the program's scan: Until. -/
namespace Go.Proofs.YthejfkkmcbdlhaaGreatDoor
set_option linter.unusedVariables false
open Go.RowKit Go.Lib

set_option maxHeartbeats 2000000 in
theorem until_found (b : UInt8) (g : Nat) (s : ByteArray) (hs : s.size ≤ 140737488355327) (i : Nat) (hi : i ≤ s.size) (w : World) (F : Nat → Prop) (hb : (SrcA g s i).holds w F) (hlt : goesTo (notB b) s.data.toList i < s.size) :
    Calls Tryz.prog 100 #[.pointer (some ⟨g, 0, none⟩), .int .u8 (b.toNat : Int)] w
      (Post (fun u B => u = .tuple #[.string (s.extract i (goesTo (notB b) s.data.toList i)), .int .i64 ((goesTo (notB b) s.data.toList i + 1 : Nat) - (i : Int)), .int .i64 0] ∧ B = SrcA g s (goesTo (notB b) s.data.toList i + 1)) F w) := by
  have hbx := fun o => hb.1.alloc o
  have cA1 := fun o => (hbx o).cell 1
  have cA2 := fun o => (hbx o).cell 2
  simp at cA1 cA2
  have hF := hb.2
  have hlg := hb.1.lt
  have hnF : ∀ k, w.heap.size ≤ k → ¬ F k := fun k hk h => by have := (hF k).1 h; omega
  have hie := le_goesTo (notB b) s.data.toList i
  have hl : s.data.toList.length = s.size := by rw [Lib.size_eq]
  have g1 := goes_until b w.heap.size g s hs i hi ((w.alloc (Obj.cells #[Value.int IntKind.u8 ↑b.toNat] 5)).alloc (Obj.cells #[Value.int IntKind.i64 ↑i, Value.int IntKind.i64 ↑(lfs (List.take i s.data.toList))] 110)) F ⟨(hbx _).alloc _, hF⟩ (((Blk.new w _ _).alloc _).cell 0) (by omega)
  have hst : stepTo s.data.toList (goesTo (notB b) s.data.toList i) = goesTo (notB b) s.data.toList i + 1 := by unfold stepTo; rw [if_pos (by omega)]
  have g3 := fun w h => step_walk g s hs (goesTo (notB b) s.data.toList i) (by omega) w F h
  rw [hst] at g3
  clear hst hl
  generalize goesTo (notB b) s.data.toList i = e at *
  have hne : (((e + 1 : Nat) : Int) == (e : Int)) = false := by rw [beq_eq_false_iff_ne]; omega
  obtain ⟨l0, hl0⟩ : ∃ l0 : Int, ((lfs (List.take i s.data.toList) : Nat) : Int) = l0 := ⟨_, rfl⟩
  obtain ⟨l1, hl1⟩ : ∃ l1 : Int, ((lfs (List.take e s.data.toList) : Nat) : Int) = l1 := ⟨_, rfl⟩
  obtain ⟨l2, hl2⟩ : ∃ l2 : Int, ((lfs (List.take (e + 1) s.data.toList) : Nat) : Int) = l2 := ⟨_, rfl⟩
  rw [hl0] at cA2 g1
  replace hbx := Lib.hid hbx
  replace hF := Lib.hid hF
  replace hnF := Lib.hid hnF
  replace g1 := Lib.hid g1
  replace g3 := Lib.hid g3
  replace hl0 := Lib.hid hl0
  replace hl1 := Lib.hid hl1
  replace hl2 := Lib.hid hl2
  clear hb
  have kA : Kept F w ((w.alloc (Obj.cells #[Value.int IntKind.u8 ↑b.toNat] 5)).alloc (Obj.cells #[Value.int IntKind.i64 ↑i, Value.int IntKind.i64 l0] 110)) := ((Kept.refl F w).alloc _).alloc _
  have hW := Blk.new' (w := w.alloc (Obj.cells #[Value.int IntKind.u8 ↑b.toNat] 5)) (g := w.heap.size + 1) (t := 110) (cs := #[Value.int IntKind.i64 ↑i, Value.int IntKind.i64 l0]) (by simp)
  replace kA := Lib.hid kA
  replace hW := Lib.hid hW
  go_enter Tryz.func100, Tryz.ntmps100
  go_wp2_with fail
  refine g1.out.mono ?_
  rintro e1 w1 ⟨v1, A1, F1, ⟨rfl, rfl⟩, rfl, h1, k1, -⟩
  have hW1 := Lib.hid (hW.out.kept k1 (hnF.out _ (by omega)))
  replace h1 := h1.1
  rw [hl1.out] at h1
  have cB1 := fun o => (h1.alloc o).cell 1
  have cB2 := fun o => (h1.alloc o).cell 2
  have cC1 := h1.cell 1
  have cC2 := h1.cell 2
  simp at cB1 cB2 cC1 cC2
  have hs1 := k1.size
  simp at hs1
  replace h1 := Lib.hid h1
  replace k1 := Lib.hid (kA.out.trans k1)
  clear hW kA cA1 cA2
  go_wp2_with fail
  refine (g3.out _ ⟨by rw [hl1.out]; exact h1.out.alloc _, hF.out⟩).mono ?_
  rintro e2 w2 ⟨v2, A2, F2, ⟨rfl, rfl⟩, rfl, h2, k2, -⟩
  have hW2 := (hW1.out.alloc (Obj.cells #[Value.int IntKind.i64 ↑e, Value.int IntKind.i64 l1] 110)).kept k2 (hnF.out _ (by omega))
  have hB2 := (Blk.new w1 110 #[Value.int IntKind.i64 ↑e, Value.int IntKind.i64 l1]).kept k2 (hnF.out _ (by omega))
  replace h2 := h2.1
  rw [hl2.out] at h2
  have d1 := h2.cell 1
  have d2 := h2.cell 2
  have x0 := hW2.cell 0
  have x1 := hW2.cell 1
  have y0 := hB2.cell 0
  have y1 := hB2.cell 1
  simp at x0 x1 y0 y1
  simp only [List.getElem?_toArray, List.getElem?_cons_succ, List.getElem?_cons_zero] at d1 d2
  replace h2 := Lib.hid h2
  replace k2 := Lib.hid ((k1.out.alloc _).trans k2)
  clear hW1 hW2 hB2 cB1 cB2 cC1 cC2 hs1
  go_wp2
  go_quiet (fail)
  go_wp2
  go_quiet (fail)
  go_wp2
  go_ret3
  refine ⟨_, _, F, ⟨rfl, rfl⟩, by simp, ⟨?_, hF.out⟩, (k2.out.drewN _).drewN _, fun k h => .inl h⟩
  rw [hl2.out]
  exact (h2.out.drewN _).drewN _
set_option maxHeartbeats 2000000 in
theorem until_none (b : UInt8) (g : Nat) (s : ByteArray) (hs : s.size ≤ 140737488355327) (i : Nat) (hi : i ≤ s.size) (w : World) (F : Nat → Prop) (hb : (SrcA g s i).holds w F) (hge : s.size ≤ goesTo (notB b) s.data.toList i) :
    Calls Tryz.prog 100 #[.pointer (some ⟨g, 0, none⟩), .int .u8 (b.toNat : Int)] w
      (Post (fun u B => u = .tuple #[.string ⟨#[]⟩, .int .i64 0, .int .i64 21] ∧ B = SrcA g s i) F w) := by
  have hbx := fun o => hb.1.alloc o
  have cA1 := fun o => (hbx o).cell 1
  have cA2 := fun o => (hbx o).cell 2
  simp at cA1 cA2
  have hF := hb.2
  have hlg := hb.1.lt
  have hnF : ∀ k, w.heap.size ≤ k → ¬ F k := fun k hk h => by have := (hF k).1 h; omega
  have hie := le_goesTo (notB b) s.data.toList i
  have hl : s.data.toList.length = s.size := by rw [Lib.size_eq]
  have g1 := goes_until b w.heap.size g s hs i hi ((w.alloc (Obj.cells #[Value.int IntKind.u8 ↑b.toNat] 5)).alloc (Obj.cells #[Value.int IntKind.i64 ↑i, Value.int IntKind.i64 ↑(lfs (List.take i s.data.toList))] 110)) F ⟨(hbx _).alloc _, hF⟩ (((Blk.new w _ _).alloc _).cell 0) (by omega)
  have hge2 : goesTo (notB b) s.data.toList i ≤ s.size := by rw [← hl]; exact goesTo_le (by omega)
  have hst : stepTo s.data.toList (goesTo (notB b) s.data.toList i) = goesTo (notB b) s.data.toList i := by unfold stepTo; rw [if_neg (by omega)]
  have g3 := fun w h => step_walk g s hs (goesTo (notB b) s.data.toList i) (by omega) w F h
  rw [hst] at g3
  clear hst hl
  generalize goesTo (notB b) s.data.toList i = e at *
  obtain ⟨l0, hl0⟩ : ∃ l0 : Int, ((lfs (List.take i s.data.toList) : Nat) : Int) = l0 := ⟨_, rfl⟩
  obtain ⟨l1, hl1⟩ : ∃ l1 : Int, ((lfs (List.take e s.data.toList) : Nat) : Int) = l1 := ⟨_, rfl⟩
  rw [hl0] at cA2 g1
  replace hbx := Lib.hid hbx
  replace hF := Lib.hid hF
  replace hnF := Lib.hid hnF
  replace g1 := Lib.hid g1
  replace g3 := Lib.hid g3
  replace hl0 := Lib.hid hl0
  replace hl1 := Lib.hid hl1
  clear hb
  have kA : Kept F w ((w.alloc (Obj.cells #[Value.int IntKind.u8 ↑b.toNat] 5)).alloc (Obj.cells #[Value.int IntKind.i64 ↑i, Value.int IntKind.i64 l0] 110)) := ((Kept.refl F w).alloc _).alloc _
  have hW := Blk.new' (w := w.alloc (Obj.cells #[Value.int IntKind.u8 ↑b.toNat] 5)) (g := w.heap.size + 1) (t := 110) (cs := #[Value.int IntKind.i64 ↑i, Value.int IntKind.i64 l0]) (by simp)
  replace kA := Lib.hid kA
  replace hW := Lib.hid hW
  go_enter Tryz.func100, Tryz.ntmps100
  go_wp2_with fail
  refine g1.out.mono ?_
  rintro e1 w1 ⟨v1, A1, F1, ⟨rfl, rfl⟩, rfl, h1, k1, -⟩
  have hW1 := Lib.hid (hW.out.kept k1 (hnF.out _ (by omega)))
  replace h1 := h1.1
  rw [hl1.out] at h1
  have cB1 := fun o => (h1.alloc o).cell 1
  have cB2 := fun o => (h1.alloc o).cell 2
  have cC1 := h1.cell 1
  have cC2 := h1.cell 2
  simp at cB1 cB2 cC1 cC2
  have hs1 := k1.size
  simp at hs1
  replace h1 := Lib.hid h1
  replace k1 := Lib.hid (kA.out.trans k1)
  clear hW kA cA1 cA2
  go_wp2_with fail
  refine (g3.out _ ⟨by rw [hl1.out]; exact h1.out.alloc _, hF.out⟩).mono ?_
  rintro e2 w2 ⟨v2, A2, F2, ⟨rfl, rfl⟩, rfl, h2, k2, -⟩
  have hW2 := (hW1.out.alloc (Obj.cells #[Value.int IntKind.i64 ↑e, Value.int IntKind.i64 l1] 110)).kept k2 (hnF.out _ (by omega))
  have hB2 := (Blk.new w1 110 #[Value.int IntKind.i64 ↑e, Value.int IntKind.i64 l1]).kept k2 (hnF.out _ (by omega))
  replace h2 := h2.1
  rw [hl1.out] at h2
  have f1 := h2.frozen 1
  have f2 := h2.frozen 2
  have d1 := h2.cell 1
  have d2 := h2.cell 2
  have x0 := hW2.cell 0
  have x1 := hW2.cell 1
  have y0 := hB2.cell 0
  have y1 := hB2.cell 1
  simp at x0 x1 y0 y1
  simp only [List.getElem?_toArray, List.getElem?_cons_succ, List.getElem?_cons_zero] at d1 d2
  replace h2 := Lib.hid h2
  replace k2 := Lib.hid ((k1.out.alloc _).trans k2)
  clear hW1 hW2 hB2 cB1 cB2 cC1 cC2 hs1
  go_wp2
  go_quiet (fail)
  go_wp2
  go_ret3
  refine ⟨_, _, F, ⟨rfl, rfl⟩, rfl, ⟨?_, hF.out⟩, Kept.setCell (Kept.setCell (k2.out.drewN _) (.inl ((hF.out _).2 rfl)) _) (.inl ((hF.out _).2 rfl)) _, fun k h => .inl h⟩
  rw [hl0.out]
  simpa using ((h2.out.drewN _).set_ 1 _).set_ 2 _
end Go.Proofs.YthejfkkmcbdlhaaGreatDoor
