/- Chapter 11: parts that may give up and turn no more than the image: what they leave. No condition. -/
import Derived.Test.YtjhdpmimccpcdaaGreatDoorT28
import Derived.Test.YtjhdpmimccpcdaaGreatDoorT19
import Derived.Test.YtjhdpmimccpcdaaGreatDoorTVMov
import Derived.Test.YtjhdpmimccpcdaaGreatDoorTVOps2
namespace Go.Proofs.YtjhdpmimccpcdaaGreatDoor
set_option linter.unusedVariables false
open Go.RowKit Go.Lib
namespace Vm
theorem udQ_v64 (a b n : Int) : V64 (udQ a b n) := wrap_v64 _
theorem udR_v64 (a b n : Int) : V64 (udR a b n) := wrap_v64 _
theorem dvQ_v64 (a b n : Int) : V64 (dvQ a b n) := by unfold dvQ dvQ0; split; exact udQ_v64 _ _ _; exact wrap_v64 _
theorem dvR_v64 (a b n : Int) : V64 (dvR a b n) := by unfold dvR dvR0; split; exact wrap_v64 _; exact udR_v64 _ _ _
theorem fdQ_v64 (a b n : Int) : V64 (fdQ a b n) := by unfold fdQ; split; exact wrap_v64 _; exact dvQ_v64 _ _ _
theorem fdR_v64 (a b n : Int) : V64 (fdR a b n) := by unfold fdR; split; exact wrap_v64 _; exact dvR_v64 _ _ _
theorem utLo_v64 (a b : Int) : V64 (utLo a b) := wrap_v64 _
theorem utHi_v64 (a b : Int) : V64 (utHi a b) := wrap_v64 _
theorem tHi_v64 (a b : Int) : V64 (tHi a b) := wrap_v64 _
/-- a part that leaves the run, the stacks' depths, what was told; and lays m cells at most -/
def Mild (q : Rn → Mt → Rs × List Int) (m : Nat) : Prop := ∀ x s, s.Ok → x.Ok → (q x s).1.s.Ok ∧ (q x s).1.s.d = s.d ∧ (q x s).1.s.pd = s.pd ∧ (q x s).2.length ≤ m ∧ (∀ v ∈ (q x s).2, V64 v) ∧ (q x s).1.x = x ∧ (q x s).1.s.tells = s.tells ∧ (q x s).1.s.seen = s.seen
theorem Mild.pure {l : Mt → List Int} {m : Nat} {f : Mt → Int} (hl : ∀ s, (l s).length ≤ m) (hv : ∀ s, s.Ok → ∀ v ∈ l s, V64 v) : Mild (fun x s => (⟨f s, x, s⟩, l s)) m := fun x s hs hx => ⟨hs, rfl, rfl, hl s, hv s hs, rfl, rfl, rfl⟩
theorem quoL_len (k : Nat) (q r : Int) : (quoL k q r).length ≤ if k ≤ 1 then 1 else 2 := by
  unfold quoL
  split
  · rename_i h; subst h; exact Nat.le_refl 1
  split
  · rename_i h; subst h; exact Nat.le_refl 1
  · rw [if_neg (by omega)]; exact Nat.le_refl 2
theorem quoL_v64 {k : Nat} {q r : Int} (hq : V64 q) (hr : V64 r) : ∀ v ∈ quoL k q r, V64 v := by
  unfold quoL
  intro v hv
  split at hv
  · rw [List.mem_singleton.1 hv]; exact hq
  split at hv
  · rw [List.mem_singleton.1 hv]; exact hr
  · simp only [List.mem_cons, List.mem_nil_iff, or_false] at hv
    rcases hv with rfl | rfl
    · exact hr
    · exact hq
theorem Mild.quo {k : Nat} {o : Mt → Bool} {q r : Mt → Int} (hq : ∀ s, V64 (q s)) (hr : ∀ s, V64 (r s)) : Mild (fun x s => quoP k (o s) (q s) (r s) x s) (if k ≤ 1 then 1 else 2) :=
  fun x s hs hx => ⟨hs, rfl, rfl, quoL_len _ _ _, quoL_v64 (hq s) (hr s), rfl, rfl, rfl⟩
theorem GivesOk.toR {f : FuncId} {pre : Nat → Array Value} {i : Inst} {l : Mt → List Int} (h : GivesOk f pre i l) : GivesR f pre i (fun x s => (⟨0, x, s⟩, l s)) :=
  fun c g x src s ba w F hs hx hask hb => (h c g x src s ba w F hs hask hb).mono fun e w' h => by
    rw [if_pos rfl]
    exact h
theorem laysOk_of {i : Inst} {q : Rn → Mt → Rs × List Int} {m : Nat} (n : Nat) (hn : (Code.wants i.op).1 = n) (hm : (Code.wants i.op).2 = m) (h26 : i.op ≠ 26) (h : Mild q m) : LaysOk i q := by
  intro x s hs hx ha hf
  obtain ⟨h1, h2, h3, h4, h5, _⟩ := h x s hs hx
  refine ⟨h1, h2, ?_, h5⟩
  have h6 := ha.room
  have h7 := ha.tk
  rw [if_neg (by rintro ⟨h, _⟩; exact h26 h)] at h6
  rw [h3]
  omega
theorem PartOk.congr {f : FuncId} {i : Inst} {q q' : Rn → Mt → Rs} (h : PartOk f i q) (e : ∀ x s, s.Ok → x.Ok → Asked i x s → q x s = q' x s) : PartOk f i q' := by
  intro c g x src s ba w F hs hx hv1 hv2 hask hb
  rw [← e x s hs hx hask]
  exact h c g x src s ba w F hs hx hv1 hv2 hask hb
theorem setCell_mt_ok {s : Mt} (hs : s.Ok) (m a v : Int) : ({ s with S := s.S.setCell m a v } : Mt).Ok := ⟨hs.pd, hs.pr, hs.d, hs.r, hs.du, hs.dv, hs.ru, hs.rv⟩
theorem qdup_v64 {x : Int} (h : V64 x) : ∀ v ∈ qdupL x, V64 v := by
  unfold qdupL
  intro v hv
  split at hv
  · rw [List.mem_singleton.1 hv]; exact h
  · simp only [List.mem_cons, List.mem_nil_iff, or_false, or_self] at hv
    rw [hv]; exact h
end Vm
end Go.Proofs.YtjhdpmimccpcdaaGreatDoor
/- Chapter 11: the operations that are treated, each with what it does; that the program does so, and that the machine stays well. No condition. Printed by gen_vparts.py. -/
namespace Go.Proofs.YtjhdpmimccpcdaaGreatDoor
set_option linter.unusedVariables false
set_option maxRecDepth 100000
open Go.RowKit Go.Lib
namespace Vm
/-- what an instruction does of which all was asked; none: it is not treated here -/
def parts (i : Inst) : Option (Rn → Mt → Rs) :=
  if i.op = 1 then some (back)
  else if i.op = 2 then some (laysR 0 [i.lit])
  else if i.op = 3 then some (fun x s => ⟨0, { x with next := i.arg }, s.pushR [x.next]⟩)
  else if i.op = 4 then some (fun x s => ⟨0, { x with next := i.arg }, s⟩)
  else if i.op = 5 then some (fun x s => ⟨0, if ar s 1 0 = 0 then { x with next := i.arg } else x, (s.lays 1 []).2⟩)
  else if i.op = 6 then some (fun x s => ⟨0, x, ((s.lays 2 []).2).pushR (s.args 2)⟩)
  else if i.op = 7 then some (fun x s => if ar s 2 0 = ar s 2 1 then ⟨0, { x with next := i.arg }, (s.lays 2 []).2⟩ else ⟨0, x, ((s.lays 2 []).2).pushR (s.args 2)⟩)
  else if i.op = 8 then some (fun x s => turn (wrap64 (s.rtop 0 + 1)) (wrap64 (s.rtop 0 + 1) == s.rtop 1) i.arg x s)
  else if i.op = 9 then some (fun x s => turn (wrap64 (s.rtop 0 + ar s 1 0)) (plEnds (s.rtop 0) (s.rtop 1) (ar s 1 0)) i.arg x (s.lays 1 []).2)
  else if i.op = 10 then some (fun x s => ⟨0, x, s.cutR (s.r - 2)⟩)
  else if i.op = 13 then some (fun x s => ⟨0, x, ((s.lays 1 []).2).pushR (s.args 1)⟩)
  else if i.op = 16 then some (fun x s => ⟨0, { x with next := ar s 1 0 }, ((s.pushR [x.next]).lays 1 []).2⟩)
  else if i.op = 20 then some (fun x s => ⟨16, x, s⟩)
  else if i.op = 21 then some (fun x s => laysR 1 [ar s 1 0, ar s 1 0] x s)
  else if i.op = 22 then some (fun x s => laysR 1 [] x s)
  else if i.op = 23 then some (fun x s => laysR 2 [ar s 2 1, ar s 2 0] x s)
  else if i.op = 24 then some (fun x s => laysR 2 [ar s 2 0, ar s 2 1, ar s 2 0] x s)
  else if i.op = 31 then some (fun x s => laysR 2 [wrap64 (ar s 2 0 + ar s 2 1)] x s)
  else if i.op = 32 then some (fun x s => laysR 2 [wrap64 (ar s 2 0 - ar s 2 1)] x s)
  else if i.op = 33 then some (fun x s => laysR 2 [wrap64 (ar s 2 0 * ar s 2 1)] x s)
  else if i.op = 39 then some (fun x s => laysR 1 [wrap64 (-ar s 1 0)] x s)
  else if i.op = 43 then some (fun x s => laysR 1 [wrap64 (ar s 1 0 + 1)] x s)
  else if i.op = 44 then some (fun x s => laysR 1 [wrap64 (ar s 1 0 - 1)] x s)
  else if i.op = 11 then some (fun x s => ⟨0, x, (s.lays 0 [s.rtop 0]).2⟩)
  else if i.op = 12 then some (fun x s => ⟨0, x, (s.lays 0 [s.rtop 2]).2⟩)
  else if i.op = 14 then some (fun x s => ⟨0, x, ((s.cutR (s.r - 1)).lays 0 [s.rtop 0]).2⟩)
  else if i.op = 15 then some (fun x s => ⟨0, x, (s.lays 0 [s.rtop 0]).2⟩)
  else if i.op = 25 then some (fun x s => laysR 3 [ar s 3 1, ar s 3 2, ar s 3 0] x s)
  else if i.op = 26 then some (fun x s => laysR 1 (qdupL (ar s 1 0)) x s)
  else if i.op = 27 then some (fun x s => laysR 2 [ar s 2 1] x s)
  else if i.op = 28 then some (fun x s => laysR 2 [ar s 2 1, ar s 2 0, ar s 2 1] x s)
  else if i.op = 34 then some (fun x s => Rs.laid 2 (quoP 0 (decide (ar s 2 1 = 0)) (floQ (ar s 2 0) (ar s 2 1)) (floR (ar s 2 0) (ar s 2 1)) x s))
  else if i.op = 35 then some (fun x s => Rs.laid 2 (quoP 1 (decide (ar s 2 1 = 0)) (floQ (ar s 2 0) (ar s 2 1)) (floR (ar s 2 0) (ar s 2 1)) x s))
  else if i.op = 36 then some (fun x s => Rs.laid 2 (quoP 2 (decide (ar s 2 1 = 0)) (floQ (ar s 2 0) (ar s 2 1)) (floR (ar s 2 0) (ar s 2 1)) x s))
  else if i.op = 37 then some (fun x s => Rs.laid 3 (quoP 0 (fdOut (utLo (ar s 3 0) (ar s 3 1)) (tHi (ar s 3 0) (ar s 3 1)) (ar s 3 2)) (fdQ (utLo (ar s 3 0) (ar s 3 1)) (tHi (ar s 3 0) (ar s 3 1)) (ar s 3 2)) (fdR (utLo (ar s 3 0) (ar s 3 1)) (tHi (ar s 3 0) (ar s 3 1)) (ar s 3 2)) x s))
  else if i.op = 38 then some (fun x s => Rs.laid 3 (quoP 2 (fdOut (utLo (ar s 3 0) (ar s 3 1)) (tHi (ar s 3 0) (ar s 3 1)) (ar s 3 2)) (fdQ (utLo (ar s 3 0) (ar s 3 1)) (tHi (ar s 3 0) (ar s 3 1)) (ar s 3 2)) (fdR (utLo (ar s 3 0) (ar s 3 1)) (tHi (ar s 3 0) (ar s 3 1)) (ar s 3 2)) x s))
  else if i.op = 53 then some (fun x s => laysR 2 [utLo (ar s 2 0) (ar s 2 1), tHi (ar s 2 0) (ar s 2 1)] x s)
  else if i.op = 54 then some (fun x s => laysR 2 [utLo (ar s 2 0) (ar s 2 1), utHi (ar s 2 0) (ar s 2 1)] x s)
  else if i.op = 55 then some (fun x s => Rs.laid 3 (quoP 2 (udOut (ar s 3 1) (ar s 3 2)) (udQ (ar s 3 0) (ar s 3 1) (ar s 3 2)) (udR (ar s 3 0) (ar s 3 1) (ar s 3 2)) x s))
  else if i.op = 56 then some (fun x s => Rs.laid 3 (quoP 2 (dvOut (ar s 3 0) (ar s 3 1) (ar s 3 2)) (dvQ (ar s 3 0) (ar s 3 1) (ar s 3 2)) (dvR (ar s 3 0) (ar s 3 1) (ar s 3 2)) x s))
  else if i.op = 57 then some (fun x s => Rs.laid 3 (quoP 2 (fdOut (ar s 3 0) (ar s 3 1) (ar s 3 2)) (fdQ (ar s 3 0) (ar s 3 1) (ar s 3 2)) (fdR (ar s 3 0) (ar s 3 1) (ar s 3 2)) x s))
  else if i.op = 65 then some (fun x s => Rs.laid 1 (((⟨s.S.cellF x.mode (ar s 1 0) false, x, s⟩, [s.S.cellV x.mode (ar s 1 0)]) : Rs × List Int)))
  else if i.op = 66 then some (fun x s => Rs.laid 2 (((⟨s.S.cellF x.mode (ar s 2 1) true, x, { s with S := s.S.setCell x.mode (ar s 2 1) (ar s 2 0) }⟩, []) : Rs × List Int)))
  else if i.op = 77 then some (fun x s => laysR 0 [wrap64 (s.S.beg 3 : Int)] x s)
  else if i.op = 40 then some (fun x s => laysR 1 [absS (ar s 1 0)] x s)
  else if i.op = 45 then some (fun x s => laysR 1 [wrap64 (ar s 1 0 * 2)] x s)
  else if i.op = 46 then some (fun x s => laysR 1 [ar s 1 0 / 2] x s)
  else if i.op = 50 then some (fun x s => laysR 1 [bits .xor .i64 (-1) (ar s 1 0)] x s)
  else if i.op = 63 then some (fun x s => laysR 1 [flagS (ar s 1 0 == 0)] x s)
  else if i.op = 64 then some (fun x s => laysR 1 [signS (ar s 1 0)] x s)
  else if i.op = 41 then some (fun x s => laysR 2 [min (ar s 2 0) (ar s 2 1)] x s)
  else if i.op = 42 then some (fun x s => laysR 2 [max (ar s 2 0) (ar s 2 1)] x s)
  else if i.op = 47 then some (fun x s => laysR 2 [bits .and .i64 (ar s 2 0) (ar s 2 1)] x s)
  else if i.op = 48 then some (fun x s => laysR 2 [bits .or .i64 (ar s 2 0) (ar s 2 1)] x s)
  else if i.op = 49 then some (fun x s => laysR 2 [bits .xor .i64 (ar s 2 0) (ar s 2 1)] x s)
  else if i.op = 51 then some (fun x s => laysR 2 [shlS (ar s 2 0) (ar s 2 1)] x s)
  else if i.op = 52 then some (fun x s => laysR 2 [shrS (ar s 2 0) (ar s 2 1)] x s)
  else if i.op = 58 then some (fun x s => laysR 2 [flagS ((ar s 2 0) == (ar s 2 1))] x s)
  else if i.op = 59 then some (fun x s => laysR 2 [flagS ((ar s 2 0) != (ar s 2 1))] x s)
  else if i.op = 60 then some (fun x s => laysR 2 [flagS (decide ((ar s 2 0) < (ar s 2 1)))] x s)
  else if i.op = 61 then some (fun x s => laysR 2 [flagS (decide ((ar s 2 1) < (ar s 2 0)))] x s)
  else if i.op = 62 then some (fun x s => laysR 2 [flagS (decide (IntKind.u64.wrap (ar s 2 0) < IntKind.u64.wrap (ar s 2 1)))] x s)
  else none
theorem lays_len {i : Inst} {x : Rn} {s : Mt} (h : Asked i x s) (h26 : i.op ≠ 26) (n m : Nat) (h1 : (Code.wants i.op).1 = n) (h2 : (Code.wants i.op).2 = m) : m ≤ s.pd.rm - (s.d - n) := by
  have h3 := h.room
  have h4 := h.tk
  rw [if_neg (by rintro ⟨h, _⟩; exact h26 h)] at h3
  omega
theorem lays_ok {s : Mt} {n : Nat} {l : List Int} (hs : s.Ok) (hn : n ≤ s.d) (hroom : l.length ≤ s.pd.rm - (s.d - n)) : (s.lays n l).2.Ok := by
  unfold Mt.lays
  rw [if_neg (by omega)]
  exact pushD_ok (cutD_ok hs (s.d - n) (by omega)) l hroom
/-- what a part leaves -/
def Keeps (i : Inst) (q : Rn → Mt → Rs) : Prop := ∀ x s, s.Ok → x.Ok → V64 i.arg → V64 i.lit → Asked i x s → (q x s).s.Ok ∧ (q x s).x.Ok ∧ (q x s).s.tells = s.tells ∧ (q x s).x.left = x.left ∧ (q x s).s.seen = s.seen
theorem keeps_lays (i : Inst) (l : Mt → List Int) (n : Nat) (hn : (Code.wants i.op).1 = n) (hl : ∀ x s, Asked i x s → (l s).length ≤ s.pd.rm - (s.d - n)) : Keeps i (fun x s => laysR n (l s) x s) := by
  intro x s hs hx hv1 hv2 ha
  have h1 := ha.tk
  refine ⟨lays_ok hs (by omega) (hl x s ha), hx, ?_, rfl, ?_⟩
  · show ((s.lays n (l s)).2).tells = s.tells
    unfold Mt.lays
    split <;> rfl
  · show ((s.lays n (l s)).2).seen = s.seen
    unfold Mt.lays
    split <;> rfl
theorem keeps_back (arg lit cells : Int) : Keeps ⟨1, arg, lit, cells⟩ back := by
  intro x s hs hx hv1 hv2 ha
  unfold back
  split
  · exact ⟨hs, hx, rfl, rfl, rfl⟩
  · exact ⟨⟨hs.pd, hs.pr, hs.d, by have := hs.r; show s.r - 1 ≤ s.pr.rm; omega, hs.du, hs.dv, hs.ru, hs.rv⟩, ⟨hx.base, hx.base2, stopv_v64 _ _ _ _, hx.pc, hx.left, hx.left2⟩, rfl, rfl, rfl⟩
theorem keeps_lit (arg lit cells : Int) : Keeps ⟨2, arg, lit, cells⟩ (laysR 0 [lit]) := keeps_lays _ (fun _ => [lit]) 0 (by first | decide | (dsimp only; decide)) fun x s ha => lays_len ha (by first | decide | (dsimp only; decide)) 0 1 (by first | decide | (dsimp only; decide)) (by first | decide | (dsimp only; decide))
theorem turn_f (n : Int) (e : Bool) (a : Int) (x : Rn) (s : Mt) : (turn n e a x s).f = 0 := by unfold turn; split <;> rfl
theorem lays_nil_ok {s : Mt} (n : Nat) (hs : s.Ok) : (s.lays n []).2.Ok := by
  unfold Mt.lays
  rw [if_neg (by simp)]
  exact pushD_ok (cutD_ok hs (s.d - n) (by omega)) [] (by simp)
theorem lays_same (s : Mt) (n : Nat) (l : List Int) : (s.lays n l).2.tells = s.tells ∧ (s.lays n l).2.seen = s.seen ∧ (s.lays n l).2.r = s.r ∧ (s.lays n l).2.pr = s.pr := by
  unfold Mt.lays
  split <;> exact ⟨rfl, rfl, rfl, rfl⟩
theorem asked_room {i : Inst} {x : Rn} {s : Mt} (h : Asked i x s) (k : Nat) (e : returns i.op i.arg s.same = (0, (k : Int))) : k ≤ s.pr.rm - s.r := by
  have h1 := h.rroom
  simp only [e] at h1
  omega
theorem qdo_f (arg : Int) (x : Rn) (s : Mt) : (if ar s 2 0 = ar s 2 1 then (⟨0, { x with next := arg }, (s.lays 2 []).2⟩ : Rs) else ⟨0, x, ((s.lays 2 []).2).pushR (s.args 2)⟩).f = 0 := by split <;> rfl
theorem keeps_jump (arg lit cells : Int) : Keeps ⟨4, arg, lit, cells⟩ (fun x s => ⟨0, { x with next := arg }, s⟩) := fun x s hs hx hv1 hv2 ha => ⟨hs, ⟨hx.base, hx.base2, hv1, hx.pc, hx.left, hx.left2⟩, rfl, rfl, rfl⟩
theorem keeps_call (arg lit cells : Int) : Keeps ⟨3, arg, lit, cells⟩ (fun x s => ⟨0, { x with next := arg }, s.pushR [x.next]⟩) := fun x s hs hx hv1 hv2 ha => ⟨pushR_ok hs [x.next] (asked_room ha 1 rfl), ⟨hx.base, hx.base2, hv1, hx.pc, hx.left, hx.left2⟩, rfl, rfl, rfl⟩
theorem keeps_zero (arg lit cells : Int) : Keeps ⟨5, arg, lit, cells⟩ (fun x s => ⟨0, if ar s 1 0 = 0 then { x with next := arg } else x, (s.lays 1 []).2⟩) := by
  intro x s hs hx hv1 hv2 ha
  refine ⟨lays_nil_ok 1 hs, ?_, (lays_same s 1 []).1, ?_, (lays_same s 1 []).2.1⟩
  · show (if ar s 1 0 = 0 then ({ x with next := arg } : Rn) else x).Ok
    split
    · exact ⟨hx.base, hx.base2, hv1, hx.pc, hx.left, hx.left2⟩
    · exact hx
  · show (if ar s 1 0 = 0 then ({ x with next := arg } : Rn) else x).left = x.left
    split <;> rfl
theorem keeps_execute (arg lit cells : Int) : Keeps ⟨16, arg, lit, cells⟩ (fun x s => ⟨0, { x with next := ar s 1 0 }, ((s.pushR [x.next]).lays 1 []).2⟩) := fun x s hs hx hv1 hv2 ha =>
  ⟨lays_nil_ok 1 (pushR_ok hs [x.next] (asked_room ha 1 rfl)), ⟨hx.base, hx.base2, ar_v64 s 1 0, hx.pc, hx.left, hx.left2⟩, (lays_same _ 1 []).1, rfl, (lays_same _ 1 []).2.1⟩
theorem keeps_special (arg lit cells : Int) : Keeps ⟨20, arg, lit, cells⟩ (fun x s => ⟨16, x, s⟩) := fun x s hs hx hv1 hv2 ha => ⟨hs, hx, rfl, rfl, rfl⟩
theorem push_args_ok {s : Mt} (n : Nat) (hs : s.Ok) (h : n ≤ s.pr.rm - s.r) : (((s.lays n []).2).pushR (s.args n)).Ok :=
  pushR_ok (lays_nil_ok n hs) _ (by rw [args_len, (lays_same s n []).2.2.1, (lays_same s n []).2.2.2]; exact h)
theorem keeps_do (arg lit cells : Int) : Keeps ⟨6, arg, lit, cells⟩ (fun x s => ⟨0, x, ((s.lays 2 []).2).pushR (s.args 2)⟩) := fun x s hs hx hv1 hv2 ha => ⟨push_args_ok 2 hs (asked_room ha 2 rfl), hx, (lays_same s 2 []).1, rfl, (lays_same s 2 []).2.1⟩
theorem keeps_tor (arg lit cells : Int) : Keeps ⟨13, arg, lit, cells⟩ (fun x s => ⟨0, x, ((s.lays 1 []).2).pushR (s.args 1)⟩) := fun x s hs hx hv1 hv2 ha => ⟨push_args_ok 1 hs (asked_room ha 1 rfl), hx, (lays_same s 1 []).1, rfl, (lays_same s 1 []).2.1⟩
theorem keeps_qdo (arg lit cells : Int) : Keeps ⟨7, arg, lit, cells⟩ (fun x s => if ar s 2 0 = ar s 2 1 then ⟨0, { x with next := arg }, (s.lays 2 []).2⟩ else ⟨0, x, ((s.lays 2 []).2).pushR (s.args 2)⟩) := by
  intro x s hs hx hv1 hv2 ha
  dsimp only
  split
  · exact ⟨lays_nil_ok 2 hs, ⟨hx.base, hx.base2, hv1, hx.pc, hx.left, hx.left2⟩, (lays_same s 2 []).1, rfl, (lays_same s 2 []).2.1⟩
  · rename_i hne
    refine ⟨push_args_ok 2 hs (asked_room ha 2 ?_), hx, (lays_same s 2 []).1, rfl, (lays_same s 2 []).2.1⟩
    have h2 : s.same = false := by
      unfold Mt.same
      rw [(ar20 s).1, (ar20 s).2] at hne
      simpa using fun h => hne h.symm
    rw [h2]
    rfl
theorem turn_keeps {x : Rn} {s : Mt} (n : Int) (e : Bool) (a : Int) (ha : V64 a) (hs : s.Ok) (hx : x.Ok) : (turn n e a x s).s.Ok ∧ (turn n e a x s).x.Ok ∧ (turn n e a x s).s.tells = s.tells ∧ (turn n e a x s).x.left = x.left ∧ (turn n e a x s).s.seen = s.seen := by
  unfold turn
  split
  · exact ⟨cutR_ok hs _ (by omega), hx, rfl, rfl, rfl⟩
  · exact ⟨pokeR_ok hs _ _, ⟨hx.base, hx.base2, ha, hx.pc, hx.left, hx.left2⟩, rfl, rfl, rfl⟩
theorem keeps_loop (arg lit cells : Int) : Keeps ⟨8, arg, lit, cells⟩ (fun x s => turn (wrap64 (s.rtop 0 + 1)) (wrap64 (s.rtop 0 + 1) == s.rtop 1) arg x s) := fun x s hs hx hv1 hv2 ha => turn_keeps _ _ _ hv1 hs hx
theorem keeps_ploop (arg lit cells : Int) : Keeps ⟨9, arg, lit, cells⟩ (fun x s => turn (wrap64 (s.rtop 0 + ar s 1 0)) (plEnds (s.rtop 0) (s.rtop 1) (ar s 1 0)) arg x (s.lays 1 []).2) := fun x s hs hx hv1 hv2 ha => by
  obtain ⟨h1, h2, h3, h4, h5⟩ := turn_keeps (wrap64 (s.rtop 0 + ar s 1 0)) (plEnds (s.rtop 0) (s.rtop 1) (ar s 1 0)) arg hv1 (lays_nil_ok 1 hs) hx
  exact ⟨h1, h2, h3.trans (lays_same s 1 []).1, h4, h5.trans (lays_same s 1 []).2.1⟩
theorem keeps_unloop (arg lit cells : Int) : Keeps ⟨10, arg, lit, cells⟩ (fun x s => ⟨0, x, s.cutR (s.r - 2)⟩) := fun x s hs hx hv1 hv2 ha => ⟨cutR_ok hs _ (by omega), hx, rfl, rfl, rfl⟩
theorem lays_eq {x : Rn} {s : Mt} {n : Nat} {l : List Int} (hroom : l.length ≤ s.pd.rm - (s.d - n)) : laysR n l x s = ⟨0, x, (s.lays n l).2⟩ := by
  unfold laysR
  rw [lays_f hroom]
theorem keeps_i (arg lit cells : Int) : Keeps ⟨11, arg, lit, cells⟩ (fun x s => ⟨0, x, (s.lays 0 [s.rtop 0]).2⟩) := fun x s hs hx hv1 hv2 ha => ⟨lays_ok hs (Nat.zero_le _) (lays_len ha (by first | decide | (dsimp only; decide)) 0 1 (by first | decide | (dsimp only; decide)) (by first | decide | (dsimp only; decide))), hx, (lays_same s 0 _).1, rfl, (lays_same s 0 _).2.1⟩
theorem keeps_j (arg lit cells : Int) : Keeps ⟨12, arg, lit, cells⟩ (fun x s => ⟨0, x, (s.lays 0 [s.rtop 2]).2⟩) := fun x s hs hx hv1 hv2 ha => ⟨lays_ok hs (Nat.zero_le _) (lays_len ha (by first | decide | (dsimp only; decide)) 0 1 (by first | decide | (dsimp only; decide)) (by first | decide | (dsimp only; decide))), hx, (lays_same s 0 _).1, rfl, (lays_same s 0 _).2.1⟩
theorem keeps_rfetch (arg lit cells : Int) : Keeps ⟨15, arg, lit, cells⟩ (fun x s => ⟨0, x, (s.lays 0 [s.rtop 0]).2⟩) := fun x s hs hx hv1 hv2 ha => ⟨lays_ok hs (Nat.zero_le _) (lays_len ha (by first | decide | (dsimp only; decide)) 0 1 (by first | decide | (dsimp only; decide)) (by first | decide | (dsimp only; decide))), hx, (lays_same s 0 _).1, rfl, (lays_same s 0 _).2.1⟩
theorem keeps_fromr (arg lit cells : Int) : Keeps ⟨14, arg, lit, cells⟩ (fun x s => ⟨0, x, ((s.cutR (s.r - 1)).lays 0 [s.rtop 0]).2⟩) := fun x s hs hx hv1 hv2 ha => ⟨lays_ok (cutR_ok hs _ (by omega)) (Nat.zero_le _) (lays_len ha (by first | decide | (dsimp only; decide)) 0 1 (by first | decide | (dsimp only; decide)) (by first | decide | (dsimp only; decide))), hx, (lays_same (s.cutR (s.r - 1)) 0 _).1, rfl, (lays_same (s.cutR (s.r - 1)) 0 _).2.1⟩
theorem qdup_len {arg lit cells : Int} {x : Rn} {s : Mt} (ha : Asked ⟨26, arg, lit, cells⟩ x s) : (qdupL (ar s 1 0)).length ≤ s.pd.rm - (s.d - 1) := by
  have h1 := ha.room
  have h2 := ha.tk
  have e1 : (Code.wants 26).1 = 1 := by decide
  have e2 : (Code.wants 26).2 = 2 := by decide
  have e3 : ar s 1 0 = s.top 0 := rfl
  simp only [e1, e2, true_and] at h1 h2
  unfold qdupL
  rw [e3]
  split
  · rename_i h
    rw [if_pos h] at h1
    show 1 ≤ _
    omega
  · rename_i h
    rw [if_neg h] at h1
    show 2 ≤ _
    omega
theorem keeps_laid {i : Inst} {q : Rn → Mt → Rs × List Int} {n m : Nat} (hn : (Code.wants i.op).1 = n) (hl : LaysOk i q) (hm : Mild q m) : Keeps i (fun x s => Rs.laid n (q x s)) := by
  intro x s hs hx hv1 hv2 ha
  obtain ⟨h1, h2, h3, h4, h5, h6, h7, h8⟩ := hm x s hs hx
  have h9 := ha.tk
  have hl' := hl x s hs hx ha
  unfold Rs.laid
  by_cases hf : (q x s).1.f = 0
  · simp only [if_pos hf]
    obtain ⟨_, _, k3, _⟩ := hl' hf
    have e : (Code.wants i.op).1.toNat = n := by omega
    rw [e] at k3
    refine ⟨lays_ok h1 (by rw [h2]; omega) (by rw [h2]; exact k3), by show (q x s).1.x.Ok; rw [h6]; exact hx, ?_, by show (q x s).1.x.left = _; rw [h6], ?_⟩
    · show (((q x s).1.s).lays n _).2.tells = _
      rw [(lays_same _ n _).1, h7]
    · show (((q x s).1.s).lays n _).2.seen = _
      rw [(lays_same _ n _).2.1, h8]
  · simp only [if_neg hf]
    exact ⟨h1, by rw [h6]; exact hx, h7, by rw [h6], h8⟩
set_option maxHeartbeats 8000000 in
/-- each of them does so, and keeps the machine well -/
theorem parts_ok (i : Inst) (q : Rn → Mt → Rs) (hq : parts i = some q) : DoesOk i q ∧ Keeps i q := by
  obtain ⟨op, arg, lit, cells⟩ := i
  unfold parts at hq
  simp only at hq
  by_cases h1 : op = 1
  · rw [if_pos h1] at hq
    obtain rfl := Option.some.inj hq
    subst h1
    exact ⟨does_control _ _ (by first | decide | (dsimp only; decide)) (ctl_exit arg lit cells), keeps_back arg lit cells⟩
  rw [if_neg h1] at hq
  by_cases h2 : op = 2
  · rw [if_pos h2] at hq
    obtain rfl := Option.some.inj hq
    subst h2
    exact ⟨does_control _ _ (by first | decide | (dsimp only; decide)) (ctl_lit arg lit cells), keeps_lit arg lit cells⟩
  rw [if_neg h2] at hq
  by_cases h3 : op = 3
  · rw [if_pos h3] at hq
    obtain rfl := Option.some.inj hq
    subst h3
    exact ⟨does_control _ _ (by first | decide | (dsimp only; decide)) (ctl_call arg lit cells), keeps_call arg lit cells⟩
  rw [if_neg h3] at hq
  by_cases h4 : op = 4
  · rw [if_pos h4] at hq
    obtain rfl := Option.some.inj hq
    subst h4
    exact ⟨does_control _ _ (by first | decide | (dsimp only; decide)) (ctl_jump arg lit cells), keeps_jump arg lit cells⟩
  rw [if_neg h4] at hq
  by_cases h5 : op = 5
  · rw [if_pos h5] at hq
    obtain rfl := Option.some.inj hq
    subst h5
    exact ⟨does_control _ _ (by first | decide | (dsimp only; decide)) (ctl_zero arg lit cells), keeps_zero arg lit cells⟩
  rw [if_neg h5] at hq
  by_cases h6 : op = 6
  · rw [if_pos h6] at hq
    obtain rfl := Option.some.inj hq
    subst h6
    exact ⟨does_control _ _ (by first | decide | (dsimp only; decide)) (ctl_loops 6 arg lit cells _ (by decide) (by decide) (fun _ _ => rfl) (lp_do arg lit cells)), keeps_do arg lit cells⟩
  rw [if_neg h6] at hq
  by_cases h7 : op = 7
  · rw [if_pos h7] at hq
    obtain rfl := Option.some.inj hq
    subst h7
    exact ⟨does_control _ _ (by first | decide | (dsimp only; decide)) (ctl_loops 7 arg lit cells _ (by decide) (by decide) (fun _ _ => qdo_f _ _ _) (lp_qdo arg lit cells)), keeps_qdo arg lit cells⟩
  rw [if_neg h7] at hq
  by_cases h8 : op = 8
  · rw [if_pos h8] at hq
    obtain rfl := Option.some.inj hq
    subst h8
    exact ⟨does_control _ _ (by first | decide | (dsimp only; decide)) (ctl_loops 8 arg lit cells _ (by decide) (by decide) (fun _ _ => turn_f _ _ _ _ _) (lp_loop arg lit cells)), keeps_loop arg lit cells⟩
  rw [if_neg h8] at hq
  by_cases h9 : op = 9
  · rw [if_pos h9] at hq
    obtain rfl := Option.some.inj hq
    subst h9
    exact ⟨does_control _ _ (by first | decide | (dsimp only; decide)) (ctl_loops 9 arg lit cells _ (by decide) (by decide) (fun _ _ => turn_f _ _ _ _ _) (lp_ploop arg lit cells)), keeps_ploop arg lit cells⟩
  rw [if_neg h9] at hq
  by_cases h10 : op = 10
  · rw [if_pos h10] at hq
    obtain rfl := Option.some.inj hq
    subst h10
    exact ⟨does_control _ _ (by first | decide | (dsimp only; decide)) (ctl_loops 10 arg lit cells _ (by decide) (by decide) (fun _ _ => rfl) (lp_unloop arg lit cells)), keeps_unloop arg lit cells⟩
  rw [if_neg h10] at hq
  by_cases h13 : op = 13
  · rw [if_pos h13] at hq
    obtain rfl := Option.some.inj hq
    subst h13
    exact ⟨does_control _ _ (by first | decide | (dsimp only; decide)) (ctl_loops 13 arg lit cells _ (by decide) (by decide) (fun _ _ => rfl) (lp_tor arg lit cells)), keeps_tor arg lit cells⟩
  rw [if_neg h13] at hq
  by_cases h16 : op = 16
  · rw [if_pos h16] at hq
    obtain rfl := Option.some.inj hq
    subst h16
    exact ⟨does_control _ _ (by first | decide | (dsimp only; decide)) (ctl_execute arg lit cells), keeps_execute arg lit cells⟩
  rw [if_neg h16] at hq
  by_cases h20 : op = 20
  · rw [if_pos h20] at hq
    obtain rfl := Option.some.inj hq
    subst h20
    exact ⟨does_control _ _ (by first | decide | (dsimp only; decide)) (ctl_special arg lit cells), keeps_special arg lit cells⟩
  rw [if_neg h20] at hq
  by_cases h21 : op = 21
  · rw [if_pos h21] at hq
    obtain rfl := Option.some.inj hq
    subst h21
    refine ⟨does_moved _ (fun s => [ar s 1 0, ar s 1 0]) (by first | decide | (dsimp only; decide)) (by first | decide | (dsimp only; decide)) (m_dup arg lit cells) fun x s hs ha => ⟨lays_len ha (by first | decide | (dsimp only; decide)) 1 2 (by first | decide | (dsimp only; decide)) (by first | decide | (dsimp only; decide)), fun v hv => by
      simp only [List.mem_cons, List.mem_nil_iff, or_false] at hv
      rcases hv with rfl | rfl <;> first | exact ar_v64 _ _ _ | exact wrap_v64 _⟩, keeps_lays _ (fun s => [ar s 1 0, ar s 1 0]) 1 (by first | decide | (dsimp only; decide)) fun x s ha => lays_len ha (by first | decide | (dsimp only; decide)) 1 2 (by first | decide | (dsimp only; decide)) (by first | decide | (dsimp only; decide))⟩
  rw [if_neg h21] at hq
  by_cases h22 : op = 22
  · rw [if_pos h22] at hq
    obtain rfl := Option.some.inj hq
    subst h22
    refine ⟨does_moved _ (fun s => []) (by first | decide | (dsimp only; decide)) (by first | decide | (dsimp only; decide)) (m_drop arg lit cells) fun x s hs ha => ⟨Nat.zero_le _, fun v hv => by simp at hv⟩, keeps_lays _ (fun s => []) 1 (by first | decide | (dsimp only; decide)) fun x s ha => Nat.zero_le _⟩
  rw [if_neg h22] at hq
  by_cases h23 : op = 23
  · rw [if_pos h23] at hq
    obtain rfl := Option.some.inj hq
    subst h23
    refine ⟨does_moved _ (fun s => [ar s 2 1, ar s 2 0]) (by first | decide | (dsimp only; decide)) (by first | decide | (dsimp only; decide)) (m_swap arg lit cells) fun x s hs ha => ⟨lays_len ha (by first | decide | (dsimp only; decide)) 2 2 (by first | decide | (dsimp only; decide)) (by first | decide | (dsimp only; decide)), fun v hv => by
      simp only [List.mem_cons, List.mem_nil_iff, or_false] at hv
      rcases hv with rfl | rfl <;> first | exact ar_v64 _ _ _ | exact wrap_v64 _⟩, keeps_lays _ (fun s => [ar s 2 1, ar s 2 0]) 2 (by first | decide | (dsimp only; decide)) fun x s ha => lays_len ha (by first | decide | (dsimp only; decide)) 2 2 (by first | decide | (dsimp only; decide)) (by first | decide | (dsimp only; decide))⟩
  rw [if_neg h23] at hq
  by_cases h24 : op = 24
  · rw [if_pos h24] at hq
    obtain rfl := Option.some.inj hq
    subst h24
    refine ⟨does_moved _ (fun s => [ar s 2 0, ar s 2 1, ar s 2 0]) (by first | decide | (dsimp only; decide)) (by first | decide | (dsimp only; decide)) (m_over arg lit cells) fun x s hs ha => ⟨lays_len ha (by first | decide | (dsimp only; decide)) 2 3 (by first | decide | (dsimp only; decide)) (by first | decide | (dsimp only; decide)), fun v hv => by
      simp only [List.mem_cons, List.mem_nil_iff, or_false] at hv
      rcases hv with rfl | rfl | rfl <;> first | exact ar_v64 _ _ _ | exact wrap_v64 _⟩, keeps_lays _ (fun s => [ar s 2 0, ar s 2 1, ar s 2 0]) 2 (by first | decide | (dsimp only; decide)) fun x s ha => lays_len ha (by first | decide | (dsimp only; decide)) 2 3 (by first | decide | (dsimp only; decide)) (by first | decide | (dsimp only; decide))⟩
  rw [if_neg h24] at hq
  by_cases h31 : op = 31
  · rw [if_pos h31] at hq
    obtain rfl := Option.some.inj hq
    subst h31
    refine ⟨does_reckoned _ (fun s => [wrap64 (ar s 2 0 + ar s 2 1)]) (by first | decide | (dsimp only; decide)) (by first | decide | (dsimp only; decide)) (g_pair 31 arg lit cells rfl rfl rfl rfl rfl rfl rfl rfl rfl rfl (by first | decide | (dsimp only; decide)) _ pair_add) fun x s hs ha => ⟨lays_len ha (by first | decide | (dsimp only; decide)) 2 1 (by first | decide | (dsimp only; decide)) (by first | decide | (dsimp only; decide)), fun v hv => by
      rw [List.mem_singleton.1 hv]
      first | exact wrap_v64 _ | exact ar_v64 _ _ _ | exact flag_v64 _ | exact and_v64 _ _ | exact or_v64 _ _ | exact xor_v64 _ _ | exact shl_v64 _ _ | exact shr_v64 _ _ | exact abs_v64 (ar_v64 _ _ _) | exact half_v64 (ar_v64 _ _ _) | exact signS_v64 (ar_v64 _ _ _) | exact min_v64 (ar_v64 _ _ _) (ar_v64 _ _ _) | exact max_v64 (ar_v64 _ _ _) (ar_v64 _ _ _) | exact utLo_v64 _ _ | exact utHi_v64 _ _ | exact tHi_v64 _ _⟩, keeps_lays _ (fun s => [wrap64 (ar s 2 0 + ar s 2 1)]) 2 (by first | decide | (dsimp only; decide)) fun x s ha => lays_len ha (by first | decide | (dsimp only; decide)) 2 1 (by first | decide | (dsimp only; decide)) (by first | decide | (dsimp only; decide))⟩
  rw [if_neg h31] at hq
  by_cases h32 : op = 32
  · rw [if_pos h32] at hq
    obtain rfl := Option.some.inj hq
    subst h32
    refine ⟨does_reckoned _ (fun s => [wrap64 (ar s 2 0 - ar s 2 1)]) (by first | decide | (dsimp only; decide)) (by first | decide | (dsimp only; decide)) (g_pair 32 arg lit cells rfl rfl rfl rfl rfl rfl rfl rfl rfl rfl (by first | decide | (dsimp only; decide)) _ pair_sub) fun x s hs ha => ⟨lays_len ha (by first | decide | (dsimp only; decide)) 2 1 (by first | decide | (dsimp only; decide)) (by first | decide | (dsimp only; decide)), fun v hv => by
      rw [List.mem_singleton.1 hv]
      first | exact wrap_v64 _ | exact ar_v64 _ _ _ | exact flag_v64 _ | exact and_v64 _ _ | exact or_v64 _ _ | exact xor_v64 _ _ | exact shl_v64 _ _ | exact shr_v64 _ _ | exact abs_v64 (ar_v64 _ _ _) | exact half_v64 (ar_v64 _ _ _) | exact signS_v64 (ar_v64 _ _ _) | exact min_v64 (ar_v64 _ _ _) (ar_v64 _ _ _) | exact max_v64 (ar_v64 _ _ _) (ar_v64 _ _ _) | exact utLo_v64 _ _ | exact utHi_v64 _ _ | exact tHi_v64 _ _⟩, keeps_lays _ (fun s => [wrap64 (ar s 2 0 - ar s 2 1)]) 2 (by first | decide | (dsimp only; decide)) fun x s ha => lays_len ha (by first | decide | (dsimp only; decide)) 2 1 (by first | decide | (dsimp only; decide)) (by first | decide | (dsimp only; decide))⟩
  rw [if_neg h32] at hq
  by_cases h33 : op = 33
  · rw [if_pos h33] at hq
    obtain rfl := Option.some.inj hq
    subst h33
    refine ⟨does_reckoned _ (fun s => [wrap64 (ar s 2 0 * ar s 2 1)]) (by first | decide | (dsimp only; decide)) (by first | decide | (dsimp only; decide)) (g_pair 33 arg lit cells rfl rfl rfl rfl rfl rfl rfl rfl rfl rfl (by first | decide | (dsimp only; decide)) _ pair_mul) fun x s hs ha => ⟨lays_len ha (by first | decide | (dsimp only; decide)) 2 1 (by first | decide | (dsimp only; decide)) (by first | decide | (dsimp only; decide)), fun v hv => by
      rw [List.mem_singleton.1 hv]
      first | exact wrap_v64 _ | exact ar_v64 _ _ _ | exact flag_v64 _ | exact and_v64 _ _ | exact or_v64 _ _ | exact xor_v64 _ _ | exact shl_v64 _ _ | exact shr_v64 _ _ | exact abs_v64 (ar_v64 _ _ _) | exact half_v64 (ar_v64 _ _ _) | exact signS_v64 (ar_v64 _ _ _) | exact min_v64 (ar_v64 _ _ _) (ar_v64 _ _ _) | exact max_v64 (ar_v64 _ _ _) (ar_v64 _ _ _) | exact utLo_v64 _ _ | exact utHi_v64 _ _ | exact tHi_v64 _ _⟩, keeps_lays _ (fun s => [wrap64 (ar s 2 0 * ar s 2 1)]) 2 (by first | decide | (dsimp only; decide)) fun x s ha => lays_len ha (by first | decide | (dsimp only; decide)) 2 1 (by first | decide | (dsimp only; decide)) (by first | decide | (dsimp only; decide))⟩
  rw [if_neg h33] at hq
  by_cases h39 : op = 39
  · rw [if_pos h39] at hq
    obtain rfl := Option.some.inj hq
    subst h39
    refine ⟨does_reckoned _ (fun s => [wrap64 (-ar s 1 0)]) (by first | decide | (dsimp only; decide)) (by first | decide | (dsimp only; decide)) (g_alone 39 arg lit cells rfl rfl rfl rfl rfl rfl rfl rfl rfl rfl (by first | decide | (dsimp only; decide)) _ alone_neg) fun x s hs ha => ⟨lays_len ha (by first | decide | (dsimp only; decide)) 1 1 (by first | decide | (dsimp only; decide)) (by first | decide | (dsimp only; decide)), fun v hv => by
      rw [List.mem_singleton.1 hv]
      first | exact wrap_v64 _ | exact ar_v64 _ _ _ | exact flag_v64 _ | exact and_v64 _ _ | exact or_v64 _ _ | exact xor_v64 _ _ | exact shl_v64 _ _ | exact shr_v64 _ _ | exact abs_v64 (ar_v64 _ _ _) | exact half_v64 (ar_v64 _ _ _) | exact signS_v64 (ar_v64 _ _ _) | exact min_v64 (ar_v64 _ _ _) (ar_v64 _ _ _) | exact max_v64 (ar_v64 _ _ _) (ar_v64 _ _ _) | exact utLo_v64 _ _ | exact utHi_v64 _ _ | exact tHi_v64 _ _⟩, keeps_lays _ (fun s => [wrap64 (-ar s 1 0)]) 1 (by first | decide | (dsimp only; decide)) fun x s ha => lays_len ha (by first | decide | (dsimp only; decide)) 1 1 (by first | decide | (dsimp only; decide)) (by first | decide | (dsimp only; decide))⟩
  rw [if_neg h39] at hq
  by_cases h43 : op = 43
  · rw [if_pos h43] at hq
    obtain rfl := Option.some.inj hq
    subst h43
    refine ⟨does_reckoned _ (fun s => [wrap64 (ar s 1 0 + 1)]) (by first | decide | (dsimp only; decide)) (by first | decide | (dsimp only; decide)) (g_alone 43 arg lit cells rfl rfl rfl rfl rfl rfl rfl rfl rfl rfl (by first | decide | (dsimp only; decide)) _ alone_inc) fun x s hs ha => ⟨lays_len ha (by first | decide | (dsimp only; decide)) 1 1 (by first | decide | (dsimp only; decide)) (by first | decide | (dsimp only; decide)), fun v hv => by
      rw [List.mem_singleton.1 hv]
      first | exact wrap_v64 _ | exact ar_v64 _ _ _ | exact flag_v64 _ | exact and_v64 _ _ | exact or_v64 _ _ | exact xor_v64 _ _ | exact shl_v64 _ _ | exact shr_v64 _ _ | exact abs_v64 (ar_v64 _ _ _) | exact half_v64 (ar_v64 _ _ _) | exact signS_v64 (ar_v64 _ _ _) | exact min_v64 (ar_v64 _ _ _) (ar_v64 _ _ _) | exact max_v64 (ar_v64 _ _ _) (ar_v64 _ _ _) | exact utLo_v64 _ _ | exact utHi_v64 _ _ | exact tHi_v64 _ _⟩, keeps_lays _ (fun s => [wrap64 (ar s 1 0 + 1)]) 1 (by first | decide | (dsimp only; decide)) fun x s ha => lays_len ha (by first | decide | (dsimp only; decide)) 1 1 (by first | decide | (dsimp only; decide)) (by first | decide | (dsimp only; decide))⟩
  rw [if_neg h43] at hq
  by_cases h44 : op = 44
  · rw [if_pos h44] at hq
    obtain rfl := Option.some.inj hq
    subst h44
    refine ⟨does_reckoned _ (fun s => [wrap64 (ar s 1 0 - 1)]) (by first | decide | (dsimp only; decide)) (by first | decide | (dsimp only; decide)) (g_alone 44 arg lit cells rfl rfl rfl rfl rfl rfl rfl rfl rfl rfl (by first | decide | (dsimp only; decide)) _ alone_dec) fun x s hs ha => ⟨lays_len ha (by first | decide | (dsimp only; decide)) 1 1 (by first | decide | (dsimp only; decide)) (by first | decide | (dsimp only; decide)), fun v hv => by
      rw [List.mem_singleton.1 hv]
      first | exact wrap_v64 _ | exact ar_v64 _ _ _ | exact flag_v64 _ | exact and_v64 _ _ | exact or_v64 _ _ | exact xor_v64 _ _ | exact shl_v64 _ _ | exact shr_v64 _ _ | exact abs_v64 (ar_v64 _ _ _) | exact half_v64 (ar_v64 _ _ _) | exact signS_v64 (ar_v64 _ _ _) | exact min_v64 (ar_v64 _ _ _) (ar_v64 _ _ _) | exact max_v64 (ar_v64 _ _ _) (ar_v64 _ _ _) | exact utLo_v64 _ _ | exact utHi_v64 _ _ | exact tHi_v64 _ _⟩, keeps_lays _ (fun s => [wrap64 (ar s 1 0 - 1)]) 1 (by first | decide | (dsimp only; decide)) fun x s ha => lays_len ha (by first | decide | (dsimp only; decide)) 1 1 (by first | decide | (dsimp only; decide)) (by first | decide | (dsimp only; decide))⟩
  rw [if_neg h44] at hq
  by_cases h11 : op = 11
  · rw [if_pos h11] at hq
    obtain rfl := Option.some.inj hq
    subst h11
    exact ⟨does_control _ _ (by first | decide | (dsimp only; decide)) (ctl_loops 11 arg lit cells _ (by decide) (by decide) (fun _ _ => rfl) (PartOk.congr (lp_i arg lit cells) fun x s hs hx ha => lays_eq (lays_len ha (by first | decide | (dsimp only; decide)) 0 1 (by first | decide | (dsimp only; decide)) (by first | decide | (dsimp only; decide))))), keeps_i arg lit cells⟩
  rw [if_neg h11] at hq
  by_cases h12 : op = 12
  · rw [if_pos h12] at hq
    obtain rfl := Option.some.inj hq
    subst h12
    exact ⟨does_control _ _ (by first | decide | (dsimp only; decide)) (ctl_loops 12 arg lit cells _ (by decide) (by decide) (fun _ _ => rfl) (PartOk.congr (lp_j arg lit cells) fun x s hs hx ha => lays_eq (lays_len ha (by first | decide | (dsimp only; decide)) 0 1 (by first | decide | (dsimp only; decide)) (by first | decide | (dsimp only; decide))))), keeps_j arg lit cells⟩
  rw [if_neg h12] at hq
  by_cases h14 : op = 14
  · rw [if_pos h14] at hq
    obtain rfl := Option.some.inj hq
    subst h14
    exact ⟨does_control _ _ (by first | decide | (dsimp only; decide)) (ctl_loops 14 arg lit cells _ (by decide) (by decide) (fun _ _ => rfl) (PartOk.congr (lp_fromr arg lit cells) fun x s hs hx ha => lays_eq (lays_len ha (by first | decide | (dsimp only; decide)) 0 1 (by first | decide | (dsimp only; decide)) (by first | decide | (dsimp only; decide))))), keeps_fromr arg lit cells⟩
  rw [if_neg h14] at hq
  by_cases h15 : op = 15
  · rw [if_pos h15] at hq
    obtain rfl := Option.some.inj hq
    subst h15
    exact ⟨does_control _ _ (by first | decide | (dsimp only; decide)) (ctl_loops 15 arg lit cells _ (by decide) (by decide) (fun _ _ => rfl) (PartOk.congr (lp_rfetch arg lit cells) fun x s hs hx ha => lays_eq (lays_len ha (by first | decide | (dsimp only; decide)) 0 1 (by first | decide | (dsimp only; decide)) (by first | decide | (dsimp only; decide))))), keeps_rfetch arg lit cells⟩
  rw [if_neg h15] at hq
  by_cases h25 : op = 25
  · rw [if_pos h25] at hq
    obtain rfl := Option.some.inj hq
    subst h25
    refine ⟨does_moved _ (fun s => [ar s 3 1, ar s 3 2, ar s 3 0]) (by first | decide | (dsimp only; decide)) (by first | decide | (dsimp only; decide)) (m_rot arg lit cells) fun x s hs ha => ⟨lays_len ha (by first | decide | (dsimp only; decide)) 3 3 (by first | decide | (dsimp only; decide)) (by first | decide | (dsimp only; decide)), fun v hv => by
      simp only [List.mem_cons, List.mem_nil_iff, or_false] at hv
      rcases hv with rfl | rfl | rfl <;> first | exact ar_v64 _ _ _ | exact wrap_v64 _⟩, keeps_lays _ (fun s => [ar s 3 1, ar s 3 2, ar s 3 0]) 3 (by first | decide | (dsimp only; decide)) fun x s ha => lays_len ha (by first | decide | (dsimp only; decide)) 3 3 (by first | decide | (dsimp only; decide)) (by first | decide | (dsimp only; decide))⟩
  rw [if_neg h25] at hq
  by_cases h26 : op = 26
  · rw [if_pos h26] at hq
    obtain rfl := Option.some.inj hq
    subst h26
    exact ⟨does_moved _ (fun s => qdupL (ar s 1 0)) (by first | decide | (dsimp only; decide)) (by first | decide | (dsimp only; decide)) (m_qdup arg lit cells) fun x s hs ha => ⟨qdup_len ha, qdup_v64 (ar_v64 _ _ _)⟩, keeps_lays _ (fun s => qdupL (ar s 1 0)) 1 (by first | decide | (dsimp only; decide)) fun x s ha => qdup_len ha⟩
  rw [if_neg h26] at hq
  by_cases h27 : op = 27
  · rw [if_pos h27] at hq
    obtain rfl := Option.some.inj hq
    subst h27
    refine ⟨does_moved _ (fun s => [ar s 2 1]) (by first | decide | (dsimp only; decide)) (by first | decide | (dsimp only; decide)) (m_nip arg lit cells) fun x s hs ha => ⟨lays_len ha (by first | decide | (dsimp only; decide)) 2 1 (by first | decide | (dsimp only; decide)) (by first | decide | (dsimp only; decide)), fun v hv => by
      rw [List.mem_singleton.1 hv]
      first | exact wrap_v64 _ | exact ar_v64 _ _ _ | exact flag_v64 _ | exact and_v64 _ _ | exact or_v64 _ _ | exact xor_v64 _ _ | exact shl_v64 _ _ | exact shr_v64 _ _ | exact abs_v64 (ar_v64 _ _ _) | exact half_v64 (ar_v64 _ _ _) | exact signS_v64 (ar_v64 _ _ _) | exact min_v64 (ar_v64 _ _ _) (ar_v64 _ _ _) | exact max_v64 (ar_v64 _ _ _) (ar_v64 _ _ _) | exact utLo_v64 _ _ | exact utHi_v64 _ _ | exact tHi_v64 _ _⟩, keeps_lays _ (fun s => [ar s 2 1]) 2 (by first | decide | (dsimp only; decide)) fun x s ha => lays_len ha (by first | decide | (dsimp only; decide)) 2 1 (by first | decide | (dsimp only; decide)) (by first | decide | (dsimp only; decide))⟩
  rw [if_neg h27] at hq
  by_cases h28 : op = 28
  · rw [if_pos h28] at hq
    obtain rfl := Option.some.inj hq
    subst h28
    refine ⟨does_moved _ (fun s => [ar s 2 1, ar s 2 0, ar s 2 1]) (by first | decide | (dsimp only; decide)) (by first | decide | (dsimp only; decide)) (m_tuck arg lit cells) fun x s hs ha => ⟨lays_len ha (by first | decide | (dsimp only; decide)) 2 3 (by first | decide | (dsimp only; decide)) (by first | decide | (dsimp only; decide)), fun v hv => by
      simp only [List.mem_cons, List.mem_nil_iff, or_false] at hv
      rcases hv with rfl | rfl | rfl <;> first | exact ar_v64 _ _ _ | exact wrap_v64 _⟩, keeps_lays _ (fun s => [ar s 2 1, ar s 2 0, ar s 2 1]) 2 (by first | decide | (dsimp only; decide)) fun x s ha => lays_len ha (by first | decide | (dsimp only; decide)) 2 3 (by first | decide | (dsimp only; decide)) (by first | decide | (dsimp only; decide))⟩
  rw [if_neg h28] at hq
  by_cases h34 : op = 34
  · rw [if_pos h34] at hq
    obtain rfl := Option.some.inj hq
    subst h34
    have hm : Mild (fun x s => quoP 0 (decide (ar s 2 1 = 0)) (floQ (ar s 2 0) (ar s 2 1)) (floR (ar s 2 0) (ar s 2 1)) x s) 1 := (Mild.quo (fun s => floQ_v64 _ _) (fun s => floR_v64 (ar_v64 _ _ _) (ar_v64 _ _ _)))
    exact ⟨does2_reckoned _ _ (by first | decide | (dsimp only; decide)) (by first | decide | (dsimp only; decide)) (y_div arg lit cells) (laysOk_of 2 (by first | decide | (dsimp only; decide)) (by first | decide | (dsimp only; decide)) (by dsimp only; decide) hm), keeps_laid (by first | decide | (dsimp only; decide)) (laysOk_of 2 (by first | decide | (dsimp only; decide)) (by first | decide | (dsimp only; decide)) (by dsimp only; decide) hm) hm⟩
  rw [if_neg h34] at hq
  by_cases h35 : op = 35
  · rw [if_pos h35] at hq
    obtain rfl := Option.some.inj hq
    subst h35
    have hm : Mild (fun x s => quoP 1 (decide (ar s 2 1 = 0)) (floQ (ar s 2 0) (ar s 2 1)) (floR (ar s 2 0) (ar s 2 1)) x s) 1 := (Mild.quo (fun s => floQ_v64 _ _) (fun s => floR_v64 (ar_v64 _ _ _) (ar_v64 _ _ _)))
    exact ⟨does2_reckoned _ _ (by first | decide | (dsimp only; decide)) (by first | decide | (dsimp only; decide)) (y_mod arg lit cells) (laysOk_of 2 (by first | decide | (dsimp only; decide)) (by first | decide | (dsimp only; decide)) (by dsimp only; decide) hm), keeps_laid (by first | decide | (dsimp only; decide)) (laysOk_of 2 (by first | decide | (dsimp only; decide)) (by first | decide | (dsimp only; decide)) (by dsimp only; decide) hm) hm⟩
  rw [if_neg h35] at hq
  by_cases h36 : op = 36
  · rw [if_pos h36] at hq
    obtain rfl := Option.some.inj hq
    subst h36
    have hm : Mild (fun x s => quoP 2 (decide (ar s 2 1 = 0)) (floQ (ar s 2 0) (ar s 2 1)) (floR (ar s 2 0) (ar s 2 1)) x s) 2 := (Mild.quo (fun s => floQ_v64 _ _) (fun s => floR_v64 (ar_v64 _ _ _) (ar_v64 _ _ _)))
    exact ⟨does2_reckoned _ _ (by first | decide | (dsimp only; decide)) (by first | decide | (dsimp only; decide)) (y_divmod arg lit cells) (laysOk_of 2 (by first | decide | (dsimp only; decide)) (by first | decide | (dsimp only; decide)) (by dsimp only; decide) hm), keeps_laid (by first | decide | (dsimp only; decide)) (laysOk_of 2 (by first | decide | (dsimp only; decide)) (by first | decide | (dsimp only; decide)) (by dsimp only; decide) hm) hm⟩
  rw [if_neg h36] at hq
  by_cases h37 : op = 37
  · rw [if_pos h37] at hq
    obtain rfl := Option.some.inj hq
    subst h37
    have hm : Mild (fun x s => quoP 0 (fdOut (utLo (ar s 3 0) (ar s 3 1)) (tHi (ar s 3 0) (ar s 3 1)) (ar s 3 2)) (fdQ (utLo (ar s 3 0) (ar s 3 1)) (tHi (ar s 3 0) (ar s 3 1)) (ar s 3 2)) (fdR (utLo (ar s 3 0) (ar s 3 1)) (tHi (ar s 3 0) (ar s 3 1)) (ar s 3 2)) x s) 1 := (Mild.quo (fun s => fdQ_v64 _ _ _) (fun s => fdR_v64 _ _ _))
    exact ⟨does2_reckoned _ _ (by first | decide | (dsimp only; decide)) (by first | decide | (dsimp only; decide)) (y_muldiv arg lit cells) (laysOk_of 3 (by first | decide | (dsimp only; decide)) (by first | decide | (dsimp only; decide)) (by dsimp only; decide) hm), keeps_laid (by first | decide | (dsimp only; decide)) (laysOk_of 3 (by first | decide | (dsimp only; decide)) (by first | decide | (dsimp only; decide)) (by dsimp only; decide) hm) hm⟩
  rw [if_neg h37] at hq
  by_cases h38 : op = 38
  · rw [if_pos h38] at hq
    obtain rfl := Option.some.inj hq
    subst h38
    have hm : Mild (fun x s => quoP 2 (fdOut (utLo (ar s 3 0) (ar s 3 1)) (tHi (ar s 3 0) (ar s 3 1)) (ar s 3 2)) (fdQ (utLo (ar s 3 0) (ar s 3 1)) (tHi (ar s 3 0) (ar s 3 1)) (ar s 3 2)) (fdR (utLo (ar s 3 0) (ar s 3 1)) (tHi (ar s 3 0) (ar s 3 1)) (ar s 3 2)) x s) 2 := (Mild.quo (fun s => fdQ_v64 _ _ _) (fun s => fdR_v64 _ _ _))
    exact ⟨does2_reckoned _ _ (by first | decide | (dsimp only; decide)) (by first | decide | (dsimp only; decide)) (y_muldivmod arg lit cells) (laysOk_of 3 (by first | decide | (dsimp only; decide)) (by first | decide | (dsimp only; decide)) (by dsimp only; decide) hm), keeps_laid (by first | decide | (dsimp only; decide)) (laysOk_of 3 (by first | decide | (dsimp only; decide)) (by first | decide | (dsimp only; decide)) (by dsimp only; decide) hm) hm⟩
  rw [if_neg h38] at hq
  by_cases h53 : op = 53
  · rw [if_pos h53] at hq
    obtain rfl := Option.some.inj hq
    subst h53
    have hm : Mild (fun x s => ((⟨0, x, s⟩, [utLo (ar s 2 0) (ar s 2 1), tHi (ar s 2 0) (ar s 2 1)]) : Rs × List Int)) 2 := (Mild.pure (l := fun s => [utLo (ar s 2 0) (ar s 2 1), tHi (ar s 2 0) (ar s 2 1)]) (f := fun _ => 0) (fun s => Nat.le_refl _) (fun s hs v hv => by
      simp only [List.mem_cons, List.mem_nil_iff, or_false] at hv
      rcases hv with rfl | rfl <;> first | exact wrap_v64 _ | exact ar_v64 _ _ _ | exact flag_v64 _ | exact and_v64 _ _ | exact or_v64 _ _ | exact xor_v64 _ _ | exact shl_v64 _ _ | exact shr_v64 _ _ | exact abs_v64 (ar_v64 _ _ _) | exact half_v64 (ar_v64 _ _ _) | exact signS_v64 (ar_v64 _ _ _) | exact min_v64 (ar_v64 _ _ _) (ar_v64 _ _ _) | exact max_v64 (ar_v64 _ _ _) (ar_v64 _ _ _) | exact utLo_v64 _ _ | exact utHi_v64 _ _ | exact tHi_v64 _ _))
    exact ⟨does2_reckoned _ _ (by first | decide | (dsimp only; decide)) (by first | decide | (dsimp only; decide)) (g_mstar arg lit cells).toR (laysOk_of 2 (by first | decide | (dsimp only; decide)) (by first | decide | (dsimp only; decide)) (by dsimp only; decide) hm), keeps_laid (by first | decide | (dsimp only; decide)) (laysOk_of 2 (by first | decide | (dsimp only; decide)) (by first | decide | (dsimp only; decide)) (by dsimp only; decide) hm) hm⟩
  rw [if_neg h53] at hq
  by_cases h54 : op = 54
  · rw [if_pos h54] at hq
    obtain rfl := Option.some.inj hq
    subst h54
    have hm : Mild (fun x s => ((⟨0, x, s⟩, [utLo (ar s 2 0) (ar s 2 1), utHi (ar s 2 0) (ar s 2 1)]) : Rs × List Int)) 2 := (Mild.pure (l := fun s => [utLo (ar s 2 0) (ar s 2 1), utHi (ar s 2 0) (ar s 2 1)]) (f := fun _ => 0) (fun s => Nat.le_refl _) (fun s hs v hv => by
      simp only [List.mem_cons, List.mem_nil_iff, or_false] at hv
      rcases hv with rfl | rfl <;> first | exact wrap_v64 _ | exact ar_v64 _ _ _ | exact flag_v64 _ | exact and_v64 _ _ | exact or_v64 _ _ | exact xor_v64 _ _ | exact shl_v64 _ _ | exact shr_v64 _ _ | exact abs_v64 (ar_v64 _ _ _) | exact half_v64 (ar_v64 _ _ _) | exact signS_v64 (ar_v64 _ _ _) | exact min_v64 (ar_v64 _ _ _) (ar_v64 _ _ _) | exact max_v64 (ar_v64 _ _ _) (ar_v64 _ _ _) | exact utLo_v64 _ _ | exact utHi_v64 _ _ | exact tHi_v64 _ _))
    exact ⟨does2_reckoned _ _ (by first | decide | (dsimp only; decide)) (by first | decide | (dsimp only; decide)) (g_umstar arg lit cells).toR (laysOk_of 2 (by first | decide | (dsimp only; decide)) (by first | decide | (dsimp only; decide)) (by dsimp only; decide) hm), keeps_laid (by first | decide | (dsimp only; decide)) (laysOk_of 2 (by first | decide | (dsimp only; decide)) (by first | decide | (dsimp only; decide)) (by dsimp only; decide) hm) hm⟩
  rw [if_neg h54] at hq
  by_cases h55 : op = 55
  · rw [if_pos h55] at hq
    obtain rfl := Option.some.inj hq
    subst h55
    have hm : Mild (fun x s => quoP 2 (udOut (ar s 3 1) (ar s 3 2)) (udQ (ar s 3 0) (ar s 3 1) (ar s 3 2)) (udR (ar s 3 0) (ar s 3 1) (ar s 3 2)) x s) 2 := (Mild.quo (fun s => udQ_v64 _ _ _) (fun s => udR_v64 _ _ _))
    exact ⟨does2_reckoned _ _ (by first | decide | (dsimp only; decide)) (by first | decide | (dsimp only; decide)) (y_ummod arg lit cells) (laysOk_of 3 (by first | decide | (dsimp only; decide)) (by first | decide | (dsimp only; decide)) (by dsimp only; decide) hm), keeps_laid (by first | decide | (dsimp only; decide)) (laysOk_of 3 (by first | decide | (dsimp only; decide)) (by first | decide | (dsimp only; decide)) (by dsimp only; decide) hm) hm⟩
  rw [if_neg h55] at hq
  by_cases h56 : op = 56
  · rw [if_pos h56] at hq
    obtain rfl := Option.some.inj hq
    subst h56
    have hm : Mild (fun x s => quoP 2 (dvOut (ar s 3 0) (ar s 3 1) (ar s 3 2)) (dvQ (ar s 3 0) (ar s 3 1) (ar s 3 2)) (dvR (ar s 3 0) (ar s 3 1) (ar s 3 2)) x s) 2 := (Mild.quo (fun s => dvQ_v64 _ _ _) (fun s => dvR_v64 _ _ _))
    exact ⟨does2_reckoned _ _ (by first | decide | (dsimp only; decide)) (by first | decide | (dsimp only; decide)) (y_smrem arg lit cells) (laysOk_of 3 (by first | decide | (dsimp only; decide)) (by first | decide | (dsimp only; decide)) (by dsimp only; decide) hm), keeps_laid (by first | decide | (dsimp only; decide)) (laysOk_of 3 (by first | decide | (dsimp only; decide)) (by first | decide | (dsimp only; decide)) (by dsimp only; decide) hm) hm⟩
  rw [if_neg h56] at hq
  by_cases h57 : op = 57
  · rw [if_pos h57] at hq
    obtain rfl := Option.some.inj hq
    subst h57
    have hm : Mild (fun x s => quoP 2 (fdOut (ar s 3 0) (ar s 3 1) (ar s 3 2)) (fdQ (ar s 3 0) (ar s 3 1) (ar s 3 2)) (fdR (ar s 3 0) (ar s 3 1) (ar s 3 2)) x s) 2 := (Mild.quo (fun s => fdQ_v64 _ _ _) (fun s => fdR_v64 _ _ _))
    exact ⟨does2_reckoned _ _ (by first | decide | (dsimp only; decide)) (by first | decide | (dsimp only; decide)) (y_fmmod arg lit cells) (laysOk_of 3 (by first | decide | (dsimp only; decide)) (by first | decide | (dsimp only; decide)) (by dsimp only; decide) hm), keeps_laid (by first | decide | (dsimp only; decide)) (laysOk_of 3 (by first | decide | (dsimp only; decide)) (by first | decide | (dsimp only; decide)) (by dsimp only; decide) hm) hm⟩
  rw [if_neg h57] at hq
  by_cases h65 : op = 65
  · rw [if_pos h65] at hq
    obtain rfl := Option.some.inj hq
    subst h65
    have hm : Mild (fun x s => ((⟨s.S.cellF x.mode (ar s 1 0) false, x, s⟩, [s.S.cellV x.mode (ar s 1 0)]) : Rs × List Int)) 1 := (fun x s hs hx => ⟨hs, rfl, rfl, Nat.le_refl 1, (fun v hv => by rw [List.mem_singleton.1 hv]; exact cellV_v64 _ _ _), rfl, rfl, rfl⟩)
    exact ⟨does2_memory _ _ (by first | decide | (dsimp only; decide)) (by first | decide | (dsimp only; decide)) (y_fetch arg lit cells) (laysOk_of 1 (by first | decide | (dsimp only; decide)) (by first | decide | (dsimp only; decide)) (by dsimp only; decide) hm), keeps_laid (by first | decide | (dsimp only; decide)) (laysOk_of 1 (by first | decide | (dsimp only; decide)) (by first | decide | (dsimp only; decide)) (by dsimp only; decide) hm) hm⟩
  rw [if_neg h65] at hq
  by_cases h66 : op = 66
  · rw [if_pos h66] at hq
    obtain rfl := Option.some.inj hq
    subst h66
    have hm : Mild (fun x s => ((⟨s.S.cellF x.mode (ar s 2 1) true, x, { s with S := s.S.setCell x.mode (ar s 2 1) (ar s 2 0) }⟩, []) : Rs × List Int)) 0 := (fun x s hs hx => ⟨setCell_mt_ok hs _ _ _, rfl, rfl, Nat.le_refl 0, (fun v hv => by cases hv), rfl, rfl, rfl⟩)
    exact ⟨does2_memory _ _ (by first | decide | (dsimp only; decide)) (by first | decide | (dsimp only; decide)) (y_store arg lit cells) (laysOk_of 2 (by first | decide | (dsimp only; decide)) (by first | decide | (dsimp only; decide)) (by dsimp only; decide) hm), keeps_laid (by first | decide | (dsimp only; decide)) (laysOk_of 2 (by first | decide | (dsimp only; decide)) (by first | decide | (dsimp only; decide)) (by dsimp only; decide) hm) hm⟩
  rw [if_neg h66] at hq
  by_cases h77 : op = 77
  · rw [if_pos h77] at hq
    obtain rfl := Option.some.inj hq
    subst h77
    have hm : Mild (fun x s => ((⟨0, x, s⟩, [wrap64 (s.S.beg 3 : Int)]) : Rs × List Int)) 1 := (Mild.pure (l := fun s => [wrap64 (s.S.beg 3 : Int)]) (f := fun _ => 0) (fun s => Nat.le_refl _) (fun s hs v hv => by
      rw [List.mem_singleton.1 hv]
      first | exact wrap_v64 _ | exact ar_v64 _ _ _ | exact flag_v64 _ | exact and_v64 _ _ | exact or_v64 _ _ | exact xor_v64 _ _ | exact shl_v64 _ _ | exact shr_v64 _ _ | exact abs_v64 (ar_v64 _ _ _) | exact half_v64 (ar_v64 _ _ _) | exact signS_v64 (ar_v64 _ _ _) | exact min_v64 (ar_v64 _ _ _) (ar_v64 _ _ _) | exact max_v64 (ar_v64 _ _ _) (ar_v64 _ _ _) | exact utLo_v64 _ _ | exact utHi_v64 _ _ | exact tHi_v64 _ _))
    exact ⟨does2_lists _ _ (by first | decide | (dsimp only; decide)) (by first | decide | (dsimp only; decide)) (y_base arg lit cells).toR (laysOk_of 0 (by first | decide | (dsimp only; decide)) (by first | decide | (dsimp only; decide)) (by dsimp only; decide) hm), keeps_laid (by first | decide | (dsimp only; decide)) (laysOk_of 0 (by first | decide | (dsimp only; decide)) (by first | decide | (dsimp only; decide)) (by dsimp only; decide) hm) hm⟩
  rw [if_neg h77] at hq
  by_cases h40 : op = 40
  · rw [if_pos h40] at hq
    obtain rfl := Option.some.inj hq
    subst h40
    refine ⟨does_reckoned _ (fun s => [absS (ar s 1 0)]) (by first | decide | (dsimp only; decide)) (by first | decide | (dsimp only; decide)) (g_alone 40 arg lit cells rfl rfl rfl rfl rfl rfl rfl rfl rfl rfl (by first | decide | (dsimp only; decide)) _ alone_abs) fun x s hs ha => ⟨lays_len ha (by first | decide | (dsimp only; decide)) 1 1 (by first | decide | (dsimp only; decide)) (by first | decide | (dsimp only; decide)), fun v hv => by
      rw [List.mem_singleton.1 hv]
      first | exact wrap_v64 _ | exact ar_v64 _ _ _ | exact flag_v64 _ | exact and_v64 _ _ | exact or_v64 _ _ | exact xor_v64 _ _ | exact shl_v64 _ _ | exact shr_v64 _ _ | exact abs_v64 (ar_v64 _ _ _) | exact half_v64 (ar_v64 _ _ _) | exact signS_v64 (ar_v64 _ _ _) | exact min_v64 (ar_v64 _ _ _) (ar_v64 _ _ _) | exact max_v64 (ar_v64 _ _ _) (ar_v64 _ _ _) | exact utLo_v64 _ _ | exact utHi_v64 _ _ | exact tHi_v64 _ _⟩, keeps_lays _ (fun s => [absS (ar s 1 0)]) 1 (by first | decide | (dsimp only; decide)) fun x s ha => lays_len ha (by first | decide | (dsimp only; decide)) 1 1 (by first | decide | (dsimp only; decide)) (by first | decide | (dsimp only; decide))⟩
  rw [if_neg h40] at hq
  by_cases h45 : op = 45
  · rw [if_pos h45] at hq
    obtain rfl := Option.some.inj hq
    subst h45
    refine ⟨does_reckoned _ (fun s => [wrap64 (ar s 1 0 * 2)]) (by first | decide | (dsimp only; decide)) (by first | decide | (dsimp only; decide)) (g_alone 45 arg lit cells rfl rfl rfl rfl rfl rfl rfl rfl rfl rfl (by first | decide | (dsimp only; decide)) _ alone_twice) fun x s hs ha => ⟨lays_len ha (by first | decide | (dsimp only; decide)) 1 1 (by first | decide | (dsimp only; decide)) (by first | decide | (dsimp only; decide)), fun v hv => by
      rw [List.mem_singleton.1 hv]
      first | exact wrap_v64 _ | exact ar_v64 _ _ _ | exact flag_v64 _ | exact and_v64 _ _ | exact or_v64 _ _ | exact xor_v64 _ _ | exact shl_v64 _ _ | exact shr_v64 _ _ | exact abs_v64 (ar_v64 _ _ _) | exact half_v64 (ar_v64 _ _ _) | exact signS_v64 (ar_v64 _ _ _) | exact min_v64 (ar_v64 _ _ _) (ar_v64 _ _ _) | exact max_v64 (ar_v64 _ _ _) (ar_v64 _ _ _) | exact utLo_v64 _ _ | exact utHi_v64 _ _ | exact tHi_v64 _ _⟩, keeps_lays _ (fun s => [wrap64 (ar s 1 0 * 2)]) 1 (by first | decide | (dsimp only; decide)) fun x s ha => lays_len ha (by first | decide | (dsimp only; decide)) 1 1 (by first | decide | (dsimp only; decide)) (by first | decide | (dsimp only; decide))⟩
  rw [if_neg h45] at hq
  by_cases h46 : op = 46
  · rw [if_pos h46] at hq
    obtain rfl := Option.some.inj hq
    subst h46
    refine ⟨does_reckoned _ (fun s => [ar s 1 0 / 2]) (by first | decide | (dsimp only; decide)) (by first | decide | (dsimp only; decide)) (g_alone 46 arg lit cells rfl rfl rfl rfl rfl rfl rfl rfl rfl rfl (by first | decide | (dsimp only; decide)) _ alone_half) fun x s hs ha => ⟨lays_len ha (by first | decide | (dsimp only; decide)) 1 1 (by first | decide | (dsimp only; decide)) (by first | decide | (dsimp only; decide)), fun v hv => by
      rw [List.mem_singleton.1 hv]
      first | exact wrap_v64 _ | exact ar_v64 _ _ _ | exact flag_v64 _ | exact and_v64 _ _ | exact or_v64 _ _ | exact xor_v64 _ _ | exact shl_v64 _ _ | exact shr_v64 _ _ | exact abs_v64 (ar_v64 _ _ _) | exact half_v64 (ar_v64 _ _ _) | exact signS_v64 (ar_v64 _ _ _) | exact min_v64 (ar_v64 _ _ _) (ar_v64 _ _ _) | exact max_v64 (ar_v64 _ _ _) (ar_v64 _ _ _) | exact utLo_v64 _ _ | exact utHi_v64 _ _ | exact tHi_v64 _ _⟩, keeps_lays _ (fun s => [ar s 1 0 / 2]) 1 (by first | decide | (dsimp only; decide)) fun x s ha => lays_len ha (by first | decide | (dsimp only; decide)) 1 1 (by first | decide | (dsimp only; decide)) (by first | decide | (dsimp only; decide))⟩
  rw [if_neg h46] at hq
  by_cases h50 : op = 50
  · rw [if_pos h50] at hq
    obtain rfl := Option.some.inj hq
    subst h50
    refine ⟨does_reckoned _ (fun s => [bits .xor .i64 (-1) (ar s 1 0)]) (by first | decide | (dsimp only; decide)) (by first | decide | (dsimp only; decide)) (g_alone 50 arg lit cells rfl rfl rfl rfl rfl rfl rfl rfl rfl rfl (by first | decide | (dsimp only; decide)) _ alone_invert) fun x s hs ha => ⟨lays_len ha (by first | decide | (dsimp only; decide)) 1 1 (by first | decide | (dsimp only; decide)) (by first | decide | (dsimp only; decide)), fun v hv => by
      rw [List.mem_singleton.1 hv]
      first | exact wrap_v64 _ | exact ar_v64 _ _ _ | exact flag_v64 _ | exact and_v64 _ _ | exact or_v64 _ _ | exact xor_v64 _ _ | exact shl_v64 _ _ | exact shr_v64 _ _ | exact abs_v64 (ar_v64 _ _ _) | exact half_v64 (ar_v64 _ _ _) | exact signS_v64 (ar_v64 _ _ _) | exact min_v64 (ar_v64 _ _ _) (ar_v64 _ _ _) | exact max_v64 (ar_v64 _ _ _) (ar_v64 _ _ _) | exact utLo_v64 _ _ | exact utHi_v64 _ _ | exact tHi_v64 _ _⟩, keeps_lays _ (fun s => [bits .xor .i64 (-1) (ar s 1 0)]) 1 (by first | decide | (dsimp only; decide)) fun x s ha => lays_len ha (by first | decide | (dsimp only; decide)) 1 1 (by first | decide | (dsimp only; decide)) (by first | decide | (dsimp only; decide))⟩
  rw [if_neg h50] at hq
  by_cases h63 : op = 63
  · rw [if_pos h63] at hq
    obtain rfl := Option.some.inj hq
    subst h63
    refine ⟨does_reckoned _ (fun s => [flagS (ar s 1 0 == 0)]) (by first | decide | (dsimp only; decide)) (by first | decide | (dsimp only; decide)) (g_alone 63 arg lit cells rfl rfl rfl rfl rfl rfl rfl rfl rfl rfl (by first | decide | (dsimp only; decide)) _ alone_zeroeq) fun x s hs ha => ⟨lays_len ha (by first | decide | (dsimp only; decide)) 1 1 (by first | decide | (dsimp only; decide)) (by first | decide | (dsimp only; decide)), fun v hv => by
      rw [List.mem_singleton.1 hv]
      first | exact wrap_v64 _ | exact ar_v64 _ _ _ | exact flag_v64 _ | exact and_v64 _ _ | exact or_v64 _ _ | exact xor_v64 _ _ | exact shl_v64 _ _ | exact shr_v64 _ _ | exact abs_v64 (ar_v64 _ _ _) | exact half_v64 (ar_v64 _ _ _) | exact signS_v64 (ar_v64 _ _ _) | exact min_v64 (ar_v64 _ _ _) (ar_v64 _ _ _) | exact max_v64 (ar_v64 _ _ _) (ar_v64 _ _ _) | exact utLo_v64 _ _ | exact utHi_v64 _ _ | exact tHi_v64 _ _⟩, keeps_lays _ (fun s => [flagS (ar s 1 0 == 0)]) 1 (by first | decide | (dsimp only; decide)) fun x s ha => lays_len ha (by first | decide | (dsimp only; decide)) 1 1 (by first | decide | (dsimp only; decide)) (by first | decide | (dsimp only; decide))⟩
  rw [if_neg h63] at hq
  by_cases h64 : op = 64
  · rw [if_pos h64] at hq
    obtain rfl := Option.some.inj hq
    subst h64
    refine ⟨does_reckoned _ (fun s => [signS (ar s 1 0)]) (by first | decide | (dsimp only; decide)) (by first | decide | (dsimp only; decide)) (g_alone 64 arg lit cells rfl rfl rfl rfl rfl rfl rfl rfl rfl rfl (by first | decide | (dsimp only; decide)) _ alone_zerolt) fun x s hs ha => ⟨lays_len ha (by first | decide | (dsimp only; decide)) 1 1 (by first | decide | (dsimp only; decide)) (by first | decide | (dsimp only; decide)), fun v hv => by
      rw [List.mem_singleton.1 hv]
      first | exact wrap_v64 _ | exact ar_v64 _ _ _ | exact flag_v64 _ | exact and_v64 _ _ | exact or_v64 _ _ | exact xor_v64 _ _ | exact shl_v64 _ _ | exact shr_v64 _ _ | exact abs_v64 (ar_v64 _ _ _) | exact half_v64 (ar_v64 _ _ _) | exact signS_v64 (ar_v64 _ _ _) | exact min_v64 (ar_v64 _ _ _) (ar_v64 _ _ _) | exact max_v64 (ar_v64 _ _ _) (ar_v64 _ _ _) | exact utLo_v64 _ _ | exact utHi_v64 _ _ | exact tHi_v64 _ _⟩, keeps_lays _ (fun s => [signS (ar s 1 0)]) 1 (by first | decide | (dsimp only; decide)) fun x s ha => lays_len ha (by first | decide | (dsimp only; decide)) 1 1 (by first | decide | (dsimp only; decide)) (by first | decide | (dsimp only; decide))⟩
  rw [if_neg h64] at hq
  by_cases h41 : op = 41
  · rw [if_pos h41] at hq
    obtain rfl := Option.some.inj hq
    subst h41
    refine ⟨does_reckoned _ (fun s => [min (ar s 2 0) (ar s 2 1)]) (by first | decide | (dsimp only; decide)) (by first | decide | (dsimp only; decide)) (g_pair 41 arg lit cells rfl rfl rfl rfl rfl rfl rfl rfl rfl rfl (by first | decide | (dsimp only; decide)) _ pair_min) fun x s hs ha => ⟨lays_len ha (by first | decide | (dsimp only; decide)) 2 1 (by first | decide | (dsimp only; decide)) (by first | decide | (dsimp only; decide)), fun v hv => by
      rw [List.mem_singleton.1 hv]
      first | exact wrap_v64 _ | exact ar_v64 _ _ _ | exact flag_v64 _ | exact and_v64 _ _ | exact or_v64 _ _ | exact xor_v64 _ _ | exact shl_v64 _ _ | exact shr_v64 _ _ | exact abs_v64 (ar_v64 _ _ _) | exact half_v64 (ar_v64 _ _ _) | exact signS_v64 (ar_v64 _ _ _) | exact min_v64 (ar_v64 _ _ _) (ar_v64 _ _ _) | exact max_v64 (ar_v64 _ _ _) (ar_v64 _ _ _) | exact utLo_v64 _ _ | exact utHi_v64 _ _ | exact tHi_v64 _ _⟩, keeps_lays _ (fun s => [min (ar s 2 0) (ar s 2 1)]) 2 (by first | decide | (dsimp only; decide)) fun x s ha => lays_len ha (by first | decide | (dsimp only; decide)) 2 1 (by first | decide | (dsimp only; decide)) (by first | decide | (dsimp only; decide))⟩
  rw [if_neg h41] at hq
  by_cases h42 : op = 42
  · rw [if_pos h42] at hq
    obtain rfl := Option.some.inj hq
    subst h42
    refine ⟨does_reckoned _ (fun s => [max (ar s 2 0) (ar s 2 1)]) (by first | decide | (dsimp only; decide)) (by first | decide | (dsimp only; decide)) (g_pair 42 arg lit cells rfl rfl rfl rfl rfl rfl rfl rfl rfl rfl (by first | decide | (dsimp only; decide)) _ pair_max) fun x s hs ha => ⟨lays_len ha (by first | decide | (dsimp only; decide)) 2 1 (by first | decide | (dsimp only; decide)) (by first | decide | (dsimp only; decide)), fun v hv => by
      rw [List.mem_singleton.1 hv]
      first | exact wrap_v64 _ | exact ar_v64 _ _ _ | exact flag_v64 _ | exact and_v64 _ _ | exact or_v64 _ _ | exact xor_v64 _ _ | exact shl_v64 _ _ | exact shr_v64 _ _ | exact abs_v64 (ar_v64 _ _ _) | exact half_v64 (ar_v64 _ _ _) | exact signS_v64 (ar_v64 _ _ _) | exact min_v64 (ar_v64 _ _ _) (ar_v64 _ _ _) | exact max_v64 (ar_v64 _ _ _) (ar_v64 _ _ _) | exact utLo_v64 _ _ | exact utHi_v64 _ _ | exact tHi_v64 _ _⟩, keeps_lays _ (fun s => [max (ar s 2 0) (ar s 2 1)]) 2 (by first | decide | (dsimp only; decide)) fun x s ha => lays_len ha (by first | decide | (dsimp only; decide)) 2 1 (by first | decide | (dsimp only; decide)) (by first | decide | (dsimp only; decide))⟩
  rw [if_neg h42] at hq
  by_cases h47 : op = 47
  · rw [if_pos h47] at hq
    obtain rfl := Option.some.inj hq
    subst h47
    refine ⟨does_reckoned _ (fun s => [bits .and .i64 (ar s 2 0) (ar s 2 1)]) (by first | decide | (dsimp only; decide)) (by first | decide | (dsimp only; decide)) (g_pair 47 arg lit cells rfl rfl rfl rfl rfl rfl rfl rfl rfl rfl (by first | decide | (dsimp only; decide)) _ pair_and) fun x s hs ha => ⟨lays_len ha (by first | decide | (dsimp only; decide)) 2 1 (by first | decide | (dsimp only; decide)) (by first | decide | (dsimp only; decide)), fun v hv => by
      rw [List.mem_singleton.1 hv]
      first | exact wrap_v64 _ | exact ar_v64 _ _ _ | exact flag_v64 _ | exact and_v64 _ _ | exact or_v64 _ _ | exact xor_v64 _ _ | exact shl_v64 _ _ | exact shr_v64 _ _ | exact abs_v64 (ar_v64 _ _ _) | exact half_v64 (ar_v64 _ _ _) | exact signS_v64 (ar_v64 _ _ _) | exact min_v64 (ar_v64 _ _ _) (ar_v64 _ _ _) | exact max_v64 (ar_v64 _ _ _) (ar_v64 _ _ _) | exact utLo_v64 _ _ | exact utHi_v64 _ _ | exact tHi_v64 _ _⟩, keeps_lays _ (fun s => [bits .and .i64 (ar s 2 0) (ar s 2 1)]) 2 (by first | decide | (dsimp only; decide)) fun x s ha => lays_len ha (by first | decide | (dsimp only; decide)) 2 1 (by first | decide | (dsimp only; decide)) (by first | decide | (dsimp only; decide))⟩
  rw [if_neg h47] at hq
  by_cases h48 : op = 48
  · rw [if_pos h48] at hq
    obtain rfl := Option.some.inj hq
    subst h48
    refine ⟨does_reckoned _ (fun s => [bits .or .i64 (ar s 2 0) (ar s 2 1)]) (by first | decide | (dsimp only; decide)) (by first | decide | (dsimp only; decide)) (g_pair 48 arg lit cells rfl rfl rfl rfl rfl rfl rfl rfl rfl rfl (by first | decide | (dsimp only; decide)) _ pair_or) fun x s hs ha => ⟨lays_len ha (by first | decide | (dsimp only; decide)) 2 1 (by first | decide | (dsimp only; decide)) (by first | decide | (dsimp only; decide)), fun v hv => by
      rw [List.mem_singleton.1 hv]
      first | exact wrap_v64 _ | exact ar_v64 _ _ _ | exact flag_v64 _ | exact and_v64 _ _ | exact or_v64 _ _ | exact xor_v64 _ _ | exact shl_v64 _ _ | exact shr_v64 _ _ | exact abs_v64 (ar_v64 _ _ _) | exact half_v64 (ar_v64 _ _ _) | exact signS_v64 (ar_v64 _ _ _) | exact min_v64 (ar_v64 _ _ _) (ar_v64 _ _ _) | exact max_v64 (ar_v64 _ _ _) (ar_v64 _ _ _) | exact utLo_v64 _ _ | exact utHi_v64 _ _ | exact tHi_v64 _ _⟩, keeps_lays _ (fun s => [bits .or .i64 (ar s 2 0) (ar s 2 1)]) 2 (by first | decide | (dsimp only; decide)) fun x s ha => lays_len ha (by first | decide | (dsimp only; decide)) 2 1 (by first | decide | (dsimp only; decide)) (by first | decide | (dsimp only; decide))⟩
  rw [if_neg h48] at hq
  by_cases h49 : op = 49
  · rw [if_pos h49] at hq
    obtain rfl := Option.some.inj hq
    subst h49
    refine ⟨does_reckoned _ (fun s => [bits .xor .i64 (ar s 2 0) (ar s 2 1)]) (by first | decide | (dsimp only; decide)) (by first | decide | (dsimp only; decide)) (g_pair 49 arg lit cells rfl rfl rfl rfl rfl rfl rfl rfl rfl rfl (by first | decide | (dsimp only; decide)) _ pair_xor) fun x s hs ha => ⟨lays_len ha (by first | decide | (dsimp only; decide)) 2 1 (by first | decide | (dsimp only; decide)) (by first | decide | (dsimp only; decide)), fun v hv => by
      rw [List.mem_singleton.1 hv]
      first | exact wrap_v64 _ | exact ar_v64 _ _ _ | exact flag_v64 _ | exact and_v64 _ _ | exact or_v64 _ _ | exact xor_v64 _ _ | exact shl_v64 _ _ | exact shr_v64 _ _ | exact abs_v64 (ar_v64 _ _ _) | exact half_v64 (ar_v64 _ _ _) | exact signS_v64 (ar_v64 _ _ _) | exact min_v64 (ar_v64 _ _ _) (ar_v64 _ _ _) | exact max_v64 (ar_v64 _ _ _) (ar_v64 _ _ _) | exact utLo_v64 _ _ | exact utHi_v64 _ _ | exact tHi_v64 _ _⟩, keeps_lays _ (fun s => [bits .xor .i64 (ar s 2 0) (ar s 2 1)]) 2 (by first | decide | (dsimp only; decide)) fun x s ha => lays_len ha (by first | decide | (dsimp only; decide)) 2 1 (by first | decide | (dsimp only; decide)) (by first | decide | (dsimp only; decide))⟩
  rw [if_neg h49] at hq
  by_cases h51 : op = 51
  · rw [if_pos h51] at hq
    obtain rfl := Option.some.inj hq
    subst h51
    refine ⟨does_reckoned _ (fun s => [shlS (ar s 2 0) (ar s 2 1)]) (by first | decide | (dsimp only; decide)) (by first | decide | (dsimp only; decide)) (g_pair 51 arg lit cells rfl rfl rfl rfl rfl rfl rfl rfl rfl rfl (by first | decide | (dsimp only; decide)) _ pair_shl) fun x s hs ha => ⟨lays_len ha (by first | decide | (dsimp only; decide)) 2 1 (by first | decide | (dsimp only; decide)) (by first | decide | (dsimp only; decide)), fun v hv => by
      rw [List.mem_singleton.1 hv]
      first | exact wrap_v64 _ | exact ar_v64 _ _ _ | exact flag_v64 _ | exact and_v64 _ _ | exact or_v64 _ _ | exact xor_v64 _ _ | exact shl_v64 _ _ | exact shr_v64 _ _ | exact abs_v64 (ar_v64 _ _ _) | exact half_v64 (ar_v64 _ _ _) | exact signS_v64 (ar_v64 _ _ _) | exact min_v64 (ar_v64 _ _ _) (ar_v64 _ _ _) | exact max_v64 (ar_v64 _ _ _) (ar_v64 _ _ _) | exact utLo_v64 _ _ | exact utHi_v64 _ _ | exact tHi_v64 _ _⟩, keeps_lays _ (fun s => [shlS (ar s 2 0) (ar s 2 1)]) 2 (by first | decide | (dsimp only; decide)) fun x s ha => lays_len ha (by first | decide | (dsimp only; decide)) 2 1 (by first | decide | (dsimp only; decide)) (by first | decide | (dsimp only; decide))⟩
  rw [if_neg h51] at hq
  by_cases h52 : op = 52
  · rw [if_pos h52] at hq
    obtain rfl := Option.some.inj hq
    subst h52
    refine ⟨does_reckoned _ (fun s => [shrS (ar s 2 0) (ar s 2 1)]) (by first | decide | (dsimp only; decide)) (by first | decide | (dsimp only; decide)) (g_pair 52 arg lit cells rfl rfl rfl rfl rfl rfl rfl rfl rfl rfl (by first | decide | (dsimp only; decide)) _ pair_shr) fun x s hs ha => ⟨lays_len ha (by first | decide | (dsimp only; decide)) 2 1 (by first | decide | (dsimp only; decide)) (by first | decide | (dsimp only; decide)), fun v hv => by
      rw [List.mem_singleton.1 hv]
      first | exact wrap_v64 _ | exact ar_v64 _ _ _ | exact flag_v64 _ | exact and_v64 _ _ | exact or_v64 _ _ | exact xor_v64 _ _ | exact shl_v64 _ _ | exact shr_v64 _ _ | exact abs_v64 (ar_v64 _ _ _) | exact half_v64 (ar_v64 _ _ _) | exact signS_v64 (ar_v64 _ _ _) | exact min_v64 (ar_v64 _ _ _) (ar_v64 _ _ _) | exact max_v64 (ar_v64 _ _ _) (ar_v64 _ _ _) | exact utLo_v64 _ _ | exact utHi_v64 _ _ | exact tHi_v64 _ _⟩, keeps_lays _ (fun s => [shrS (ar s 2 0) (ar s 2 1)]) 2 (by first | decide | (dsimp only; decide)) fun x s ha => lays_len ha (by first | decide | (dsimp only; decide)) 2 1 (by first | decide | (dsimp only; decide)) (by first | decide | (dsimp only; decide))⟩
  rw [if_neg h52] at hq
  by_cases h58 : op = 58
  · rw [if_pos h58] at hq
    obtain rfl := Option.some.inj hq
    subst h58
    refine ⟨does_reckoned _ (fun s => [flagS ((ar s 2 0) == (ar s 2 1))]) (by first | decide | (dsimp only; decide)) (by first | decide | (dsimp only; decide)) (g_pair 58 arg lit cells rfl rfl rfl rfl rfl rfl rfl rfl rfl rfl (by first | decide | (dsimp only; decide)) _ pair_eq) fun x s hs ha => ⟨lays_len ha (by first | decide | (dsimp only; decide)) 2 1 (by first | decide | (dsimp only; decide)) (by first | decide | (dsimp only; decide)), fun v hv => by
      rw [List.mem_singleton.1 hv]
      first | exact wrap_v64 _ | exact ar_v64 _ _ _ | exact flag_v64 _ | exact and_v64 _ _ | exact or_v64 _ _ | exact xor_v64 _ _ | exact shl_v64 _ _ | exact shr_v64 _ _ | exact abs_v64 (ar_v64 _ _ _) | exact half_v64 (ar_v64 _ _ _) | exact signS_v64 (ar_v64 _ _ _) | exact min_v64 (ar_v64 _ _ _) (ar_v64 _ _ _) | exact max_v64 (ar_v64 _ _ _) (ar_v64 _ _ _) | exact utLo_v64 _ _ | exact utHi_v64 _ _ | exact tHi_v64 _ _⟩, keeps_lays _ (fun s => [flagS ((ar s 2 0) == (ar s 2 1))]) 2 (by first | decide | (dsimp only; decide)) fun x s ha => lays_len ha (by first | decide | (dsimp only; decide)) 2 1 (by first | decide | (dsimp only; decide)) (by first | decide | (dsimp only; decide))⟩
  rw [if_neg h58] at hq
  by_cases h59 : op = 59
  · rw [if_pos h59] at hq
    obtain rfl := Option.some.inj hq
    subst h59
    refine ⟨does_reckoned _ (fun s => [flagS ((ar s 2 0) != (ar s 2 1))]) (by first | decide | (dsimp only; decide)) (by first | decide | (dsimp only; decide)) (g_pair 59 arg lit cells rfl rfl rfl rfl rfl rfl rfl rfl rfl rfl (by first | decide | (dsimp only; decide)) _ pair_ne) fun x s hs ha => ⟨lays_len ha (by first | decide | (dsimp only; decide)) 2 1 (by first | decide | (dsimp only; decide)) (by first | decide | (dsimp only; decide)), fun v hv => by
      rw [List.mem_singleton.1 hv]
      first | exact wrap_v64 _ | exact ar_v64 _ _ _ | exact flag_v64 _ | exact and_v64 _ _ | exact or_v64 _ _ | exact xor_v64 _ _ | exact shl_v64 _ _ | exact shr_v64 _ _ | exact abs_v64 (ar_v64 _ _ _) | exact half_v64 (ar_v64 _ _ _) | exact signS_v64 (ar_v64 _ _ _) | exact min_v64 (ar_v64 _ _ _) (ar_v64 _ _ _) | exact max_v64 (ar_v64 _ _ _) (ar_v64 _ _ _) | exact utLo_v64 _ _ | exact utHi_v64 _ _ | exact tHi_v64 _ _⟩, keeps_lays _ (fun s => [flagS ((ar s 2 0) != (ar s 2 1))]) 2 (by first | decide | (dsimp only; decide)) fun x s ha => lays_len ha (by first | decide | (dsimp only; decide)) 2 1 (by first | decide | (dsimp only; decide)) (by first | decide | (dsimp only; decide))⟩
  rw [if_neg h59] at hq
  by_cases h60 : op = 60
  · rw [if_pos h60] at hq
    obtain rfl := Option.some.inj hq
    subst h60
    refine ⟨does_reckoned _ (fun s => [flagS (decide ((ar s 2 0) < (ar s 2 1)))]) (by first | decide | (dsimp only; decide)) (by first | decide | (dsimp only; decide)) (g_pair 60 arg lit cells rfl rfl rfl rfl rfl rfl rfl rfl rfl rfl (by first | decide | (dsimp only; decide)) _ pair_lt) fun x s hs ha => ⟨lays_len ha (by first | decide | (dsimp only; decide)) 2 1 (by first | decide | (dsimp only; decide)) (by first | decide | (dsimp only; decide)), fun v hv => by
      rw [List.mem_singleton.1 hv]
      first | exact wrap_v64 _ | exact ar_v64 _ _ _ | exact flag_v64 _ | exact and_v64 _ _ | exact or_v64 _ _ | exact xor_v64 _ _ | exact shl_v64 _ _ | exact shr_v64 _ _ | exact abs_v64 (ar_v64 _ _ _) | exact half_v64 (ar_v64 _ _ _) | exact signS_v64 (ar_v64 _ _ _) | exact min_v64 (ar_v64 _ _ _) (ar_v64 _ _ _) | exact max_v64 (ar_v64 _ _ _) (ar_v64 _ _ _) | exact utLo_v64 _ _ | exact utHi_v64 _ _ | exact tHi_v64 _ _⟩, keeps_lays _ (fun s => [flagS (decide ((ar s 2 0) < (ar s 2 1)))]) 2 (by first | decide | (dsimp only; decide)) fun x s ha => lays_len ha (by first | decide | (dsimp only; decide)) 2 1 (by first | decide | (dsimp only; decide)) (by first | decide | (dsimp only; decide))⟩
  rw [if_neg h60] at hq
  by_cases h61 : op = 61
  · rw [if_pos h61] at hq
    obtain rfl := Option.some.inj hq
    subst h61
    refine ⟨does_reckoned _ (fun s => [flagS (decide ((ar s 2 1) < (ar s 2 0)))]) (by first | decide | (dsimp only; decide)) (by first | decide | (dsimp only; decide)) (g_pair 61 arg lit cells rfl rfl rfl rfl rfl rfl rfl rfl rfl rfl (by first | decide | (dsimp only; decide)) _ pair_gt) fun x s hs ha => ⟨lays_len ha (by first | decide | (dsimp only; decide)) 2 1 (by first | decide | (dsimp only; decide)) (by first | decide | (dsimp only; decide)), fun v hv => by
      rw [List.mem_singleton.1 hv]
      first | exact wrap_v64 _ | exact ar_v64 _ _ _ | exact flag_v64 _ | exact and_v64 _ _ | exact or_v64 _ _ | exact xor_v64 _ _ | exact shl_v64 _ _ | exact shr_v64 _ _ | exact abs_v64 (ar_v64 _ _ _) | exact half_v64 (ar_v64 _ _ _) | exact signS_v64 (ar_v64 _ _ _) | exact min_v64 (ar_v64 _ _ _) (ar_v64 _ _ _) | exact max_v64 (ar_v64 _ _ _) (ar_v64 _ _ _) | exact utLo_v64 _ _ | exact utHi_v64 _ _ | exact tHi_v64 _ _⟩, keeps_lays _ (fun s => [flagS (decide ((ar s 2 1) < (ar s 2 0)))]) 2 (by first | decide | (dsimp only; decide)) fun x s ha => lays_len ha (by first | decide | (dsimp only; decide)) 2 1 (by first | decide | (dsimp only; decide)) (by first | decide | (dsimp only; decide))⟩
  rw [if_neg h61] at hq
  by_cases h62 : op = 62
  · rw [if_pos h62] at hq
    obtain rfl := Option.some.inj hq
    subst h62
    refine ⟨does_reckoned _ (fun s => [flagS (decide (IntKind.u64.wrap (ar s 2 0) < IntKind.u64.wrap (ar s 2 1)))]) (by first | decide | (dsimp only; decide)) (by first | decide | (dsimp only; decide)) (g_pair 62 arg lit cells rfl rfl rfl rfl rfl rfl rfl rfl rfl rfl (by first | decide | (dsimp only; decide)) _ pair_ult) fun x s hs ha => ⟨lays_len ha (by first | decide | (dsimp only; decide)) 2 1 (by first | decide | (dsimp only; decide)) (by first | decide | (dsimp only; decide)), fun v hv => by
      rw [List.mem_singleton.1 hv]
      first | exact wrap_v64 _ | exact ar_v64 _ _ _ | exact flag_v64 _ | exact and_v64 _ _ | exact or_v64 _ _ | exact xor_v64 _ _ | exact shl_v64 _ _ | exact shr_v64 _ _ | exact abs_v64 (ar_v64 _ _ _) | exact half_v64 (ar_v64 _ _ _) | exact signS_v64 (ar_v64 _ _ _) | exact min_v64 (ar_v64 _ _ _) (ar_v64 _ _ _) | exact max_v64 (ar_v64 _ _ _) (ar_v64 _ _ _) | exact utLo_v64 _ _ | exact utHi_v64 _ _ | exact tHi_v64 _ _⟩, keeps_lays _ (fun s => [flagS (decide (IntKind.u64.wrap (ar s 2 0) < IntKind.u64.wrap (ar s 2 1)))]) 2 (by first | decide | (dsimp only; decide)) fun x s ha => lays_len ha (by first | decide | (dsimp only; decide)) 2 1 (by first | decide | (dsimp only; decide)) (by first | decide | (dsimp only; decide))⟩
  rw [if_neg h62] at hq
  cases hq
end Vm
end Go.Proofs.YtjhdpmimccpcdaaGreatDoor
/- Chapter 11: a run, as a plain function: of the operations that are treated; none: another one came. No condition. -/
namespace Go.Proofs.YtjhdpmimccpcdaaGreatDoor
set_option linter.unusedVariables false
set_option maxRecDepth 100000
open Go.RowKit Go.Lib
namespace Vm
/-- one instruction; none: it is not treated here -/
def stepS (x : Rn) (s : Mt) : Option Rs :=
  if x.left = 0 then some ⟨13, x, s⟩
  else if (s.S.fetch x.mode x.pc).2 ≠ 0 then some ⟨(s.S.fetch x.mode x.pc).2, { x with left := x.left - 1 }, s⟩
  else
    let i := (s.S.fetch x.mode x.pc).1
    let x2 := { x with left := x.left - 1, next := wrap64 (x.pc + 8 * i.cells) }
    if asks i x2 s ≠ 0 then some ⟨asks i x2 s, x2, s⟩
    else (parts i).map fun q => if (q x2 s).f ≠ 0 then q x2 s else ⟨0, { (q x2 s).x with pc := (q x2 s).x.next }, (q x2 s).s.told (q x2 s).x i.op⟩
/-- from instruction to instruction, n of them at most -/
def goesS : Nat → Rn → Mt → Option Rs
  | 0, _, _ => none
  | n + 1, x, s =>
    match stepS x s with
    | none => none
    | some q => if q.f ≠ 0 then some q else if q.x.over then some q else goesS n q.x q.s
/-! ### all stays well -/
theorem told_ok {s : Mt} (hs : s.Ok) (x : Rn) (op : Int) : (s.told x op).Ok := by
  unfold Mt.told
  split
  · exact ⟨hs.pd, hs.pr, hs.d, hs.r, hs.du, hs.dv, hs.ru, hs.rv⟩
  · exact hs
/-- what is fetched -/
theorem fetch_v64 (S : Img) (m a : Int) : V64 (S.fetch m a).1.arg ∧ V64 (S.fetch m a).1.lit ∧ V64 (8 * (S.fetch m a).1.cells) := by
  have h0 : V64 0 := by unfold V64; omega
  have hv := cellV_v64 S m a
  have hu : V64 (Code.unpack (S.cellV m a)).2.1 ∧ (Code.unpack (S.cellV m a)).2.1 < 36028797018963968 := by
    unfold Code.unpack
    split
    · rename_i h
      unfold Code.unArg V64 at *
      simp only
      refine ⟨by omega, by omega⟩
    · exact ⟨h0, by simp⟩
  unfold Img.fetch Inst.none
  split
  · exact ⟨h0, h0, by unfold V64; simp⟩
  split
  · exact ⟨h0, h0, by unfold V64; simp⟩
  split
  · split
    · exact ⟨h0, h0, by unfold V64; simp⟩
    · exact ⟨hu.1, cellV_v64 _ _ _, by unfold V64; simp⟩
  split
  · split
    · exact ⟨h0, h0, by unfold V64; simp⟩
    · rename_i h
      refine ⟨hu.1, h0, ?_⟩
      have h3 : 0 ≤ (Code.unpack (S.cellV m a)).2.1 := by
        unfold Img.textF at h
        split at h
        · simp at h
        · omega
      have h4 := hu.2
      unfold V64
      simp only
      omega
  · exact ⟨hu.1, h0, by unfold V64; simp⟩
end Vm
end Go.Proofs.YtjhdpmimccpcdaaGreatDoor
