/- Chapter 11: the operations that are treated, each with what it does; that the program does so, and that the machine stays well. No condition. Printed by gen_vparts.py. -/
import Derived.Test.YtjhdpmimccpcdaaGreatDoorQVOps2
namespace Go.Proofs.YtjhdpmimccpcdaaGreatDoor
set_option linter.unusedVariables false
set_option maxRecDepth 100000
open Go.RowKit Go.Lib
namespace Vm
/-- what an instruction does of which all was asked; none: it is not treated here -/
def parts (i : Inst) : Option (Rn → Mt → Rs) :=
  if i.op = 1 then some (back)
  else if i.op = 2 then some (laysR 0 [i.lit])
  else if i.op = 3 then some (fun x s => ⟨0, { x with next := i.arg }, s.pushR [x.next]⟩)
  else if i.op = 4 then some (fun x s => ⟨0, { x with next := i.arg }, s⟩)
  else if i.op = 5 then some (fun x s => ⟨0, if ar s 1 0 = 0 then { x with next := i.arg } else x, (s.lays 1 []).2⟩)
  else if i.op = 6 then some (fun x s => ⟨0, x, ((s.lays 2 []).2).pushR (s.args 2)⟩)
  else if i.op = 7 then some (fun x s => if ar s 2 0 = ar s 2 1 then ⟨0, { x with next := i.arg }, (s.lays 2 []).2⟩ else ⟨0, x, ((s.lays 2 []).2).pushR (s.args 2)⟩)
  else if i.op = 8 then some (fun x s => turn (wrap64 (s.rtop 0 + 1)) (wrap64 (s.rtop 0 + 1) == s.rtop 1) i.arg x s)
  else if i.op = 9 then some (fun x s => turn (wrap64 (s.rtop 0 + ar s 1 0)) (plEnds (s.rtop 0) (s.rtop 1) (ar s 1 0)) i.arg x (s.lays 1 []).2)
  else if i.op = 10 then some (fun x s => ⟨0, x, s.cutR (s.r - 2)⟩)
  else if i.op = 13 then some (fun x s => ⟨0, x, ((s.lays 1 []).2).pushR (s.args 1)⟩)
  else if i.op = 16 then some (fun x s => ⟨0, { x with next := ar s 1 0 }, ((s.pushR [x.next]).lays 1 []).2⟩)
  else if i.op = 20 then some (fun x s => ⟨16, x, s⟩)
  else if i.op = 21 then some (fun x s => laysR 1 [ar s 1 0, ar s 1 0] x s)
  else if i.op = 22 then some (fun x s => laysR 1 [] x s)
  else if i.op = 23 then some (fun x s => laysR 2 [ar s 2 1, ar s 2 0] x s)
  else if i.op = 24 then some (fun x s => laysR 2 [ar s 2 0, ar s 2 1, ar s 2 0] x s)
  else if i.op = 31 then some (fun x s => laysR 2 [wrap64 (ar s 2 0 + ar s 2 1)] x s)
  else if i.op = 32 then some (fun x s => laysR 2 [wrap64 (ar s 2 0 - ar s 2 1)] x s)
  else if i.op = 33 then some (fun x s => laysR 2 [wrap64 (ar s 2 0 * ar s 2 1)] x s)
  else if i.op = 39 then some (fun x s => laysR 1 [wrap64 (-ar s 1 0)] x s)
  else if i.op = 43 then some (fun x s => laysR 1 [wrap64 (ar s 1 0 + 1)] x s)
  else if i.op = 44 then some (fun x s => laysR 1 [wrap64 (ar s 1 0 - 1)] x s)
  else none
theorem lays_len {i : Inst} {x : Rn} {s : Mt} (h : Asked i x s) (h26 : i.op ≠ 26) (n m : Nat) (h1 : (Code.wants i.op).1 = n) (h2 : (Code.wants i.op).2 = m) : m ≤ s.pd.rm - (s.d - n) := by
  have h3 := h.room
  have h4 := h.tk
  rw [if_neg (by rintro ⟨h, _⟩; exact h26 h)] at h3
  omega
theorem lays_ok {s : Mt} {n : Nat} {l : List Int} (hs : s.Ok) (hn : n ≤ s.d) (hroom : l.length ≤ s.pd.rm - (s.d - n)) : (s.lays n l).2.Ok := by
  unfold Mt.lays
  rw [if_neg (by omega)]
  exact pushD_ok (cutD_ok hs (s.d - n) (by omega)) l hroom
/-- what a part leaves -/
def Keeps (i : Inst) (q : Rn → Mt → Rs) : Prop := ∀ x s, s.Ok → x.Ok → V64 i.arg → V64 i.lit → Asked i x s → (q x s).s.Ok ∧ (q x s).x.Ok ∧ (q x s).s.tells = s.tells ∧ (q x s).x.left = x.left ∧ (q x s).s.seen = s.seen
theorem keeps_lays (i : Inst) (l : Mt → List Int) (n : Nat) (hn : (Code.wants i.op).1 = n) (hl : ∀ x s, Asked i x s → (l s).length ≤ s.pd.rm - (s.d - n)) : Keeps i (fun x s => laysR n (l s) x s) := by
  intro x s hs hx hv1 hv2 ha
  have h1 := ha.tk
  refine ⟨lays_ok hs (by omega) (hl x s ha), hx, ?_, rfl, ?_⟩
  · show ((s.lays n (l s)).2).tells = s.tells
    unfold Mt.lays
    split <;> rfl
  · show ((s.lays n (l s)).2).seen = s.seen
    unfold Mt.lays
    split <;> rfl
theorem keeps_back (arg lit cells : Int) : Keeps ⟨1, arg, lit, cells⟩ back := by
  intro x s hs hx hv1 hv2 ha
  unfold back
  split
  · exact ⟨hs, hx, rfl, rfl, rfl⟩
  · exact ⟨⟨hs.pd, hs.pr, hs.d, by have := hs.r; show s.r - 1 ≤ s.pr.rm; omega, hs.du, hs.dv, hs.ru, hs.rv⟩, ⟨hx.base, hx.base2, stopv_v64 _ _ _ _, hx.pc, hx.left, hx.left2⟩, rfl, rfl, rfl⟩
theorem keeps_lit (arg lit cells : Int) : Keeps ⟨2, arg, lit, cells⟩ (laysR 0 [lit]) := keeps_lays _ (fun _ => [lit]) 0 (by first | decide | (dsimp only; decide)) fun x s ha => lays_len ha (by first | decide | (dsimp only; decide)) 0 1 (by first | decide | (dsimp only; decide)) (by first | decide | (dsimp only; decide))
theorem turn_f (n : Int) (e : Bool) (a : Int) (x : Rn) (s : Mt) : (turn n e a x s).f = 0 := by unfold turn; split <;> rfl
theorem lays_nil_ok {s : Mt} (n : Nat) (hs : s.Ok) : (s.lays n []).2.Ok := by
  unfold Mt.lays
  rw [if_neg (by simp)]
  exact pushD_ok (cutD_ok hs (s.d - n) (by omega)) [] (by simp)
theorem lays_same (s : Mt) (n : Nat) (l : List Int) : (s.lays n l).2.tells = s.tells ∧ (s.lays n l).2.seen = s.seen ∧ (s.lays n l).2.r = s.r ∧ (s.lays n l).2.pr = s.pr := by
  unfold Mt.lays
  split <;> exact ⟨rfl, rfl, rfl, rfl⟩
theorem asked_room {i : Inst} {x : Rn} {s : Mt} (h : Asked i x s) (k : Nat) (e : returns i.op i.arg s.same = (0, (k : Int))) : k ≤ s.pr.rm - s.r := by
  have h1 := h.rroom
  simp only [e] at h1
  omega
theorem qdo_f (arg : Int) (x : Rn) (s : Mt) : (if ar s 2 0 = ar s 2 1 then (⟨0, { x with next := arg }, (s.lays 2 []).2⟩ : Rs) else ⟨0, x, ((s.lays 2 []).2).pushR (s.args 2)⟩).f = 0 := by split <;> rfl
theorem keeps_jump (arg lit cells : Int) : Keeps ⟨4, arg, lit, cells⟩ (fun x s => ⟨0, { x with next := arg }, s⟩) := fun x s hs hx hv1 hv2 ha => ⟨hs, ⟨hx.base, hx.base2, hv1, hx.pc, hx.left, hx.left2⟩, rfl, rfl, rfl⟩
theorem keeps_call (arg lit cells : Int) : Keeps ⟨3, arg, lit, cells⟩ (fun x s => ⟨0, { x with next := arg }, s.pushR [x.next]⟩) := fun x s hs hx hv1 hv2 ha => ⟨pushR_ok hs [x.next] (asked_room ha 1 rfl), ⟨hx.base, hx.base2, hv1, hx.pc, hx.left, hx.left2⟩, rfl, rfl, rfl⟩
theorem keeps_zero (arg lit cells : Int) : Keeps ⟨5, arg, lit, cells⟩ (fun x s => ⟨0, if ar s 1 0 = 0 then { x with next := arg } else x, (s.lays 1 []).2⟩) := by
  intro x s hs hx hv1 hv2 ha
  refine ⟨lays_nil_ok 1 hs, ?_, (lays_same s 1 []).1, ?_, (lays_same s 1 []).2.1⟩
  · show (if ar s 1 0 = 0 then ({ x with next := arg } : Rn) else x).Ok
    split
    · exact ⟨hx.base, hx.base2, hv1, hx.pc, hx.left, hx.left2⟩
    · exact hx
  · show (if ar s 1 0 = 0 then ({ x with next := arg } : Rn) else x).left = x.left
    split <;> rfl
theorem keeps_execute (arg lit cells : Int) : Keeps ⟨16, arg, lit, cells⟩ (fun x s => ⟨0, { x with next := ar s 1 0 }, ((s.pushR [x.next]).lays 1 []).2⟩) := fun x s hs hx hv1 hv2 ha =>
  ⟨lays_nil_ok 1 (pushR_ok hs [x.next] (asked_room ha 1 rfl)), ⟨hx.base, hx.base2, ar_v64 s 1 0, hx.pc, hx.left, hx.left2⟩, (lays_same _ 1 []).1, rfl, (lays_same _ 1 []).2.1⟩
theorem keeps_special (arg lit cells : Int) : Keeps ⟨20, arg, lit, cells⟩ (fun x s => ⟨16, x, s⟩) := fun x s hs hx hv1 hv2 ha => ⟨hs, hx, rfl, rfl, rfl⟩
theorem push_args_ok {s : Mt} (n : Nat) (hs : s.Ok) (h : n ≤ s.pr.rm - s.r) : (((s.lays n []).2).pushR (s.args n)).Ok :=
  pushR_ok (lays_nil_ok n hs) _ (by rw [args_len, (lays_same s n []).2.2.1, (lays_same s n []).2.2.2]; exact h)
theorem keeps_do (arg lit cells : Int) : Keeps ⟨6, arg, lit, cells⟩ (fun x s => ⟨0, x, ((s.lays 2 []).2).pushR (s.args 2)⟩) := fun x s hs hx hv1 hv2 ha => ⟨push_args_ok 2 hs (asked_room ha 2 rfl), hx, (lays_same s 2 []).1, rfl, (lays_same s 2 []).2.1⟩
theorem keeps_tor (arg lit cells : Int) : Keeps ⟨13, arg, lit, cells⟩ (fun x s => ⟨0, x, ((s.lays 1 []).2).pushR (s.args 1)⟩) := fun x s hs hx hv1 hv2 ha => ⟨push_args_ok 1 hs (asked_room ha 1 rfl), hx, (lays_same s 1 []).1, rfl, (lays_same s 1 []).2.1⟩
theorem keeps_qdo (arg lit cells : Int) : Keeps ⟨7, arg, lit, cells⟩ (fun x s => if ar s 2 0 = ar s 2 1 then ⟨0, { x with next := arg }, (s.lays 2 []).2⟩ else ⟨0, x, ((s.lays 2 []).2).pushR (s.args 2)⟩) := by
  intro x s hs hx hv1 hv2 ha
  dsimp only
  split
  · exact ⟨lays_nil_ok 2 hs, ⟨hx.base, hx.base2, hv1, hx.pc, hx.left, hx.left2⟩, (lays_same s 2 []).1, rfl, (lays_same s 2 []).2.1⟩
  · rename_i hne
    refine ⟨push_args_ok 2 hs (asked_room ha 2 ?_), hx, (lays_same s 2 []).1, rfl, (lays_same s 2 []).2.1⟩
    have h2 : s.same = false := by
      unfold Mt.same
      rw [(ar20 s).1, (ar20 s).2] at hne
      simpa using fun h => hne h.symm
    rw [h2]
    rfl
theorem turn_keeps {x : Rn} {s : Mt} (n : Int) (e : Bool) (a : Int) (ha : V64 a) (hs : s.Ok) (hx : x.Ok) : (turn n e a x s).s.Ok ∧ (turn n e a x s).x.Ok ∧ (turn n e a x s).s.tells = s.tells ∧ (turn n e a x s).x.left = x.left ∧ (turn n e a x s).s.seen = s.seen := by
  unfold turn
  split
  · exact ⟨cutR_ok hs _ (by omega), hx, rfl, rfl, rfl⟩
  · exact ⟨pokeR_ok hs _ _, ⟨hx.base, hx.base2, ha, hx.pc, hx.left, hx.left2⟩, rfl, rfl, rfl⟩
theorem keeps_loop (arg lit cells : Int) : Keeps ⟨8, arg, lit, cells⟩ (fun x s => turn (wrap64 (s.rtop 0 + 1)) (wrap64 (s.rtop 0 + 1) == s.rtop 1) arg x s) := fun x s hs hx hv1 hv2 ha => turn_keeps _ _ _ hv1 hs hx
theorem keeps_ploop (arg lit cells : Int) : Keeps ⟨9, arg, lit, cells⟩ (fun x s => turn (wrap64 (s.rtop 0 + ar s 1 0)) (plEnds (s.rtop 0) (s.rtop 1) (ar s 1 0)) arg x (s.lays 1 []).2) := fun x s hs hx hv1 hv2 ha => by
  obtain ⟨h1, h2, h3, h4, h5⟩ := turn_keeps (wrap64 (s.rtop 0 + ar s 1 0)) (plEnds (s.rtop 0) (s.rtop 1) (ar s 1 0)) arg hv1 (lays_nil_ok 1 hs) hx
  exact ⟨h1, h2, h3.trans (lays_same s 1 []).1, h4, h5.trans (lays_same s 1 []).2.1⟩
theorem keeps_unloop (arg lit cells : Int) : Keeps ⟨10, arg, lit, cells⟩ (fun x s => ⟨0, x, s.cutR (s.r - 2)⟩) := fun x s hs hx hv1 hv2 ha => ⟨cutR_ok hs _ (by omega), hx, rfl, rfl, rfl⟩
/-- each of them does so, and keeps the machine well -/
theorem parts_ok (i : Inst) (q : Rn → Mt → Rs) (hq : parts i = some q) : DoesOk i q ∧ Keeps i q := by
  obtain ⟨op, arg, lit, cells⟩ := i
  unfold parts at hq
  simp only at hq
  by_cases h1 : op = 1
  · rw [if_pos h1] at hq
    obtain rfl := Option.some.inj hq
    subst h1
    exact ⟨does_control _ _ (by first | decide | (dsimp only; decide)) (ctl_exit arg lit cells), keeps_back arg lit cells⟩
  rw [if_neg h1] at hq
  by_cases h2 : op = 2
  · rw [if_pos h2] at hq
    obtain rfl := Option.some.inj hq
    subst h2
    exact ⟨does_control _ _ (by first | decide | (dsimp only; decide)) (ctl_lit arg lit cells), keeps_lit arg lit cells⟩
  rw [if_neg h2] at hq
  by_cases h3 : op = 3
  · rw [if_pos h3] at hq
    obtain rfl := Option.some.inj hq
    subst h3
    exact ⟨does_control _ _ (by first | decide | (dsimp only; decide)) (ctl_call arg lit cells), keeps_call arg lit cells⟩
  rw [if_neg h3] at hq
  by_cases h4 : op = 4
  · rw [if_pos h4] at hq
    obtain rfl := Option.some.inj hq
    subst h4
    exact ⟨does_control _ _ (by first | decide | (dsimp only; decide)) (ctl_jump arg lit cells), keeps_jump arg lit cells⟩
  rw [if_neg h4] at hq
  by_cases h5 : op = 5
  · rw [if_pos h5] at hq
    obtain rfl := Option.some.inj hq
    subst h5
    exact ⟨does_control _ _ (by first | decide | (dsimp only; decide)) (ctl_zero arg lit cells), keeps_zero arg lit cells⟩
  rw [if_neg h5] at hq
  by_cases h6 : op = 6
  · rw [if_pos h6] at hq
    obtain rfl := Option.some.inj hq
    subst h6
    exact ⟨does_control _ _ (by first | decide | (dsimp only; decide)) (ctl_loops 6 arg lit cells _ (by decide) (by decide) (fun _ _ => rfl) (lp_do arg lit cells)), keeps_do arg lit cells⟩
  rw [if_neg h6] at hq
  by_cases h7 : op = 7
  · rw [if_pos h7] at hq
    obtain rfl := Option.some.inj hq
    subst h7
    exact ⟨does_control _ _ (by first | decide | (dsimp only; decide)) (ctl_loops 7 arg lit cells _ (by decide) (by decide) (fun _ _ => qdo_f _ _ _) (lp_qdo arg lit cells)), keeps_qdo arg lit cells⟩
  rw [if_neg h7] at hq
  by_cases h8 : op = 8
  · rw [if_pos h8] at hq
    obtain rfl := Option.some.inj hq
    subst h8
    exact ⟨does_control _ _ (by first | decide | (dsimp only; decide)) (ctl_loops 8 arg lit cells _ (by decide) (by decide) (fun _ _ => turn_f _ _ _ _ _) (lp_loop arg lit cells)), keeps_loop arg lit cells⟩
  rw [if_neg h8] at hq
  by_cases h9 : op = 9
  · rw [if_pos h9] at hq
    obtain rfl := Option.some.inj hq
    subst h9
    exact ⟨does_control _ _ (by first | decide | (dsimp only; decide)) (ctl_loops 9 arg lit cells _ (by decide) (by decide) (fun _ _ => turn_f _ _ _ _ _) (lp_ploop arg lit cells)), keeps_ploop arg lit cells⟩
  rw [if_neg h9] at hq
  by_cases h10 : op = 10
  · rw [if_pos h10] at hq
    obtain rfl := Option.some.inj hq
    subst h10
    exact ⟨does_control _ _ (by first | decide | (dsimp only; decide)) (ctl_loops 10 arg lit cells _ (by decide) (by decide) (fun _ _ => rfl) (lp_unloop arg lit cells)), keeps_unloop arg lit cells⟩
  rw [if_neg h10] at hq
  by_cases h13 : op = 13
  · rw [if_pos h13] at hq
    obtain rfl := Option.some.inj hq
    subst h13
    exact ⟨does_control _ _ (by first | decide | (dsimp only; decide)) (ctl_loops 13 arg lit cells _ (by decide) (by decide) (fun _ _ => rfl) (lp_tor arg lit cells)), keeps_tor arg lit cells⟩
  rw [if_neg h13] at hq
  by_cases h16 : op = 16
  · rw [if_pos h16] at hq
    obtain rfl := Option.some.inj hq
    subst h16
    exact ⟨does_control _ _ (by first | decide | (dsimp only; decide)) (ctl_execute arg lit cells), keeps_execute arg lit cells⟩
  rw [if_neg h16] at hq
  by_cases h20 : op = 20
  · rw [if_pos h20] at hq
    obtain rfl := Option.some.inj hq
    subst h20
    exact ⟨does_control _ _ (by first | decide | (dsimp only; decide)) (ctl_special arg lit cells), keeps_special arg lit cells⟩
  rw [if_neg h20] at hq
  by_cases h21 : op = 21
  · rw [if_pos h21] at hq
    obtain rfl := Option.some.inj hq
    subst h21
    refine ⟨does_moved _ (fun s => [ar s 1 0, ar s 1 0]) (by first | decide | (dsimp only; decide)) (by first | decide | (dsimp only; decide)) (m_dup arg lit cells) fun x s hs ha => ⟨lays_len ha (by first | decide | (dsimp only; decide)) 1 2 (by first | decide | (dsimp only; decide)) (by first | decide | (dsimp only; decide)), fun v hv => by
      simp only [List.mem_cons, List.mem_nil_iff, or_false] at hv
      rcases hv with rfl | rfl <;> first | exact ar_v64 _ _ _ | exact wrap_v64 _⟩, keeps_lays _ (fun s => [ar s 1 0, ar s 1 0]) 1 (by first | decide | (dsimp only; decide)) fun x s ha => lays_len ha (by first | decide | (dsimp only; decide)) 1 2 (by first | decide | (dsimp only; decide)) (by first | decide | (dsimp only; decide))⟩
  rw [if_neg h21] at hq
  by_cases h22 : op = 22
  · rw [if_pos h22] at hq
    obtain rfl := Option.some.inj hq
    subst h22
    refine ⟨does_moved _ (fun s => []) (by first | decide | (dsimp only; decide)) (by first | decide | (dsimp only; decide)) (m_drop arg lit cells) fun x s hs ha => ⟨Nat.zero_le _, fun v hv => by simp at hv⟩, keeps_lays _ (fun s => []) 1 (by first | decide | (dsimp only; decide)) fun x s ha => Nat.zero_le _⟩
  rw [if_neg h22] at hq
  by_cases h23 : op = 23
  · rw [if_pos h23] at hq
    obtain rfl := Option.some.inj hq
    subst h23
    refine ⟨does_moved _ (fun s => [ar s 2 1, ar s 2 0]) (by first | decide | (dsimp only; decide)) (by first | decide | (dsimp only; decide)) (m_swap arg lit cells) fun x s hs ha => ⟨lays_len ha (by first | decide | (dsimp only; decide)) 2 2 (by first | decide | (dsimp only; decide)) (by first | decide | (dsimp only; decide)), fun v hv => by
      simp only [List.mem_cons, List.mem_nil_iff, or_false] at hv
      rcases hv with rfl | rfl <;> first | exact ar_v64 _ _ _ | exact wrap_v64 _⟩, keeps_lays _ (fun s => [ar s 2 1, ar s 2 0]) 2 (by first | decide | (dsimp only; decide)) fun x s ha => lays_len ha (by first | decide | (dsimp only; decide)) 2 2 (by first | decide | (dsimp only; decide)) (by first | decide | (dsimp only; decide))⟩
  rw [if_neg h23] at hq
  by_cases h24 : op = 24
  · rw [if_pos h24] at hq
    obtain rfl := Option.some.inj hq
    subst h24
    refine ⟨does_moved _ (fun s => [ar s 2 0, ar s 2 1, ar s 2 0]) (by first | decide | (dsimp only; decide)) (by first | decide | (dsimp only; decide)) (m_over arg lit cells) fun x s hs ha => ⟨lays_len ha (by first | decide | (dsimp only; decide)) 2 3 (by first | decide | (dsimp only; decide)) (by first | decide | (dsimp only; decide)), fun v hv => by
      simp only [List.mem_cons, List.mem_nil_iff, or_false] at hv
      rcases hv with rfl | rfl | rfl <;> first | exact ar_v64 _ _ _ | exact wrap_v64 _⟩, keeps_lays _ (fun s => [ar s 2 0, ar s 2 1, ar s 2 0]) 2 (by first | decide | (dsimp only; decide)) fun x s ha => lays_len ha (by first | decide | (dsimp only; decide)) 2 3 (by first | decide | (dsimp only; decide)) (by first | decide | (dsimp only; decide))⟩
  rw [if_neg h24] at hq
  by_cases h31 : op = 31
  · rw [if_pos h31] at hq
    obtain rfl := Option.some.inj hq
    subst h31
    refine ⟨does_reckoned _ (fun s => [wrap64 (ar s 2 0 + ar s 2 1)]) (by first | decide | (dsimp only; decide)) (by first | decide | (dsimp only; decide)) (g_pair 31 arg lit cells rfl rfl rfl rfl rfl rfl rfl rfl rfl rfl (by first | decide | (dsimp only; decide)) _ pair_add) fun x s hs ha => ⟨lays_len ha (by first | decide | (dsimp only; decide)) 2 1 (by first | decide | (dsimp only; decide)) (by first | decide | (dsimp only; decide)), fun v hv => by
      rw [List.mem_singleton.1 hv]
      first | exact wrap_v64 _ | exact ar_v64 _ _ _⟩, keeps_lays _ (fun s => [wrap64 (ar s 2 0 + ar s 2 1)]) 2 (by first | decide | (dsimp only; decide)) fun x s ha => lays_len ha (by first | decide | (dsimp only; decide)) 2 1 (by first | decide | (dsimp only; decide)) (by first | decide | (dsimp only; decide))⟩
  rw [if_neg h31] at hq
  by_cases h32 : op = 32
  · rw [if_pos h32] at hq
    obtain rfl := Option.some.inj hq
    subst h32
    refine ⟨does_reckoned _ (fun s => [wrap64 (ar s 2 0 - ar s 2 1)]) (by first | decide | (dsimp only; decide)) (by first | decide | (dsimp only; decide)) (g_pair 32 arg lit cells rfl rfl rfl rfl rfl rfl rfl rfl rfl rfl (by first | decide | (dsimp only; decide)) _ pair_sub) fun x s hs ha => ⟨lays_len ha (by first | decide | (dsimp only; decide)) 2 1 (by first | decide | (dsimp only; decide)) (by first | decide | (dsimp only; decide)), fun v hv => by
      rw [List.mem_singleton.1 hv]
      first | exact wrap_v64 _ | exact ar_v64 _ _ _⟩, keeps_lays _ (fun s => [wrap64 (ar s 2 0 - ar s 2 1)]) 2 (by first | decide | (dsimp only; decide)) fun x s ha => lays_len ha (by first | decide | (dsimp only; decide)) 2 1 (by first | decide | (dsimp only; decide)) (by first | decide | (dsimp only; decide))⟩
  rw [if_neg h32] at hq
  by_cases h33 : op = 33
  · rw [if_pos h33] at hq
    obtain rfl := Option.some.inj hq
    subst h33
    refine ⟨does_reckoned _ (fun s => [wrap64 (ar s 2 0 * ar s 2 1)]) (by first | decide | (dsimp only; decide)) (by first | decide | (dsimp only; decide)) (g_pair 33 arg lit cells rfl rfl rfl rfl rfl rfl rfl rfl rfl rfl (by first | decide | (dsimp only; decide)) _ pair_mul) fun x s hs ha => ⟨lays_len ha (by first | decide | (dsimp only; decide)) 2 1 (by first | decide | (dsimp only; decide)) (by first | decide | (dsimp only; decide)), fun v hv => by
      rw [List.mem_singleton.1 hv]
      first | exact wrap_v64 _ | exact ar_v64 _ _ _⟩, keeps_lays _ (fun s => [wrap64 (ar s 2 0 * ar s 2 1)]) 2 (by first | decide | (dsimp only; decide)) fun x s ha => lays_len ha (by first | decide | (dsimp only; decide)) 2 1 (by first | decide | (dsimp only; decide)) (by first | decide | (dsimp only; decide))⟩
  rw [if_neg h33] at hq
  by_cases h39 : op = 39
  · rw [if_pos h39] at hq
    obtain rfl := Option.some.inj hq
    subst h39
    refine ⟨does_reckoned _ (fun s => [wrap64 (-ar s 1 0)]) (by first | decide | (dsimp only; decide)) (by first | decide | (dsimp only; decide)) (g_alone 39 arg lit cells rfl rfl rfl rfl rfl rfl rfl rfl rfl rfl (by first | decide | (dsimp only; decide)) _ alone_neg) fun x s hs ha => ⟨lays_len ha (by first | decide | (dsimp only; decide)) 1 1 (by first | decide | (dsimp only; decide)) (by first | decide | (dsimp only; decide)), fun v hv => by
      rw [List.mem_singleton.1 hv]
      first | exact wrap_v64 _ | exact ar_v64 _ _ _⟩, keeps_lays _ (fun s => [wrap64 (-ar s 1 0)]) 1 (by first | decide | (dsimp only; decide)) fun x s ha => lays_len ha (by first | decide | (dsimp only; decide)) 1 1 (by first | decide | (dsimp only; decide)) (by first | decide | (dsimp only; decide))⟩
  rw [if_neg h39] at hq
  by_cases h43 : op = 43
  · rw [if_pos h43] at hq
    obtain rfl := Option.some.inj hq
    subst h43
    refine ⟨does_reckoned _ (fun s => [wrap64 (ar s 1 0 + 1)]) (by first | decide | (dsimp only; decide)) (by first | decide | (dsimp only; decide)) (g_alone 43 arg lit cells rfl rfl rfl rfl rfl rfl rfl rfl rfl rfl (by first | decide | (dsimp only; decide)) _ alone_inc) fun x s hs ha => ⟨lays_len ha (by first | decide | (dsimp only; decide)) 1 1 (by first | decide | (dsimp only; decide)) (by first | decide | (dsimp only; decide)), fun v hv => by
      rw [List.mem_singleton.1 hv]
      first | exact wrap_v64 _ | exact ar_v64 _ _ _⟩, keeps_lays _ (fun s => [wrap64 (ar s 1 0 + 1)]) 1 (by first | decide | (dsimp only; decide)) fun x s ha => lays_len ha (by first | decide | (dsimp only; decide)) 1 1 (by first | decide | (dsimp only; decide)) (by first | decide | (dsimp only; decide))⟩
  rw [if_neg h43] at hq
  by_cases h44 : op = 44
  · rw [if_pos h44] at hq
    obtain rfl := Option.some.inj hq
    subst h44
    refine ⟨does_reckoned _ (fun s => [wrap64 (ar s 1 0 - 1)]) (by first | decide | (dsimp only; decide)) (by first | decide | (dsimp only; decide)) (g_alone 44 arg lit cells rfl rfl rfl rfl rfl rfl rfl rfl rfl rfl (by first | decide | (dsimp only; decide)) _ alone_dec) fun x s hs ha => ⟨lays_len ha (by first | decide | (dsimp only; decide)) 1 1 (by first | decide | (dsimp only; decide)) (by first | decide | (dsimp only; decide)), fun v hv => by
      rw [List.mem_singleton.1 hv]
      first | exact wrap_v64 _ | exact ar_v64 _ _ _⟩, keeps_lays _ (fun s => [wrap64 (ar s 1 0 - 1)]) 1 (by first | decide | (dsimp only; decide)) fun x s ha => lays_len ha (by first | decide | (dsimp only; decide)) 1 1 (by first | decide | (dsimp only; decide)) (by first | decide | (dsimp only; decide))⟩
  rw [if_neg h44] at hq
  cases hq
end Vm
end Go.Proofs.YtjhdpmimccpcdaaGreatDoor
/- Chapter 11: a run, as a plain function: of the operations that are treated; none: another one came. No condition. -/
namespace Go.Proofs.YtjhdpmimccpcdaaGreatDoor
set_option linter.unusedVariables false
set_option maxRecDepth 100000
open Go.RowKit Go.Lib
namespace Vm
/-- one instruction; none: it is not treated here -/
def stepS (x : Rn) (s : Mt) : Option Rs :=
  if x.left = 0 then some ⟨13, x, s⟩
  else if (s.S.fetch x.mode x.pc).2 ≠ 0 then some ⟨(s.S.fetch x.mode x.pc).2, { x with left := x.left - 1 }, s⟩
  else
    let i := (s.S.fetch x.mode x.pc).1
    let x2 := { x with left := x.left - 1, next := wrap64 (x.pc + 8 * i.cells) }
    if asks i x2 s ≠ 0 then some ⟨asks i x2 s, x2, s⟩
    else (parts i).map fun q => if (q x2 s).f ≠ 0 then q x2 s else ⟨0, { (q x2 s).x with pc := (q x2 s).x.next }, (q x2 s).s.told (q x2 s).x i.op⟩
/-- from instruction to instruction, n of them at most -/
def goesS : Nat → Rn → Mt → Option Rs
  | 0, _, _ => none
  | n + 1, x, s =>
    match stepS x s with
    | none => none
    | some q => if q.f ≠ 0 then some q else if q.x.over then some q else goesS n q.x q.s
/-- a run from an address on -/
def playS (xt : Int) (x : Rn) (s : Mt) : Option Rs :=
  if s.pr.rm - s.r < 1 then some ⟨4, x, s⟩ else goesS (x.left.toNat + 1) { x with pc := xt } (s.pushR [0])
/-! ### all stays well -/
theorem told_ok {s : Mt} (hs : s.Ok) (x : Rn) (op : Int) : (s.told x op).Ok := by
  unfold Mt.told
  split
  · exact ⟨hs.pd, hs.pr, hs.d, hs.r, hs.du, hs.dv, hs.ru, hs.rv⟩
  · exact hs
/-- what is fetched -/
theorem fetch_v64 (S : Img) (m a : Int) : V64 (S.fetch m a).1.arg ∧ V64 (S.fetch m a).1.lit ∧ V64 (8 * (S.fetch m a).1.cells) := by
  have h0 : V64 0 := by unfold V64; omega
  have hv := cellV_v64 S m a
  have hu : V64 (Code.unpack (S.cellV m a)).2.1 ∧ (Code.unpack (S.cellV m a)).2.1 < 36028797018963968 := by
    unfold Code.unpack
    split
    · rename_i h
      unfold Code.unArg V64 at *
      simp only
      refine ⟨by omega, by omega⟩
    · exact ⟨h0, by simp⟩
  unfold Img.fetch Inst.none
  split
  · exact ⟨h0, h0, by unfold V64; simp⟩
  split
  · exact ⟨h0, h0, by unfold V64; simp⟩
  split
  · split
    · exact ⟨h0, h0, by unfold V64; simp⟩
    · exact ⟨hu.1, cellV_v64 _ _ _, by unfold V64; simp⟩
  split
  · split
    · exact ⟨h0, h0, by unfold V64; simp⟩
    · rename_i h
      refine ⟨hu.1, h0, ?_⟩
      have h3 : 0 ≤ (Code.unpack (S.cellV m a)).2.1 := by
        unfold Img.textF at h
        split at h
        · simp at h
        · omega
      have h4 := hu.2
      unfold V64
      simp only
      omega
  · exact ⟨hu.1, h0, by unfold V64; simp⟩
end Vm
end Go.Proofs.YtjhdpmimccpcdaaGreatDoor
