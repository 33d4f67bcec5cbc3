/- Chapter 11: one step of a run, in plain words. Plain lemmas. Conditions: as written. -/
import Derived.Test.YtjhdpmimccpcdaaGreatDoorQ26
import Derived.Test.YtjhdpmimccpcdaaGreatDoorQVMach
namespace Go.Proofs.YtjhdpmimccpcdaaGreatDoor
set_option linter.unusedVariables false
open Go.RowKit Go.Lib
namespace Vm
theorem wrap_pc (n : Int) (h : 0 ≤ n) (h2 : n ≤ 1000000) : wrap64 n = n := by unfold wrap64; omega
/-- a step that goes on -/
theorem stepS_of {x : Rn} {s : Mt} {i : Inst} {q : Rn → Mt → Rs} (hl : x.left ≠ 0) (hf : s.S.fetch x.mode x.pc = (i, 0)) (hp : parts i = some q) (n : Int) (hn : wrap64 (x.pc + 8 * i.cells) = n)
    (ha : asks i { x with left := x.left - 1, next := n } s = 0) (r : Rs) (hq : q { x with left := x.left - 1, next := n } s = r) (hr : r.f = 0) :
    stepS x s = some ⟨0, { r.x with pc := r.x.next }, r.s.told r.x i.op⟩ := by
  unfold stepS
  rw [if_neg hl, hf, if_neg (by simp)]
  simp only
  rw [hn, if_neg (by rw [ha]; decide), hp, Option.map_some, hq, if_neg (by rw [hr]; decide)]
theorem goesS_of {n : Nat} {x : Rn} {s : Mt} {r : Rs} (h : stepS x s = some r) (hf : r.f = 0) (ho : r.x.over = false) : goesS (n + 1) x s = goesS n r.x r.s := by
  rw [goesS, h]
  simp only
  rw [if_neg (by rw [hf]; decide), if_neg (by rw [ho]; decide)]
theorem goesS_end {n : Nat} {x : Rn} {s : Mt} {r : Rs} (h : stepS x s = some r) (ho : r.f ≠ 0 ∨ r.x.over = true) : goesS (n + 1) x s = some r := by
  rw [goesS, h]
  simp only
  rcases ho with ho | ho
  · rw [if_pos ho]
  · rw [if_pos ho]
    split <;> rfl
end Vm
end Go.Proofs.YtjhdpmimccpcdaaGreatDoor
/- Chapter 11: runs of some cells, in plain words. No condition but those written. -/
namespace Go.Proofs.YtjhdpmimccpcdaaGreatDoor
set_option linter.unusedVariables false
open Go.RowKit Go.Lib
namespace Vm
/-- a step has been done, and the run goes on behind it -/
structure Stepped (x : Rn) (s : Mt) (n : Int) (s' : Mt) (a : Nat) (cs ds rs : List Int) : Prop where
  step : stepS x s = some ⟨0, { x with left := x.left - 1, next := n, pc := n }, s'⟩
  rep : Rep s' a cs ds rs
  tells : s'.tells = s.tells
  seen : s'.seen.length = s.seen.length + (if s.tells then 1 else 0)
/-- an operation that takes n cells off and lays some -/
theorem Rep.stepL {x : Rn} {s : Mt} {a : Nat} {cs ds rs : List Int} (h : Rep s a cs ds rs) (i : Inst) (n m : Nat) (l : Mt → List Int) (out : List Int) (pc : Int) (hl : x.left ≠ 0) (hf : s.S.fetch x.mode x.pc = (i, 0)) (hp : parts i = some (fun x s => laysR n (l s) x s))
    (hw : Code.wants i.op = ((n : Int), (m : Int))) (h26 : i.op ≠ 26) (hneeds : needs i.op = 0) (hret : ∀ b, returns i.op i.arg b = (0, 0)) (hn : n ≤ ds.length) (hm : ds.length - n + m ≤ 16) (hout : l s = out) (hlen : out.length = m) (hv : ∀ v ∈ out, V64 v)
    (hpc : pc = x.pc + 8 * i.cells) (hpc1 : 0 ≤ pc) (hpc2 : pc ≤ 1000000) (hb : x.base = 0) : ∃ s', Stepped x s pc s' a cs (ds.take (ds.length - n) ++ out) rs := by
  have h1 := h.lays n hn out hv (by omega)
  have ha : asks i { x with left := x.left - 1, next := pc } s = 0 := by
    refine h.asked i _ hneeds (by rw [hw]; show (n : Int) ≤ _; omega) h26 (by rw [hw]; show (ds.length : Int) - (n : Int) + (m : Int) ≤ 16; omega) (by rw [hret]; show (0 : Int) ≤ (rs.length : Int) - x.base; omega) (by rw [hret]; have := h.rle; show (rs.length : Int) - 0 + 0 ≤ 8; omega)
  have hq : (fun x s => laysR n (l s) x s) { x with left := x.left - 1, next := pc } s = ⟨(s.lays n out).1, { x with left := x.left - 1, next := pc }, (s.lays n out).2⟩ := by
    show laysR n (l s) _ s = _
    rw [hout]
    rfl
  have hs := stepS_of hl hf hp pc (by rw [← hpc]; exact wrap_pc pc hpc1 hpc2) ha _ hq h1.1
  refine ⟨_, hs, h1.2.1.told _ _, ?_, ?_⟩
  · show ((s.lays n out).2.told _ _).tells = s.tells
    have e : (s.lays n out).2.tells = s.tells := by unfold Mt.lays; split <;> rfl
    unfold Mt.told
    split <;> exact e
  · show ((s.lays n out).2.told _ _).seen.length = _
    have e : (s.lays n out).2.tells = s.tells := by unfold Mt.lays; split <;> rfl
    rw [told_len, e, h1.2.2]
/-- (exit) behind the last cell of the return stack -/
theorem Rep.stepExit {x : Rn} {s : Mt} {a : Nat} {cs ds rs : List Int} {v : Int} (h : Rep s a cs ds (rs ++ [v])) (hl : x.left ≠ 0) (hf : s.S.fetch x.mode x.pc = (⟨1, 0, 0, 1⟩, 0)) (hb : x.base = 0) (hpc1 : 0 ≤ x.pc) (hpc2 : x.pc ≤ 900000) :
    ∃ s', stepS x s = some ⟨0, { x with left := x.left - 1, next := v, pc := v, over := v == 0 }, s'⟩ ∧ Rep s' a cs ds rs ∧ s'.tells = s.tells ∧ s'.seen.length = s.seen.length + (if s.tells then 1 else 0) := by
  have hlr : (rs ++ [v]).length = rs.length + 1 := by simp
  have hw : Code.wants 1 = (0, 0) := by decide
  have hret : ∀ b, returns 1 0 b = (1, 0) := fun b => rfl
  have ha : asks ⟨1, 0, 0, 1⟩ { x with left := x.left - 1, next := x.pc + 8 } s = 0 := by
    refine h.asked _ _ rfl (by show (Code.wants 1).1 ≤ _; rw [hw]; show (0 : Int) ≤ _; omega) (by decide) (by show (ds.length : Int) - (Code.wants 1).1 + (Code.wants 1).2 ≤ 16; rw [hw]; have := h.dle; show (ds.length : Int) - 0 + 0 ≤ 16; omega) (by show (returns 1 0 s.same).1 ≤ _; rw [hret, hlr]; show (1 : Int) ≤ ((rs.length + 1 : Nat) : Int) - x.base; omega) (by show ((rs ++ [v]).length : Int) - (returns 1 0 s.same).1 + (returns 1 0 s.same).2 ≤ 8; rw [hret, hlr]; have := h.rle; rw [hlr] at this; show ((rs.length + 1 : Nat) : Int) - 1 + 0 ≤ 8; omega)
  have ht : s.rtop 0 = v := h.rtop 0 v (by rw [hlr]; omega) (by rw [hlr]; simp)
  have hq : back { x with left := x.left - 1, next := x.pc + 8 } s = ⟨0, { x with left := x.left - 1, next := v, over := v == 0 }, { s with r := s.r - 1 }⟩ := by
    unfold back
    rw [if_neg (by rw [h.r, hlr]; omega), ht]
  have hs := stepS_of (i := ⟨1, 0, 0, 1⟩) hl hf rfl (x.pc + 8) (by show wrap64 (x.pc + 8 * 1) = _; rw [wrap_pc _ (by omega) (by omega)]; omega) ha _ hq rfl
  have hrep : Rep { s with r := s.r - 1 } a cs ds rs := by
    have h2 := h.cutR rs.length (by rw [hlr]; omega)
    rw [List.take_append_of_le_length (Nat.le_refl _), List.take_length] at h2
    have e : s.cutR rs.length = { s with r := s.r - 1 } := by unfold Mt.cutR; rw [h.r, hlr]; rfl
    rw [e] at h2
    exact h2
  refine ⟨_, hs, hrep.told _ _, ?_, ?_⟩
  · show (Mt.told { s with r := s.r - 1 } _ _).tells = s.tells
    unfold Mt.told
    split <;> rfl
  · rw [told_len]
theorem start_fields (m fuel : Int) (pc : Int) : ({ Rn.start m fuel with pc := pc } : Rn) = ⟨m, clip fuel, pc, 0, false, false, 0⟩ := rfl
theorem v64_small (n : Int) (h : 0 ≤ n) (h2 : n ≤ 1000000) : V64 n := by unfold V64; omega
def codeShown : List Int := [2, 5, 21, 33, 1]
/-- LIT 5 DUP * EXIT -/
theorem shown_run {s : Mt} (h : Rep s 16472 codeShown [] []) (ht : s.tells = true) : ∃ q, goesS ((clip 100).toNat + 1) { Rn.start 1 100 with pc := 16472 } (s.pushR [0]) = some q ∧ q.f = 0 ∧ q.x.left = 96 ∧ Rep q.s 16472 codeShown [25] [] ∧ q.s.seen.length = s.seen.length + 4 := by
  have h0 : Rep (s.pushR [0]) 16472 codeShown [] [0] := h.pushR1 0 (by unfold V64; omega) (by simp)
  have e0 : (s.pushR [0]).tells = true := ht
  have n0 : (s.pushR [0]).seen.length = s.seen.length := rfl
  generalize s.pushR [0] = s0 at *
  have hc : clip 100 = 100 := by decide
  rw [hc, start_fields, hc, show (100 : Int).toNat + 1 = 97 + 4 from rfl]
  have f1 := h0.code.fetchLit 1 (by omega) 0 5 rfl rfl
  obtain ⟨s1, t1⟩ := h0.stepL (x := ⟨1, 100, 16472, 0, false, false, 0⟩) ⟨2, 0, 5, 2⟩ 0 1 (fun _ => [5]) [5] 16488 (by decide) f1 rfl (by decide) (by decide) rfl (fun _ => rfl) (by simp) (by simp) rfl rfl (fun v hv => by rw [List.mem_singleton.1 hv]; exact v64_small 5 (by omega) (by omega)) rfl (by omega) (by omega) rfl
  have h1 : Rep s1 16472 codeShown [5] [0] := t1.rep
  have f2 := h1.code.fetch 1 (by omega) 2 21 21 0 rfl (by decide) (by decide) (by decide)
  have a2 : ar s1 1 0 = 5 := h1.arv 1 0 5 (by omega) (by simp) rfl
  obtain ⟨s2, t2⟩ := h1.stepL (x := ⟨1, 99, 16488, 16488, false, false, 0⟩) ⟨21, 0, 0, 1⟩ 1 2 (fun s => [ar s 1 0, ar s 1 0]) [5, 5] 16496 (by decide) f2 rfl (by decide) (by decide) rfl (fun _ => rfl) (by simp) (by simp) (by simp only [a2]) rfl (fun v hv => by
    simp only [List.mem_cons, List.mem_nil_iff, or_false, or_self] at hv
    rw [hv]; exact v64_small 5 (by omega) (by omega)) rfl (by omega) (by omega) rfl
  have h2 : Rep s2 16472 codeShown [5, 5] [0] := t2.rep
  have f3 := h2.code.fetch 1 (by omega) 3 33 33 0 rfl (by decide) (by decide) (by decide)
  have a3 : ar s2 2 0 = 5 := h2.arv 2 0 5 (by omega) (by simp) rfl
  have b3 : ar s2 2 1 = 5 := h2.arv 2 1 5 (by omega) (by simp) rfl
  obtain ⟨s3, t3⟩ := h2.stepL (x := ⟨1, 98, 16496, 16496, false, false, 0⟩) ⟨33, 0, 0, 1⟩ 2 1 (fun s => [wrap64 (ar s 2 0 * ar s 2 1)]) [25] 16504 (by decide) f3 rfl (by decide) (by decide) rfl (fun _ => rfl) (by simp) (by simp) (by simp only [a3, b3]; decide +kernel) rfl (fun v hv => by
    rw [List.mem_singleton.1 hv]; exact v64_small 25 (by omega) (by omega)) rfl (by omega) (by omega) rfl
  have h3 : Rep s3 16472 codeShown [25] ([] ++ [0]) := t3.rep
  have f4 := h3.code.fetch 1 (by omega) 4 1 1 0 rfl (by decide) (by decide) (by decide)
  obtain ⟨s4, t4, h4, e4, n4⟩ := h3.stepExit (x := ⟨1, 97, 16504, 16504, false, false, 0⟩) (by decide) f4 rfl (by decide) (by decide)
  have g1 : goesS (97 + 4) ⟨1, 100, 16472, 0, false, false, 0⟩ s0 = goesS (97 + 3) ⟨1, 99, 16488, 16488, false, false, 0⟩ s1 := goesS_of t1.step rfl rfl
  have g2 : goesS (97 + 3) ⟨1, 99, 16488, 16488, false, false, 0⟩ s1 = goesS (97 + 2) ⟨1, 98, 16496, 16496, false, false, 0⟩ s2 := goesS_of t2.step rfl rfl
  have g3 : goesS (97 + 2) ⟨1, 98, 16496, 16496, false, false, 0⟩ s2 = goesS (97 + 1) ⟨1, 97, 16504, 16504, false, false, 0⟩ s3 := goesS_of t3.step rfl rfl
  have g4 := goesS_end (n := 97) t4 (.inr rfl)
  rw [g1, g2, g3, g4]
  refine ⟨_, rfl, rfl, rfl, h4, ?_⟩
  show s4.seen.length = _
  rw [n4, t3.seen, t2.seen, t1.seen, t3.tells, t2.tells, t1.tells, e0, n0]
  rfl
/-- EXIT alone -/
theorem exit_run {s : Mt} {ds : List Int} (h : Rep s 16472 [1] ds []) (m fuel : Int) (hm : 0 ≤ m ∧ m ≤ 2) : ∃ q, goesS ((clip fuel).toNat + 1) { Rn.start m fuel with pc := 16472 } (s.pushR [0]) = some q ∧ q.f = (if fuel < 1 then 13 else 0) ∧ clip fuel - q.x.left = (if fuel < 1 then 0 else 1) := by
  have h0 : Rep (s.pushR [0]) 16472 [1] ds ([] ++ [0]) := h.pushR1 0 (by unfold V64; omega) (by simp)
  generalize s.pushR [0] = s0 at *
  rw [start_fields]
  by_cases hf : fuel < 1
  · have hc : clip fuel = 0 := by unfold clip; omega
    have hst : stepS ⟨m, clip fuel, 16472, 0, false, false, 0⟩ s0 = some ⟨13, ⟨m, clip fuel, 16472, 0, false, false, 0⟩, s0⟩ := by
      unfold stepS
      rw [if_pos hc]
    rw [if_pos hf, if_pos hf]
    refine ⟨_, goesS_end hst (.inl (by show (13 : Int) ≠ 0; decide)), rfl, ?_⟩
    show clip fuel - clip fuel = 0
    omega
  · have hc : 1 ≤ clip fuel := by unfold clip; omega
    rw [if_neg hf, if_neg hf]
    have f4 := h0.code.fetch m hm 0 1 1 0 rfl (by decide) (by decide) (by decide)
    obtain ⟨s4, t4, h4, e4, n4⟩ := h0.stepExit (x := ⟨m, clip fuel, 16472, 0, false, false, 0⟩) (by show clip fuel ≠ 0; omega) f4 rfl (by show (0 : Int) ≤ 16472; decide) (by show (16472 : Int) ≤ 900000; decide)
    refine ⟨_, goesS_end t4 (.inr rfl), rfl, ?_⟩
    show clip fuel - (clip fuel - 1) = 1
    omega
end Vm
end Go.Proofs.YtjhdpmimccpcdaaGreatDoor
/- Chapter 11: loops, in plain words. No condition but those written. -/
namespace Go.Proofs.YtjhdpmimccpcdaaGreatDoor
set_option linter.unusedVariables false
open Go.RowKit Go.Lib
namespace Vm
theorem xor_sign (x y : Int) (hx : V64 x) (hy : V64 y) : decide (bits .xor .i64 x y < 0) = (decide (x < 0) != decide (y < 0)) := by
  unfold V64 at hx hy
  have h1 : ∀ z : Int, -9223372036854775808 ≤ z → z ≤ 9223372036854775807 → (BitVec.ofInt 64 z).msb = decide (z < 0) := fun z h1 h2 => by
    rw [BitVec.msb_eq_toInt, BitVec.toInt_ofInt]
    have e : z.bmod (2 ^ 64) = z := by
      rw [Int.bmod_def]
      have : (2 ^ 64 : Nat) = 18446744073709551616 := by decide
      rw [this]
      omega
    rw [e]
  have h2 : bits .xor .i64 x y = (BitVec.ofInt 64 x ^^^ BitVec.ofInt 64 y).toInt := by
    have e : bits .xor .i64 x y = IntKind.i64.wrap ((BitVec.ofInt 64 x ^^^ BitVec.ofInt 64 y).toNat) := rfl
    rw [e, IntWalk.i64_left, BitVec.toInt_eq_toNat_cond]
    have := (BitVec.ofInt 64 x ^^^ BitVec.ofInt 64 y).isLt
    unfold wrap64
    split <;> omega
  rw [h2, ← BitVec.msb_eq_toInt, BitVec.msb_xor, h1 x hx.1 hx.2, h1 y hy.1 hy.2]
section
variable {x : Rn} {s : Mt} {a : Nat} {cs ds rs : List Int} {v0 : Int}
theorem args2 (s : Mt) : s.args 2 = [ar s 2 0, ar s 2 1] := rfl
theorem Rep.pokeR (h : Rep s a cs ds (rs ++ [v0])) (v : Int) (hv : V64 v) : Rep (s.pokeR 0 v) a cs ds (rs ++ [v]) := by
  have hr := h.r
  rw [List.length_append] at hr
  have hlr : (rs ++ [v0]).length = rs.length + 1 := by simp
  have h1 := h.cutR rs.length (by rw [hlr]; omega)
  rw [List.take_append_of_le_length (Nat.le_refl _), List.take_length] at h1
  have h2 := h1.pushR (l := [v]) (fun u hu => by rw [List.mem_singleton.1 hu]; exact hv) (by have := h.rle; rw [hlr] at this; exact this)
  have e : (s.cutR rs.length).pushR [v] = s.pokeR 0 v := by
    unfold Mt.pushR Mt.cutR Mt.pokeR
    have e1 : s.r - 1 - 0 = rs.length := by rw [hr]; simp
    have e2 : s.r = rs.length + 1 := by rw [hr]; rfl
    rw [e1]
    show ({ s with S := spush s.S s.pr.fr rs.length [v], r := rs.length + 1 } : Mt) = { s with S := sset s.S s.pr.fr rs.length v }
    rw [← e2]
    rfl
  rw [e] at h2
  exact h2
/-- what all was asked of an operation that takes n cells off and moves the return stack -/
theorem Rep.askedR (h : Rep s a cs ds rs) (i : Inst) (x : Rn) (n : Nat) (off on : Nat) (hneeds : needs i.op = 0) (hw : Code.wants i.op = ((n : Int), 0)) (h26 : i.op ≠ 26) (hn : n ≤ ds.length) (hret : ∀ b, returns i.op i.arg b = ((off : Int), (on : Int))) (ho : off ≤ rs.length) (hr : rs.length - off + on ≤ 8) (hb : x.base = 0) : asks i x s = 0 := by
  have hd := h.dle
  refine h.asked i x hneeds (by rw [hw]; show (n : Int) ≤ _; omega) h26 (by rw [hw]; show (ds.length : Int) - (n : Int) + 0 ≤ 16; omega) (by rw [hret]; show (off : Int) ≤ (rs.length : Int) - x.base; omega) (by rw [hret]; show (rs.length : Int) - (off : Int) + (on : Int) ≤ 8; omega)
theorem Rep.laysNil (h : Rep s a cs ds rs) (n : Nat) (hn : n ≤ ds.length) : Rep (s.lays n []).2 a cs (ds.take (ds.length - n)) rs ∧ (s.lays n []).2.seen = s.seen ∧ (s.lays n []).2.tells = s.tells := by
  have h1 := h.lays n hn [] (fun v hv => by cases hv) (by have := h.dle; simp; omega)
  rw [List.append_nil] at h1
  exact ⟨h1.2.1, h1.2.2, (lays_same s n []).1⟩
/-- a step, out of what its part does -/
theorem Rep.stepQ {i : Inst} {q : Rn → Mt → Rs} {s1 : Mt} {nx : Int} {ds' rs' : List Int} (hl : x.left ≠ 0) (hf : s.S.fetch x.mode x.pc = (i, 0)) (hp : parts i = some q) (n : Int) (hn : wrap64 (x.pc + 8 * i.cells) = n) (ha : asks i { x with left := x.left - 1, next := n } s = 0)
    (hq : q { x with left := x.left - 1, next := n } s = ⟨0, { x with left := x.left - 1, next := nx }, s1⟩) (hr : Rep s1 a cs ds' rs') (ht : s1.tells = s.tells) (hs : s1.seen = s.seen) : ∃ s', Stepped x s nx s' a cs ds' rs' := by
  have h1 := stepS_of hl hf hp n hn ha _ hq rfl
  refine ⟨_, h1, hr.told _ _, ?_, ?_⟩
  · show (s1.told _ _).tells = s.tells
    unfold Mt.told
    split <;> exact ht
  · show (s1.told _ _).seen.length = _
    rw [told_len, ht, hs]
theorem Rep.stepDo {l i : Int} (h : Rep s a cs (ds ++ [l, i]) rs) (hl : x.left ≠ 0) (hf : s.S.fetch x.mode x.pc = (⟨6, 0, 0, 1⟩, 0)) (hr : rs.length + 2 ≤ 8) (hlv : V64 l) (hiv : V64 i) (hb : x.base = 0) (h1 : 0 ≤ x.pc) (h2 : x.pc ≤ 900000) : ∃ s', Stepped x s (x.pc + 8) s' a cs ds (rs ++ [l, i]) := by
  have hlen : (ds ++ [l, i]).length = ds.length + 2 := by simp
  have e0 : ar s 2 0 = l := h.arv 2 0 l (by omega) (by omega) (by rw [hlen]; simp)
  have e1 : ar s 2 1 = i := h.arv 2 1 i (by omega) (by omega) (by rw [hlen]; simp)
  obtain ⟨g1, g2, g3⟩ := h.laysNil 2 (by omega)
  rw [hlen, show ds.length + 2 - 2 = ds.length by omega, List.take_append_of_le_length (Nat.le_refl _), List.take_length] at g1
  have g4 := g1.pushR (l := [l, i]) (fun v hv => by
    simp only [List.mem_cons, List.mem_nil_iff, or_false] at hv
    rcases hv with rfl | rfl
    · exact hlv
    · exact hiv) (by simpa using hr)
  refine Rep.stepQ (q := fun x s => ⟨0, x, ((s.lays 2 []).2).pushR (s.args 2)⟩) (s1 := ((s.lays 2 []).2).pushR [l, i]) hl hf rfl (x.pc + 8) (by show wrap64 (x.pc + 8 * 1) = _; rw [wrap_pc _ (by omega) (by omega)]; omega)
    (h.askedR _ _ 2 0 2 rfl (by decide) (by decide) (by omega) (fun _ => rfl) (by omega) (by omega) hb) ?_ g4 g3 g2
  show (⟨0, _, ((s.lays 2 []).2).pushR (s.args 2)⟩ : Rs) = _
  rw [args2, e0, e1]
/-- the end of a turn, at (loop) -/
theorem Rep.stepLoop {m i : Int} {at_ : Int} (h : Rep s a cs ds (rs ++ [m, i])) (hl : x.left ≠ 0) (hf : s.S.fetch x.mode x.pc = (⟨8, at_, 0, 1⟩, 0)) (hb : x.base = 0) (h1 : 0 ≤ x.pc) (h2 : x.pc ≤ 900000) :
    ∃ s', if wrap64 (i + 1) = m then Stepped x s (x.pc + 8) s' a cs ds rs else Stepped x s at_ s' a cs ds (rs ++ [m, wrap64 (i + 1)]) := by
  have hlen : (rs ++ [m, i]).length = rs.length + 2 := by simp
  have e0 : s.rtop 0 = i := h.rtop 0 i (by omega) (by rw [hlen]; simp)
  have e1 : s.rtop 1 = m := h.rtop 1 m (by omega) (by rw [hlen]; simp)
  have ha : ∀ n, asks ⟨8, at_, 0, 1⟩ { x with left := x.left - 1, next := n } s = 0 := fun n => h.askedR _ _ 0 2 2 rfl (by dsimp only; decide) (by dsimp only; decide) (by omega) (fun _ => rfl) (by omega) (by have := h.rle; omega) hb
  have hpc : wrap64 (x.pc + 8 * 1) = x.pc + 8 := by rw [wrap_pc _ (by omega) (by omega)]; omega
  by_cases he : wrap64 (i + 1) = m
  · simp only [if_pos he]
    have hc := h.cutR rs.length (by omega)
    rw [List.take_append_of_le_length (Nat.le_refl _), List.take_length] at hc
    refine Rep.stepQ (q := fun x s => turn (wrap64 (s.rtop 0 + 1)) (wrap64 (s.rtop 0 + 1) == s.rtop 1) at_ x s) (s1 := s.cutR rs.length) hl hf rfl (x.pc + 8) hpc (ha _) ?_ hc rfl rfl
    show turn (wrap64 (s.rtop 0 + 1)) (wrap64 (s.rtop 0 + 1) == s.rtop 1) at_ _ s = _
    rw [e0, e1]
    unfold turn
    rw [if_pos (by simpa using he), h.r, hlen]
    rfl
  · simp only [if_neg he]
    have hp := Rep.pokeR (rs := rs ++ [m]) (v0 := i) (by rw [List.append_assoc]; exact h) (wrap64 (i + 1)) (wrap_v64 _)
    rw [List.append_assoc] at hp
    refine Rep.stepQ (q := fun x s => turn (wrap64 (s.rtop 0 + 1)) (wrap64 (s.rtop 0 + 1) == s.rtop 1) at_ x s) (s1 := s.pokeR 0 (wrap64 (i + 1))) hl hf rfl (x.pc + 8) hpc (ha _) ?_ hp rfl rfl
    show turn (wrap64 (s.rtop 0 + 1)) (wrap64 (s.rtop 0 + 1) == s.rtop 1) at_ _ s = _
    rw [e0, e1]
    unfold turn
    rw [if_neg (by simpa using he)]
/-- the end of a turn, at (+loop) -/
theorem Rep.stepPLoop {m i t : Int} {at_ : Int} (h : Rep s a cs (ds ++ [t]) (rs ++ [m, i])) (hl : x.left ≠ 0) (hf : s.S.fetch x.mode x.pc = (⟨9, at_, 0, 1⟩, 0)) (hb : x.base = 0) (h1 : 0 ≤ x.pc) (h2 : x.pc ≤ 900000) :
    ∃ s', if plEnds i m t = true then Stepped x s (x.pc + 8) s' a cs ds rs else Stepped x s at_ s' a cs ds (rs ++ [m, wrap64 (i + t)]) := by
  have hlen : (rs ++ [m, i]).length = rs.length + 2 := by simp
  have hlen2 : (ds ++ [t]).length = ds.length + 1 := by simp
  have e0 : s.rtop 0 = i := h.rtop 0 i (by omega) (by rw [hlen]; simp)
  have e1 : s.rtop 1 = m := h.rtop 1 m (by omega) (by rw [hlen]; simp)
  have e2 : ar s 1 0 = t := h.arv 1 0 t (by omega) (by omega) (by rw [hlen2]; simp)
  have ha : ∀ n, asks ⟨9, at_, 0, 1⟩ { x with left := x.left - 1, next := n } s = 0 := fun n => h.askedR _ _ 1 2 2 rfl (by dsimp only; decide) (by dsimp only; decide) (by omega) (fun _ => rfl) (by omega) (by have := h.rle; omega) hb
  have hpc : wrap64 (x.pc + 8 * 1) = x.pc + 8 := by rw [wrap_pc _ (by omega) (by omega)]; omega
  obtain ⟨g1, g2, g3⟩ := h.laysNil 1 (by omega)
  rw [hlen2, show ds.length + 1 - 1 = ds.length by omega, List.take_append_of_le_length (Nat.le_refl _), List.take_length] at g1
  obtain ⟨k1, k2, k3, k4⟩ := lays_same s 1 []
  by_cases he : plEnds i m t = true
  · simp only [if_pos he]
    have hc := g1.cutR rs.length (by omega)
    rw [List.take_append_of_le_length (Nat.le_refl _), List.take_length] at hc
    refine Rep.stepQ (q := fun x s => turn (wrap64 (s.rtop 0 + ar s 1 0)) (plEnds (s.rtop 0) (s.rtop 1) (ar s 1 0)) at_ x (s.lays 1 []).2) (s1 := ((s.lays 1 []).2).cutR rs.length) hl hf rfl (x.pc + 8) hpc (ha _) ?_ hc g3 g2
    show turn (wrap64 (s.rtop 0 + ar s 1 0)) (plEnds (s.rtop 0) (s.rtop 1) (ar s 1 0)) at_ _ (s.lays 1 []).2 = _
    rw [e0, e1, e2]
    unfold turn
    rw [if_pos he, k3, h.r, hlen]
    rfl
  · simp only [if_neg he]
    have hp := Rep.pokeR (rs := rs ++ [m]) (v0 := i) (by rw [List.append_assoc]; exact g1) (wrap64 (i + t)) (wrap_v64 _)
    rw [List.append_assoc] at hp
    refine Rep.stepQ (q := fun x s => turn (wrap64 (s.rtop 0 + ar s 1 0)) (plEnds (s.rtop 0) (s.rtop 1) (ar s 1 0)) at_ x (s.lays 1 []).2) (s1 := ((s.lays 1 []).2).pokeR 0 (wrap64 (i + t))) hl hf rfl (x.pc + 8) hpc (ha _) ?_ hp g3 g2
    show turn (wrap64 (s.rtop 0 + ar s 1 0)) (plEnds (s.rtop 0) (s.rtop 1) (ar s 1 0)) at_ _ (s.lays 1 []).2 = _
    rw [e0, e1, e2]
    unfold turn
    rw [if_neg he]
end
/-! ### a cell of the code laid anew -/
theorem code_setF {S : Img} {a : Nat} {cs : List Int} (h : CodeAt S a cs) (i : Nat) (hi : i < cs.length) : S.cellF 0 ((a : Int) + 8 * (i : Int)) true = 0 := by
  have h1 := h.lo
  have h2 := h.hi
  have h3 := h.al
  rw [show (a : Int) + 8 * (i : Int) = ((a + 8 * i : Nat) : Int) by omega]
  have hr : S.region ((a + 8 * i : Nat) : Int) = 3 := S.region_eq (by omega) (by omega) (by omega) (by omega) (by show _ < ((S.beg 4 : Nat) : Int); omega)
  have hrow : S.rowOk 0 ((a + 8 * i : Nat) : Int) 8 true = true := by
    unfold Img.rowOk Img.lets Img.may
    rw [hr]
    have hb4 : S.beg (3 + 1) = S.beg 4 := rfl
    have h4 : decide (((8 : Nat) : Int) ≤ (S.beg (3 + 1) : Int) - ((a + 8 * i : Nat) : Int)) = true := decide_eq_true (by rw [hb4]; omega)
    rw [h4]
    simp
  unfold Img.cellF
  rw [if_neg (by omega), if_pos hrow]
theorem Rep.setCode {s : Mt} {a : Nat} {cs ds rs : List Int} (h : Rep s a cs ds rs) (ha : a + 8 * cs.length ≤ 16960) (i : Nat) (hi : i < cs.length) (v : Int) (hv : V64 v) : Rep { s with S := s.S.setCell 0 ((a : Int) + 8 * (i : Int)) v } a (cs.set i v) ds rs := by
  obtain ⟨b2, b3, b4, b5, b6⟩ := h.lay.begs
  have hF := code_setF h.code i hi
  have e : s.S.setCell 0 ((a : Int) + 8 * (i : Int)) v = s.S.put (a + 8 * i) (toB v) := by
    unfold Img.setCell
    rw [if_pos hF, show (a : Int) + 8 * (i : Int) = ((a + 8 * i : Nat) : Int) by omega, Int.toNat_natCast]
  have hlen := h.img.len
  have far : ∀ fr j, InStk fr j → sget (s.S.put (a + 8 * i) (toB v)) fr j = sget s.S fr j := fun fr j hj => by
    unfold InStk at hj
    exact cellV_put_far s.S h.img 0 _ (a + 8 * i) (toB v) (by rw [toB_len]; omega) (by rw [toB_len]; omega)
  have hal := Alike.put s.S (a + 8 * i) (toB v)
  refine ⟨?_, ?_, h.pd, h.pr, ?_, h.d, h.r, h.dle, h.rle, fun j u hu => ?_, fun j u hu => ?_⟩
  · show (s.S.setCell 0 _ v).Ok
    rw [e]; exact put_ok h.img _ _ (by rw [toB_len]; omega)
  · show Lay0 (s.S.setCell 0 _ v)
    rw [e]; exact lay_put h.lay _ _
  · show CodeAt (s.S.setCell 0 _ v) a (cs.set i v)
    rw [e]
    refine ⟨h.code.al, by rw [hal.beg]; exact h.code.lo, by rw [hal.beg, List.length_set]; exact h.code.hi, fun j u hu => ?_⟩
    have hj : j < cs.length := by have := (List.getElem?_eq_some_iff.1 hu).1; simpa using this
    by_cases hij : j = i
    · subst hij
      have hu2 : v = u := by simpa [hi] using hu
      subst hu2
      have e3 := s.S.bytes_put_in (a + 8 * j) 0 8 (toB v) (by rw [toB_len, hlen]; omega) (by rw [toB_len]; omega)
      rw [Nat.add_zero] at e3
      rw [e3, List.drop_zero, List.take_of_length_le (by rw [toB_len]; omega)]
      exact ofB_toB v hv
    · have hu2 : cs[j]? = some u := by rw [List.getElem?_set_ne (fun h => hij h.symm)] at hu; exact hu
      rw [s.S.bytes_put_far (a + 8 * i) _ 8 (toB v) (by rw [toB_len, hlen]; omega) (by rw [hlen]; omega) (by rw [toB_len]; omega)]
      exact h.code.at_ j u hu2
  · show sget (s.S.setCell 0 _ v) 16960 j = u
    have hlt : j < ds.length := (List.getElem?_eq_some_iff.1 hu).1
    have hd := h.dle
    rw [e, far 16960 j (.inl ⟨rfl, by omega⟩)]
    exact h.dv j u hu
  · show sget (s.S.setCell 0 _ v) 17088 j = u
    have hlt : j < rs.length := (List.getElem?_eq_some_iff.1 hu).1
    have hr := h.rle
    rw [e, far 17088 j (.inr ⟨rfl, by omega⟩)]
    exact h.rv j u hu
/-! ### the law's loops -/
def csL : List Int := [6, 43, 4218888, 1]
def csP (t : Int) : List Int := [6, 43, 2, t, 4218889, 1]
theorem loop_go : ∀ (k : Nat) (L nx c i m : Int) (s : Mt) (N : Nat), 1 ≤ k → k ≤ 1000 → Rep s 16472 csL [c] [0, m, i] → 0 ≤ c → c + k ≤ 1000000 → m = wrap64 (i + k) → 2 * (k : Int) ≤ L →
    ∃ s', goesS (N + 2 * k) ⟨1, L, 16480, nx, false, false, 0⟩ s = goesS N ⟨1, L - 2 * k, 16496, 16496, false, false, 0⟩ s' ∧ Rep s' 16472 csL [c + k] [0]
  | 0, _, _, _, _, _, _, _, h, _, _, _, _, _, _ => by omega
  | k + 1, L, nx, c, i, m, s, N, _, hk, h, hc, hck, hm, hL => by
    have f1 := h.code.fetch 1 (by omega) 1 43 43 0 rfl (by decide) (by decide) (by decide)
    have a1 : ar s 1 0 = c := h.arv 1 0 c (by omega) (by simp) rfl
    obtain ⟨s1, t1⟩ := h.stepL (x := ⟨1, L, 16480, nx, false, false, 0⟩) ⟨43, 0, 0, 1⟩ 1 1 (fun s => [wrap64 (ar s 1 0 + 1)]) [c + 1] 16488 (by show L ≠ 0; omega) f1 rfl (by decide) (by decide) rfl (fun _ => rfl) (by simp) (by simp) (by simp only [a1]; rw [wrap_pc _ (by omega) (by omega)]) rfl (fun v hv => by
      rw [List.mem_singleton.1 hv]; exact v64_small _ (by omega) (by omega)) rfl (by omega) (by omega) rfl
    have h1 : Rep s1 16472 csL [c + 1] ([0] ++ [m, i]) := t1.rep
    have f2 := h1.code.fetch 1 (by omega) 2 4218888 8 16480 rfl (by decide) (by decide) (by decide)
    obtain ⟨s2, t2⟩ := h1.stepLoop (x := ⟨1, L - 1, 16488, 16488, false, false, 0⟩) (at_ := 16480) (by show L - 1 ≠ 0; omega) f2 rfl (by show (0 : Int) ≤ 16488; decide) (by show (16488 : Int) ≤ 900000; decide)
    have g1 : goesS (N + 2 * (k + 1)) ⟨1, L, 16480, nx, false, false, 0⟩ s = goesS (N + 2 * k + 1) ⟨1, L - 1, 16488, 16488, false, false, 0⟩ s1 := goesS_of t1.step rfl rfl
    by_cases hk1 : k = 0
    · subst hk1
      have he : wrap64 (i + 1) = m := by rw [hm]; rfl
      rw [if_pos he] at t2
      have g2 : goesS (N + 2 * 0 + 1) ⟨1, L - 1, 16488, 16488, false, false, 0⟩ s1 = goesS N ⟨1, L - 1 - 1, 16496, 16496, false, false, 0⟩ s2 := goesS_of t2.step rfl rfl
      refine ⟨s2, ?_, t2.rep⟩
      rw [g1, g2, show L - 1 - 1 = L - 2 * ((0 + 1 : Nat) : Int) by omega]
    · have he : ¬ wrap64 (i + 1) = m := by rw [hm]; unfold wrap64; omega
      rw [if_neg he] at t2
      have g2 : goesS (N + 2 * k + 1) ⟨1, L - 1, 16488, 16488, false, false, 0⟩ s1 = goesS (N + 2 * k) ⟨1, L - 1 - 1, 16480, 16480, false, false, 0⟩ s2 := goesS_of t2.step rfl rfl
      obtain ⟨s3, g3, h3⟩ := loop_go k (L - 1 - 1) 16480 (c + 1) (wrap64 (i + 1)) m s2 N (by omega) (by omega) t2.rep (by omega) (by omega) (by rw [hm]; unfold wrap64; omega) (by omega)
      refine ⟨s3, ?_, ?_⟩
      · rw [g1, g2, g3, show L - 1 - 1 - 2 * (k : Int) = L - 2 * ((k + 1 : Nat) : Int) by omega]
      · rw [show c + ((k + 1 : Nat) : Int) = c + 1 + (k : Int) by omega]
        exact h3
/-- DO 1+ LOOP: as many turns as there are -/
theorem loops_run {s : Mt} (fr : Int) (T : Nat) (hT : 1 ≤ T) (hT2 : T ≤ 60) (hf : V64 fr) (h : Rep s 16472 csL [0, wrap64 (fr + T), fr] []) : ∃ q, goesS ((clip 4000).toNat + 1) { Rn.start 1 4000 with pc := 16472 } (s.pushR [0]) = some q ∧ q.f = 0 ∧ q.x.left = 4000 - (2 + 2 * T) ∧ Rep q.s 16472 csL [(T : Int)] [] := by
  have h0 : Rep (s.pushR [0]) 16472 csL ([0] ++ [wrap64 (fr + T), fr]) [0] := h.pushR1 0 (by unfold V64; omega) (by simp)
  generalize s.pushR [0] = s0 at *
  have hc : clip 4000 = 4000 := by decide
  rw [hc, start_fields, hc]
  have f1 := h0.code.fetch 1 (by omega) 0 6 6 0 rfl (by decide) (by decide) (by decide)
  obtain ⟨s1, t1⟩ := h0.stepDo (x := ⟨1, 4000, 16472, 0, false, false, 0⟩) (by decide) f1 (by simp) (wrap_v64 _) hf rfl (by decide) (by decide)
  obtain ⟨s2, g2, h2⟩ := loop_go T 3999 16480 0 fr (wrap64 (fr + T)) s1 (4000 - 2 * T) hT (by omega) t1.rep (by omega) (by omega) rfl (by omega)
  have g1 : goesS ((4000 : Int).toNat + 1) ⟨1, 4000, 16472, 0, false, false, 0⟩ s0 = goesS 4000 ⟨1, 3999, 16480, 16480, false, false, 0⟩ s1 := goesS_of t1.step rfl rfl
  rw [show 4000 - 2 * T + 2 * T = 4000 by omega] at g2
  have f3 := h2.code.fetch 1 (by omega) 3 1 1 0 rfl (by decide) (by decide) (by decide)
  obtain ⟨s3, t3, h3, e3, n3⟩ := Rep.stepExit (rs := []) (v := 0) (x := ⟨1, 3999 - 2 * T, 16496, 16496, false, false, 0⟩) h2 (by show (3999 : Int) - 2 * T ≠ 0; omega) f3 rfl (by show (0 : Int) ≤ 16496; decide) (by show (16496 : Int) ≤ 900000; decide)
  have g4 := goesS_end (n := 3999 - 2 * T) t3 (.inr rfl)
  rw [show 3999 - 2 * T + 1 = 4000 - 2 * T by omega] at g4
  refine ⟨_, g1.trans (g2.trans g4), rfl, ?_, ?_⟩
  · show (3999 : Int) - 2 * T - 1 = _
    omega
  · rw [Int.zero_add] at h3
    exact h3
theorem plEnds_eq (i : Int) (r t : Nat) (hi : V64 i) (hr : 1 ≤ r) (hr2 : r ≤ 1000) (ht : 1 ≤ t) (ht2 : t ≤ 9) : plEnds i (wrap64 (i + r)) t = decide (r ≤ t) := by
  unfold V64 at hi
  have e1 : wrap64 (i - wrap64 (i + r)) = -(r : Int) := by unfold wrap64; omega
  have e2 : wrap64 (-(r : Int) + t) = (t : Int) - r := by unfold wrap64; omega
  unfold plEnds
  rw [IntWalk.i64_left, IntWalk.i64_left, e1, e2, xor_sign _ _ (by unfold V64; omega) (by unfold V64; omega), xor_sign _ _ (by unfold V64; omega) (by unfold V64; omega)]
  have d1 : decide (-(r : Int) < 0) = true := decide_eq_true (by omega)
  have d2 : decide ((t : Int) < 0) = false := decide_eq_false (by omega)
  rw [d1, d2]
  by_cases h : r ≤ t
  · rw [decide_eq_true h, decide_eq_false (show ¬ (t : Int) - r < 0 by omega)]; rfl
  · rw [decide_eq_false h, decide_eq_true (show (t : Int) - r < 0 by omega)]; rfl
theorem ploop_go (t : Nat) (ht : 1 ≤ t) (ht2 : t ≤ 9) : ∀ (K r : Nat) (L nx c i m : Int) (s : Mt) (N : Nat), r ≤ K → 1 ≤ r → r ≤ 1000 → Rep s 16472 (csP t) [c] [0, m, i] → V64 i → 0 ≤ c → c + K ≤ 1000000 → m = wrap64 (i + r) → 3 * (r : Int) ≤ L →
    ∃ s', goesS (N + 3 * ((r - 1) / t + 1)) ⟨1, L, 16480, nx, false, false, 0⟩ s = goesS N ⟨1, L - 3 * (((r - 1) / t + 1 : Nat) : Int), 16512, 16512, false, false, 0⟩ s' ∧ Rep s' 16472 (csP t) [c + (((r - 1) / t + 1 : Nat) : Int)] [0]
  | 0, r, _, _, _, _, _, _, _, h, h2, _, _, _, _, _, _, _ => by omega
  | K + 1, r, L, nx, c, i, m, s, N, hrK, hr, hr2, h, hi, hc, hck, hm, hL => by
    have f1 := h.code.fetch 1 (by omega) 1 43 43 0 rfl (by decide) (by decide) (by decide)
    have a1 : ar s 1 0 = c := h.arv 1 0 c (by omega) (by simp) rfl
    obtain ⟨s1, t1⟩ := h.stepL (x := ⟨1, L, 16480, nx, false, false, 0⟩) ⟨43, 0, 0, 1⟩ 1 1 (fun s => [wrap64 (ar s 1 0 + 1)]) [c + 1] 16488 (by show L ≠ 0; omega) f1 rfl (by decide) (by decide) rfl (fun _ => rfl) (by simp) (by simp) (by simp only [a1]; rw [wrap_pc _ (by omega) (by omega)]) rfl (fun v hv => by
      rw [List.mem_singleton.1 hv]; exact v64_small _ (by omega) (by omega)) rfl (by omega) (by omega) rfl
    have h1 : Rep s1 16472 (csP t) [c + 1] [0, m, i] := t1.rep
    have f2 := h1.code.fetchLit 1 (by omega) 2 t rfl rfl
    obtain ⟨s2, t2⟩ := h1.stepL (x := ⟨1, L - 1, 16488, 16488, false, false, 0⟩) ⟨2, 0, t, 2⟩ 0 1 (fun _ => [(t : Int)]) [(t : Int)] 16504 (by show L - 1 ≠ 0; omega) f2 rfl (by dsimp only; decide) (by dsimp only; decide) rfl (fun _ => rfl) (by simp) (by simp) rfl rfl (fun v hv => by rw [List.mem_singleton.1 hv]; exact v64_small _ (by omega) (by omega)) rfl (by omega) (by omega) rfl
    have h2 : Rep s2 16472 (csP t) ([c + 1] ++ [(t : Int)]) ([0] ++ [m, i]) := t2.rep
    have f3 := h2.code.fetch 1 (by omega) 4 4218889 9 16480 rfl (by decide) (by decide) (by decide)
    obtain ⟨s3, t3⟩ := h2.stepPLoop (x := ⟨1, L - 1 - 1, 16504, 16504, false, false, 0⟩) (at_ := 16480) (by show L - 1 - 1 ≠ 0; omega) f3 rfl (by show (0 : Int) ≤ 16504; decide) (by show (16504 : Int) ≤ 900000; decide)
    rw [hm, plEnds_eq i r t hi hr hr2 ht ht2] at t3
    have g1 : ∀ M, goesS (M + 3) ⟨1, L, 16480, nx, false, false, 0⟩ s = goesS (M + 2) ⟨1, L - 1, 16488, 16488, false, false, 0⟩ s1 := fun M => goesS_of t1.step rfl rfl
    have g2 : ∀ M, goesS (M + 2) ⟨1, L - 1, 16488, 16488, false, false, 0⟩ s1 = goesS (M + 1) ⟨1, L - 1 - 1, 16504, 16504, false, false, 0⟩ s2 := fun M => goesS_of t2.step rfl rfl
    by_cases hrt : r ≤ t
    · have hz : (r - 1) / t = 0 := Nat.div_eq_of_lt (by omega)
      rw [if_pos (decide_eq_true hrt)] at t3
      have g3 : goesS (N + 1) ⟨1, L - 1 - 1, 16504, 16504, false, false, 0⟩ s2 = goesS N ⟨1, L - 1 - 1 - 1, 16512, 16512, false, false, 0⟩ s3 := goesS_of t3.step rfl rfl
      rw [hz]
      refine ⟨s3, ?_, t3.rep⟩
      rw [show N + 3 * (0 + 1) = N + 3 by omega, g1, g2, g3, show L - 1 - 1 - 1 = L - 3 * ((0 + 1 : Nat) : Int) by omega]
    · have hz : (r - 1) / t = (r - t - 1) / t + 1 := by
        rw [show r - 1 = (r - t - 1) + t by omega, Nat.add_div_right _ (by omega)]
      rw [if_neg (by simp; omega), ← hm] at t3
      have g3 : ∀ M, goesS (M + 1) ⟨1, L - 1 - 1, 16504, 16504, false, false, 0⟩ s2 = goesS M ⟨1, L - 1 - 1 - 1, 16480, 16480, false, false, 0⟩ s3 := fun M => goesS_of t3.step rfl rfl
      obtain ⟨s4, g4, h4⟩ := ploop_go t ht ht2 K (r - t) (L - 1 - 1 - 1) 16480 (c + 1) (wrap64 (i + t)) m s3 N (by omega) (by omega) (by omega) t3.rep (wrap_v64 _) (by omega) (by omega) (by rw [hm]; unfold wrap64; omega) (by omega)
      rw [hz]
      refine ⟨s4, ?_, ?_⟩
      · rw [show N + 3 * ((r - t - 1) / t + 1 + 1) = (N + 3 * ((r - t - 1) / t + 1)) + 3 by omega, g1, g2, g3, g4, show L - 1 - 1 - 1 - 3 * (((r - t - 1) / t + 1 : Nat) : Int) = L - 3 * (((r - t - 1) / t + 1 + 1 : Nat) : Int) by omega]
      · rw [show c + (((r - t - 1) / t + 1 + 1 : Nat) : Int) = c + 1 + (((r - t - 1) / t + 1 : Nat) : Int) by omega]
        exact h4
/-- DO 1+ LIT +LOOP -/
theorem ploops_run {s : Mt} (fr : Int) (T t : Nat) (hT : 1 ≤ T) (hT2 : T ≤ 60) (ht : 1 ≤ t) (ht2 : t ≤ 9) (hf : V64 fr) (h : Rep s 16472 (csP t) [0, wrap64 (fr + T), fr] []) : ∃ q, goesS ((clip 4000).toNat + 1) { Rn.start 1 4000 with pc := 16472 } (s.pushR [0]) = some q ∧ q.f = 0 ∧ Rep q.s 16472 (csP t) [(((T - 1) / t + 1 : Nat) : Int)] [] := by
  have h0 : Rep (s.pushR [0]) 16472 (csP t) ([0] ++ [wrap64 (fr + T), fr]) [0] := h.pushR1 0 (by unfold V64; omega) (by simp)
  generalize s.pushR [0] = s0 at *
  have hc : clip 4000 = 4000 := by decide
  rw [hc, start_fields, hc]
  have f1 := h0.code.fetch 1 (by omega) 0 6 6 0 rfl (by decide) (by decide) (by decide)
  obtain ⟨s1, t1⟩ := h0.stepDo (x := ⟨1, 4000, 16472, 0, false, false, 0⟩) (by decide) f1 (by simp) (wrap_v64 _) hf rfl (by decide) (by decide)
  have hk : (T - 1) / t + 1 ≤ 60 := by have := Nat.div_le_self (T - 1) t; omega
  generalize hkk : (T - 1) / t + 1 = k at *
  obtain ⟨s2, g2, h2⟩ := ploop_go t ht ht2 60 T 3999 16480 0 fr (wrap64 (fr + T)) s1 (4000 - 3 * k) hT2 hT (by omega) t1.rep hf (by omega) (by omega) rfl (by omega)
  rw [hkk] at g2 h2
  have g1 : goesS ((4000 : Int).toNat + 1) ⟨1, 4000, 16472, 0, false, false, 0⟩ s0 = goesS 4000 ⟨1, 3999, 16480, 16480, false, false, 0⟩ s1 := goesS_of t1.step rfl rfl
  rw [show 4000 - 3 * k + 3 * k = 4000 by omega] at g2
  have f3 := h2.code.fetch 1 (by omega) 5 1 1 0 rfl (by decide) (by decide) (by decide)
  obtain ⟨s3, t3, h3, e3, n3⟩ := Rep.stepExit (rs := []) (v := 0) (x := ⟨1, 3999 - 3 * k, 16512, 16512, false, false, 0⟩) h2 (by show (3999 : Int) - 3 * k ≠ 0; omega) f3 rfl (by show (0 : Int) ≤ 16512; decide) (by show (16512 : Int) ≤ 900000; decide)
  have g4 := goesS_end (n := 3999 - 3 * k) t3 (.inr rfl)
  rw [show 3999 - 3 * k + 1 = 4000 - 3 * k by omega] at g4
  refine ⟨_, g1.trans (g2.trans g4), rfl, ?_⟩
  rw [Int.zero_add] at h3
  exact h3
end Vm
end Go.Proofs.YtjhdpmimccpcdaaGreatDoor
