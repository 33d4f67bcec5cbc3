/- Chapter 11: one step of a run, in plain words. Plain lemmas. Conditions: as written. -/
import Derived.Test.YtjhdpmimccpcdaaGreatDoorT21
import Derived.Test.YtjhdpmimccpcdaaGreatDoorT31
namespace Go.Proofs.YtjhdpmimccpcdaaGreatDoor
set_option linter.unusedVariables false
open Go.RowKit Go.Lib
namespace Vm
theorem wrap_pc (n : Int) (h : 0 ≤ n) (h2 : n ≤ 1000000) : wrap64 n = n := by unfold wrap64; omega
/-- a step that goes on -/
theorem stepS_of {x : Rn} {s : Mt} {i : Inst} {q : Rn → Mt → Rs} (hl : x.left ≠ 0) (hf : s.S.fetch x.mode x.pc = (i, 0)) (hp : parts i = some q) (n : Int) (hn : wrap64 (x.pc + 8 * i.cells) = n)
    (ha : asks i { x with left := x.left - 1, next := n } s = 0) (r : Rs) (hq : q { x with left := x.left - 1, next := n } s = r) (hr : r.f = 0) :
    stepS x s = some ⟨0, { r.x with pc := r.x.next }, r.s.told r.x i.op⟩ := by
  unfold stepS
  rw [if_neg hl, hf, if_neg (by simp)]
  simp only
  rw [hn, if_neg (by rw [ha]; decide), hp, Option.map_some, hq, if_neg (by rw [hr]; decide)]
theorem goesS_of {n : Nat} {x : Rn} {s : Mt} {r : Rs} (h : stepS x s = some r) (hf : r.f = 0) (ho : r.x.over = false) : goesS (n + 1) x s = goesS n r.x r.s := by
  rw [goesS, h]
  simp only
  rw [if_neg (by rw [hf]; decide), if_neg (by rw [ho]; decide)]
theorem goesS_end {n : Nat} {x : Rn} {s : Mt} {r : Rs} (h : stepS x s = some r) (ho : r.f ≠ 0 ∨ r.x.over = true) : goesS (n + 1) x s = some r := by
  rw [goesS, h]
  simp only
  rcases ho with ho | ho
  · rw [if_pos ho]
  · rw [if_pos ho]
    split <;> rfl
end Vm
end Go.Proofs.YtjhdpmimccpcdaaGreatDoor
/- Chapter 11: runs of some cells, in plain words. No condition but those written. -/
namespace Go.Proofs.YtjhdpmimccpcdaaGreatDoor
set_option linter.unusedVariables false
open Go.RowKit Go.Lib
namespace Vm
/-- a step has been done, and the run goes on behind it -/
structure Stepped (x : Rn) (s : Mt) (n : Int) (s' : Mt) (a : Nat) (cs ds rs : List Int) : Prop where
  step : stepS x s = some ⟨0, { x with left := x.left - 1, next := n, pc := n }, s'⟩
  rep : Rep s' a cs ds rs
  tells : s'.tells = s.tells
  seen : s'.seen.length = s.seen.length + (if s.tells then 1 else 0)
/-- an operation that takes n cells off and lays some -/
theorem Rep.stepL {x : Rn} {s : Mt} {a : Nat} {cs ds rs : List Int} (h : Rep s a cs ds rs) (i : Inst) (n m : Nat) (l : Mt → List Int) (out : List Int) (pc : Int) (hl : x.left ≠ 0) (hf : s.S.fetch x.mode x.pc = (i, 0)) (hp : parts i = some (fun x s => laysR n (l s) x s))
    (hw : Code.wants i.op = ((n : Int), (m : Int))) (h26 : i.op ≠ 26) (hneeds : needs i.op = 0) (hret : ∀ b, returns i.op i.arg b = (0, 0)) (hn : n ≤ ds.length) (hm : ds.length - n + m ≤ 16) (hout : l s = out) (hlen : out.length = m) (hv : ∀ v ∈ out, V64 v)
    (hpc : pc = x.pc + 8 * i.cells) (hpc1 : 0 ≤ pc) (hpc2 : pc ≤ 1000000) (hb : x.base = 0) : ∃ s', Stepped x s pc s' a cs (ds.take (ds.length - n) ++ out) rs := by
  have h1 := h.lays n hn out hv (by omega)
  have ha : asks i { x with left := x.left - 1, next := pc } s = 0 := by
    refine h.asked i _ hneeds (by rw [hw]; show (n : Int) ≤ _; omega) h26 (by rw [hw]; show (ds.length : Int) - (n : Int) + (m : Int) ≤ 16; omega) (by rw [hret]; show (0 : Int) ≤ (rs.length : Int) - x.base; omega) (by rw [hret]; have := h.rle; show (rs.length : Int) - 0 + 0 ≤ 8; omega)
  have hq : (fun x s => laysR n (l s) x s) { x with left := x.left - 1, next := pc } s = ⟨(s.lays n out).1, { x with left := x.left - 1, next := pc }, (s.lays n out).2⟩ := by
    show laysR n (l s) _ s = _
    rw [hout]
    rfl
  have hs := stepS_of hl hf hp pc (by rw [← hpc]; exact wrap_pc pc hpc1 hpc2) ha _ hq h1.1
  refine ⟨_, hs, h1.2.1.told _ _, ?_, ?_⟩
  · show ((s.lays n out).2.told _ _).tells = s.tells
    have e : (s.lays n out).2.tells = s.tells := by unfold Mt.lays; split <;> rfl
    unfold Mt.told
    split <;> exact e
  · show ((s.lays n out).2.told _ _).seen.length = _
    have e : (s.lays n out).2.tells = s.tells := by unfold Mt.lays; split <;> rfl
    rw [told_len, e, h1.2.2]
/-- (exit) behind the last cell of the return stack -/
theorem Rep.stepExit {x : Rn} {s : Mt} {a : Nat} {cs ds rs : List Int} {v : Int} (h : Rep s a cs ds (rs ++ [v])) (hl : x.left ≠ 0) (hf : s.S.fetch x.mode x.pc = (⟨1, 0, 0, 1⟩, 0)) (hb : x.base = 0) (hpc1 : 0 ≤ x.pc) (hpc2 : x.pc ≤ 900000) :
    ∃ s', stepS x s = some ⟨0, { x with left := x.left - 1, next := v, pc := v, over := v == 0 }, s'⟩ ∧ Rep s' a cs ds rs ∧ s'.tells = s.tells ∧ s'.seen.length = s.seen.length + (if s.tells then 1 else 0) := by
  have hlr : (rs ++ [v]).length = rs.length + 1 := by simp
  have hw : Code.wants 1 = (0, 0) := by decide
  have hret : ∀ b, returns 1 0 b = (1, 0) := fun b => rfl
  have ha : asks ⟨1, 0, 0, 1⟩ { x with left := x.left - 1, next := x.pc + 8 } s = 0 := by
    refine h.asked _ _ rfl (by show (Code.wants 1).1 ≤ _; rw [hw]; show (0 : Int) ≤ _; omega) (by decide) (by show (ds.length : Int) - (Code.wants 1).1 + (Code.wants 1).2 ≤ 16; rw [hw]; have := h.dle; show (ds.length : Int) - 0 + 0 ≤ 16; omega) (by show (returns 1 0 s.same).1 ≤ _; rw [hret, hlr]; show (1 : Int) ≤ ((rs.length + 1 : Nat) : Int) - x.base; omega) (by show ((rs ++ [v]).length : Int) - (returns 1 0 s.same).1 + (returns 1 0 s.same).2 ≤ 8; rw [hret, hlr]; have := h.rle; rw [hlr] at this; show ((rs.length + 1 : Nat) : Int) - 1 + 0 ≤ 8; omega)
  have ht : s.rtop 0 = v := h.rtop 0 v (by rw [hlr]; omega) (by rw [hlr]; simp)
  have hq : back { x with left := x.left - 1, next := x.pc + 8 } s = ⟨0, { x with left := x.left - 1, next := v, over := v == 0 }, { s with r := s.r - 1 }⟩ := by
    unfold back
    rw [if_neg (by rw [h.r, hlr]; omega), ht]
  have hs := stepS_of (i := ⟨1, 0, 0, 1⟩) hl hf rfl (x.pc + 8) (by show wrap64 (x.pc + 8 * 1) = _; rw [wrap_pc _ (by omega) (by omega)]; omega) ha _ hq rfl
  have hrep : Rep { s with r := s.r - 1 } a cs ds rs := by
    have h2 := h.cutR rs.length (by rw [hlr]; omega)
    rw [List.take_append_of_le_length (Nat.le_refl _), List.take_length] at h2
    have e : s.cutR rs.length = { s with r := s.r - 1 } := by unfold Mt.cutR; rw [h.r, hlr]; rfl
    rw [e] at h2
    exact h2
  refine ⟨_, hs, hrep.told _ _, ?_, ?_⟩
  · show (Mt.told { s with r := s.r - 1 } _ _).tells = s.tells
    unfold Mt.told
    split <;> rfl
  · rw [told_len]
theorem start_fields (m fuel : Int) (pc : Int) : ({ Rn.start m fuel with pc := pc } : Rn) = ⟨m, clip fuel, pc, 0, false, false, 0⟩ := rfl
theorem v64_small (n : Int) (h : 0 ≤ n) (h2 : n ≤ 1000000) : V64 n := by unfold V64; omega
def codeShown : List Int := [2, 5, 21, 33, 1]
/-- LIT 5 DUP * EXIT -/
theorem shown_run {s : Mt} (h : Rep s 16472 codeShown [] []) (ht : s.tells = true) : ∃ q, goesS ((clip 100).toNat + 1) { Rn.start 1 100 with pc := 16472 } (s.pushR [0]) = some q ∧ q.f = 0 ∧ q.x.left = 96 ∧ Rep q.s 16472 codeShown [25] [] ∧ q.s.seen.length = s.seen.length + 4 := by
  have h0 : Rep (s.pushR [0]) 16472 codeShown [] [0] := h.pushR1 0 (by unfold V64; omega) (by simp)
  have e0 : (s.pushR [0]).tells = true := ht
  have n0 : (s.pushR [0]).seen.length = s.seen.length := rfl
  generalize s.pushR [0] = s0 at *
  have hc : clip 100 = 100 := by decide
  rw [hc, start_fields, hc, show (100 : Int).toNat + 1 = 97 + 4 from rfl]
  have f1 := h0.code.fetchLit 1 (by omega) 0 5 rfl rfl
  obtain ⟨s1, t1⟩ := h0.stepL (x := ⟨1, 100, 16472, 0, false, false, 0⟩) ⟨2, 0, 5, 2⟩ 0 1 (fun _ => [5]) [5] 16488 (by decide) f1 rfl (by decide) (by decide) rfl (fun _ => rfl) (by simp) (by simp) rfl rfl (fun v hv => by rw [List.mem_singleton.1 hv]; exact v64_small 5 (by omega) (by omega)) rfl (by omega) (by omega) rfl
  have h1 : Rep s1 16472 codeShown [5] [0] := t1.rep
  have f2 := h1.code.fetch 1 (by omega) 2 21 21 0 rfl (by decide) (by decide) (by decide)
  have a2 : ar s1 1 0 = 5 := h1.arv 1 0 5 (by omega) (by simp) rfl
  obtain ⟨s2, t2⟩ := h1.stepL (x := ⟨1, 99, 16488, 16488, false, false, 0⟩) ⟨21, 0, 0, 1⟩ 1 2 (fun s => [ar s 1 0, ar s 1 0]) [5, 5] 16496 (by decide) f2 rfl (by decide) (by decide) rfl (fun _ => rfl) (by simp) (by simp) (by simp only [a2]) rfl (fun v hv => by
    simp only [List.mem_cons, List.mem_nil_iff, or_false, or_self] at hv
    rw [hv]; exact v64_small 5 (by omega) (by omega)) rfl (by omega) (by omega) rfl
  have h2 : Rep s2 16472 codeShown [5, 5] [0] := t2.rep
  have f3 := h2.code.fetch 1 (by omega) 3 33 33 0 rfl (by decide) (by decide) (by decide)
  have a3 : ar s2 2 0 = 5 := h2.arv 2 0 5 (by omega) (by simp) rfl
  have b3 : ar s2 2 1 = 5 := h2.arv 2 1 5 (by omega) (by simp) rfl
  obtain ⟨s3, t3⟩ := h2.stepL (x := ⟨1, 98, 16496, 16496, false, false, 0⟩) ⟨33, 0, 0, 1⟩ 2 1 (fun s => [wrap64 (ar s 2 0 * ar s 2 1)]) [25] 16504 (by decide) f3 rfl (by decide) (by decide) rfl (fun _ => rfl) (by simp) (by simp) (by simp only [a3, b3]; decide +kernel) rfl (fun v hv => by
    rw [List.mem_singleton.1 hv]; exact v64_small 25 (by omega) (by omega)) rfl (by omega) (by omega) rfl
  have h3 : Rep s3 16472 codeShown [25] ([] ++ [0]) := t3.rep
  have f4 := h3.code.fetch 1 (by omega) 4 1 1 0 rfl (by decide) (by decide) (by decide)
  obtain ⟨s4, t4, h4, e4, n4⟩ := h3.stepExit (x := ⟨1, 97, 16504, 16504, false, false, 0⟩) (by decide) f4 rfl (by decide) (by decide)
  have g1 : goesS (97 + 4) ⟨1, 100, 16472, 0, false, false, 0⟩ s0 = goesS (97 + 3) ⟨1, 99, 16488, 16488, false, false, 0⟩ s1 := goesS_of t1.step rfl rfl
  have g2 : goesS (97 + 3) ⟨1, 99, 16488, 16488, false, false, 0⟩ s1 = goesS (97 + 2) ⟨1, 98, 16496, 16496, false, false, 0⟩ s2 := goesS_of t2.step rfl rfl
  have g3 : goesS (97 + 2) ⟨1, 98, 16496, 16496, false, false, 0⟩ s2 = goesS (97 + 1) ⟨1, 97, 16504, 16504, false, false, 0⟩ s3 := goesS_of t3.step rfl rfl
  have g4 := goesS_end (n := 97) t4 (.inr rfl)
  rw [g1, g2, g3, g4]
  refine ⟨_, rfl, rfl, rfl, h4, ?_⟩
  show s4.seen.length = _
  rw [n4, t3.seen, t2.seen, t1.seen, t3.tells, t2.tells, t1.tells, e0, n0]
  rfl
end Vm
end Go.Proofs.YtjhdpmimccpcdaaGreatDoor
/- Chapter 11: loops, in plain words. No condition but those written. -/
namespace Go.Proofs.YtjhdpmimccpcdaaGreatDoor
set_option linter.unusedVariables false
open Go.RowKit Go.Lib
namespace Vm
section
variable {x : Rn} {s : Mt} {a : Nat} {cs ds rs : List Int} {v0 : Int}
theorem Rep.pokeR (h : Rep s a cs ds (rs ++ [v0])) (v : Int) (hv : V64 v) : Rep (s.pokeR 0 v) a cs ds (rs ++ [v]) := by
  have hr := h.r
  rw [List.length_append] at hr
  have hlr : (rs ++ [v0]).length = rs.length + 1 := by simp
  have h1 := h.cutR rs.length (by rw [hlr]; omega)
  rw [List.take_append_of_le_length (Nat.le_refl _), List.take_length] at h1
  have h2 := h1.pushR (l := [v]) (fun u hu => by rw [List.mem_singleton.1 hu]; exact hv) (by have := h.rle; rw [hlr] at this; exact this)
  have e : (s.cutR rs.length).pushR [v] = s.pokeR 0 v := by
    unfold Mt.pushR Mt.cutR Mt.pokeR
    have e1 : s.r - 1 - 0 = rs.length := by rw [hr]; simp
    have e2 : s.r = rs.length + 1 := by rw [hr]; rfl
    rw [e1]
    show ({ s with S := spush s.S s.pr.fr rs.length [v], r := rs.length + 1 } : Mt) = { s with S := sset s.S s.pr.fr rs.length v }
    rw [← e2]
    rfl
  rw [e] at h2
  exact h2
/-- what all was asked of an operation that takes n cells off and moves the return stack -/
theorem Rep.askedR (h : Rep s a cs ds rs) (i : Inst) (x : Rn) (n : Nat) (off on : Nat) (hneeds : needs i.op = 0) (hw : Code.wants i.op = ((n : Int), 0)) (h26 : i.op ≠ 26) (hn : n ≤ ds.length) (hret : ∀ b, returns i.op i.arg b = ((off : Int), (on : Int))) (ho : off ≤ rs.length) (hr : rs.length - off + on ≤ 8) (hb : x.base = 0) : asks i x s = 0 := by
  have hd := h.dle
  refine h.asked i x hneeds (by rw [hw]; show (n : Int) ≤ _; omega) h26 (by rw [hw]; show (ds.length : Int) - (n : Int) + 0 ≤ 16; omega) (by rw [hret]; show (off : Int) ≤ (rs.length : Int) - x.base; omega) (by rw [hret]; show (rs.length : Int) - (off : Int) + (on : Int) ≤ 8; omega)
theorem Rep.laysNil (h : Rep s a cs ds rs) (n : Nat) (hn : n ≤ ds.length) : Rep (s.lays n []).2 a cs (ds.take (ds.length - n)) rs ∧ (s.lays n []).2.seen = s.seen ∧ (s.lays n []).2.tells = s.tells := by
  have h1 := h.lays n hn [] (fun v hv => by cases hv) (by have := h.dle; simp; omega)
  rw [List.append_nil] at h1
  exact ⟨h1.2.1, h1.2.2, (lays_same s n []).1⟩
/-- a step, out of what its part does -/
theorem Rep.stepQ {i : Inst} {q : Rn → Mt → Rs} {s1 : Mt} {nx : Int} {ds' rs' : List Int} (hl : x.left ≠ 0) (hf : s.S.fetch x.mode x.pc = (i, 0)) (hp : parts i = some q) (n : Int) (hn : wrap64 (x.pc + 8 * i.cells) = n) (ha : asks i { x with left := x.left - 1, next := n } s = 0)
    (hq : q { x with left := x.left - 1, next := n } s = ⟨0, { x with left := x.left - 1, next := nx }, s1⟩) (hr : Rep s1 a cs ds' rs') (ht : s1.tells = s.tells) (hs : s1.seen = s.seen) : ∃ s', Stepped x s nx s' a cs ds' rs' := by
  have h1 := stepS_of hl hf hp n hn ha _ hq rfl
  refine ⟨_, h1, hr.told _ _, ?_, ?_⟩
  · show (s1.told _ _).tells = s.tells
    unfold Mt.told
    split <;> exact ht
  · show (s1.told _ _).seen.length = _
    rw [told_len, ht, hs]
end
/-! ### a cell of the code laid anew -/
theorem code_setF {S : Img} {a : Nat} {cs : List Int} (h : CodeAt S a cs) (i : Nat) (hi : i < cs.length) : S.cellF 0 ((a : Int) + 8 * (i : Int)) true = 0 := by
  have h1 := h.lo
  have h2 := h.hi
  have h3 := h.al
  rw [show (a : Int) + 8 * (i : Int) = ((a + 8 * i : Nat) : Int) by omega]
  have hr : S.region ((a + 8 * i : Nat) : Int) = 3 := S.region_eq (by omega) (by omega) (by omega) (by omega) (by show _ < ((S.beg 4 : Nat) : Int); omega)
  have hrow : S.rowOk 0 ((a + 8 * i : Nat) : Int) 8 true = true := by
    unfold Img.rowOk Img.lets Img.may
    rw [hr]
    have hb4 : S.beg (3 + 1) = S.beg 4 := rfl
    have h4 : decide (((8 : Nat) : Int) ≤ (S.beg (3 + 1) : Int) - ((a + 8 * i : Nat) : Int)) = true := decide_eq_true (by rw [hb4]; omega)
    rw [h4]
    simp
  unfold Img.cellF
  rw [if_neg (by omega), if_pos hrow]
theorem Rep.setCode {s : Mt} {a : Nat} {cs ds rs : List Int} (h : Rep s a cs ds rs) (ha : a + 8 * cs.length ≤ 16960) (i : Nat) (hi : i < cs.length) (v : Int) (hv : V64 v) : Rep { s with S := s.S.setCell 0 ((a : Int) + 8 * (i : Int)) v } a (cs.set i v) ds rs := by
  obtain ⟨b2, b3, b4, b5, b6⟩ := h.lay.begs
  have hF := code_setF h.code i hi
  have e : s.S.setCell 0 ((a : Int) + 8 * (i : Int)) v = s.S.put (a + 8 * i) (toB v) := by
    unfold Img.setCell
    rw [if_pos hF, show (a : Int) + 8 * (i : Int) = ((a + 8 * i : Nat) : Int) by omega, Int.toNat_natCast]
  have hlen := h.img.len
  have far : ∀ fr j, InStk fr j → sget (s.S.put (a + 8 * i) (toB v)) fr j = sget s.S fr j := fun fr j hj => by
    unfold InStk at hj
    exact cellV_put_far s.S h.img 0 _ (a + 8 * i) (toB v) (by rw [toB_len]; omega) (by rw [toB_len]; omega)
  have hal := Alike.put s.S (a + 8 * i) (toB v)
  refine ⟨?_, ?_, h.pd, h.pr, ?_, h.d, h.r, h.dle, h.rle, fun j u hu => ?_, fun j u hu => ?_⟩
  · show (s.S.setCell 0 _ v).Ok
    rw [e]; exact put_ok h.img _ _ (by rw [toB_len]; omega)
  · show Lay0 (s.S.setCell 0 _ v)
    rw [e]; exact lay_put h.lay _ _
  · show CodeAt (s.S.setCell 0 _ v) a (cs.set i v)
    rw [e]
    refine ⟨h.code.al, by rw [hal.beg]; exact h.code.lo, by rw [hal.beg, List.length_set]; exact h.code.hi, fun j u hu => ?_⟩
    have hj : j < cs.length := by have := (List.getElem?_eq_some_iff.1 hu).1; simpa using this
    by_cases hij : j = i
    · subst hij
      have hu2 : v = u := by simpa [hi] using hu
      subst hu2
      have e3 := s.S.bytes_put_in (a + 8 * j) 0 8 (toB v) (by rw [toB_len, hlen]; omega) (by rw [toB_len]; omega)
      rw [Nat.add_zero] at e3
      rw [e3, List.drop_zero, List.take_of_length_le (by rw [toB_len]; omega)]
      exact ofB_toB v hv
    · have hu2 : cs[j]? = some u := by rw [List.getElem?_set_ne (fun h => hij h.symm)] at hu; exact hu
      rw [s.S.bytes_put_far (a + 8 * i) _ 8 (toB v) (by rw [toB_len, hlen]; omega) (by rw [hlen]; omega) (by rw [toB_len]; omega)]
      exact h.code.at_ j u hu2
  · show sget (s.S.setCell 0 _ v) 16960 j = u
    have hlt : j < ds.length := (List.getElem?_eq_some_iff.1 hu).1
    have hd := h.dle
    rw [e, far 16960 j (.inl ⟨rfl, by omega⟩)]
    exact h.dv j u hu
  · show sget (s.S.setCell 0 _ v) 17088 j = u
    have hlt : j < rs.length := (List.getElem?_eq_some_iff.1 hu).1
    have hr := h.rle
    rw [e, far 17088 j (.inr ⟨rfl, by omega⟩)]
    exact h.rv j u hu
/-! ### the law's loops -/
end Vm
end Go.Proofs.YtjhdpmimccpcdaaGreatDoor
/- Chapter 11: what the law VmReckons runs, in plain words. No condition but those written. Printed by gen_vrckp.py. -/
namespace Go.Proofs.YtjhdpmimccpcdaaGreatDoor
set_option linter.unusedVariables false
set_option maxRecDepth 100000
open Go.RowKit Go.Lib
namespace Vm
section
variable {x : Rn} {s : Mt} {a : Nat} {cs ds rs : List Int} {v0 : Int}
/-- a step whose part lays cells, on a machine that it may have turned -/
theorem Rep.stepR {cs1 : List Int} {i : Inst} {q : Rn → Mt → Rs} (h : Rep s a cs ds rs) (n m : Nat) (s1 : Mt) (h1 : Rep s1 a cs1 ds rs) (ht : s1.tells = s.tells) (hsn : s1.seen = s.seen) (out : List Int) (pc : Int) (hl : x.left ≠ 0) (hf : s.S.fetch x.mode x.pc = (i, 0)) (hp : parts i = some q)
    (hq : q { x with left := x.left - 1, next := pc } s = laysR n out { x with left := x.left - 1, next := pc } s1)
    (hw : Code.wants i.op = ((n : Int), (m : Int))) (h26 : i.op ≠ 26) (hneeds : needs i.op = 0) (hret : ∀ b, returns i.op i.arg b = (0, 0)) (hn : n ≤ ds.length) (hm : ds.length - n + m ≤ 16) (hlen : out.length = m) (hv : ∀ v ∈ out, V64 v)
    (hpc : pc = x.pc + 8 * i.cells) (hpc1 : 0 ≤ pc) (hpc2 : pc ≤ 1000000) (hb : x.base = 0) : ∃ s', Stepped x s pc s' a cs1 (ds.take (ds.length - n) ++ out) rs := by
  have h2 := h1.lays n hn out hv (by omega)
  have ha : asks i { x with left := x.left - 1, next := pc } s = 0 := by
    refine h.asked i _ hneeds (by rw [hw]; show (n : Int) ≤ _; omega) h26 (by rw [hw]; show (ds.length : Int) - (n : Int) + (m : Int) ≤ 16; omega) (by rw [hret]; show (0 : Int) ≤ (rs.length : Int) - x.base; omega) (by rw [hret]; have := h.rle; show (rs.length : Int) - 0 + 0 ≤ 8; omega)
  have hs := stepS_of hl hf hp pc (by rw [← hpc]; exact wrap_pc pc hpc1 hpc2) ha _ hq h2.1
  refine ⟨_, hs, h2.2.1.told _ _, ?_, ?_⟩
  · show ((s1.lays n out).2.told _ _).tells = s.tells
    have e : (s1.lays n out).2.tells = s1.tells := (lays_same s1 n out).1
    unfold Mt.told
    split <;> exact e.trans ht
  · show ((s1.lays n out).2.told _ _).seen.length = _
    rw [told_len, (lays_same s1 n out).1, (lays_same s1 n out).2.1, ht, hsn]
/-- .. that gives up -/
theorem Rep.stepF {i : Inst} {q : Rn → Mt → Rs} (h : Rep s a cs ds rs) (n m : Nat) (pc f : Int) (hl : x.left ≠ 0) (hf : s.S.fetch x.mode x.pc = (i, 0)) (hp : parts i = some q)
    (hq : q { x with left := x.left - 1, next := pc } s = ⟨f, { x with left := x.left - 1, next := pc }, s⟩) (hf0 : f ≠ 0)
    (hw : Code.wants i.op = ((n : Int), (m : Int))) (h26 : i.op ≠ 26) (hneeds : needs i.op = 0) (hret : ∀ b, returns i.op i.arg b = (0, 0)) (hn : n ≤ ds.length) (hm : ds.length - n + m ≤ 16)
    (hpc : pc = x.pc + 8 * i.cells) (hpc1 : 0 ≤ pc) (hpc2 : pc ≤ 1000000) (hb : x.base = 0) : stepS x s = some ⟨f, { x with left := x.left - 1, next := pc }, s⟩ := by
  have ha : asks i { x with left := x.left - 1, next := pc } s = 0 := by
    refine h.asked i _ hneeds (by rw [hw]; show (n : Int) ≤ _; omega) h26 (by rw [hw]; show (ds.length : Int) - (n : Int) + (m : Int) ≤ 16; omega) (by rw [hret]; show (0 : Int) ≤ (rs.length : Int) - x.base; omega) (by rw [hret]; have := h.rle; show (rs.length : Int) - 0 + 0 ≤ 8; omega)
  unfold stepS
  rw [if_neg hl, hf, if_neg (by simp)]
  simp only
  rw [show wrap64 (x.pc + 8 * i.cells) = pc by rw [← hpc]; exact wrap_pc pc hpc1 hpc2, if_neg (by rw [ha]; decide), hp, Option.map_some, hq, if_pos hf0]
theorem Rep.stepToR {v : Int} (h : Rep s a cs (ds ++ [v]) rs) (hl : x.left ≠ 0) (hf : s.S.fetch x.mode x.pc = (⟨13, 0, 0, 1⟩, 0)) (hr : rs.length + 1 ≤ 8) (hv : V64 v) (hb : x.base = 0) (h1 : 0 ≤ x.pc) (h2 : x.pc ≤ 900000) : ∃ s', Stepped x s (x.pc + 8) s' a cs ds (rs ++ [v]) := by
  have hlen : (ds ++ [v]).length = ds.length + 1 := by simp
  have e0 : ar s 1 0 = v := h.arv 1 0 v (by omega) (by omega) (by rw [hlen]; simp)
  obtain ⟨g1, g2, g3⟩ := h.laysNil 1 (by omega)
  rw [hlen, show ds.length + 1 - 1 = ds.length by omega, List.take_append_of_le_length (Nat.le_refl _), List.take_length] at g1
  have g4 := g1.pushR (l := [v]) (fun u hu => by rw [List.mem_singleton.1 hu]; exact hv) (by simpa using hr)
  refine Rep.stepQ (q := fun x s => ⟨0, x, ((s.lays 1 []).2).pushR (s.args 1)⟩) (s1 := ((s.lays 1 []).2).pushR [v]) hl hf rfl (x.pc + 8) (by show wrap64 (x.pc + 8 * 1) = _; rw [wrap_pc _ (by omega) (by omega)]; omega)
    (h.askedR _ _ 1 0 1 rfl (by decide) (by decide) (by omega) (fun _ => rfl) (by omega) (by omega) hb) ?_ g4 g3 g2
  show (⟨0, _, ((s.lays 1 []).2).pushR (s.args 1)⟩ : Rs) = _
  rw [show s.args 1 = [ar s 1 0] from rfl, e0]
theorem Rep.stepFromR {v : Int} (h : Rep s a cs ds (rs ++ [v])) (hl : x.left ≠ 0) (hf : s.S.fetch x.mode x.pc = (⟨14, 0, 0, 1⟩, 0)) (hd : ds.length + 1 ≤ 16) (hv : V64 v) (hb : x.base = 0) (h1 : 0 ≤ x.pc) (h2 : x.pc ≤ 900000) : ∃ s', Stepped x s (x.pc + 8) s' a cs (ds ++ [v]) rs := by
  have hlen : (rs ++ [v]).length = rs.length + 1 := by simp
  have e0 : s.rtop 0 = v := h.rtop 0 v (by omega) (by rw [hlen]; simp)
  have hc := h.cutR rs.length (by omega)
  rw [List.take_append_of_le_length (Nat.le_refl _), List.take_length] at hc
  have hr : s.r - 1 = rs.length := by rw [h.r, hlen]; omega
  have g := hc.lays 0 (Nat.zero_le _) [v] (fun u hu => by rw [List.mem_singleton.1 hu]; exact hv) (by simpa using hd)
  rw [Nat.sub_zero, List.take_length] at g
  have hw : Code.wants 14 = (0, 1) := by decide
  have ha : ∀ n, asks ⟨14, 0, 0, 1⟩ { x with left := x.left - 1, next := n } s = 0 := fun n => by
    refine h.asked _ _ rfl (by show (Code.wants 14).1 ≤ _; rw [hw]; show (0 : Int) ≤ _; omega) (by decide) (by show (ds.length : Int) - (Code.wants 14).1 + (Code.wants 14).2 ≤ 16; rw [hw]; show (ds.length : Int) - 0 + 1 ≤ 16; omega) ?_ ?_
    · show (1 : Int) ≤ ((rs ++ [v]).length : Int) - x.base
      rw [hlen]; omega
    · show ((rs ++ [v]).length : Int) - 1 + 0 ≤ 8
      have := h.rle; rw [hlen] at *; omega
  refine Rep.stepQ (q := fun x s => ⟨0, x, ((s.cutR (s.r - 1)).lays 0 [s.rtop 0]).2⟩) (s1 := ((s.cutR rs.length).lays 0 [v]).2) hl hf rfl (x.pc + 8) (by show wrap64 (x.pc + 8 * 1) = _; rw [wrap_pc _ (by omega) (by omega)]; omega) (ha _) ?_ g.2.1 ?_ g.2.2
  · show (⟨0, _, ((s.cutR (s.r - 1)).lays 0 [s.rtop 0]).2⟩ : Rs) = _
    rw [e0, hr]
  · exact (lays_same _ 0 _).1
end
theorem laid_quo (n k : Nat) (q r : Int) (x : Rn) (s : Mt) : Rs.laid n (quoP k false q r x s) = laysR n (quoL k q r) x s := rfl
theorem laid_fault (n k : Nat) (q r : Int) (x : Rn) (s : Mt) : Rs.laid n (quoP k true q r x s) = ⟨7, x, s⟩ := rfl
theorem xor_ones (y : BitVec 64) : (BitVec.ofInt 64 (-1) ^^^ y) = ~~~ y := by
  have : BitVec.ofInt 64 (-1) = BitVec.allOnes 64 := by decide
  rw [this]
  exact BitVec.allOnes_xor
theorem not_toInt (x : Int) (h : V64 x) : (~~~ (BitVec.ofInt 64 x)).toInt = -x - 1 := by
  unfold V64 at h
  rw [BitVec.toInt_not, BitVec.toNat_ofInt, Int.bmod_def]
  have e : (2 ^ 64 : Nat) = 18446744073709551616 := by decide
  simp only [e]
  omega
theorem xor_toInt (x y : Int) : bits .xor .i64 x y = (BitVec.ofInt 64 x ^^^ BitVec.ofInt 64 y).toInt := by
  have e : bits .xor .i64 x y = IntKind.i64.wrap ((BitVec.ofInt 64 x ^^^ BitVec.ofInt 64 y).toNat) := rfl
  rw [e, IntWalk.i64_left, BitVec.toInt_eq_toNat_cond]
  have := (BitVec.ofInt 64 x ^^^ BitVec.ofInt 64 y).isLt
  unfold wrap64
  split <;> omega
theorem invert_val (x : Int) (hx : V64 x) : wrap64 (wrap64 (-(bits .xor .i64 (-1) x)) - 1) = x := by
  rw [xor_toInt, xor_ones, not_toInt x hx]
  unfold wrap64 V64 at *
  omega
/-! ### a cell ahead of the code -/
theorem code_setFm {S : Img} {a : Nat} {cs : List Int} (h : CodeAt S a cs) (m : Int) (hm : 0 ≤ m ∧ m ≤ 2) (i : Nat) (hi : i < cs.length) : S.cellF m ((a : Int) + 8 * (i : Int)) true = 0 := by
  have h1 := h.lo
  have h2 := h.hi
  have h3 := h.al
  rw [show (a : Int) + 8 * (i : Int) = ((a + 8 * i : Nat) : Int) by omega]
  have hr : S.region ((a + 8 * i : Nat) : Int) = 3 := S.region_eq (by omega) (by omega) (by omega) (by omega) (by show _ < ((S.beg 4 : Nat) : Int); omega)
  have hrow : S.rowOk m ((a + 8 * i : Nat) : Int) 8 true = true := by
    unfold Img.rowOk Img.lets Img.may
    rw [hr]
    have hb4 : S.beg (3 + 1) = S.beg 4 := rfl
    have h4 : decide (((8 : Nat) : Int) ≤ (S.beg (3 + 1) : Int) - ((a + 8 * i : Nat) : Int)) = true := decide_eq_true (by rw [hb4]; omega)
    rw [h4]
    rcases (show m = 0 ∨ m = 1 ∨ m = 2 by omega) with rfl | rfl | rfl <;> simp
  unfold Img.cellF
  rw [if_neg (by omega), if_pos hrow]
theorem Rep.lower {s : Mt} {cs ds rs : List Int} (h : Rep s 16472 cs ds rs) : ∃ b0 b1 b2, Rep s 16448 (b0 :: b1 :: b2 :: cs) ds rs := by
  obtain ⟨b2, b3, b4, b5, b6⟩ := h.lay.begs
  have h1 := h.code.hi
  refine ⟨ofB (s.S.bytes ((16448 + 8 * 0 : Nat) : Int) 8), ofB (s.S.bytes ((16448 + 8 * 1 : Nat) : Int) 8), ofB (s.S.bytes ((16448 + 8 * 2 : Nat) : Int) 8), h.img, h.lay, h.pd, h.pr, ⟨by decide, by omega, ?_, fun i v hv => ?_⟩, h.d, h.r, h.dle, h.rle, h.dv, h.rv⟩
  · show 16448 + 8 * (cs.length + 1 + 1 + 1) ≤ _
    omega
  · rcases i with _ | _ | _ | i
    · exact Option.some.inj hv
    · exact Option.some.inj hv
    · exact Option.some.inj hv
    · have h2 := h.code.at_ i v (by simpa using hv)
      rw [show 16448 + 8 * (i + 1 + 1 + 1) = 16472 + 8 * i by omega]
      exact h2
theorem base_v64 : V64 16448 := by unfold V64; omega
theorem base_val {s : Mt} {a : Nat} {cs ds rs : List Int} (h : Rep s a cs ds rs) : [wrap64 (s.S.beg 3 : Int)] = [16448] := by
  obtain ⟨b2, b3, b4, b5, b6⟩ := h.lay.begs
  rw [b3]
  unfold wrap64
  rfl
theorem Rep.stored {s : Mt} {cs ds rs : List Int} {b0 : Int} (h : Rep s 16448 (b0 :: cs) ds rs) (v : Int) (hv : V64 v) : Rep { s with S := s.S.setCell 1 16448 v } 16448 (v :: cs) ds rs := by
  have hh := h.code.hi
  obtain ⟨b2, b3, b4, b5, b6⟩ := h.lay.begs
  have h1 := h.setCode (by omega) 0 (by simp) v hv
  have f0 := code_setFm h.code 0 (by omega) 0 (by simp)
  have f1 := code_setFm h.code 1 (by omega) 0 (by simp)
  have e : s.S.setCell 1 16448 v = s.S.setCell 0 (((16448 : Nat) : Int) + 8 * ((0 : Nat) : Int)) v := by
    unfold Img.setCell
    rw [if_pos f0, show (16448 : Int) = ((16448 : Nat) : Int) + 8 * ((0 : Nat) : Int) from rfl, if_pos f1]
  rw [e]
  exact h1
/-- OVER OVER /MOD ROT * + -/
theorem run_back {s : Mt} (x y : Int) (vx : V64 x) (vy : V64 y) (hd : decide (y = 0) = false) (h : Rep s 16472 ([24, 24, 36, 25, 33, 31, 1]) [x, y] []) : ∃ q, goesS ((clip 4000).toNat + 1) { Rn.start 1 4000 with pc := 16472 } (s.pushR [0]) = some q ∧ q.f = 0 ∧ Rep q.s 16472 ([24, 24, 36, 25, 33, 31, 1]) [x, x] [] := by
  have h0 : Rep (s.pushR [0]) 16472 ([24, 24, 36, 25, 33, 31, 1]) [x, y] [0] := h.pushR1 0 (by unfold V64; omega) (by simp)
  generalize s.pushR [0] = s0 at *
  have hc : clip 4000 = 4000 := by decide
  rw [hc, start_fields, hc]
  have f0 := h0.code.fetch 1 (by omega) 0 24 24 0 rfl (by decide) (by decide) (by decide)
  have a0_0 : ar s0 2 0 = x := h0.arv 2 0 _ (by omega) (by simp) rfl
  have a0_1 : ar s0 2 1 = y := h0.arv 2 1 _ (by omega) (by simp) rfl
  obtain ⟨s1, t0⟩ := h0.stepL (x := ⟨1, 4000, 16472, 0, false, false, 0⟩) ⟨24, 0, 0, 1⟩ 2 3 (fun s => [ar s 2 0, ar s 2 1, ar s 2 0]) [x, y, x] 16480 (by decide) f0 rfl (by decide) (by decide) rfl (fun _ => rfl) (by simp) (by simp) (by simp only [a0_0, a0_1]) rfl (fun v hv => by
    simp only [List.mem_cons, List.mem_nil_iff, or_false] at hv
    rcases hv with rfl | rfl | rfl <;> (first | assumption | exact wrap_v64 _ | exact floQ_v64 _ _ | exact floR_v64 (by assumption) (by assumption) | exact fdQ_v64 _ _ _ | exact fdR_v64 _ _ _ | exact utLo_v64 _ _ | exact tHi_v64 _ _ | exact xor_v64 _ _ | exact base_v64)) rfl (by omega) (by omega) rfl
  have h1 : Rep s1 16472 ([24, 24, 36, 25, 33, 31, 1]) [x, y, x] [0] := t0.rep
  have f1 := h1.code.fetch 1 (by omega) 1 24 24 0 rfl (by decide) (by decide) (by decide)
  have a1_0 : ar s1 2 0 = y := h1.arv 2 0 _ (by omega) (by simp) rfl
  have a1_1 : ar s1 2 1 = x := h1.arv 2 1 _ (by omega) (by simp) rfl
  obtain ⟨s2, t1⟩ := h1.stepL (x := ⟨1, 3999, 16480, 16480, false, false, 0⟩) ⟨24, 0, 0, 1⟩ 2 3 (fun s => [ar s 2 0, ar s 2 1, ar s 2 0]) [y, x, y] 16488 (by decide) f1 rfl (by decide) (by decide) rfl (fun _ => rfl) (by simp) (by simp) (by simp only [a1_0, a1_1]) rfl (fun v hv => by
    simp only [List.mem_cons, List.mem_nil_iff, or_false] at hv
    rcases hv with rfl | rfl | rfl <;> (first | assumption | exact wrap_v64 _ | exact floQ_v64 _ _ | exact floR_v64 (by assumption) (by assumption) | exact fdQ_v64 _ _ _ | exact fdR_v64 _ _ _ | exact utLo_v64 _ _ | exact tHi_v64 _ _ | exact xor_v64 _ _ | exact base_v64)) rfl (by omega) (by omega) rfl
  have h2 : Rep s2 16472 ([24, 24, 36, 25, 33, 31, 1]) [x, y, x, y] [0] := t1.rep
  have f2 := h2.code.fetch 1 (by omega) 2 36 36 0 rfl (by decide) (by decide) (by decide)
  have a2_0 : ar s2 2 0 = x := h2.arv 2 0 _ (by omega) (by simp) rfl
  have a2_1 : ar s2 2 1 = y := h2.arv 2 1 _ (by omega) (by simp) rfl
  obtain ⟨s3, t2⟩ := h2.stepR (x := ⟨1, 3998, 16488, 16488, false, false, 0⟩) (i := ⟨36, 0, 0, 1⟩) (q := fun x s => Rs.laid 2 (quoP 2 (decide (ar s 2 1 = 0)) (floQ (ar s 2 0) (ar s 2 1)) (floR (ar s 2 0) (ar s 2 1)) x s)) 2 2 s2 h2 rfl rfl [floR (x) (y), floQ (x) (y)] 16496 (by decide) f2 rfl (by show Rs.laid _ (quoP _ _ _ _ _ _) = _; simp only [a2_0, a2_1]; rw [hd]; exact laid_quo _ _ _ _ _ _) (by decide) (by decide) rfl (fun _ => rfl) (by simp) (by simp) rfl (fun v hv => by
    simp only [List.mem_cons, List.mem_nil_iff, or_false] at hv
    rcases hv with rfl | rfl <;> (first | assumption | exact wrap_v64 _ | exact floQ_v64 _ _ | exact floR_v64 (by assumption) (by assumption) | exact fdQ_v64 _ _ _ | exact fdR_v64 _ _ _ | exact utLo_v64 _ _ | exact tHi_v64 _ _ | exact xor_v64 _ _ | exact base_v64)) rfl (by omega) (by omega) rfl
  have h3 : Rep s3 16472 ([24, 24, 36, 25, 33, 31, 1]) [x, y, floR (x) (y), floQ (x) (y)] [0] := t2.rep
  have f3 := h3.code.fetch 1 (by omega) 3 25 25 0 rfl (by decide) (by decide) (by decide)
  have a3_0 : ar s3 3 0 = y := h3.arv 3 0 _ (by omega) (by simp) rfl
  have a3_1 : ar s3 3 1 = floR (x) (y) := h3.arv 3 1 _ (by omega) (by simp) rfl
  have a3_2 : ar s3 3 2 = floQ (x) (y) := h3.arv 3 2 _ (by omega) (by simp) rfl
  obtain ⟨s4, t3⟩ := h3.stepL (x := ⟨1, 3997, 16496, 16496, false, false, 0⟩) ⟨25, 0, 0, 1⟩ 3 3 (fun s => [ar s 3 1, ar s 3 2, ar s 3 0]) [floR (x) (y), floQ (x) (y), y] 16504 (by decide) f3 rfl (by decide) (by decide) rfl (fun _ => rfl) (by simp) (by simp) (by simp only [a3_0, a3_1, a3_2]) rfl (fun v hv => by
    simp only [List.mem_cons, List.mem_nil_iff, or_false] at hv
    rcases hv with rfl | rfl | rfl <;> (first | assumption | exact wrap_v64 _ | exact floQ_v64 _ _ | exact floR_v64 (by assumption) (by assumption) | exact fdQ_v64 _ _ _ | exact fdR_v64 _ _ _ | exact utLo_v64 _ _ | exact tHi_v64 _ _ | exact xor_v64 _ _ | exact base_v64)) rfl (by omega) (by omega) rfl
  have h4 : Rep s4 16472 ([24, 24, 36, 25, 33, 31, 1]) [x, floR (x) (y), floQ (x) (y), y] [0] := t3.rep
  have f4 := h4.code.fetch 1 (by omega) 4 33 33 0 rfl (by decide) (by decide) (by decide)
  have a4_0 : ar s4 2 0 = floQ (x) (y) := h4.arv 2 0 _ (by omega) (by simp) rfl
  have a4_1 : ar s4 2 1 = y := h4.arv 2 1 _ (by omega) (by simp) rfl
  obtain ⟨s5, t4⟩ := h4.stepL (x := ⟨1, 3996, 16504, 16504, false, false, 0⟩) ⟨33, 0, 0, 1⟩ 2 1 (fun s => [wrap64 (ar s 2 0 * ar s 2 1)]) [wrap64 ((floQ (x) (y)) * (y))] 16512 (by decide) f4 rfl (by decide) (by decide) rfl (fun _ => rfl) (by simp) (by simp) (by simp only [a4_0, a4_1]) rfl (fun v hv => by
    simp only [List.mem_cons, List.mem_nil_iff, or_false] at hv
    rcases hv with rfl <;> (first | assumption | exact wrap_v64 _ | exact floQ_v64 _ _ | exact floR_v64 (by assumption) (by assumption) | exact fdQ_v64 _ _ _ | exact fdR_v64 _ _ _ | exact utLo_v64 _ _ | exact tHi_v64 _ _ | exact xor_v64 _ _ | exact base_v64)) rfl (by omega) (by omega) rfl
  have h5 : Rep s5 16472 ([24, 24, 36, 25, 33, 31, 1]) [x, floR (x) (y), wrap64 ((floQ (x) (y)) * (y))] [0] := t4.rep
  have f5 := h5.code.fetch 1 (by omega) 5 31 31 0 rfl (by decide) (by decide) (by decide)
  have a5_0 : ar s5 2 0 = floR (x) (y) := h5.arv 2 0 _ (by omega) (by simp) rfl
  have a5_1 : ar s5 2 1 = wrap64 ((floQ (x) (y)) * (y)) := h5.arv 2 1 _ (by omega) (by simp) rfl
  obtain ⟨s6, t5⟩ := h5.stepL (x := ⟨1, 3995, 16512, 16512, false, false, 0⟩) ⟨31, 0, 0, 1⟩ 2 1 (fun s => [wrap64 (ar s 2 0 + ar s 2 1)]) [wrap64 ((floR (x) (y)) + (wrap64 ((floQ (x) (y)) * (y))))] 16520 (by decide) f5 rfl (by decide) (by decide) rfl (fun _ => rfl) (by simp) (by simp) (by simp only [a5_0, a5_1]) rfl (fun v hv => by
    simp only [List.mem_cons, List.mem_nil_iff, or_false] at hv
    rcases hv with rfl <;> (first | assumption | exact wrap_v64 _ | exact floQ_v64 _ _ | exact floR_v64 (by assumption) (by assumption) | exact fdQ_v64 _ _ _ | exact fdR_v64 _ _ _ | exact utLo_v64 _ _ | exact tHi_v64 _ _ | exact xor_v64 _ _ | exact base_v64)) rfl (by omega) (by omega) rfl
  have h6 : Rep s6 16472 ([24, 24, 36, 25, 33, 31, 1]) [x, wrap64 ((floR (x) (y)) + (wrap64 ((floQ (x) (y)) * (y))))] [0] := t5.rep
  have f6 := h6.code.fetch 1 (by omega) 6 1 1 0 rfl (by decide) (by decide) (by decide)
  obtain ⟨s7, t6, h7, _, _⟩ := Rep.stepExit (rs := []) (v := 0) (x := ⟨1, 3994, 16520, 16520, false, false, 0⟩) h6 (by decide) f6 rfl (by show (0 : Int) ≤ 16520; decide) (by show (16520 : Int) ≤ 900000; decide)
  have g6 := goesS_end (n := 3994) t6 (.inr rfl)
  have g0 : goesS (4000 + 1) ⟨1, 4000, 16472, 0, false, false, 0⟩ s0 = goesS 4000 ⟨1, 3999, 16480, 16480, false, false, 0⟩ s1 := goesS_of t0.step rfl rfl
  have g1 : goesS (3999 + 1) ⟨1, 3999, 16480, 16480, false, false, 0⟩ s1 = goesS 3999 ⟨1, 3998, 16488, 16488, false, false, 0⟩ s2 := goesS_of t1.step rfl rfl
  have g2 : goesS (3998 + 1) ⟨1, 3998, 16488, 16488, false, false, 0⟩ s2 = goesS 3998 ⟨1, 3997, 16496, 16496, false, false, 0⟩ s3 := goesS_of t2.step rfl rfl
  have g3 : goesS (3997 + 1) ⟨1, 3997, 16496, 16496, false, false, 0⟩ s3 = goesS 3997 ⟨1, 3996, 16504, 16504, false, false, 0⟩ s4 := goesS_of t3.step rfl rfl
  have g4 : goesS (3996 + 1) ⟨1, 3996, 16504, 16504, false, false, 0⟩ s4 = goesS 3996 ⟨1, 3995, 16512, 16512, false, false, 0⟩ s5 := goesS_of t4.step rfl rfl
  have g5 : goesS (3995 + 1) ⟨1, 3995, 16512, 16512, false, false, 0⟩ s5 = goesS 3995 ⟨1, 3994, 16520, 16520, false, false, 0⟩ s6 := goesS_of t5.step rfl rfl
  rw [flo_back x y vx] at h7
  exact ⟨_, (g0).trans ( (g1).trans ( (g2).trans ( (g3).trans ( (g4).trans ( (g5).trans (g6)))))), rfl, h7⟩
/-- OVER OVER / >R MOD R> -/
theorem run_divs {s : Mt} (x y : Int) (vx : V64 x) (vy : V64 y) (hd : decide (y = 0) = false) (h : Rep s 16472 ([24, 24, 34, 13, 35, 14, 1]) [x, y] []) : ∃ q, goesS ((clip 4000).toNat + 1) { Rn.start 1 4000 with pc := 16472 } (s.pushR [0]) = some q ∧ q.f = 0 ∧ Rep q.s 16472 ([24, 24, 34, 13, 35, 14, 1]) [floR (x) (y), floQ (x) (y)] [] := by
  have h0 : Rep (s.pushR [0]) 16472 ([24, 24, 34, 13, 35, 14, 1]) [x, y] [0] := h.pushR1 0 (by unfold V64; omega) (by simp)
  generalize s.pushR [0] = s0 at *
  have hc : clip 4000 = 4000 := by decide
  rw [hc, start_fields, hc]
  have f0 := h0.code.fetch 1 (by omega) 0 24 24 0 rfl (by decide) (by decide) (by decide)
  have a0_0 : ar s0 2 0 = x := h0.arv 2 0 _ (by omega) (by simp) rfl
  have a0_1 : ar s0 2 1 = y := h0.arv 2 1 _ (by omega) (by simp) rfl
  obtain ⟨s1, t0⟩ := h0.stepL (x := ⟨1, 4000, 16472, 0, false, false, 0⟩) ⟨24, 0, 0, 1⟩ 2 3 (fun s => [ar s 2 0, ar s 2 1, ar s 2 0]) [x, y, x] 16480 (by decide) f0 rfl (by decide) (by decide) rfl (fun _ => rfl) (by simp) (by simp) (by simp only [a0_0, a0_1]) rfl (fun v hv => by
    simp only [List.mem_cons, List.mem_nil_iff, or_false] at hv
    rcases hv with rfl | rfl | rfl <;> (first | assumption | exact wrap_v64 _ | exact floQ_v64 _ _ | exact floR_v64 (by assumption) (by assumption) | exact fdQ_v64 _ _ _ | exact fdR_v64 _ _ _ | exact utLo_v64 _ _ | exact tHi_v64 _ _ | exact xor_v64 _ _ | exact base_v64)) rfl (by omega) (by omega) rfl
  have h1 : Rep s1 16472 ([24, 24, 34, 13, 35, 14, 1]) [x, y, x] [0] := t0.rep
  have f1 := h1.code.fetch 1 (by omega) 1 24 24 0 rfl (by decide) (by decide) (by decide)
  have a1_0 : ar s1 2 0 = y := h1.arv 2 0 _ (by omega) (by simp) rfl
  have a1_1 : ar s1 2 1 = x := h1.arv 2 1 _ (by omega) (by simp) rfl
  obtain ⟨s2, t1⟩ := h1.stepL (x := ⟨1, 3999, 16480, 16480, false, false, 0⟩) ⟨24, 0, 0, 1⟩ 2 3 (fun s => [ar s 2 0, ar s 2 1, ar s 2 0]) [y, x, y] 16488 (by decide) f1 rfl (by decide) (by decide) rfl (fun _ => rfl) (by simp) (by simp) (by simp only [a1_0, a1_1]) rfl (fun v hv => by
    simp only [List.mem_cons, List.mem_nil_iff, or_false] at hv
    rcases hv with rfl | rfl | rfl <;> (first | assumption | exact wrap_v64 _ | exact floQ_v64 _ _ | exact floR_v64 (by assumption) (by assumption) | exact fdQ_v64 _ _ _ | exact fdR_v64 _ _ _ | exact utLo_v64 _ _ | exact tHi_v64 _ _ | exact xor_v64 _ _ | exact base_v64)) rfl (by omega) (by omega) rfl
  have h2 : Rep s2 16472 ([24, 24, 34, 13, 35, 14, 1]) [x, y, x, y] [0] := t1.rep
  have f2 := h2.code.fetch 1 (by omega) 2 34 34 0 rfl (by decide) (by decide) (by decide)
  have a2_0 : ar s2 2 0 = x := h2.arv 2 0 _ (by omega) (by simp) rfl
  have a2_1 : ar s2 2 1 = y := h2.arv 2 1 _ (by omega) (by simp) rfl
  obtain ⟨s3, t2⟩ := h2.stepR (x := ⟨1, 3998, 16488, 16488, false, false, 0⟩) (i := ⟨34, 0, 0, 1⟩) (q := fun x s => Rs.laid 2 (quoP 0 (decide (ar s 2 1 = 0)) (floQ (ar s 2 0) (ar s 2 1)) (floR (ar s 2 0) (ar s 2 1)) x s)) 2 1 s2 h2 rfl rfl [floQ (x) (y)] 16496 (by decide) f2 rfl (by show Rs.laid _ (quoP _ _ _ _ _ _) = _; simp only [a2_0, a2_1]; rw [hd]; exact laid_quo _ _ _ _ _ _) (by decide) (by decide) rfl (fun _ => rfl) (by simp) (by simp) rfl (fun v hv => by
    simp only [List.mem_cons, List.mem_nil_iff, or_false] at hv
    rcases hv with rfl <;> (first | assumption | exact wrap_v64 _ | exact floQ_v64 _ _ | exact floR_v64 (by assumption) (by assumption) | exact fdQ_v64 _ _ _ | exact fdR_v64 _ _ _ | exact utLo_v64 _ _ | exact tHi_v64 _ _ | exact xor_v64 _ _ | exact base_v64)) rfl (by omega) (by omega) rfl
  have h3 : Rep s3 16472 ([24, 24, 34, 13, 35, 14, 1]) [x, y, floQ (x) (y)] [0] := t2.rep
  have f3 := h3.code.fetch 1 (by omega) 3 13 13 0 rfl (by decide) (by decide) (by decide)
  obtain ⟨s4, t3⟩ := Rep.stepToR (x := ⟨1, 3997, 16496, 16496, false, false, 0⟩) (ds := [x, y]) (v := floQ (x) (y)) h3 (by decide) f3 (by simp) (by first | assumption | exact wrap_v64 _ | exact floQ_v64 _ _ | exact floR_v64 (by assumption) (by assumption) | exact fdQ_v64 _ _ _ | exact fdR_v64 _ _ _ | exact utLo_v64 _ _ | exact tHi_v64 _ _ | exact xor_v64 _ _ | exact base_v64) rfl (by show (0 : Int) ≤ 16496; decide) (by show (16496 : Int) ≤ 900000; decide)
  have h4 : Rep s4 16472 ([24, 24, 34, 13, 35, 14, 1]) [x, y] [0, floQ (x) (y)] := t3.rep
  have f4 := h4.code.fetch 1 (by omega) 4 35 35 0 rfl (by decide) (by decide) (by decide)
  have a4_0 : ar s4 2 0 = x := h4.arv 2 0 _ (by omega) (by simp) rfl
  have a4_1 : ar s4 2 1 = y := h4.arv 2 1 _ (by omega) (by simp) rfl
  obtain ⟨s5, t4⟩ := h4.stepR (x := ⟨1, 3996, 16504, 16504, false, false, 0⟩) (i := ⟨35, 0, 0, 1⟩) (q := fun x s => Rs.laid 2 (quoP 1 (decide (ar s 2 1 = 0)) (floQ (ar s 2 0) (ar s 2 1)) (floR (ar s 2 0) (ar s 2 1)) x s)) 2 1 s4 h4 rfl rfl [floR (x) (y)] 16512 (by decide) f4 rfl (by show Rs.laid _ (quoP _ _ _ _ _ _) = _; simp only [a4_0, a4_1]; rw [hd]; exact laid_quo _ _ _ _ _ _) (by decide) (by decide) rfl (fun _ => rfl) (by simp) (by simp) rfl (fun v hv => by
    simp only [List.mem_cons, List.mem_nil_iff, or_false] at hv
    rcases hv with rfl <;> (first | assumption | exact wrap_v64 _ | exact floQ_v64 _ _ | exact floR_v64 (by assumption) (by assumption) | exact fdQ_v64 _ _ _ | exact fdR_v64 _ _ _ | exact utLo_v64 _ _ | exact tHi_v64 _ _ | exact xor_v64 _ _ | exact base_v64)) rfl (by omega) (by omega) rfl
  have h5 : Rep s5 16472 ([24, 24, 34, 13, 35, 14, 1]) [floR (x) (y)] [0, floQ (x) (y)] := t4.rep
  have f5 := h5.code.fetch 1 (by omega) 5 14 14 0 rfl (by decide) (by decide) (by decide)
  obtain ⟨s6, t5⟩ := Rep.stepFromR (x := ⟨1, 3995, 16512, 16512, false, false, 0⟩) (ds := [floR (x) (y)]) (rs := [0]) (v := floQ (x) (y)) h5 (by decide) f5 (by simp) (by first | assumption | exact wrap_v64 _ | exact floQ_v64 _ _ | exact floR_v64 (by assumption) (by assumption) | exact fdQ_v64 _ _ _ | exact fdR_v64 _ _ _ | exact utLo_v64 _ _ | exact tHi_v64 _ _ | exact xor_v64 _ _ | exact base_v64) rfl (by show (0 : Int) ≤ 16512; decide) (by show (16512 : Int) ≤ 900000; decide)
  have h6 : Rep s6 16472 ([24, 24, 34, 13, 35, 14, 1]) [floR (x) (y), floQ (x) (y)] [0] := t5.rep
  have f6 := h6.code.fetch 1 (by omega) 6 1 1 0 rfl (by decide) (by decide) (by decide)
  obtain ⟨s7, t6, h7, _, _⟩ := Rep.stepExit (rs := []) (v := 0) (x := ⟨1, 3994, 16520, 16520, false, false, 0⟩) h6 (by decide) f6 rfl (by show (0 : Int) ≤ 16520; decide) (by show (16520 : Int) ≤ 900000; decide)
  have g6 := goesS_end (n := 3994) t6 (.inr rfl)
  have g0 : goesS (4000 + 1) ⟨1, 4000, 16472, 0, false, false, 0⟩ s0 = goesS 4000 ⟨1, 3999, 16480, 16480, false, false, 0⟩ s1 := goesS_of t0.step rfl rfl
  have g1 : goesS (3999 + 1) ⟨1, 3999, 16480, 16480, false, false, 0⟩ s1 = goesS 3999 ⟨1, 3998, 16488, 16488, false, false, 0⟩ s2 := goesS_of t1.step rfl rfl
  have g2 : goesS (3998 + 1) ⟨1, 3998, 16488, 16488, false, false, 0⟩ s2 = goesS 3998 ⟨1, 3997, 16496, 16496, false, false, 0⟩ s3 := goesS_of t2.step rfl rfl
  have g3 : goesS (3997 + 1) ⟨1, 3997, 16496, 16496, false, false, 0⟩ s3 = goesS 3997 ⟨1, 3996, 16504, 16504, false, false, 0⟩ s4 := goesS_of t3.step rfl rfl
  have g4 : goesS (3996 + 1) ⟨1, 3996, 16504, 16504, false, false, 0⟩ s4 = goesS 3996 ⟨1, 3995, 16512, 16512, false, false, 0⟩ s5 := goesS_of t4.step rfl rfl
  have g5 : goesS (3995 + 1) ⟨1, 3995, 16512, 16512, false, false, 0⟩ s5 = goesS 3995 ⟨1, 3994, 16520, 16520, false, false, 0⟩ s6 := goesS_of t5.step rfl rfl
  exact ⟨_, (g0).trans ( (g1).trans ( (g2).trans ( (g3).trans ( (g4).trans ( (g5).trans (g6)))))), rfl, h7⟩
/-- /MOD -/
theorem run_divmod {s : Mt} (x y : Int) (vx : V64 x) (vy : V64 y) (hd : decide (y = 0) = false) (h : Rep s 16472 ([36, 1]) [x, y] []) : ∃ q, goesS ((clip 4000).toNat + 1) { Rn.start 1 4000 with pc := 16472 } (s.pushR [0]) = some q ∧ q.f = 0 ∧ Rep q.s 16472 ([36, 1]) [floR (x) (y), floQ (x) (y)] [] := by
  have h0 : Rep (s.pushR [0]) 16472 ([36, 1]) [x, y] [0] := h.pushR1 0 (by unfold V64; omega) (by simp)
  generalize s.pushR [0] = s0 at *
  have hc : clip 4000 = 4000 := by decide
  rw [hc, start_fields, hc]
  have f0 := h0.code.fetch 1 (by omega) 0 36 36 0 rfl (by decide) (by decide) (by decide)
  have a0_0 : ar s0 2 0 = x := h0.arv 2 0 _ (by omega) (by simp) rfl
  have a0_1 : ar s0 2 1 = y := h0.arv 2 1 _ (by omega) (by simp) rfl
  obtain ⟨s1, t0⟩ := h0.stepR (x := ⟨1, 4000, 16472, 0, false, false, 0⟩) (i := ⟨36, 0, 0, 1⟩) (q := fun x s => Rs.laid 2 (quoP 2 (decide (ar s 2 1 = 0)) (floQ (ar s 2 0) (ar s 2 1)) (floR (ar s 2 0) (ar s 2 1)) x s)) 2 2 s0 h0 rfl rfl [floR (x) (y), floQ (x) (y)] 16480 (by decide) f0 rfl (by show Rs.laid _ (quoP _ _ _ _ _ _) = _; simp only [a0_0, a0_1]; rw [hd]; exact laid_quo _ _ _ _ _ _) (by decide) (by decide) rfl (fun _ => rfl) (by simp) (by simp) rfl (fun v hv => by
    simp only [List.mem_cons, List.mem_nil_iff, or_false] at hv
    rcases hv with rfl | rfl <;> (first | assumption | exact wrap_v64 _ | exact floQ_v64 _ _ | exact floR_v64 (by assumption) (by assumption) | exact fdQ_v64 _ _ _ | exact fdR_v64 _ _ _ | exact utLo_v64 _ _ | exact tHi_v64 _ _ | exact xor_v64 _ _ | exact base_v64)) rfl (by omega) (by omega) rfl
  have h1 : Rep s1 16472 ([36, 1]) [floR (x) (y), floQ (x) (y)] [0] := t0.rep
  have f1 := h1.code.fetch 1 (by omega) 1 1 1 0 rfl (by decide) (by decide) (by decide)
  obtain ⟨s2, t1, h2, _, _⟩ := Rep.stepExit (rs := []) (v := 0) (x := ⟨1, 3999, 16480, 16480, false, false, 0⟩) h1 (by decide) f1 rfl (by show (0 : Int) ≤ 16480; decide) (by show (16480 : Int) ≤ 900000; decide)
  have g1 := goesS_end (n := 3999) t1 (.inr rfl)
  have g0 : goesS (4000 + 1) ⟨1, 4000, 16472, 0, false, false, 0⟩ s0 = goesS 4000 ⟨1, 3999, 16480, 16480, false, false, 0⟩ s1 := goesS_of t0.step rfl rfl
  exact ⟨_, (g0).trans (g1), rfl, h2⟩
/-- >R M* R> FM/MOD -/
theorem run_star {s : Mt} (x z y : Int) (vx : V64 x) (vz : V64 z) (vy : V64 y) (hd : fdOut (utLo (x) (z)) (tHi (x) (z)) (y) = false) (h : Rep s 16472 ([13, 53, 14, 57, 1]) [x, z, y] []) : ∃ q, goesS ((clip 4000).toNat + 1) { Rn.start 1 4000 with pc := 16472 } (s.pushR [0]) = some q ∧ q.f = 0 ∧ Rep q.s 16472 ([13, 53, 14, 57, 1]) [fdR (utLo (x) (z)) (tHi (x) (z)) (y), fdQ (utLo (x) (z)) (tHi (x) (z)) (y)] [] := by
  have h0 : Rep (s.pushR [0]) 16472 ([13, 53, 14, 57, 1]) [x, z, y] [0] := h.pushR1 0 (by unfold V64; omega) (by simp)
  generalize s.pushR [0] = s0 at *
  have hc : clip 4000 = 4000 := by decide
  rw [hc, start_fields, hc]
  have f0 := h0.code.fetch 1 (by omega) 0 13 13 0 rfl (by decide) (by decide) (by decide)
  obtain ⟨s1, t0⟩ := Rep.stepToR (x := ⟨1, 4000, 16472, 0, false, false, 0⟩) (ds := [x, z]) (v := y) h0 (by decide) f0 (by simp) (by first | assumption | exact wrap_v64 _ | exact floQ_v64 _ _ | exact floR_v64 (by assumption) (by assumption) | exact fdQ_v64 _ _ _ | exact fdR_v64 _ _ _ | exact utLo_v64 _ _ | exact tHi_v64 _ _ | exact xor_v64 _ _ | exact base_v64) rfl (by show (0 : Int) ≤ 16472; decide) (by show (16472 : Int) ≤ 900000; decide)
  have h1 : Rep s1 16472 ([13, 53, 14, 57, 1]) [x, z] [0, y] := t0.rep
  have f1 := h1.code.fetch 1 (by omega) 1 53 53 0 rfl (by decide) (by decide) (by decide)
  have a1_0 : ar s1 2 0 = x := h1.arv 2 0 _ (by omega) (by simp) rfl
  have a1_1 : ar s1 2 1 = z := h1.arv 2 1 _ (by omega) (by simp) rfl
  obtain ⟨s2, t1⟩ := h1.stepL (x := ⟨1, 3999, 16480, 16480, false, false, 0⟩) ⟨53, 0, 0, 1⟩ 2 2 (fun s => [utLo (ar s 2 0) (ar s 2 1), tHi (ar s 2 0) (ar s 2 1)]) [utLo (x) (z), tHi (x) (z)] 16488 (by decide) f1 rfl (by decide) (by decide) rfl (fun _ => rfl) (by simp) (by simp) (by simp only [a1_0, a1_1]) rfl (fun v hv => by
    simp only [List.mem_cons, List.mem_nil_iff, or_false] at hv
    rcases hv with rfl | rfl <;> (first | assumption | exact wrap_v64 _ | exact floQ_v64 _ _ | exact floR_v64 (by assumption) (by assumption) | exact fdQ_v64 _ _ _ | exact fdR_v64 _ _ _ | exact utLo_v64 _ _ | exact tHi_v64 _ _ | exact xor_v64 _ _ | exact base_v64)) rfl (by omega) (by omega) rfl
  have h2 : Rep s2 16472 ([13, 53, 14, 57, 1]) [utLo (x) (z), tHi (x) (z)] [0, y] := t1.rep
  have f2 := h2.code.fetch 1 (by omega) 2 14 14 0 rfl (by decide) (by decide) (by decide)
  obtain ⟨s3, t2⟩ := Rep.stepFromR (x := ⟨1, 3998, 16488, 16488, false, false, 0⟩) (ds := [utLo (x) (z), tHi (x) (z)]) (rs := [0]) (v := y) h2 (by decide) f2 (by simp) (by first | assumption | exact wrap_v64 _ | exact floQ_v64 _ _ | exact floR_v64 (by assumption) (by assumption) | exact fdQ_v64 _ _ _ | exact fdR_v64 _ _ _ | exact utLo_v64 _ _ | exact tHi_v64 _ _ | exact xor_v64 _ _ | exact base_v64) rfl (by show (0 : Int) ≤ 16488; decide) (by show (16488 : Int) ≤ 900000; decide)
  have h3 : Rep s3 16472 ([13, 53, 14, 57, 1]) [utLo (x) (z), tHi (x) (z), y] [0] := t2.rep
  have f3 := h3.code.fetch 1 (by omega) 3 57 57 0 rfl (by decide) (by decide) (by decide)
  have a3_0 : ar s3 3 0 = utLo (x) (z) := h3.arv 3 0 _ (by omega) (by simp) rfl
  have a3_1 : ar s3 3 1 = tHi (x) (z) := h3.arv 3 1 _ (by omega) (by simp) rfl
  have a3_2 : ar s3 3 2 = y := h3.arv 3 2 _ (by omega) (by simp) rfl
  obtain ⟨s4, t3⟩ := h3.stepR (x := ⟨1, 3997, 16496, 16496, false, false, 0⟩) (i := ⟨57, 0, 0, 1⟩) (q := fun x s => Rs.laid 3 (quoP 2 (fdOut (ar s 3 0) (ar s 3 1) (ar s 3 2)) (fdQ (ar s 3 0) (ar s 3 1) (ar s 3 2)) (fdR (ar s 3 0) (ar s 3 1) (ar s 3 2)) x s)) 3 2 s3 h3 rfl rfl [fdR (utLo (x) (z)) (tHi (x) (z)) (y), fdQ (utLo (x) (z)) (tHi (x) (z)) (y)] 16504 (by decide) f3 rfl (by show Rs.laid _ (quoP _ _ _ _ _ _) = _; simp only [a3_0, a3_1, a3_2]; rw [hd]; exact laid_quo _ _ _ _ _ _) (by decide) (by decide) rfl (fun _ => rfl) (by simp) (by simp) rfl (fun v hv => by
    simp only [List.mem_cons, List.mem_nil_iff, or_false] at hv
    rcases hv with rfl | rfl <;> (first | assumption | exact wrap_v64 _ | exact floQ_v64 _ _ | exact floR_v64 (by assumption) (by assumption) | exact fdQ_v64 _ _ _ | exact fdR_v64 _ _ _ | exact utLo_v64 _ _ | exact tHi_v64 _ _ | exact xor_v64 _ _ | exact base_v64)) rfl (by omega) (by omega) rfl
  have h4 : Rep s4 16472 ([13, 53, 14, 57, 1]) [fdR (utLo (x) (z)) (tHi (x) (z)) (y), fdQ (utLo (x) (z)) (tHi (x) (z)) (y)] [0] := t3.rep
  have f4 := h4.code.fetch 1 (by omega) 4 1 1 0 rfl (by decide) (by decide) (by decide)
  obtain ⟨s5, t4, h5, _, _⟩ := Rep.stepExit (rs := []) (v := 0) (x := ⟨1, 3996, 16504, 16504, false, false, 0⟩) h4 (by decide) f4 rfl (by show (0 : Int) ≤ 16504; decide) (by show (16504 : Int) ≤ 900000; decide)
  have g4 := goesS_end (n := 3996) t4 (.inr rfl)
  have g0 : goesS (4000 + 1) ⟨1, 4000, 16472, 0, false, false, 0⟩ s0 = goesS 4000 ⟨1, 3999, 16480, 16480, false, false, 0⟩ s1 := goesS_of t0.step rfl rfl
  have g1 : goesS (3999 + 1) ⟨1, 3999, 16480, 16480, false, false, 0⟩ s1 = goesS 3999 ⟨1, 3998, 16488, 16488, false, false, 0⟩ s2 := goesS_of t1.step rfl rfl
  have g2 : goesS (3998 + 1) ⟨1, 3998, 16488, 16488, false, false, 0⟩ s2 = goesS 3998 ⟨1, 3997, 16496, 16496, false, false, 0⟩ s3 := goesS_of t2.step rfl rfl
  have g3 : goesS (3997 + 1) ⟨1, 3997, 16496, 16496, false, false, 0⟩ s3 = goesS 3997 ⟨1, 3996, 16504, 16504, false, false, 0⟩ s4 := goesS_of t3.step rfl rfl
  exact ⟨_, (g0).trans ( (g1).trans ( (g2).trans ( (g3).trans (g4)))), rfl, h5⟩
/-- .. that gives up -/
theorem run_star_out {s : Mt} (x z y : Int) (vx : V64 x) (vz : V64 z) (vy : V64 y) (hd : fdOut (utLo (x) (z)) (tHi (x) (z)) (y) = true) (h : Rep s 16472 ([13, 53, 14, 57, 1]) [x, z, y] []) : ∃ q, goesS ((clip 4000).toNat + 1) { Rn.start 1 4000 with pc := 16472 } (s.pushR [0]) = some q ∧ q.f = 7 ∧ q.s.Ok := by
  have h0 : Rep (s.pushR [0]) 16472 ([13, 53, 14, 57, 1]) [x, z, y] [0] := h.pushR1 0 (by unfold V64; omega) (by simp)
  generalize s.pushR [0] = s0 at *
  have hc : clip 4000 = 4000 := by decide
  rw [hc, start_fields, hc]
  have f0 := h0.code.fetch 1 (by omega) 0 13 13 0 rfl (by decide) (by decide) (by decide)
  obtain ⟨s1, t0⟩ := Rep.stepToR (x := ⟨1, 4000, 16472, 0, false, false, 0⟩) (ds := [x, z]) (v := y) h0 (by decide) f0 (by simp) (by first | assumption | exact wrap_v64 _ | exact floQ_v64 _ _ | exact floR_v64 (by assumption) (by assumption) | exact fdQ_v64 _ _ _ | exact fdR_v64 _ _ _ | exact utLo_v64 _ _ | exact tHi_v64 _ _ | exact xor_v64 _ _ | exact base_v64) rfl (by show (0 : Int) ≤ 16472; decide) (by show (16472 : Int) ≤ 900000; decide)
  have h1 : Rep s1 16472 ([13, 53, 14, 57, 1]) [x, z] [0, y] := t0.rep
  have f1 := h1.code.fetch 1 (by omega) 1 53 53 0 rfl (by decide) (by decide) (by decide)
  have a1_0 : ar s1 2 0 = x := h1.arv 2 0 _ (by omega) (by simp) rfl
  have a1_1 : ar s1 2 1 = z := h1.arv 2 1 _ (by omega) (by simp) rfl
  obtain ⟨s2, t1⟩ := h1.stepL (x := ⟨1, 3999, 16480, 16480, false, false, 0⟩) ⟨53, 0, 0, 1⟩ 2 2 (fun s => [utLo (ar s 2 0) (ar s 2 1), tHi (ar s 2 0) (ar s 2 1)]) [utLo (x) (z), tHi (x) (z)] 16488 (by decide) f1 rfl (by decide) (by decide) rfl (fun _ => rfl) (by simp) (by simp) (by simp only [a1_0, a1_1]) rfl (fun v hv => by
    simp only [List.mem_cons, List.mem_nil_iff, or_false] at hv
    rcases hv with rfl | rfl <;> (first | assumption | exact wrap_v64 _ | exact floQ_v64 _ _ | exact floR_v64 (by assumption) (by assumption) | exact fdQ_v64 _ _ _ | exact fdR_v64 _ _ _ | exact utLo_v64 _ _ | exact tHi_v64 _ _ | exact xor_v64 _ _ | exact base_v64)) rfl (by omega) (by omega) rfl
  have h2 : Rep s2 16472 ([13, 53, 14, 57, 1]) [utLo (x) (z), tHi (x) (z)] [0, y] := t1.rep
  have f2 := h2.code.fetch 1 (by omega) 2 14 14 0 rfl (by decide) (by decide) (by decide)
  obtain ⟨s3, t2⟩ := Rep.stepFromR (x := ⟨1, 3998, 16488, 16488, false, false, 0⟩) (ds := [utLo (x) (z), tHi (x) (z)]) (rs := [0]) (v := y) h2 (by decide) f2 (by simp) (by first | assumption | exact wrap_v64 _ | exact floQ_v64 _ _ | exact floR_v64 (by assumption) (by assumption) | exact fdQ_v64 _ _ _ | exact fdR_v64 _ _ _ | exact utLo_v64 _ _ | exact tHi_v64 _ _ | exact xor_v64 _ _ | exact base_v64) rfl (by show (0 : Int) ≤ 16488; decide) (by show (16488 : Int) ≤ 900000; decide)
  have h3 : Rep s3 16472 ([13, 53, 14, 57, 1]) [utLo (x) (z), tHi (x) (z), y] [0] := t2.rep
  have f3 := h3.code.fetch 1 (by omega) 3 57 57 0 rfl (by decide) (by decide) (by decide)
  have a3_0 : ar s3 3 0 = utLo (x) (z) := h3.arv 3 0 _ (by omega) (by simp) rfl
  have a3_1 : ar s3 3 1 = tHi (x) (z) := h3.arv 3 1 _ (by omega) (by simp) rfl
  have a3_2 : ar s3 3 2 = y := h3.arv 3 2 _ (by omega) (by simp) rfl
  have e3 := h3.stepF (x := ⟨1, 3997, 16496, 16496, false, false, 0⟩) (i := ⟨57, 0, 0, 1⟩) (q := fun x s => Rs.laid 3 (quoP 2 (fdOut (ar s 3 0) (ar s 3 1) (ar s 3 2)) (fdQ (ar s 3 0) (ar s 3 1) (ar s 3 2)) (fdR (ar s 3 0) (ar s 3 1) (ar s 3 2)) x s)) 3 2 16504 7 (by decide) f3 rfl (by show Rs.laid _ (quoP _ _ _ _ _ _) = _; simp only [a3_0, a3_1, a3_2]; rw [hd]; exact laid_fault _ _ _ _ _ _) (by decide) (by decide) (by decide) rfl (fun _ => rfl) (by simp) (by simp) rfl (by omega) (by omega) rfl
  have g3 := goesS_end (n := 3997) e3 (.inl (by show (7 : Int) ≠ 0; decide))
  have g0 : goesS (4000 + 1) ⟨1, 4000, 16472, 0, false, false, 0⟩ s0 = goesS 4000 ⟨1, 3999, 16480, 16480, false, false, 0⟩ s1 := goesS_of t0.step rfl rfl
  have g1 : goesS (3999 + 1) ⟨1, 3999, 16480, 16480, false, false, 0⟩ s1 = goesS 3999 ⟨1, 3998, 16488, 16488, false, false, 0⟩ s2 := goesS_of t1.step rfl rfl
  have g2 : goesS (3998 + 1) ⟨1, 3998, 16488, 16488, false, false, 0⟩ s2 = goesS 3998 ⟨1, 3997, 16496, 16496, false, false, 0⟩ s3 := goesS_of t2.step rfl rfl
  refine ⟨_, (g0).trans ( (g1).trans ( (g2).trans (g3))), rfl, h3.ok⟩
/-- */MOD -/
theorem run_muldiv {s : Mt} (x z y : Int) (vx : V64 x) (vz : V64 z) (vy : V64 y) (hd : fdOut (utLo (x) (z)) (tHi (x) (z)) (y) = false) (h : Rep s 16472 ([38, 1]) [x, z, y] []) : ∃ q, goesS ((clip 4000).toNat + 1) { Rn.start 1 4000 with pc := 16472 } (s.pushR [0]) = some q ∧ q.f = 0 ∧ Rep q.s 16472 ([38, 1]) [fdR (utLo (x) (z)) (tHi (x) (z)) (y), fdQ (utLo (x) (z)) (tHi (x) (z)) (y)] [] := by
  have h0 : Rep (s.pushR [0]) 16472 ([38, 1]) [x, z, y] [0] := h.pushR1 0 (by unfold V64; omega) (by simp)
  generalize s.pushR [0] = s0 at *
  have hc : clip 4000 = 4000 := by decide
  rw [hc, start_fields, hc]
  have f0 := h0.code.fetch 1 (by omega) 0 38 38 0 rfl (by decide) (by decide) (by decide)
  have a0_0 : ar s0 3 0 = x := h0.arv 3 0 _ (by omega) (by simp) rfl
  have a0_1 : ar s0 3 1 = z := h0.arv 3 1 _ (by omega) (by simp) rfl
  have a0_2 : ar s0 3 2 = y := h0.arv 3 2 _ (by omega) (by simp) rfl
  obtain ⟨s1, t0⟩ := h0.stepR (x := ⟨1, 4000, 16472, 0, false, false, 0⟩) (i := ⟨38, 0, 0, 1⟩) (q := fun x s => Rs.laid 3 (quoP 2 (fdOut (utLo (ar s 3 0) (ar s 3 1)) (tHi (ar s 3 0) (ar s 3 1)) (ar s 3 2)) (fdQ (utLo (ar s 3 0) (ar s 3 1)) (tHi (ar s 3 0) (ar s 3 1)) (ar s 3 2)) (fdR (utLo (ar s 3 0) (ar s 3 1)) (tHi (ar s 3 0) (ar s 3 1)) (ar s 3 2)) x s)) 3 2 s0 h0 rfl rfl [fdR (utLo (x) (z)) (tHi (x) (z)) (y), fdQ (utLo (x) (z)) (tHi (x) (z)) (y)] 16480 (by decide) f0 rfl (by show Rs.laid _ (quoP _ _ _ _ _ _) = _; simp only [a0_0, a0_1, a0_2]; rw [hd]; exact laid_quo _ _ _ _ _ _) (by decide) (by decide) rfl (fun _ => rfl) (by simp) (by simp) rfl (fun v hv => by
    simp only [List.mem_cons, List.mem_nil_iff, or_false] at hv
    rcases hv with rfl | rfl <;> (first | assumption | exact wrap_v64 _ | exact floQ_v64 _ _ | exact floR_v64 (by assumption) (by assumption) | exact fdQ_v64 _ _ _ | exact fdR_v64 _ _ _ | exact utLo_v64 _ _ | exact tHi_v64 _ _ | exact xor_v64 _ _ | exact base_v64)) rfl (by omega) (by omega) rfl
  have h1 : Rep s1 16472 ([38, 1]) [fdR (utLo (x) (z)) (tHi (x) (z)) (y), fdQ (utLo (x) (z)) (tHi (x) (z)) (y)] [0] := t0.rep
  have f1 := h1.code.fetch 1 (by omega) 1 1 1 0 rfl (by decide) (by decide) (by decide)
  obtain ⟨s2, t1, h2, _, _⟩ := Rep.stepExit (rs := []) (v := 0) (x := ⟨1, 3999, 16480, 16480, false, false, 0⟩) h1 (by decide) f1 rfl (by show (0 : Int) ≤ 16480; decide) (by show (16480 : Int) ≤ 900000; decide)
  have g1 := goesS_end (n := 3999) t1 (.inr rfl)
  have g0 : goesS (4000 + 1) ⟨1, 4000, 16472, 0, false, false, 0⟩ s0 = goesS 4000 ⟨1, 3999, 16480, 16480, false, false, 0⟩ s1 := goesS_of t0.step rfl rfl
  exact ⟨_, (g0).trans (g1), rfl, h2⟩
/-- .. that gives up -/
theorem run_muldiv_out {s : Mt} (x z y : Int) (vx : V64 x) (vz : V64 z) (vy : V64 y) (hd : fdOut (utLo (x) (z)) (tHi (x) (z)) (y) = true) (h : Rep s 16472 ([38, 1]) [x, z, y] []) : ∃ q, goesS ((clip 4000).toNat + 1) { Rn.start 1 4000 with pc := 16472 } (s.pushR [0]) = some q ∧ q.f = 7 ∧ q.s.Ok := by
  have h0 : Rep (s.pushR [0]) 16472 ([38, 1]) [x, z, y] [0] := h.pushR1 0 (by unfold V64; omega) (by simp)
  generalize s.pushR [0] = s0 at *
  have hc : clip 4000 = 4000 := by decide
  rw [hc, start_fields, hc]
  have f0 := h0.code.fetch 1 (by omega) 0 38 38 0 rfl (by decide) (by decide) (by decide)
  have a0_0 : ar s0 3 0 = x := h0.arv 3 0 _ (by omega) (by simp) rfl
  have a0_1 : ar s0 3 1 = z := h0.arv 3 1 _ (by omega) (by simp) rfl
  have a0_2 : ar s0 3 2 = y := h0.arv 3 2 _ (by omega) (by simp) rfl
  have e0 := h0.stepF (x := ⟨1, 4000, 16472, 0, false, false, 0⟩) (i := ⟨38, 0, 0, 1⟩) (q := fun x s => Rs.laid 3 (quoP 2 (fdOut (utLo (ar s 3 0) (ar s 3 1)) (tHi (ar s 3 0) (ar s 3 1)) (ar s 3 2)) (fdQ (utLo (ar s 3 0) (ar s 3 1)) (tHi (ar s 3 0) (ar s 3 1)) (ar s 3 2)) (fdR (utLo (ar s 3 0) (ar s 3 1)) (tHi (ar s 3 0) (ar s 3 1)) (ar s 3 2)) x s)) 3 2 16480 7 (by decide) f0 rfl (by show Rs.laid _ (quoP _ _ _ _ _ _) = _; simp only [a0_0, a0_1, a0_2]; rw [hd]; exact laid_fault _ _ _ _ _ _) (by decide) (by decide) (by decide) rfl (fun _ => rfl) (by simp) (by simp) rfl (by omega) (by omega) rfl
  have g0 := goesS_end (n := 4000) e0 (.inl (by show (7 : Int) ≠ 0; decide))
  refine ⟨_, g0, rfl, h0.ok⟩
/-- INVERT NEGATE 1- -/
theorem run_invert {s : Mt} (x : Int) (vx : V64 x) (h : Rep s 16472 ([50, 39, 44, 1]) [x] []) : ∃ q, goesS ((clip 4000).toNat + 1) { Rn.start 1 4000 with pc := 16472 } (s.pushR [0]) = some q ∧ q.f = 0 ∧ Rep q.s 16472 ([50, 39, 44, 1]) [x] [] := by
  have h0 : Rep (s.pushR [0]) 16472 ([50, 39, 44, 1]) [x] [0] := h.pushR1 0 (by unfold V64; omega) (by simp)
  generalize s.pushR [0] = s0 at *
  have hc : clip 4000 = 4000 := by decide
  rw [hc, start_fields, hc]
  have f0 := h0.code.fetch 1 (by omega) 0 50 50 0 rfl (by decide) (by decide) (by decide)
  have a0_0 : ar s0 1 0 = x := h0.arv 1 0 _ (by omega) (by simp) rfl
  obtain ⟨s1, t0⟩ := h0.stepL (x := ⟨1, 4000, 16472, 0, false, false, 0⟩) ⟨50, 0, 0, 1⟩ 1 1 (fun s => [bits .xor .i64 (-1) (ar s 1 0)]) [bits .xor .i64 (-1) (x)] 16480 (by decide) f0 rfl (by decide) (by decide) rfl (fun _ => rfl) (by simp) (by simp) (by simp only [a0_0]) rfl (fun v hv => by
    simp only [List.mem_cons, List.mem_nil_iff, or_false] at hv
    rcases hv with rfl <;> (first | assumption | exact wrap_v64 _ | exact floQ_v64 _ _ | exact floR_v64 (by assumption) (by assumption) | exact fdQ_v64 _ _ _ | exact fdR_v64 _ _ _ | exact utLo_v64 _ _ | exact tHi_v64 _ _ | exact xor_v64 _ _ | exact base_v64)) rfl (by omega) (by omega) rfl
  have h1 : Rep s1 16472 ([50, 39, 44, 1]) [bits .xor .i64 (-1) (x)] [0] := t0.rep
  have f1 := h1.code.fetch 1 (by omega) 1 39 39 0 rfl (by decide) (by decide) (by decide)
  have a1_0 : ar s1 1 0 = bits .xor .i64 (-1) (x) := h1.arv 1 0 _ (by omega) (by simp) rfl
  obtain ⟨s2, t1⟩ := h1.stepL (x := ⟨1, 3999, 16480, 16480, false, false, 0⟩) ⟨39, 0, 0, 1⟩ 1 1 (fun s => [wrap64 (-ar s 1 0)]) [wrap64 (-(bits .xor .i64 (-1) (x)))] 16488 (by decide) f1 rfl (by decide) (by decide) rfl (fun _ => rfl) (by simp) (by simp) (by simp only [a1_0]) rfl (fun v hv => by
    simp only [List.mem_cons, List.mem_nil_iff, or_false] at hv
    rcases hv with rfl <;> (first | assumption | exact wrap_v64 _ | exact floQ_v64 _ _ | exact floR_v64 (by assumption) (by assumption) | exact fdQ_v64 _ _ _ | exact fdR_v64 _ _ _ | exact utLo_v64 _ _ | exact tHi_v64 _ _ | exact xor_v64 _ _ | exact base_v64)) rfl (by omega) (by omega) rfl
  have h2 : Rep s2 16472 ([50, 39, 44, 1]) [wrap64 (-(bits .xor .i64 (-1) (x)))] [0] := t1.rep
  have f2 := h2.code.fetch 1 (by omega) 2 44 44 0 rfl (by decide) (by decide) (by decide)
  have a2_0 : ar s2 1 0 = wrap64 (-(bits .xor .i64 (-1) (x))) := h2.arv 1 0 _ (by omega) (by simp) rfl
  obtain ⟨s3, t2⟩ := h2.stepL (x := ⟨1, 3998, 16488, 16488, false, false, 0⟩) ⟨44, 0, 0, 1⟩ 1 1 (fun s => [wrap64 (ar s 1 0 - 1)]) [wrap64 ((wrap64 (-(bits .xor .i64 (-1) (x)))) - 1)] 16496 (by decide) f2 rfl (by decide) (by decide) rfl (fun _ => rfl) (by simp) (by simp) (by simp only [a2_0]) rfl (fun v hv => by
    simp only [List.mem_cons, List.mem_nil_iff, or_false] at hv
    rcases hv with rfl <;> (first | assumption | exact wrap_v64 _ | exact floQ_v64 _ _ | exact floR_v64 (by assumption) (by assumption) | exact fdQ_v64 _ _ _ | exact fdR_v64 _ _ _ | exact utLo_v64 _ _ | exact tHi_v64 _ _ | exact xor_v64 _ _ | exact base_v64)) rfl (by omega) (by omega) rfl
  have h3 : Rep s3 16472 ([50, 39, 44, 1]) [wrap64 ((wrap64 (-(bits .xor .i64 (-1) (x)))) - 1)] [0] := t2.rep
  have f3 := h3.code.fetch 1 (by omega) 3 1 1 0 rfl (by decide) (by decide) (by decide)
  obtain ⟨s4, t3, h4, _, _⟩ := Rep.stepExit (rs := []) (v := 0) (x := ⟨1, 3997, 16496, 16496, false, false, 0⟩) h3 (by decide) f3 rfl (by show (0 : Int) ≤ 16496; decide) (by show (16496 : Int) ≤ 900000; decide)
  have g3 := goesS_end (n := 3997) t3 (.inr rfl)
  have g0 : goesS (4000 + 1) ⟨1, 4000, 16472, 0, false, false, 0⟩ s0 = goesS 4000 ⟨1, 3999, 16480, 16480, false, false, 0⟩ s1 := goesS_of t0.step rfl rfl
  have g1 : goesS (3999 + 1) ⟨1, 3999, 16480, 16480, false, false, 0⟩ s1 = goesS 3999 ⟨1, 3998, 16488, 16488, false, false, 0⟩ s2 := goesS_of t1.step rfl rfl
  have g2 : goesS (3998 + 1) ⟨1, 3998, 16488, 16488, false, false, 0⟩ s2 = goesS 3998 ⟨1, 3997, 16496, 16496, false, false, 0⟩ s3 := goesS_of t2.step rfl rfl
  rw [invert_val x vx] at h4
  exact ⟨_, (g0).trans ( (g1).trans ( (g2).trans (g3))), rfl, h4⟩
/-- SWAP ROT -/
theorem run_turn {s : Mt} (x y z : Int) (vx : V64 x) (vy : V64 y) (vz : V64 z) (h : Rep s 16472 ([23, 25, 1]) [x, y, z] []) : ∃ q, goesS ((clip 4000).toNat + 1) { Rn.start 1 4000 with pc := 16472 } (s.pushR [0]) = some q ∧ q.f = 0 ∧ Rep q.s 16472 ([23, 25, 1]) [z, y, x] [] := by
  have h0 : Rep (s.pushR [0]) 16472 ([23, 25, 1]) [x, y, z] [0] := h.pushR1 0 (by unfold V64; omega) (by simp)
  generalize s.pushR [0] = s0 at *
  have hc : clip 4000 = 4000 := by decide
  rw [hc, start_fields, hc]
  have f0 := h0.code.fetch 1 (by omega) 0 23 23 0 rfl (by decide) (by decide) (by decide)
  have a0_0 : ar s0 2 0 = y := h0.arv 2 0 _ (by omega) (by simp) rfl
  have a0_1 : ar s0 2 1 = z := h0.arv 2 1 _ (by omega) (by simp) rfl
  obtain ⟨s1, t0⟩ := h0.stepL (x := ⟨1, 4000, 16472, 0, false, false, 0⟩) ⟨23, 0, 0, 1⟩ 2 2 (fun s => [ar s 2 1, ar s 2 0]) [z, y] 16480 (by decide) f0 rfl (by decide) (by decide) rfl (fun _ => rfl) (by simp) (by simp) (by simp only [a0_0, a0_1]) rfl (fun v hv => by
    simp only [List.mem_cons, List.mem_nil_iff, or_false] at hv
    rcases hv with rfl | rfl <;> (first | assumption | exact wrap_v64 _ | exact floQ_v64 _ _ | exact floR_v64 (by assumption) (by assumption) | exact fdQ_v64 _ _ _ | exact fdR_v64 _ _ _ | exact utLo_v64 _ _ | exact tHi_v64 _ _ | exact xor_v64 _ _ | exact base_v64)) rfl (by omega) (by omega) rfl
  have h1 : Rep s1 16472 ([23, 25, 1]) [x, z, y] [0] := t0.rep
  have f1 := h1.code.fetch 1 (by omega) 1 25 25 0 rfl (by decide) (by decide) (by decide)
  have a1_0 : ar s1 3 0 = x := h1.arv 3 0 _ (by omega) (by simp) rfl
  have a1_1 : ar s1 3 1 = z := h1.arv 3 1 _ (by omega) (by simp) rfl
  have a1_2 : ar s1 3 2 = y := h1.arv 3 2 _ (by omega) (by simp) rfl
  obtain ⟨s2, t1⟩ := h1.stepL (x := ⟨1, 3999, 16480, 16480, false, false, 0⟩) ⟨25, 0, 0, 1⟩ 3 3 (fun s => [ar s 3 1, ar s 3 2, ar s 3 0]) [z, y, x] 16488 (by decide) f1 rfl (by decide) (by decide) rfl (fun _ => rfl) (by simp) (by simp) (by simp only [a1_0, a1_1, a1_2]) rfl (fun v hv => by
    simp only [List.mem_cons, List.mem_nil_iff, or_false] at hv
    rcases hv with rfl | rfl | rfl <;> (first | assumption | exact wrap_v64 _ | exact floQ_v64 _ _ | exact floR_v64 (by assumption) (by assumption) | exact fdQ_v64 _ _ _ | exact fdR_v64 _ _ _ | exact utLo_v64 _ _ | exact tHi_v64 _ _ | exact xor_v64 _ _ | exact base_v64)) rfl (by omega) (by omega) rfl
  have h2 : Rep s2 16472 ([23, 25, 1]) [z, y, x] [0] := t1.rep
  have f2 := h2.code.fetch 1 (by omega) 2 1 1 0 rfl (by decide) (by decide) (by decide)
  obtain ⟨s3, t2, h3, _, _⟩ := Rep.stepExit (rs := []) (v := 0) (x := ⟨1, 3998, 16488, 16488, false, false, 0⟩) h2 (by decide) f2 rfl (by show (0 : Int) ≤ 16488; decide) (by show (16488 : Int) ≤ 900000; decide)
  have g2 := goesS_end (n := 3998) t2 (.inr rfl)
  have g0 : goesS (4000 + 1) ⟨1, 4000, 16472, 0, false, false, 0⟩ s0 = goesS 4000 ⟨1, 3999, 16480, 16480, false, false, 0⟩ s1 := goesS_of t0.step rfl rfl
  have g1 : goesS (3999 + 1) ⟨1, 3999, 16480, 16480, false, false, 0⟩ s1 = goesS 3999 ⟨1, 3998, 16488, 16488, false, false, 0⟩ s2 := goesS_of t1.step rfl rfl
  exact ⟨_, (g0).trans ( (g1).trans (g2)), rfl, h3⟩
/-- BASE ! BASE @ SWAP - -/
theorem run_stored {s : Mt} (x y b0 b1 b2 : Int) (vx : V64 x) (vy : V64 y) (h : Rep s 16448 [b0, b1, b2, 77, 66, 77, 65, 23, 32, 1] [x, y] []) : ∃ q, goesS ((clip 4000).toNat + 1) { Rn.start 1 4000 with pc := 16472 } (s.pushR [0]) = some q ∧ q.f = 0 ∧ Rep q.s 16448 [y, b1, b2, 77, 66, 77, 65, 23, 32, 1] [wrap64 (y - x)] [] := by
  have h0 : Rep (s.pushR [0]) 16448 [b0, b1, b2, 77, 66, 77, 65, 23, 32, 1] [x, y] [0] := h.pushR1 0 (by unfold V64; omega) (by simp)
  generalize s.pushR [0] = s0 at *
  have hc : clip 4000 = 4000 := by decide
  rw [hc, start_fields, hc]
  have f0 := h0.code.fetch 1 (by omega) 3 77 77 0 rfl (by decide) (by decide) (by decide)
  obtain ⟨s1, t0⟩ := h0.stepL (x := ⟨1, 4000, 16472, 0, false, false, 0⟩) ⟨77, 0, 0, 1⟩ 0 1 (fun s => [wrap64 (s.S.beg 3 : Int)]) [16448] 16480 (by decide) f0 rfl (by decide) (by decide) rfl (fun _ => rfl) (by simp) (by simp) (base_val h0) rfl (fun v hv => by rw [List.mem_singleton.1 hv]; exact base_v64) rfl (by omega) (by omega) rfl
  have h1 : Rep s1 16448 [b0, b1, b2, 77, 66, 77, 65, 23, 32, 1] [x, y, 16448] [0] := t0.rep
  have f1 := h1.code.fetch 1 (by omega) 4 66 66 0 rfl (by decide) (by decide) (by decide)
  have a1_0 : ar s1 2 0 = y := h1.arv 2 0 _ (by omega) (by simp) rfl
  have a1_1 : ar s1 2 1 = 16448 := h1.arv 2 1 _ (by omega) (by simp) rfl
  have w1 : s1.S.cellF 1 16448 true = 0 := code_setFm h1.code 1 (by omega) 0 (by simp)
  obtain ⟨s2, t1⟩ := h1.stepR (x := ⟨1, 3999, 16480, 16480, false, false, 0⟩) (i := ⟨66, 0, 0, 1⟩) (q := fun x s => Rs.laid 2 ((⟨s.S.cellF x.mode (ar s 2 1) true, x, { s with S := s.S.setCell x.mode (ar s 2 1) (ar s 2 0) }⟩, []) : Rs × List Int)) 2 0 { s1 with S := s1.S.setCell 1 16448 y } (h1.stored y vy) rfl rfl [] 16488 (by decide) f1 rfl (by show Rs.laid 2 (⟨s1.S.cellF 1 (ar s1 2 1) true, _, { s1 with S := s1.S.setCell 1 (ar s1 2 1) (ar s1 2 0) }⟩, []) = _; rw [a1_0, a1_1, w1]; rfl) (by decide) (by decide) rfl (fun _ => rfl) (by simp) (by simp) rfl (fun v hv => by cases hv) rfl (by omega) (by omega) rfl
  have h2 : Rep s2 16448 [y, b1, b2, 77, 66, 77, 65, 23, 32, 1] [x] [0] := t1.rep
  have f2 := h2.code.fetch 1 (by omega) 5 77 77 0 rfl (by decide) (by decide) (by decide)
  obtain ⟨s3, t2⟩ := h2.stepL (x := ⟨1, 3998, 16488, 16488, false, false, 0⟩) ⟨77, 0, 0, 1⟩ 0 1 (fun s => [wrap64 (s.S.beg 3 : Int)]) [16448] 16496 (by decide) f2 rfl (by decide) (by decide) rfl (fun _ => rfl) (by simp) (by simp) (base_val h2) rfl (fun v hv => by rw [List.mem_singleton.1 hv]; exact base_v64) rfl (by omega) (by omega) rfl
  have h3 : Rep s3 16448 [y, b1, b2, 77, 66, 77, 65, 23, 32, 1] [x, 16448] [0] := t2.rep
  have f3 := h3.code.fetch 1 (by omega) 6 65 65 0 rfl (by decide) (by decide) (by decide)
  have a3_0 : ar s3 1 0 = 16448 := h3.arv 1 0 _ (by omega) (by simp) rfl
  obtain ⟨w3, u3⟩ := h3.code.cell 1 (by omega) 0 y rfl
  have w3' : s3.S.cellF 1 16448 false = 0 := w3
  have u3' : s3.S.cellV 1 16448 = y := u3
  obtain ⟨s4, t3⟩ := h3.stepR (x := ⟨1, 3997, 16496, 16496, false, false, 0⟩) (i := ⟨65, 0, 0, 1⟩) (q := fun x s => Rs.laid 1 ((⟨s.S.cellF x.mode (ar s 1 0) false, x, s⟩, [s.S.cellV x.mode (ar s 1 0)]) : Rs × List Int)) 1 1 s3 h3 rfl rfl [y] 16504 (by decide) f3 rfl (by show Rs.laid 1 (⟨s3.S.cellF 1 (ar s3 1 0) false, _, s3⟩, [s3.S.cellV 1 (ar s3 1 0)]) = _; rw [a3_0, w3', u3']; rfl) (by decide) (by decide) rfl (fun _ => rfl) (by simp) (by simp) rfl (fun v hv => by rw [List.mem_singleton.1 hv]; exact vy) rfl (by omega) (by omega) rfl
  have h4 : Rep s4 16448 [y, b1, b2, 77, 66, 77, 65, 23, 32, 1] [x, y] [0] := t3.rep
  have f4 := h4.code.fetch 1 (by omega) 7 23 23 0 rfl (by decide) (by decide) (by decide)
  have a4_0 : ar s4 2 0 = x := h4.arv 2 0 _ (by omega) (by simp) rfl
  have a4_1 : ar s4 2 1 = y := h4.arv 2 1 _ (by omega) (by simp) rfl
  obtain ⟨s5, t4⟩ := h4.stepL (x := ⟨1, 3996, 16504, 16504, false, false, 0⟩) ⟨23, 0, 0, 1⟩ 2 2 (fun s => [ar s 2 1, ar s 2 0]) [y, x] 16512 (by decide) f4 rfl (by decide) (by decide) rfl (fun _ => rfl) (by simp) (by simp) (by simp only [a4_0, a4_1]) rfl (fun v hv => by
    simp only [List.mem_cons, List.mem_nil_iff, or_false] at hv
    rcases hv with rfl | rfl <;> assumption) rfl (by omega) (by omega) rfl
  have h5 : Rep s5 16448 [y, b1, b2, 77, 66, 77, 65, 23, 32, 1] [y, x] [0] := t4.rep
  have f5 := h5.code.fetch 1 (by omega) 8 32 32 0 rfl (by decide) (by decide) (by decide)
  have a5_0 : ar s5 2 0 = y := h5.arv 2 0 _ (by omega) (by simp) rfl
  have a5_1 : ar s5 2 1 = x := h5.arv 2 1 _ (by omega) (by simp) rfl
  obtain ⟨s6, t5⟩ := h5.stepL (x := ⟨1, 3995, 16512, 16512, false, false, 0⟩) ⟨32, 0, 0, 1⟩ 2 1 (fun s => [wrap64 (ar s 2 0 - ar s 2 1)]) [wrap64 (y - x)] 16520 (by decide) f5 rfl (by decide) (by decide) rfl (fun _ => rfl) (by simp) (by simp) (by simp only [a5_0, a5_1]) rfl (fun v hv => by rw [List.mem_singleton.1 hv]; exact wrap_v64 _) rfl (by omega) (by omega) rfl
  have h6 : Rep s6 16448 [y, b1, b2, 77, 66, 77, 65, 23, 32, 1] [wrap64 (y - x)] [0] := t5.rep
  have f6 := h6.code.fetch 1 (by omega) 9 1 1 0 rfl (by decide) (by decide) (by decide)
  obtain ⟨s7, t6, h7, _, _⟩ := Rep.stepExit (rs := []) (v := 0) (x := ⟨1, 3994, 16520, 16520, false, false, 0⟩) h6 (by decide) f6 rfl (by show (0 : Int) ≤ 16520; decide) (by show (16520 : Int) ≤ 900000; decide)
  have g6 := goesS_end (n := 3994) t6 (.inr rfl)
  have g0 : goesS (4000 + 1) ⟨1, 4000, 16472, 0, false, false, 0⟩ s0 = goesS 4000 ⟨1, 3999, 16480, 16480, false, false, 0⟩ s1 := goesS_of t0.step rfl rfl
  have g1 : goesS (3999 + 1) ⟨1, 3999, 16480, 16480, false, false, 0⟩ s1 = goesS 3999 ⟨1, 3998, 16488, 16488, false, false, 0⟩ s2 := goesS_of t1.step rfl rfl
  have g2 : goesS (3998 + 1) ⟨1, 3998, 16488, 16488, false, false, 0⟩ s2 = goesS 3998 ⟨1, 3997, 16496, 16496, false, false, 0⟩ s3 := goesS_of t2.step rfl rfl
  have g3 : goesS (3997 + 1) ⟨1, 3997, 16496, 16496, false, false, 0⟩ s3 = goesS 3997 ⟨1, 3996, 16504, 16504, false, false, 0⟩ s4 := goesS_of t3.step rfl rfl
  have g4 : goesS (3996 + 1) ⟨1, 3996, 16504, 16504, false, false, 0⟩ s4 = goesS 3996 ⟨1, 3995, 16512, 16512, false, false, 0⟩ s5 := goesS_of t4.step rfl rfl
  have g5 : goesS (3995 + 1) ⟨1, 3995, 16512, 16512, false, false, 0⟩ s5 = goesS 3995 ⟨1, 3994, 16520, 16520, false, false, 0⟩ s6 := goesS_of t5.step rfl rfl
  exact ⟨_, g0.trans (g1.trans (g2.trans (g3.trans (g4.trans (g5.trans g6))))), rfl, h7⟩
end Vm
end Go.Proofs.YtjhdpmimccpcdaaGreatDoor
