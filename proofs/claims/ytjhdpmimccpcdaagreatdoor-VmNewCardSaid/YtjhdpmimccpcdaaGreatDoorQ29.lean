/- Chapter 11: a machine whose stacks hold some cells, in plain words; one step of a run. Plain lemmas. Conditions: as written. -/
import Derived.Test.YtjhdpmimccpcdaaGreatDoorQ25
import Derived.Test.YtjhdpmimccpcdaaGreatDoorQ28
namespace Go.Proofs.YtjhdpmimccpcdaaGreatDoor
set_option linter.unusedVariables false
open Go.RowKit Go.Lib
namespace Vm
/-- the laws' layout -/
structure Lay0 (S : Img) : Prop where
  k : S.k = 16384
  s : S.s = 64
  u : S.u = 512
  d : S.d = 128
  r : S.r = 64
theorem Lay0.begs {S : Img} (h : Lay0 S) : S.beg 2 = 16384 ∧ S.beg 3 = 16448 ∧ S.beg 4 = 16960 ∧ S.beg 5 = 17088 ∧ S.beg 6 = 17152 := by
  simp [Img.beg, h.k, h.s, h.u, h.d, h.r]
theorem Lay0.alike {S T : Img} (h : Lay0 S) (ha : Alike S T) : Lay0 T := ⟨ha.k.trans h.k, ha.s.trans h.s, ha.u.trans h.u, ha.d.trans h.d, ha.r.trans h.r⟩
theorem lay0_img : Lay0 img0 := ⟨rfl, rfl, rfl, rfl, rfl⟩
theorem sysF {S : Img} (hL : Lay0 S) (x : Nat) (h1 : 16960 ≤ x) (h2 : x + 8 ≤ 17152) (h8 : x % 8 = 0) (w : Bool) : S.cellF 0 (x : Int) w = 0 := by
  obtain ⟨b2, b3, b4, b5, b6⟩ := hL.begs
  have hr : ∃ j, (j = 4 ∨ j = 5) ∧ S.region (x : Int) = j ∧ x + 8 ≤ S.beg (j + 1) := by
    by_cases h : x < 17088
    · exact ⟨4, .inl rfl, S.region_eq (by omega) (by omega) (by omega) (by omega) (by show (x : Int) < S.beg 5; omega), by show x + 8 ≤ S.beg 5; omega⟩
    · exact ⟨5, .inr rfl, S.region_eq (by omega) (by omega) (by omega) (by omega) (by show (x : Int) < S.beg 6; omega), by show x + 8 ≤ S.beg 6; omega⟩
  obtain ⟨j, hj, hr, hle⟩ := hr
  have hrow : S.rowOk 0 (x : Int) 8 w = true := by
    unfold Img.rowOk Img.lets Img.may
    rw [hr]
    have h4 : decide (((8 : Nat) : Int) ≤ (S.beg (j + 1) : Int) - (x : Int)) = true := decide_eq_true (by omega)
    rw [h4]
    rcases hj with rfl | rfl <;> cases w <;> simp
  unfold Img.cellF
  rw [if_neg (by omega), if_pos hrow]
/-- a cell of one of the stacks -/
def InStk (fr i : Nat) : Prop := (fr = 16960 ∧ i < 16) ∨ (fr = 17088 ∧ i < 8)
theorem sset_put {S : Img} (hL : Lay0 S) {fr i : Nat} (h : InStk fr i) (v : Int) : sset S fr i v = S.put (fr + 8 * i) (toB v) := by
  unfold InStk at h
  unfold sset Img.setCell
  rw [show (fr : Int) + 8 * (i : Int) = ((fr + 8 * i : Nat) : Int) by omega, if_pos (sysF hL _ (by omega) (by omega) (by omega) true), Int.toNat_natCast]
theorem sget_same {S : Img} (hS : S.Ok) (hL : Lay0 S) {fr i : Nat} (h : InStk fr i) (v : Int) (hv : V64 v) : sget (S.put (fr + 8 * i) (toB v)) fr i = v := by
  obtain ⟨b2, b3, b4, b5, b6⟩ := hL.begs
  unfold InStk at h
  unfold sget
  have hc := sysF hL (fr + 8 * i) (by omega) (by omega) (by omega) false
  rw [show (fr : Int) + 8 * (i : Int) = ((fr + 8 * i + 0 : Nat) : Int) by omega, cellV_put_in S hS 0 (fr + 8 * i) 0 (toB v) (by rw [toB_len]; omega) (by rw [toB_len]; omega) hc]
  rw [List.drop_zero, List.take_of_length_le (by rw [toB_len]; omega)]
  exact ofB_toB v hv
theorem sget_far {S : Img} (hS : S.Ok) (hL : Lay0 S) {fr i fr' i' : Nat} (h : InStk fr i) (h' : InStk fr' i') (hne : fr + 8 * i ≠ fr' + 8 * i') (v : Int) : sget (S.put (fr + 8 * i) (toB v)) fr' i' = sget S fr' i' := by
  obtain ⟨b2, b3, b4, b5, b6⟩ := hL.begs
  unfold InStk at h h'
  unfold sget
  exact cellV_put_far S hS 0 _ (fr + 8 * i) (toB v) (by rw [toB_len]; omega) (by rw [toB_len]; omega)
theorem spush_ok : ∀ (l : List Int) (S : Img) (fr d : Nat), S.Ok → Lay0 S → (fr = 16960 ∧ d + l.length ≤ 16 ∨ fr = 17088 ∧ d + l.length ≤ 8) → (spush S fr d l).Ok
  | [], S, fr, d, hS, _, _ => hS
  | v :: l, S, fr, d, hS, hL, h => by
    rw [List.length_cons] at h
    have hi : InStk fr d := by
      rcases h with ⟨h1, h2⟩ | ⟨h1, h2⟩
      · exact .inl ⟨h1, by omega⟩
      · exact .inr ⟨h1, by omega⟩
    obtain ⟨b2, b3, b4, b5, b6⟩ := hL.begs
    have e := sset_put hL hi v
    have hok : (S.put (fr + 8 * d) (toB v)).Ok := put_ok hS _ _ (by rw [toB_len]; omega)
    show (spush (sset S fr d v) fr (d + 1) l).Ok
    rw [e]
    exact spush_ok l (S.put (fr + 8 * d) (toB v)) fr (d + 1) hok (hL.alike (Alike.put _ _ _)) (by omega)
/-- a machine with such code, and such stacks (the lowest cell first) -/
structure Rep (s : Mt) (a : Nat) (cs ds rs : List Int) : Prop where
  img : s.S.Ok
  lay : Lay0 s.S
  pd : s.pd = ⟨16960, 16, 1, 2⟩
  pr : s.pr = ⟨17088, 8, 3, 4⟩
  code : CodeAt s.S a cs
  d : s.d = ds.length
  r : s.r = rs.length
  dle : ds.length ≤ 16
  rle : rs.length ≤ 8
  dv : ∀ i v, ds[i]? = some v → sget s.S 16960 i = v
  rv : ∀ i v, rs[i]? = some v → sget s.S 17088 i = v
section
variable {s : Mt} {a : Nat} {cs ds rs : List Int}
theorem Rep.ok (h : Rep s a cs ds rs) : s.Ok := by
  refine ⟨?_, ?_, ?_, ?_, ?_, ?_, ?_, ?_⟩
  · rw [h.pd]; exact ⟨by decide, by decide⟩
  · rw [h.pr]; exact ⟨by decide, by decide⟩
  · rw [h.pd, h.d]; exact h.dle
  · rw [h.pr, h.r]; exact h.rle
  · rw [h.pd]
  · rw [h.pd]
  · rw [h.pr]
  · rw [h.pr]
theorem Rep.top (h : Rep s a cs ds rs) (n : Nat) (v : Int) (hn : n < ds.length) (hv : ds[ds.length - 1 - n]? = some v) : s.top (n : Int) = v := by
  unfold Mt.top stopv
  rw [h.d, h.pd, if_pos ⟨by omega, by omega⟩, Int.toNat_natCast]
  exact h.dv _ _ hv
theorem Rep.rtop (h : Rep s a cs ds rs) (n : Nat) (v : Int) (hn : n < rs.length) (hv : rs[rs.length - 1 - n]? = some v) : s.rtop (n : Int) = v := by
  unfold Mt.rtop stopv
  rw [h.r, h.pr, if_pos ⟨by omega, by omega⟩, Int.toNat_natCast]
  exact h.rv _ _ hv
theorem Rep.arv (h : Rep s a cs ds rs) (n j : Nat) (v : Int) (hj : j < n) (hn : n ≤ ds.length) (hv : ds[ds.length - n + j]? = some v) : ar s n j = v := by
  have e : ar s n j = s.top ((n - 1 - j : Nat) : Int) := by simp [Vm.ar, Mt.args, hj]
  rw [e]
  exact h.top _ _ (by omega) (by rw [← hv]; congr 1; omega)
theorem stk_code {S : Img} (hS : S.Ok) (hL : Lay0 S) {fr i : Nat} (h : InStk fr i) (v : Int) (hc : CodeAt S a cs) : CodeAt (S.put (fr + 8 * i) (toB v)) a cs := by
  obtain ⟨b2, b3, b4, b5, b6⟩ := hL.begs
  have h1 := hc.hi
  unfold InStk at h
  exact hc.put hS _ _ (by rw [toB_len]; omega) (by rw [toB_len]; omega)
theorem get_snoc {l : List Int} {v u : Int} {i : Nat} (h : (l ++ [v])[i]? = some u) : (i = l.length ∧ u = v) ∨ (i < l.length ∧ l[i]? = some u) := by
  rw [List.getElem?_append] at h
  split at h
  · exact .inr ⟨by assumption, h⟩
  · left
    rcases hk : i - l.length with _ | k
    · rw [hk] at h
      simp at h
      exact ⟨by omega, h.symm⟩
    · rw [hk] at h
      simp at h
theorem Rep.pushD1 (h : Rep s a cs ds rs) (v : Int) (hv : V64 v) (hr : ds.length < 16) : Rep (s.pushD [v]) a cs (ds ++ [v]) rs := by
  have hi : InStk 16960 ds.length := .inl ⟨rfl, hr⟩
  have hlen := h.img.len
  obtain ⟨b2, b3, b4, b5, b6⟩ := h.lay.begs
  have e : (s.pushD [v]).S = s.S.put (16960 + 8 * ds.length) (toB v) := by
    show sset s.S s.pd.fr s.d v = _
    rw [h.pd, h.d]
    exact sset_put h.lay hi v
  refine ⟨?_, ?_, h.pd, h.pr, ?_, ?_, h.r, by simp; omega, h.rle, ?_, ?_⟩
  · rw [e]; exact put_ok h.img _ _ (by rw [toB_len]; omega)
  · rw [e]; exact h.lay.alike (Alike.put _ _ _)
  · rw [e]; exact stk_code h.img h.lay hi v h.code
  · show s.d + 1 = _
    rw [h.d]; simp
  · intro i u hu
    rw [e]
    rcases get_snoc hu with ⟨rfl, rfl⟩ | ⟨hlt, hu⟩
    · exact sget_same h.img h.lay hi _ hv
    · rw [sget_far h.img h.lay hi (.inl ⟨rfl, by omega⟩) (by omega) v]
      exact h.dv i u hu
  · intro i u hu
    have hlt : i < rs.length := (List.getElem?_eq_some_iff.1 hu).1
    have := h.rle
    rw [e, sget_far h.img h.lay hi (.inr ⟨rfl, by omega⟩) (by omega) v]
    exact h.rv i u hu
theorem Rep.pushR1 (h : Rep s a cs ds rs) (v : Int) (hv : V64 v) (hr : rs.length < 8) : Rep (s.pushR [v]) a cs ds (rs ++ [v]) := by
  have hi : InStk 17088 rs.length := .inr ⟨rfl, hr⟩
  obtain ⟨b2, b3, b4, b5, b6⟩ := h.lay.begs
  have e : (s.pushR [v]).S = s.S.put (17088 + 8 * rs.length) (toB v) := by
    show sset s.S s.pr.fr s.r v = _
    rw [h.pr, h.r]
    exact sset_put h.lay hi v
  refine ⟨?_, ?_, h.pd, h.pr, ?_, h.d, ?_, h.dle, by simp; omega, ?_, ?_⟩
  · rw [e]; exact put_ok h.img _ _ (by rw [toB_len]; omega)
  · rw [e]; exact h.lay.alike (Alike.put _ _ _)
  · rw [e]; exact stk_code h.img h.lay hi v h.code
  · show s.r + 1 = _
    rw [h.r]; simp
  · intro i u hu
    have hlt : i < ds.length := (List.getElem?_eq_some_iff.1 hu).1
    have := h.dle
    rw [e, sget_far h.img h.lay hi (.inl ⟨rfl, by omega⟩) (by omega) v]
    exact h.dv i u hu
  · intro i u hu
    rw [e]
    rcases get_snoc hu with ⟨rfl, rfl⟩ | ⟨hlt, hu⟩
    · exact sget_same h.img h.lay hi _ hv
    · rw [sget_far h.img h.lay hi (.inr ⟨rfl, by omega⟩) (by omega) v]
      exact h.rv i u hu
theorem pushD_cons (s : Mt) (v : Int) (l : List Int) : s.pushD (v :: l) = (s.pushD [v]).pushD l := by
  unfold Mt.pushD
  congr 1
  show s.d + (l.length + 1) = s.d + 1 + l.length
  omega
theorem pushR_cons (s : Mt) (v : Int) (l : List Int) : s.pushR (v :: l) = (s.pushR [v]).pushR l := by
  unfold Mt.pushR
  congr 1
  show s.r + (l.length + 1) = s.r + 1 + l.length
  omega
end
theorem Rep.pushD {a : Nat} {cs rs : List Int} : ∀ {l ds : List Int} {s : Mt}, Rep s a cs ds rs → (∀ v ∈ l, V64 v) → ds.length + l.length ≤ 16 → Rep (s.pushD l) a cs (ds ++ l) rs
  | [], ds, s, h, _, _ => by rw [List.append_nil]; exact h
  | v :: l, ds, s, h, hv, hl => by
    rw [List.length_cons] at hl
    have h1 := h.pushD1 v (hv v (by simp)) (by omega)
    have h2 := Rep.pushD (l := l) h1 (fun u hu => hv u (by simp [hu])) (by rw [List.length_append, List.length_singleton]; omega)
    rw [List.append_assoc] at h2
    rw [pushD_cons]
    exact h2
theorem Rep.pushR {a : Nat} {cs ds : List Int} : ∀ {l rs : List Int} {s : Mt}, Rep s a cs ds rs → (∀ v ∈ l, V64 v) → rs.length + l.length ≤ 8 → Rep (s.pushR l) a cs ds (rs ++ l)
  | [], rs, s, h, _, _ => by rw [List.append_nil]; exact h
  | v :: l, rs, s, h, hv, hl => by
    rw [List.length_cons] at hl
    have h1 := h.pushR1 v (hv v (by simp)) (by omega)
    have h2 := Rep.pushR (l := l) h1 (fun u hu => hv u (by simp [hu])) (by rw [List.length_append, List.length_singleton]; omega)
    rw [List.append_assoc] at h2
    rw [pushR_cons]
    exact h2
section
variable {s : Mt} {a : Nat} {cs ds rs : List Int}
theorem Rep.cutD (h : Rep s a cs ds rs) (n : Nat) (hn : n ≤ ds.length) : Rep (s.cutD n) a cs (ds.take n) rs :=
  ⟨h.img, h.lay, h.pd, h.pr, h.code, by show n = _; rw [List.length_take]; omega, h.r, by rw [List.length_take]; have := h.dle; omega, h.rle, fun i v hv => h.dv i v (by
    rw [List.getElem?_take] at hv
    split at hv
    · exact hv
    · cases hv), h.rv⟩
theorem Rep.cutR (h : Rep s a cs ds rs) (n : Nat) (hn : n ≤ rs.length) : Rep (s.cutR n) a cs ds (rs.take n) :=
  ⟨h.img, h.lay, h.pd, h.pr, h.code, h.d, by show n = _; rw [List.length_take]; omega, h.dle, by rw [List.length_take]; have := h.rle; omega, h.dv, fun i v hv => h.rv i v (by
    rw [List.getElem?_take] at hv
    split at hv
    · exact hv
    · cases hv)⟩
theorem Rep.lays (h : Rep s a cs ds rs) (n : Nat) (hn : n ≤ ds.length) (l : List Int) (hl : ∀ v ∈ l, V64 v) (hr : ds.length - n + l.length ≤ 16) : (s.lays n l).1 = 0 ∧ Rep (s.lays n l).2 a cs (ds.take (ds.length - n) ++ l) rs ∧ (s.lays n l).2.seen = s.seen := by
  have h1 := h.d
  have h2 : s.pd.rm = 16 := by rw [h.pd]
  have hc : ¬ s.pd.rm - (s.d - n) < l.length := by omega
  unfold Mt.lays
  rw [if_neg hc]
  refine ⟨rfl, ?_, rfl⟩
  rw [h1]
  exact (h.cutD (ds.length - n) (by omega)).pushD hl (by rw [List.length_take]; omega)
theorem Rep.told (h : Rep s a cs ds rs) (x : Rn) (op : Int) : Rep (s.told x op) a cs ds rs := by
  unfold Mt.told
  split
  · exact ⟨h.img, h.lay, h.pd, h.pr, h.code, h.d, h.r, h.dle, h.rle, h.dv, h.rv⟩
  · exact h
theorem told_len (s : Mt) (x : Rn) (op : Int) : (s.told x op).seen.length = s.seen.length + (if s.tells then 1 else 0) := by
  unfold Mt.told
  split <;> simp
/-- is all there that an instruction asks -/
theorem Rep.asked (h : Rep s a cs ds rs) (i : Inst) (x : Rn) (hn : needs i.op = 0) (h1 : (Code.wants i.op).1 ≤ ds.length) (h26 : i.op ≠ 26) (h2 : (ds.length : Int) - (Code.wants i.op).1 + (Code.wants i.op).2 ≤ 16)
    (h3 : (returns i.op i.arg s.same).1 ≤ (rs.length : Int) - x.base) (h4 : (rs.length : Int) - (returns i.op i.arg s.same).1 + (returns i.op i.arg s.same).2 ≤ 8) : asks i x s = 0 := by
  unfold Vm.asks
  rw [h.d, h.r, h.pd, h.pr, if_neg (by omega), if_neg (by omega), if_neg (by
    rw [if_neg (by rintro ⟨h, _⟩; exact h26 h)]
    show ¬ ((16 : Nat) : Int) < _
    omega), if_neg (by show ¬ ((8 : Nat) : Int) < _; omega), if_neg (by rintro ⟨h, _⟩; exact h hn)]
end
theorem wrap_pc (n : Int) (h : 0 ≤ n) (h2 : n ≤ 1000000) : wrap64 n = n := by unfold wrap64; omega
/-- a step that goes on -/
theorem stepS_of {x : Rn} {s : Mt} {i : Inst} {q : Rn → Mt → Rs} (hl : x.left ≠ 0) (hf : s.S.fetch x.mode x.pc = (i, 0)) (hp : parts i = some q) (n : Int) (hn : wrap64 (x.pc + 8 * i.cells) = n)
    (ha : asks i { x with left := x.left - 1, next := n } s = 0) (r : Rs) (hq : q { x with left := x.left - 1, next := n } s = r) (hr : r.f = 0) :
    stepS x s = some ⟨0, { r.x with pc := r.x.next }, r.s.told r.x i.op⟩ := by
  unfold stepS
  rw [if_neg hl, hf, if_neg (by simp)]
  simp only
  rw [hn, if_neg (by rw [ha]; decide), hp, Option.map_some, hq, if_neg (by rw [hr]; decide)]
theorem goesS_of {n : Nat} {x : Rn} {s : Mt} {r : Rs} (h : stepS x s = some r) (hf : r.f = 0) (ho : r.x.over = false) : goesS (n + 1) x s = goesS n r.x r.s := by
  rw [goesS, h]
  simp only
  rw [if_neg (by rw [hf]; decide), if_neg (by rw [ho]; decide)]
theorem goesS_end {n : Nat} {x : Rn} {s : Mt} {r : Rs} (h : stepS x s = some r) (ho : r.f ≠ 0 ∨ r.x.over = true) : goesS (n + 1) x s = some r := by
  rw [goesS, h]
  simp only
  rcases ho with ho | ho
  · rw [if_pos ho]
  · rw [if_pos ho]
    split <;> rfl
end Vm
end Go.Proofs.YtjhdpmimccpcdaaGreatDoor
/- Chapter 11: the machine that a law makes of one word "x" and some cells, in plain words. No condition but those written. -/
namespace Go.Proofs.YtjhdpmimccpcdaaGreatDoor
set_option linter.unusedVariables false
set_option maxRecDepth 100000
open Go.RowKit Go.Lib
namespace Vm
def nameX : ByteArray := ⟨#[120]⟩
/-- the head of x: where the words end, one letter, x -/
def headX : List UInt8 := [0, 0, 0, 0, 0, 0, 0, 0, 1, 120]
def HeadX (S : Img) : Prop := ∀ i, i < 10 → S.b.getD (16456 + i) 0 = headX.getD i 0
theorem HeadX.put {S : Img} (h : HeadX S) (k : Nat) (l : List UInt8) (hk : k + l.length ≤ S.b.length) (hf : k + l.length ≤ 16456 ∨ 16466 ≤ k) : HeadX (S.put k l) := by
  intro i hi
  rw [S.put_getD k _ l hk, if_neg (by omega)]
  exact h i hi
def wordX : Wd := ⟨[120], 16456, 16472, false, false, false⟩
theorem take_getD (b : List UInt8) (k : Nat) : ∀ (l : List UInt8), k + l.length ≤ b.length → (∀ i, i < l.length → b.getD (k + i) 0 = l.getD i 0) → (b.drop k).take l.length = l := by
  intro l hk h
  apply List.ext_getElem
  · simp; omega
  · intro i h1 h2
    have e := h i h2
    rw [List.getD_eq_getElem?_getD, List.getD_eq_getElem?_getD, List.getElem?_eq_getElem (by omega), List.getElem?_eq_getElem h2] at e
    simpa using e
theorem headW_x {S : Img} {D : Dc} (hS : S.Ok) (hL : Lay0 S) (h : HeadX S) (hrg : D.rg = 3) : headW S D 16456 = some (wordX, 0) := by
  obtain ⟨b2, b3, b4, b5, b6⟩ := hL.begs
  have hlen := hS.len
  have hfr : D.fr S = 16456 := by unfold Dc.fr; rw [hrg, b3]
  have hlim : D.lim S = 16960 := by unfold Dc.lim; rw [hrg]; exact b4
  have h8 : S.b.getD (16456 + 8) 0 = 1 := h 8 (by omega)
  have e1 : (S.b.drop 16456).take 8 = [0, 0, 0, 0, 0, 0, 0, 0] := take_getD S.b 16456 [0, 0, 0, 0, 0, 0, 0, 0] (by simp; omega) (fun i hi => by
    have hi : i < 8 := hi
    rw [h i (by omega)]
    have : i = 0 ∨ i = 1 ∨ i = 2 ∨ i = 3 ∨ i = 4 ∨ i = 5 ∨ i = 6 ∨ i = 7 := by omega
    rcases this with rfl | rfl | rfl | rfl | rfl | rfl | rfl | rfl <;> rfl)
  have e2 : (S.b.drop 16465).take 1 = [120] := take_getD S.b 16465 [120] (by simp; omega) (fun i hi => by
    have hi : i < 1 := hi
    obtain rfl : i = 0 := by omega
    exact h 9 (by omega))
  unfold headW
  rw [hfr, hlim, if_neg (by omega)]
  have e3 : (16456 : Int).toNat = 16456 := rfl
  simp only [e3, h8]
  rw [if_neg (by decide), show (1 : UInt8).toNat % 32 = 1 from rfl, e2, e1]
  have hz : ofB [0, 0, 0, 0, 0, 0, 0, 0] = 0 := by decide +kernel
  have hu : up (16456 + 9 + 1) = 16472 := by decide
  rw [hz, hu]
  rfl
theorem words_x {S : Img} {D : Dc} (hS : S.Ok) (hL : Lay0 S) (h : HeadX S) (hrg : D.rg = 3) (hl : D.l = 16456) : words S D = [wordX] := by
  unfold words
  rw [hl]
  unfold wordsF
  rw [show ((16456 : Nat) : Int) = 16456 from rfl, headW_x hS hL h hrg]
  simp only
  rw [if_neg (by omega)]
  obtain ⟨b2, b3, b4, b5, b6⟩ := hL.begs
  have hfr : D.fr S = 16456 := by unfold Dc.fr; rw [hrg, b3]
  unfold wordsF
  have : headW S D 0 = none := by
    unfold headW
    rw [if_pos (.inr (.inl (by rw [hfr]; omega)))]
  rw [this]
theorem find_x {S : Img} {D : Dc} (hS : S.Ok) (hL : Lay0 S) (h : HeadX S) (hrg : D.rg = 3) (hl : D.l = 16456) : findW S D nameX.data.toList = some wordX := by
  unfold findW
  rw [words_x hS hL h hrg hl]
  rfl
/-- what a law gives: one word x -/
def setupX (cs : List Int) (data : List Int) (base : Int) : Setup := ⟨0, 0, ⟨#[]⟩, ⟨#[]⟩, false, [], [⟨nameX, false, false, cs⟩], base, data, [], 0, 0, 0⟩
def headB0 : List UInt8 := [0, 0, 0, 0, 0, 0, 0, 0, 33, 120, 0, 0, 0, 0, 0, 0]
theorem stu_create : stu0.createF img0 [120] = 0 := by decide
theorem stu_head : stu0.headB [120] = headB0 := by decide
theorem lay_put {S : Img} (h : Lay0 S) (k : Nat) (l : List UInt8) : Lay0 (S.put k l) := h.alike (Alike.put S k l)
def iHead : Img := (img0.put 16456 headB0).put 16464 [1]
theorem iHead_ok : iHead.Ok := put_ok (put_ok img0_ok _ _ (by decide)) _ _ (by decide)
theorem iHead_lay : Lay0 iHead := lay_put (lay_put lay0_img _ _) _ _
theorem img0_len : img0.b.length = 17152 := by rw [img0_ok.len]; rfl
theorem iHead_x : HeadX iHead := by
  intro i hi
  have h1 : (img0.put 16456 headB0).b.length = 17152 := by rw [img0.put_len _ _ (by rw [img0_len]; decide), img0_len]
  unfold iHead
  rw [Img.put_getD _ _ _ _ (by rw [h1]; decide)]
  by_cases h8 : i = 8
  · subst h8
    rw [if_pos (by simp)]
    rfl
  · rw [if_neg (by simp; omega), Img.put_getD _ _ _ _ (by rw [img0_len]; decide), if_pos (by
      have : headB0.length = 16 := rfl
      omega), show 16456 + i - 16456 = i by omega]
    have : i = 0 ∨ i = 1 ∨ i = 2 ∨ i = 3 ∨ i = 4 ∨ i = 5 ∨ i = 6 ∨ i = 7 ∨ i = 9 := by omega
    rcases this with rfl | rfl | rfl | rfl | rfl | rfl | rfl | rfl | rfl <;> rfl
def dHead : Dc := ⟨3, 16472, 16456⟩
theorem laid_x (cs : List Int) (hc : 16472 + 8 * cs.length ≤ 16960) : laidS ⟨nameX, false, false, cs⟩ (img0, stu0) = (iHead.put 16472 (cellsB cs), ⟨3, 16472 + 8 * cs.length, 16456⟩) := by
  have e1 : stu0.createS img0 [120] = img0.put 16456 headB0 := by
    unfold Dc.createS
    rw [if_pos stu_create, stu_head]
    rfl
  have e2 : stu0.createD img0 [120] = dHead := by
    unfold Dc.createD
    rw [if_pos stu_create]
    rfl
  have e3 : markS ⟨nameX, false, false, cs⟩ (img0.put 16456 headB0) dHead = iHead := by
    unfold markS
    simp only [Bool.false_eq_true, if_false]
    unfold Dc.turnS
    rw [if_neg (by decide)]
    have h0 : (img0.put 16456 headB0).b.getD 16464 0 = 33 := by
      rw [Img.put_getD _ _ _ _ (by rw [img0_len]; decide), if_pos (by decide)]
      rfl
    show (img0.put 16456 headB0).put 16464 [showT ((img0.put 16456 headB0).b.getD 16464 0)] = _
    rw [h0]
    rfl
  unfold laidS
  rw [show nameX.data.toList = [120] from rfl, stu_create, if_neg (by decide), e1, e2, e3]
  have hD : dHead.Ok iHead := by
    refine Dc.Ok.alike (S := img0) ⟨.inr rfl, by decide, by decide, .inr (by decide), by decide, by decide⟩ ((Alike.put _ _ _).trans (Alike.put _ _ _))
  have hlm : dHead.lim iHead = 16960 := by decide
  have hhh : dHead.h = 16472 := rfl
  have := commas_put cs iHead dHead iHead_ok hD (by decide) (by rw [hlm, hhh]; omega) (by decide)
  exact this
section
variable (cs data : List Int) (base : Int)
theorem setupX_hid : (setupX cs data base).hid = ⟨#[]⟩ := by unfold Setup.hid; split <;> rfl
theorem setupX_t1 (hc : 16472 + 8 * cs.length ≤ 16960) : (setupX cs data base).t1 = (iHead.put 16472 (cellsB cs), ⟨3, 16472 + 8 * cs.length, 16456⟩) := laid_x cs hc
theorem CodeAt.seal {S : Img} {a : Nat} {cs : List Int} (h : CodeAt S a cs) : CodeAt S.sealed a cs := ⟨h.al, h.lo, h.hi, h.at_⟩
theorem Img.Ok.seal {S : Img} (h : S.Ok) : S.sealed.Ok := ⟨h.len, h.small⟩
theorem Lay0.seal {S : Img} (h : Lay0 S) : Lay0 S.sealed := ⟨h.k, h.s, h.u, h.d, h.r⟩
theorem HeadX.seal {S : Img} (h : HeadX S) : HeadX S.sealed := h
/-- all that is known of it -/
structure MadeX (S : Img) (cs : List Int) : Prop where
  ok : S.Ok
  lay : Lay0 S
  head : HeadX S
  code : CodeAt S 16472 cs
theorem setupX_i3 (hc : 16472 + 8 * cs.length ≤ 16960) (hv : ∀ v ∈ cs, V64 v) : MadeX (setupX cs data base).i3 cs := by
  have e : (setupX cs data base).i3 = (((iHead.put 16472 (cellsB cs)).put 16384 (List.replicate 64 0)).sealed) := by
    have eo : (setupX cs data base).opened = false := rfl
    have hz : Setup.load (iHead.put 16472 (cellsB cs)) (⟨#[]⟩ : ByteArray).data.toList = (iHead.put 16472 (cellsB cs)).put 16384 (List.replicate 64 0) := by
      unfold Setup.load
      rw [show (iHead.put 16472 (cellsB cs)).beg 2 = 16384 from rfl, show (iHead.put 16472 (cellsB cs)).s = 64 from rfl]
      rfl
    unfold Setup.i3 Setup.i2
    rw [setupX_hid, setupX_t1 cs data base hc, eo]
    simp only [Bool.false_eq_true, if_false]
    rw [hz]
  have hl := cellsB_len cs
  have hle : iHead.b.length = 17152 := by rw [iHead_ok.len]; rfl
  have h1 : (iHead.put 16472 (cellsB cs)).Ok := put_ok iHead_ok _ _ (by rw [hl]; have : iHead.beg 6 = 17152 := rfl; omega)
  have hle1 : (iHead.put 16472 (cellsB cs)).b.length = 17152 := by rw [h1.len]; rfl
  have h2 : ((iHead.put 16472 (cellsB cs)).put 16384 (List.replicate 64 0)).Ok := put_ok h1 _ _ (by show 16384 + (List.replicate 64 (0 : UInt8)).length ≤ 17152; simp)
  have c1 : CodeAt (iHead.put 16472 (cellsB cs)) 16472 cs := codeAt_put iHead iHead_ok 16472 cs hv (by decide) (by decide) (by have : iHead.beg 4 = 16960 := rfl; omega)
  have c2 := c1.put h1 16384 (List.replicate 64 0) (by show 16384 + (List.replicate 64 (0 : UInt8)).length ≤ 17152; simp) (.inl (by simp))
  rw [e]
  refine ⟨Img.Ok.seal h2, Lay0.seal (lay_put (lay_put iHead_lay _ _) _ _), HeadX.seal ?_, CodeAt.seal c2⟩
  have g1 : HeadX (iHead.put 16472 (cellsB cs)) := iHead_x.put _ _ (by rw [hl, hle]; omega) (.inr (by omega))
  exact g1.put 16384 (List.replicate 64 0) (by rw [hle1]; simp) (.inl (by simp))
end
/-! ### the stacks leave what lies below them -/
theorem spush_low : ∀ (l : List Int) (S : Img) (fr d : Nat), S.Ok → Lay0 S → (fr = 16960 ∧ d + l.length ≤ 16 ∨ fr = 17088 ∧ d + l.length ≤ 8) → (spush S fr d l).Ok ∧ ∀ i, i < 16960 → (spush S fr d l).b.getD i 0 = S.b.getD i 0
  | [], S, fr, d, hS, _, _ => ⟨hS, fun _ _ => rfl⟩
  | v :: l, S, fr, d, hS, hL, h => by
    rw [List.length_cons] at h
    have hi : InStk fr d := by
      rcases h with ⟨h1, h2⟩ | ⟨h1, h2⟩
      · exact .inl ⟨h1, by omega⟩
      · exact .inr ⟨h1, by omega⟩
    obtain ⟨b2, b3, b4, b5, b6⟩ := hL.begs
    have e := sset_put hL hi v
    have hfr : 16960 ≤ fr ∧ fr + 8 * d + 8 ≤ 17152 := by omega
    have hok : (S.put (fr + 8 * d) (toB v)).Ok := put_ok hS _ _ (by rw [toB_len]; omega)
    have hr := spush_low l (S.put (fr + 8 * d) (toB v)) fr (d + 1) hok (lay_put hL _ _) (by omega)
    show (spush (sset S fr d v) fr (d + 1) l).Ok ∧ ∀ i, i < 16960 → (spush (sset S fr d v) fr (d + 1) l).b.getD i 0 = S.b.getD i 0
    rw [e]
    refine ⟨hr.1, fun i hi2 => ?_⟩
    rw [hr.2 i hi2, Img.put_getD _ _ _ _ (by rw [toB_len, hS.len]; omega), if_neg (by omega)]
theorem baseF {S : Img} (hL : Lay0 S) (w : Bool) : S.cellF 0 16448 w = 0 := by
  obtain ⟨b2, b3, b4, b5, b6⟩ := hL.begs
  have hr : S.region (16448 : Int) = 3 := S.region_eq (by omega) (by omega) (by omega) (by omega) (by show (16448 : Int) < S.beg 4; omega)
  have hrow : S.rowOk 0 (16448 : Int) 8 w = true := by
    unfold Img.rowOk Img.lets Img.may
    rw [hr]
    have h4 : decide (((8 : Nat) : Int) ≤ (S.beg (3 + 1) : Int) - 16448) = true := decide_eq_true (by show ((8 : Nat) : Int) ≤ (S.beg 4 : Int) - _; omega)
    rw [h4]
    cases w <;> simp
  unfold Img.cellF
  rw [if_neg (by omega), if_pos hrow]
theorem base_put {S : Img} (hL : Lay0 S) (v : Int) : S.setCell 0 16448 v = S.put 16448 (toB v) := by
  unfold Img.setCell
  rw [if_pos (baseF hL true)]
  rfl
/-- BASE is set -/
theorem Rep.base {s : Mt} {a : Nat} {cs ds rs : List Int} (h : Rep s a cs ds rs) (ha : 16456 ≤ a) (v f u n : Int) (t : Bool) : Rep { s with S := s.S.setCell 0 16448 v, fault := f, used := u, hidden := n, tells := t } a cs ds rs := by
  obtain ⟨b2, b3, b4, b5, b6⟩ := h.lay.begs
  have e := base_put h.lay v
  have hd := h.dle
  have hr := h.rle
  have far : ∀ fr i, InStk fr i → sget (s.S.put 16448 (toB v)) fr i = sget s.S fr i := fun fr i hi => by
    unfold InStk at hi
    exact cellV_put_far s.S h.img 0 _ 16448 (toB v) (by rw [toB_len]; omega) (by rw [toB_len]; omega)
  refine ⟨?_, ?_, h.pd, h.pr, ?_, h.d, h.r, h.dle, h.rle, fun i u hu => ?_, fun i u hu => ?_⟩
  · show (s.S.setCell 0 16448 v).Ok
    rw [e]; exact put_ok h.img _ _ (by rw [toB_len]; omega)
  · show Lay0 (s.S.setCell 0 16448 v)
    rw [e]; exact lay_put h.lay _ _
  · show CodeAt (s.S.setCell 0 16448 v) a cs
    rw [e]; exact h.code.put h.img _ _ (by rw [toB_len]; omega) (.inl (by rw [toB_len]; omega))
  · show sget (s.S.setCell 0 16448 v) 16960 i = u
    have hlt : i < ds.length := (List.getElem?_eq_some_iff.1 hu).1
    rw [e, far 16960 i (.inl ⟨rfl, by omega⟩)]
    exact h.dv i u hu
  · show sget (s.S.setCell 0 16448 v) 17088 i = u
    have hlt : i < rs.length := (List.getElem?_eq_some_iff.1 hu).1
    rw [e, far 17088 i (.inr ⟨rfl, by omega⟩)]
    exact h.rv i u hu
/-- the law's machine -/
theorem setupX_rep (cs data : List Int) (base : Int) (hc : 16472 + 8 * cs.length ≤ 16960) (hv : ∀ v ∈ cs, V64 v) (hdl : data.length ≤ 16) (hdv : ∀ v ∈ data, V64 v) :
    Rep (setupX cs data base).mt 16472 cs data [] ∧ HeadX (setupX cs data base).mt.S ∧ (setupX cs data base).mt.seen = [] ∧ (setupX cs data base).mt.tells = true := by
  have hM := setupX_i3 cs data base hc hv
  have h0 : Rep (setupX cs data base).m0 16472 cs [] [] := ⟨hM.ok, hM.lay, rfl, rfl, hM.code, rfl, rfl, by simp, by simp, fun i v h => by simp at h, fun i v h => by simp at h⟩
  have ht : data.take 16 = data := List.take_of_length_le hdl
  have h1 := h0.pushD (l := data.take 16) (by rw [ht]; exact hdv) (by rw [ht]; simpa using hdl)
  rw [List.nil_append, ht] at h1
  have h2 := h1.pushR (l := []) (fun v h => by cases h) (by simp)
  have e1 : (setupX cs data base).m1 = ((setupX cs data base).m0.pushD data).pushR [] := by
    unfold Setup.m1
    show ((setupX cs data base).m0.pushD (data.take 16)).pushR [] = _
    rw [ht]
  have hS : (setupX cs data base).m1.S = spush (setupX cs data base).i3 16960 0 data := by rw [e1]; rfl
  have hlow := spush_low data (setupX cs data base).i3 16960 0 hM.ok hM.lay (.inl ⟨rfl, by omega⟩)
  have hh : HeadX (setupX cs data base).m1.S := fun i hi => by
    rw [hS, hlow.2 _ (by omega)]
    exact hM.head i hi
  rw [List.append_nil, ← e1] at h2
  have h3 := h2.base (by omega) base 0 0 0 true
  refine ⟨h3, ?_, by show (setupX cs data base).m1.seen = []; rw [e1]; rfl, rfl⟩
  show HeadX ((setupX cs data base).m1.S.setCell 0 16448 base)
  rw [base_put h2.lay base]
  exact hh.put _ _ (by rw [toB_len, h2.img.len]; have := h2.lay.begs; omega) (.inl (by rw [toB_len]; omega))
end Vm
end Go.Proofs.YtjhdpmimccpcdaaGreatDoor
/- Chapter 11: runs of some cells, in plain words. No condition but those written. -/
namespace Go.Proofs.YtjhdpmimccpcdaaGreatDoor
set_option linter.unusedVariables false
open Go.RowKit Go.Lib
namespace Vm
/-- a step has been done, and the run goes on behind it -/
structure Stepped (x : Rn) (s : Mt) (n : Int) (s' : Mt) (a : Nat) (cs ds rs : List Int) : Prop where
  step : stepS x s = some ⟨0, { x with left := x.left - 1, next := n, pc := n }, s'⟩
  rep : Rep s' a cs ds rs
  tells : s'.tells = s.tells
  seen : s'.seen.length = s.seen.length + (if s.tells then 1 else 0)
/-- an operation that takes n cells off and lays some -/
theorem Rep.stepL {x : Rn} {s : Mt} {a : Nat} {cs ds rs : List Int} (h : Rep s a cs ds rs) (i : Inst) (n m : Nat) (l : Mt → List Int) (out : List Int) (pc : Int) (hl : x.left ≠ 0) (hf : s.S.fetch x.mode x.pc = (i, 0)) (hp : parts i = some (fun x s => laysR n (l s) x s))
    (hw : Code.wants i.op = ((n : Int), (m : Int))) (h26 : i.op ≠ 26) (hneeds : needs i.op = 0) (hret : ∀ b, returns i.op i.arg b = (0, 0)) (hn : n ≤ ds.length) (hm : ds.length - n + m ≤ 16) (hout : l s = out) (hlen : out.length = m) (hv : ∀ v ∈ out, V64 v)
    (hpc : pc = x.pc + 8 * i.cells) (hpc1 : 0 ≤ pc) (hpc2 : pc ≤ 1000000) (hb : x.base = 0) : ∃ s', Stepped x s pc s' a cs (ds.take (ds.length - n) ++ out) rs := by
  have h1 := h.lays n hn out hv (by omega)
  have ha : asks i { x with left := x.left - 1, next := pc } s = 0 := by
    refine h.asked i _ hneeds (by rw [hw]; show (n : Int) ≤ _; omega) h26 (by rw [hw]; show (ds.length : Int) - (n : Int) + (m : Int) ≤ 16; omega) (by rw [hret]; show (0 : Int) ≤ (rs.length : Int) - x.base; omega) (by rw [hret]; have := h.rle; show (rs.length : Int) - 0 + 0 ≤ 8; omega)
  have hq : (fun x s => laysR n (l s) x s) { x with left := x.left - 1, next := pc } s = ⟨(s.lays n out).1, { x with left := x.left - 1, next := pc }, (s.lays n out).2⟩ := by
    show laysR n (l s) _ s = _
    rw [hout]
    rfl
  have hs := stepS_of hl hf hp pc (by rw [← hpc]; exact wrap_pc pc hpc1 hpc2) ha _ hq h1.1
  refine ⟨_, hs, h1.2.1.told _ _, ?_, ?_⟩
  · show ((s.lays n out).2.told _ _).tells = s.tells
    have e : (s.lays n out).2.tells = s.tells := by unfold Mt.lays; split <;> rfl
    unfold Mt.told
    split <;> exact e
  · show ((s.lays n out).2.told _ _).seen.length = _
    have e : (s.lays n out).2.tells = s.tells := by unfold Mt.lays; split <;> rfl
    rw [told_len, e, h1.2.2]
/-- (exit) behind the last cell of the return stack -/
theorem Rep.stepExit {x : Rn} {s : Mt} {a : Nat} {cs ds rs : List Int} {v : Int} (h : Rep s a cs ds (rs ++ [v])) (hl : x.left ≠ 0) (hf : s.S.fetch x.mode x.pc = (⟨1, 0, 0, 1⟩, 0)) (hb : x.base = 0) (hpc1 : 0 ≤ x.pc) (hpc2 : x.pc ≤ 900000) :
    ∃ s', stepS x s = some ⟨0, { x with left := x.left - 1, next := v, pc := v, over := v == 0 }, s'⟩ ∧ Rep s' a cs ds rs ∧ s'.tells = s.tells ∧ s'.seen.length = s.seen.length + (if s.tells then 1 else 0) := by
  have hlr : (rs ++ [v]).length = rs.length + 1 := by simp
  have hw : Code.wants 1 = (0, 0) := by decide
  have hret : ∀ b, returns 1 0 b = (1, 0) := fun b => rfl
  have ha : asks ⟨1, 0, 0, 1⟩ { x with left := x.left - 1, next := x.pc + 8 } s = 0 := by
    refine h.asked _ _ rfl (by show (Code.wants 1).1 ≤ _; rw [hw]; show (0 : Int) ≤ _; omega) (by decide) (by show (ds.length : Int) - (Code.wants 1).1 + (Code.wants 1).2 ≤ 16; rw [hw]; have := h.dle; show (ds.length : Int) - 0 + 0 ≤ 16; omega) (by show (returns 1 0 s.same).1 ≤ _; rw [hret, hlr]; show (1 : Int) ≤ ((rs.length + 1 : Nat) : Int) - x.base; omega) (by show ((rs ++ [v]).length : Int) - (returns 1 0 s.same).1 + (returns 1 0 s.same).2 ≤ 8; rw [hret, hlr]; have := h.rle; rw [hlr] at this; show ((rs.length + 1 : Nat) : Int) - 1 + 0 ≤ 8; omega)
  have ht : s.rtop 0 = v := h.rtop 0 v (by rw [hlr]; omega) (by rw [hlr]; simp)
  have hq : back { x with left := x.left - 1, next := x.pc + 8 } s = ⟨0, { x with left := x.left - 1, next := v, over := v == 0 }, { s with r := s.r - 1 }⟩ := by
    unfold back
    rw [if_neg (by rw [h.r, hlr]; omega), ht]
  have hs := stepS_of (i := ⟨1, 0, 0, 1⟩) hl hf rfl (x.pc + 8) (by show wrap64 (x.pc + 8 * 1) = _; rw [wrap_pc _ (by omega) (by omega)]; omega) ha _ hq rfl
  have hrep : Rep { s with r := s.r - 1 } a cs ds rs := by
    have h2 := h.cutR rs.length (by rw [hlr]; omega)
    rw [List.take_append_of_le_length (Nat.le_refl _), List.take_length] at h2
    have e : s.cutR rs.length = { s with r := s.r - 1 } := by unfold Mt.cutR; rw [h.r, hlr]; rfl
    rw [e] at h2
    exact h2
  refine ⟨_, hs, hrep.told _ _, ?_, ?_⟩
  · show (Mt.told { s with r := s.r - 1 } _ _).tells = s.tells
    unfold Mt.told
    split <;> rfl
  · rw [told_len]
theorem start_fields (m fuel : Int) (pc : Int) : ({ Rn.start m fuel with pc := pc } : Rn) = ⟨m, clip fuel, pc, 0, false, false, 0⟩ := rfl
theorem v64_small (n : Int) (h : 0 ≤ n) (h2 : n ≤ 1000000) : V64 n := by unfold V64; omega
def codeShown : List Int := [2, 5, 21, 33, 1]
/-- LIT 5 DUP * EXIT -/
theorem shown_run {s : Mt} (h : Rep s 16472 codeShown [] []) (ht : s.tells = true) : ∃ q, goesS ((clip 100).toNat + 1) { Rn.start 1 100 with pc := 16472 } (s.pushR [0]) = some q ∧ q.f = 0 ∧ q.x.left = 96 ∧ Rep q.s 16472 codeShown [25] [] ∧ q.s.seen.length = s.seen.length + 4 := by
  have h0 : Rep (s.pushR [0]) 16472 codeShown [] [0] := h.pushR1 0 (by unfold V64; omega) (by simp)
  have e0 : (s.pushR [0]).tells = true := ht
  have n0 : (s.pushR [0]).seen.length = s.seen.length := rfl
  generalize s.pushR [0] = s0 at *
  have hc : clip 100 = 100 := by decide
  rw [hc, start_fields, hc, show (100 : Int).toNat + 1 = 97 + 4 from rfl]
  have f1 := h0.code.fetchLit 1 (by omega) 0 5 rfl rfl
  obtain ⟨s1, t1⟩ := h0.stepL (x := ⟨1, 100, 16472, 0, false, false, 0⟩) ⟨2, 0, 5, 2⟩ 0 1 (fun _ => [5]) [5] 16488 (by decide) f1 rfl (by decide) (by decide) rfl (fun _ => rfl) (by simp) (by simp) rfl rfl (fun v hv => by rw [List.mem_singleton.1 hv]; exact v64_small 5 (by omega) (by omega)) rfl (by omega) (by omega) rfl
  have h1 : Rep s1 16472 codeShown [5] [0] := t1.rep
  have f2 := h1.code.fetch 1 (by omega) 2 21 21 0 rfl (by decide) (by decide) (by decide)
  have a2 : ar s1 1 0 = 5 := h1.arv 1 0 5 (by omega) (by simp) rfl
  obtain ⟨s2, t2⟩ := h1.stepL (x := ⟨1, 99, 16488, 16488, false, false, 0⟩) ⟨21, 0, 0, 1⟩ 1 2 (fun s => [ar s 1 0, ar s 1 0]) [5, 5] 16496 (by decide) f2 rfl (by decide) (by decide) rfl (fun _ => rfl) (by simp) (by simp) (by simp only [a2]) rfl (fun v hv => by
    simp only [List.mem_cons, List.mem_nil_iff, or_false, or_self] at hv
    rw [hv]; exact v64_small 5 (by omega) (by omega)) rfl (by omega) (by omega) rfl
  have h2 : Rep s2 16472 codeShown [5, 5] [0] := t2.rep
  have f3 := h2.code.fetch 1 (by omega) 3 33 33 0 rfl (by decide) (by decide) (by decide)
  have a3 : ar s2 2 0 = 5 := h2.arv 2 0 5 (by omega) (by simp) rfl
  have b3 : ar s2 2 1 = 5 := h2.arv 2 1 5 (by omega) (by simp) rfl
  obtain ⟨s3, t3⟩ := h2.stepL (x := ⟨1, 98, 16496, 16496, false, false, 0⟩) ⟨33, 0, 0, 1⟩ 2 1 (fun s => [wrap64 (ar s 2 0 * ar s 2 1)]) [25] 16504 (by decide) f3 rfl (by decide) (by decide) rfl (fun _ => rfl) (by simp) (by simp) (by simp only [a3, b3]; decide +kernel) rfl (fun v hv => by
    rw [List.mem_singleton.1 hv]; exact v64_small 25 (by omega) (by omega)) rfl (by omega) (by omega) rfl
  have h3 : Rep s3 16472 codeShown [25] ([] ++ [0]) := t3.rep
  have f4 := h3.code.fetch 1 (by omega) 4 1 1 0 rfl (by decide) (by decide) (by decide)
  obtain ⟨s4, t4, h4, e4, n4⟩ := h3.stepExit (x := ⟨1, 97, 16504, 16504, false, false, 0⟩) (by decide) f4 rfl (by decide) (by decide)
  have g1 : goesS (97 + 4) ⟨1, 100, 16472, 0, false, false, 0⟩ s0 = goesS (97 + 3) ⟨1, 99, 16488, 16488, false, false, 0⟩ s1 := goesS_of t1.step rfl rfl
  have g2 : goesS (97 + 3) ⟨1, 99, 16488, 16488, false, false, 0⟩ s1 = goesS (97 + 2) ⟨1, 98, 16496, 16496, false, false, 0⟩ s2 := goesS_of t2.step rfl rfl
  have g3 : goesS (97 + 2) ⟨1, 98, 16496, 16496, false, false, 0⟩ s2 = goesS (97 + 1) ⟨1, 97, 16504, 16504, false, false, 0⟩ s3 := goesS_of t3.step rfl rfl
  have g4 := goesS_end (n := 97) t4 (.inr rfl)
  rw [g1, g2, g3, g4]
  refine ⟨_, rfl, rfl, rfl, h4, ?_⟩
  show s4.seen.length = _
  rw [n4, t3.seen, t2.seen, t1.seen, t3.tells, t2.tells, t1.tells, e0, n0]
  rfl
/-- EXIT alone -/
theorem exit_run {s : Mt} {ds : List Int} (h : Rep s 16472 [1] ds []) (m fuel : Int) (hm : 0 ≤ m ∧ m ≤ 2) : ∃ q, goesS ((clip fuel).toNat + 1) { Rn.start m fuel with pc := 16472 } (s.pushR [0]) = some q ∧ q.f = (if fuel < 1 then 13 else 0) ∧ clip fuel - q.x.left = (if fuel < 1 then 0 else 1) := by
  have h0 : Rep (s.pushR [0]) 16472 [1] ds ([] ++ [0]) := h.pushR1 0 (by unfold V64; omega) (by simp)
  generalize s.pushR [0] = s0 at *
  rw [start_fields]
  by_cases hf : fuel < 1
  · have hc : clip fuel = 0 := by unfold clip; omega
    have hst : stepS ⟨m, clip fuel, 16472, 0, false, false, 0⟩ s0 = some ⟨13, ⟨m, clip fuel, 16472, 0, false, false, 0⟩, s0⟩ := by
      unfold stepS
      rw [if_pos hc]
    rw [if_pos hf, if_pos hf]
    refine ⟨_, goesS_end hst (.inl (by show (13 : Int) ≠ 0; decide)), rfl, ?_⟩
    show clip fuel - clip fuel = 0
    omega
  · have hc : 1 ≤ clip fuel := by unfold clip; omega
    rw [if_neg hf, if_neg hf]
    have f4 := h0.code.fetch m hm 0 1 1 0 rfl (by decide) (by decide) (by decide)
    obtain ⟨s4, t4, h4, e4, n4⟩ := h0.stepExit (x := ⟨m, clip fuel, 16472, 0, false, false, 0⟩) (by show clip fuel ≠ 0; omega) f4 rfl (by show (0 : Int) ≤ 16472; decide) (by show (16472 : Int) ≤ 900000; decide)
    refine ⟨_, goesS_end t4 (.inr rfl), rfl, ?_⟩
    show clip fuel - (clip fuel - 1) = 1
    omega
end Vm
end Go.Proofs.YtjhdpmimccpcdaaGreatDoor
