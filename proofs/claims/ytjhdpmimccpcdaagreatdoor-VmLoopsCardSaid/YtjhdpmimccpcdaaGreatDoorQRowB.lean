/- A byte slice of the call's own, whatever marks its row bears beyond its elements (such as '[]byte(s)' makes): append, reading, storing, reading back as a string. No condition beyond those written in each lemma. -/
import Derived.Test.YtjhdpmimccpcdaaGreatDoorQ03
import Derived.Test.YtjhdpmimccpcdaaGreatDoorQ00
import Derived.Lib.FrozenHead
import Derived.Lib.ConvBytes
import Derived.Maps.AppendAt
namespace Go.Proofs.YtjhdpmimccpcdaaGreatDoor
set_option linter.unusedVariables false
open Go.RowKit Go.Lib

def Clear (fz : Nat × Nat) (sz : Nat) : Prop := fz.2 = 0 ∨ sz ≤ fz.1
/-- the slice v holds the bytes bs, in a row of its own -/
def RowB (w : World) (e : TypeId) (v : Value) (bs : List UInt8) : Prop :=
  (v = .slice none 0 0 ∧ bs = []) ∨
  ∃ g cap cur fz, v = .slice (some ⟨g, 0, none⟩) bs.length cap ∧ w.heap[g]? = some (.cells cur e fz) ∧ Clear fz cap ∧ bs.length ≤ cap ∧ cap ≤ maxLen ∧ cur.size = cap ∧ cur.toList.take bs.length = bcells bs

section
variable {P : Program} {w w' : World} {e : TypeId} {v : Value} {bs : List UInt8}
theorem bcells_len (bs : List UInt8) : (bcells bs).length = bs.length := by simp [bcells]
theorem RowB.nil (w : World) (e : TypeId) : RowB w e (.slice none 0 0) [] := .inl ⟨rfl, rfl⟩
theorem RowB.lt (h : RowB w e v bs) {k : Nat} (hk : v.ownBlock = some k) : k < w.heap.size := by
  rcases h with ⟨rfl, _⟩ | ⟨g, cap, cur, fz, rfl, hg, _⟩
  · simp [Value.ownBlock] at hk
  · have : g = k := by simpa [Value.ownBlock] using hk
    subst this
    exact (Array.getElem?_eq_some_iff.1 hg).1
theorem RowB.of_block (h : RowB w e v bs) (hb : ∀ k, v.ownBlock = some k → w'.heap[k]? = w.heap[k]?) : RowB w' e v bs := by
  rcases h with h | ⟨g, cap, cur, fz, rfl, hg, r⟩
  · exact .inl h
  · exact .inr ⟨g, cap, cur, fz, rfl, by rw [hb g rfl]; exact hg, r⟩
theorem RowB.kept {S : Nat → Prop} (h : RowB w e v bs) (hk : Kept S w w') (hS : ∀ k, v.ownBlock = some k → ¬ S k) : RowB w' e v bs :=
  h.of_block fun k hv => hk.block k (h.lt hv) (hS k hv)
theorem RowB.drew (h : RowB w e v bs) : RowB w.drew e v bs := h
theorem RowB.drewN (h : RowB w e v bs) (n : Nat) : RowB (w.drewN n) e v bs := h
theorem RowB.alloc (h : RowB w e v bs) (o : Obj) : RowB (w.alloc o) e v bs := h.of_block fun k hv => Below.heap_alloc w o k (h.lt hv)
theorem RowB.setCell (h : RowB w e v bs) {p : Addr} (hp : v.ownBlock ≠ some p.block) (u : Value) : RowB (w.setCell p u) e v bs :=
  h.of_block fun k hv => Below.heap_setCell w p u k fun e => hp (by rw [hv, e])
theorem RowB.grown {row : Option Nat} (h : RowB w e v bs) (hg : w.grownBy w' row) (hne : ∀ k, v.ownBlock = some k → some k ≠ row) : RowB w' e v bs :=
  h.of_block fun k hv => hg.block k (h.lt hv) (hne k hv)
theorem RowB.form (h : RowB w e v bs) : ∃ A cap, v = .slice A bs.length cap ∧ cap ≤ maxLen ∧ bs.length ≤ cap ∧ (bs ≠ [] → ∃ g, A = some ⟨g, 0, none⟩ ∧ v.ownBlock = some g) := by
  rcases h with ⟨rfl, rfl⟩ | ⟨g, cap, cur, fz, rfl, hg, hf, h1, h2, _⟩
  · exact ⟨none, 0, rfl, Nat.zero_le _, Nat.le_refl _, fun h => absurd rfl h⟩
  · exact ⟨_, cap, rfl, h2, h1, fun _ => ⟨g, rfl, rfl⟩⟩
theorem RowB.cells (h : RowB w e v bs) {g : Nat} (hg : v.ownBlock = some g) (j : Nat) (hj : j < bs.length) : w.cell? ⟨g, j, none⟩ = some (.int .u8 ((bs[j]).toNat : Int)) := by
  rcases h with ⟨rfl, _⟩ | ⟨g', cap, cur, fz, rfl, hgg, hf, h1, h2, h3, h4⟩
  · simp [Value.ownBlock] at hg
  · have : g' = g := by simpa [Value.ownBlock] using hg
    subst this
    rw [cell_of_row w g' j cur e fz hgg]
    have hx : (cur.toList.take bs.length)[j]? = (bcells bs)[j]? := by rw [h4]
    rw [List.getElem?_take, if_pos hj] at hx
    simpa [bcells, hj] using hx
theorem RowB.frozen (h : RowB w e v bs) {g : Nat} (hg : v.ownBlock = some g) (j : Nat) (hj : j < bs.length) : w.frozen? ⟨g, j, none⟩ = false := by
  rcases h with ⟨rfl, _⟩ | ⟨g', cap, cur, fz, rfl, hgg, hf, h1, h2, h3, h4⟩
  · simp [Value.ownBlock] at hg
  · have : g' = g := by simpa [Value.ownBlock] using hg
    subst this
    obtain ⟨lo, hi⟩ := fz
    simp only [World.frozen?, hgg, Bool.and_eq_false_iff, decide_eq_false_iff_not]
    unfold Clear at hf
    simp only at hf
    omega
/-- a byte stored -/
theorem RowB.set_ (h : RowB w e v bs) {g : Nat} (hg : v.ownBlock = some g) (j : Nat) (hj : j < bs.length) (c : UInt8) (d : Int) (hd : d = (c.toNat : Int)) : RowB (w.setCell ⟨g, j, none⟩ (.int .u8 d)) e v (bs.set j c) := by
  subst hd
  rcases h with ⟨rfl, _⟩ | ⟨g', cap, cur, fz, rfl, hgg, hf, h1, h2, h3, h4⟩
  · simp [Value.ownBlock] at hg
  · have : g' = g := by simpa [Value.ownBlock] using hg
    subst this
    refine .inr ⟨g', cap, cur.setIfInBounds j (.int .u8 (c.toNat : Int)), fz, by rw [List.length_set], ?_, hf, by rw [List.length_set]; exact h1, h2, by simpa using h3, ?_⟩
    · simp [World.setCell, Array.getElem?_modify, hgg]
    · rw [Array.toList_setIfInBounds, List.length_set, List.take_set, h4]
      simp [bcells, List.map_set]
theorem RowB.of_buf (h : Buf w e v bs) : RowB w e v bs := by
  rcases h.2 with ⟨rfl, h2⟩ | ⟨g, cap, cur, rfl, _, hh, h3, h4, h5, h6⟩
  · exact .inl ⟨rfl, List.eq_nil_of_length_eq_zero h2⟩
  · exact .inr ⟨g, cap, cur, (0, 0), rfl, hh, .inl rfl, h3, h4, by simpa using h5, by simpa using h6⟩
theorem RowB.to_string (h : RowB w e v bs) (src dst : TypeId) (hs : P.underlying src = some (.slice e)) (he : P.underlying e = some (.int .u8)) (hd : P.underlying dst = some .string) :
    (convert src dst v).run P w = .ok (.string ⟨bs.toArray⟩) w := by
  rcases id h with ⟨rfl, rfl⟩ | ⟨g, cap, cur, fz, rfl, hg, _⟩
  · exact run_convert_bytes_nil w src e hs he 0 0 dst hd
  · refine run_convert_bytes_back w src dst e ⟨g, 0, none⟩ cap bs hs he hd fun j hj => ?_
    have hadd : (⟨g, 0, none⟩ : Addr).add j = ⟨g, j, none⟩ := by unfold Addr.add; split <;> simp_all
    rw [hadd]
    exact h.cells rfl j hj
/-- '[]byte(s)' -/
theorem RowB.of_string (w : World) (e : TypeId) (s : ByteArray) (hs : s.size ≤ maxLen) : RowB (bytesWorld w e s) e (.slice (some ⟨w.heap.size, 0, none⟩) s.size (grownCap w s.size 0 e)) s.data.toList := by
  have hge := grownCap_ge w s.size 0 e
  have hle := grownCap_le_maxLen w s.size 0 e hs
  have hl : s.data.toList.length = s.size := by rw [Array.length_toList]; rfl
  have hsz : s.data.size = s.size := rfl
  have hc : (bytesCells w e s).size = grownCap w s.size 0 e := by
    unfold bytesCells
    simp only [Array.size_append, Array.size_map, Array.size_replicate]
    omega
  refine .inr ⟨w.heap.size, grownCap w s.size 0 e, bytesCells w e s, _, by rw [hl], bytesWorld_at_new w e s, .inr (by simp only [hc]; exact Nat.le_refl _), by omega, hle, hc, ?_⟩
  unfold bytesCells
  rw [Array.toList_append, List.take_append_of_le_length (by simp), List.take_of_length_le (by simp)]
  simp [bcells]
theorem bytesWorld_kept (w : World) (e : TypeId) (s : ByteArray) : Kept Nob w (bytesWorld w e s) :=
  ⟨rfl, rfl, rfl, by rw [bytesWorld_size]; omega, fun k hk _ => bytesWorld_at_old w e s k hk⟩

/-! ### append -/
theorem run_storeCells_atC (P : Program) (g o : Nat) (t : TypeId) (fz : Nat × Nat) (cap : Nat) (hfz : Clear fz cap) : ∀ (vs : List Value) (i : Nat) (cur : Array Value) (w : World), w.heap[g]? = some (.cells cur t fz) → cur.size = cap → o + i + vs.length ≤ cur.size → (∀ v ∈ vs, v.oneCell' = true) →
    (storeCells ⟨g, o, none⟩ vs i).run P w = .ok () (w.setRow g (cur.toList.take (o + i) ++ vs ++ cur.toList.drop (o + i + vs.length)).toArray)
  | [], i, cur, w, hg, _, _, _ => by
    simp only [storeCells, List.append_nil, List.length_nil, Nat.add_zero, List.take_append_drop, Array.toArray_toList]
    rw [setRow_self w g cur t fz hg]
    rfl
  | v :: rest, i, cur, w, hg, hcs, hl, h1 => by
    have hi : o + i < cur.size := by simp at hl; omega
    have hadd : (⟨g, o, none⟩ : Addr).add i = ⟨g, o + i, none⟩ := by unfold Addr.add; split <;> simp_all
    have hcell : w.cell? ⟨g, o + i, none⟩ = some cur[o + i] := by simp [World.cell?, hg, hi]
    have hfro : w.frozen? ⟨g, o + i, none⟩ = false := by
      obtain ⟨lo, hi'⟩ := fz
      simp only [World.frozen?, hg, Bool.and_eq_false_iff, decide_eq_false_iff_not]
      unfold Clear at hfz
      simp only at hfz
      omega
    have hst : (store ((⟨g, o, none⟩ : Addr).add i) v).run P w = .ok () (w.setRow g (cur.setIfInBounds (o + i) v)) := by
      rw [hadd, run_store P w _ v _ (h1 v (by simp)), hcell]
      simp [hfro, setCell_eq_setRow w g (o + i) cur t fz v hg]
    have ih := run_storeCells_atC P g o t fz cap hfz rest (i + 1) (cur.setIfInBounds (o + i) v) (w.setRow g (cur.setIfInBounds (o + i) v)) (setRow_heap w g cur _ t _ hg) (by simpa using hcs) (by simp at hl ⊢; omega) (fun x hx => h1 x (by simp [hx]))
    simp only [storeCells, Sem.run_bind, hst, Result.andThen_ok, ih, setRow_setRow]
    congr 3
    have e := list_seg_step cur.toList (o + i) v rest (by simp at hl ⊢; omega)
    simpa [Array.toList_setIfInBounds, Nat.add_assoc] using e
theorem bcells_one (l : List UInt8) : ∀ u ∈ bcells l, u.oneCell' = true := by
  intro u hu
  obtain ⟨c, _, rfl⟩ := List.mem_map.1 hu
  rfl
/-- where the new slice lies -/
structure Grew (w w' : World) (e : TypeId) (v : Value) (v' : Value) (bs : List UInt8) : Prop where
  row : RowB w' e v' bs
  grown : w.grownBy w' v.ownBlock
  lies : v'.ownBlock = v.ownBlock ∨ v'.ownBlock = some w.heap.size
theorem Grew.kept {v' : Value} (h : Grew w w' e v v' bs) : Kept (fun k => v.ownBlock = some k) w w' :=
  ⟨h.grown.os, h.grown.tape, h.grown.output, h.grown.size, fun k hk hs => h.grown.block k hk (fun e => hs e.symm)⟩
/-- what a row that grew anew holds -/
theorem rowB_fresh (w : World) (e : TypeId) (bs ns : List UInt8) (k : Nat) (hk : bs.length + ns.length ≤ k) (hm : k ≤ maxLen) :
    RowB (w.drew.alloc (.cells ((bcells bs).toArray ++ (bcells ns).toArray ++ Builtin.zeroCells (Value.int .u8 0).cells (k - (bs.length + ns.length))) e)) e (.slice (some ⟨w.heap.size, 0, none⟩) (bs.length + ns.length) k) (bs ++ ns) := by
  refine .inr ⟨w.heap.size, k, _, (0, 0), by rw [List.length_append], heap_alloc_new w.drew _, .inl rfl, by rw [List.length_append]; exact hk, hm, ?_, ?_⟩
  · simp only [Array.size_append, List.size_toArray, bcells_len, size_zeroCells]
    have : (Value.int .u8 0).cells.size = 1 := rfl
    rw [this]
    omega
  · rw [Array.toList_append, Array.toList_append, List.take_append_of_le_length (by simp [bcells_len]), List.take_of_length_le (by simp [bcells_len])]
    simp [bcells]
theorem ownBlock_none (w : World) (hs : v = .slice none 0 0) : v.ownBlock = none := by subst hs; rfl
/-- 'append(b, ns...)', the bytes at an address at hand -/
theorem run_append_rowB {P : Program} (w : World) (t ty e : TypeId) (i : TypeInfo) (ht : P.underlying t = some (.slice e)) (hi : P.info? e = some i) (hz : i.zero = some (.int .u8 0)) (hsize : i.size = 1) (hby : i.bytes = 1)
    (v : Value) (bs : List UInt8) (h : RowB w e v bs) (a : Addr) (c : Nat) (ns : List UInt8) (hns : ∀ j (hj : j < ns.length), w.cell? (a.add j) = some (.int .u8 ((ns[j]).toNat : Int))) (h0 : ns ≠ []) (hb : bs.length + ns.length ≤ 140737488355328) :
    ∃ v' w', (Builtin.append_ #[t, t] ty #[v, .slice (some a) ns.length c]).run P w = .ok v' w' ∧ Grew w w' e v v' (bs ++ ns) := by
  have hnews : ∀ j u, (bcells ns)[j]? = some u → w.cell? (a.add j) = some u := by
    intro j u hj
    have hj' : j < ns.length := by have := (List.getElem?_eq_some_iff.1 hj).1; simpa [bcells] using this
    rw [hns j hj']
    simpa [bcells, hj'] using hj
  have hl0 : 0 < ns.length := List.length_pos_iff.2 h0
  have hml : bs.length + ns.length ≤ maxLen := by unfold maxLen; omega
  rcases h with ⟨rfl, rfl⟩ | ⟨g, cap, cur, fz, rfl, hg, hf, h1, h2, h3, h4⟩
  · have hr := run_append_nil (P := P) w t ty e i (.int .u8 0) ht hi hz a ns.length c (bcells ns) (by rw [bcells_len, hsize, Nat.mul_one]) hnews (by omega) (by unfold maxLen at hml; simp at hml; omega) (by rw [hby]; simp at hb; omega)
    refine ⟨_, _, hr, ?_, ?_, ?_⟩
    · have hge := grownCap_ge w ns.length 0 e
      have hle := grownCap_le_maxLen w ns.length 0 e (by simpa using hml)
      have := rowB_fresh w e [] ns (grownCap w ns.length 0 e) (by simpa using hge) hle
      simpa [bcells] using this
    · exact ⟨rfl, rfl, rfl, by simp, fun k hk _ => Below.heap_alloc w.drew _ _ hk⟩
    · exact .inr rfl
  · by_cases hroom : bs.length + ns.length ≤ cap
    · have hff := run_firstCells_some (P := P) w i.size ns.length a ns.length c (bcells ns) (by rw [bcells_len, hsize, Nat.mul_one]) hnews
      have hst := run_storeCells_atC P g bs.length e fz cap hf (bcells ns) 0 cur w hg h3 (by rw [bcells_len]; omega) (bcells_one ns)
      simp only [Nat.add_zero] at hst
      have hr : (Builtin.append_ #[t, t] ty #[.slice (some ⟨g, 0, none⟩) bs.length cap, .slice (some a) ns.length c]).run P w = .ok (.slice (some ⟨g, 0, none⟩) (bs.length + ns.length) cap) (w.setRow g (cur.toList.take bs.length ++ bcells ns ++ cur.toList.drop (bs.length + (bcells ns).length)).toArray) := by
        rw [hsize] at hff
        simp [Builtin.append_, run_underlying ht, sizeOf, typeInfo, hi, hsize, Builtin.lenOf, hroom, hff, Addr.add_lit, hst]
      refine ⟨_, _, hr, ?_, ?_, .inl rfl⟩
      · refine .inr ⟨g, cap, _, fz, by rw [List.length_append], setRow_heap w g cur _ e _ hg, hf, by rw [List.length_append]; exact hroom, h2, ?_, ?_⟩
        · simp only [List.size_toArray, List.length_append, List.length_take, List.length_drop, Array.length_toList, bcells_len]
          omega
        · rw [h4, List.length_append, bcells_append]
          have : bs.length + ns.length = (bcells bs ++ bcells ns).length := by simp [bcells_len]
          rw [this]
          exact List.take_left
      · exact ⟨rfl, rfl, rfl, by simp, fun k _ hk => setRow_other w g k _ (fun e => hk (by simp [Value.ownBlock, e]))⟩
    · have holds : ∀ j u, (bcells bs)[j]? = some u → w.cell? ((⟨g, 0, none⟩ : Addr).add j) = some u := by
        intro j u hj
        have hj' : j < bs.length := by have := (List.getElem?_eq_some_iff.1 hj).1; simpa [bcells] using this
        have hadd : (⟨g, 0, none⟩ : Addr).add j = ⟨g, j, none⟩ := by unfold Addr.add; split <;> simp_all
        rw [hadd, RowB.cells (v := .slice (some ⟨g, 0, none⟩) bs.length cap) (.inr ⟨g, cap, cur, fz, rfl, hg, hf, h1, h2, h3, h4⟩) rfl j hj']
        simpa [bcells, hj'] using hj
      have hr := run_append_grow (P := P) w t ty e i (.int .u8 0) ht hi hz ⟨g, 0, none⟩ bs.length cap (bcells bs) (by rw [bcells_len, hsize, Nat.mul_one]) holds a ns.length c (bcells ns) (by rw [bcells_len, hsize, Nat.mul_one]) hnews (by omega) (by omega) (growslice_fits (by omega) (by rw [hby]; omega))
      refine ⟨_, _, hr, ?_, ?_, .inr rfl⟩
      · exact rowB_fresh w e bs ns _ (grownCap_ge w _ cap e) (grownCap_le_maxLen w _ cap e hml)
      · exact ⟨rfl, rfl, rfl, by simp, fun k hk _ => Below.heap_alloc w.drew _ _ hk⟩
/-- the same, as one step of a region that draws its order; the bytes lie in a block known whole -/
theorem step_append_rowB {P : Program} {w : World} {ops : Array Oper} {o : Oper} {a : Act} {K : Act → World → Prop} {Q : Exit → Act → World → Prop} {E : Prop} (hgd : o.guard = none) (sl x : Operand) (t : TypeId)
    (ho : o.op = .call { callee := .builtin .append, args := #[sl, x], argTypes := #[t, t] })
    (e : TypeId) (i : TypeInfo) (ht : P.underlying t = some (.slice e)) (hi : P.info? e = some i) (hz : i.zero = some (.int .u8 0)) (hsize : i.size = 1) (hby : i.bytes = 1)
    (v : Value) (bs : List UInt8) (hs : a.eval sl = v) (hown : RowB w e v bs) (g c : Nat) (ns : List UInt8) (hx : a.eval x = .slice (some ⟨g, 0, none⟩) ns.length c) (hg : Blk w g e (bcells ns).toArray) (h0 : ns ≠ []) (hb : bs.length + ns.length ≤ 140737488355328)
    (h : ∀ v' w', Grew w w' e v v' (bs ++ ns) → K (a.put o.dst v') w') :
    if Region.wanted o (yielded ops a.tmps) = true then Oper.wp P o a w K Q else E := by
  have hw : Region.wanted o (yielded ops a.tmps) = true := by simp [Region.wanted, hgd]
  rw [if_pos hw]
  have hns : ∀ j (hj : j < ns.length), w.cell? ((⟨g, 0, none⟩ : Addr).add j) = some (.int .u8 ((ns[j]).toNat : Int)) := by
    intro j hj
    have hadd : (⟨g, 0, none⟩ : Addr).add j = ⟨g, j, none⟩ := by unfold Addr.add; split <;> simp_all
    rw [hadd, hg.cell j]
    simp [bcells, hj]
  obtain ⟨v', w', hr, h2⟩ := run_append_rowB (P := P) w t o.type e i ht hi hz hsize hby v bs hown ⟨g, 0, none⟩ c ns hns h0 hb
  unfold Oper.wp execOp
  simp only [ho, resolve, invoke, builtin, Sem.run_bind, Sem.run_pure, Result.andThen_ok, List.map_toArray, List.map_cons, List.map_nil, hs, hx, hr]
  exact h v' w' h2
/-- the same, at the list of a plain region's operations -/
theorem wpList_append_rowB {P : Program} {w : World} {ops : Array Oper} {rest : List Oper} {o : Oper} {a : Act} {Q : Exit → Act → World → Prop} (hgd : o.guard = none) (sl x : Operand) (t : TypeId)
    (ho : o.op = .call { callee := .builtin .append, args := #[sl, x], argTypes := #[t, t] })
    (e : TypeId) (i : TypeInfo) (ht : P.underlying t = some (.slice e)) (hi : P.info? e = some i) (hz : i.zero = some (.int .u8 0)) (hsize : i.size = 1) (hby : i.bytes = 1)
    (v : Value) (bs : List UInt8) (hs : a.eval sl = v) (hown : RowB w e v bs) (g c : Nat) (ns : List UInt8) (hx : a.eval x = .slice (some ⟨g, 0, none⟩) ns.length c) (hg : Blk w g e (bcells ns).toArray) (h0 : ns ≠ []) (hb : bs.length + ns.length ≤ 140737488355328)
    (h : ∀ v' w', Grew w w' e v v' (bs ++ ns) → wpList P ops Q rest (a.put o.dst v') w') : wpList P ops Q (o :: rest) a w := by
  refine wpList_plain hgd fun K hK => ?_
  have hns : ∀ j (hj : j < ns.length), w.cell? ((⟨g, 0, none⟩ : Addr).add j) = some (.int .u8 ((ns[j]).toNat : Int)) := by
    intro j hj
    have hadd : (⟨g, 0, none⟩ : Addr).add j = ⟨g, j, none⟩ := by unfold Addr.add; split <;> simp_all
    rw [hadd, hg.cell j]
    simp [bcells, hj]
  obtain ⟨v', w', hr, h2⟩ := run_append_rowB (P := P) w t o.type e i ht hi hz hsize hby v bs hown ⟨g, 0, none⟩ c ns hns h0 hb
  unfold Oper.wp execOp
  simp only [ho, resolve, invoke, builtin, Sem.run_bind, Sem.run_pure, Result.andThen_ok, List.map_toArray, List.map_cons, List.map_nil, hs, hx, hr]
  exact hK _ _ (h v' w' h2)
end
/-- a byte slice of the call's own, as an object -/
def RowA (e : TypeId) (v : Value) (bs : List UInt8) : Asr where
  holds w F := RowB w e v bs ∧ ∀ k, F k ↔ v.ownBlock = some k
  lt h hk := h.1.lt ((h.2 _).1 hk)
  kept h hk hT := ⟨h.1.kept hk fun k hv => hT k ((h.2 k).2 hv), h.2⟩
section
variable {w0 w w' : World} {L : List Asr} {e : TypeId} {v v' : Value} {bs bs' : List UInt8}
theorem At.row (h : At w0 w (RowA e v bs :: L)) : RowB w e v bs := by obtain ⟨F, hF⟩ := h.first; exact hF.1
theorem At.grew (h : At w0 w (RowA e v bs :: L)) (hg : Grew w w' e v v' bs') : At w0 w' (RowA e v' bs' :: L) :=
  h.step fun F hF => ⟨fun k => v'.ownBlock = some k, ⟨hg.row, fun _ => Iff.rfl⟩, hg.kept.mono (fun k hk => (hF.2 k).2 hk), fun k hk => by
    rcases hg.lies with h1 | h1
    · exact .inl ((hF.2 k).2 (h1 ▸ hk))
    · exact .inr (Nat.le_of_eq (Option.some.inj (h1.symm.trans hk)))⟩
theorem At.bytes (h : At w0 w L) (e : TypeId) (s : ByteArray) (hs : s.size ≤ maxLen) : At w0 (bytesWorld w e s) (RowA e (.slice (some ⟨w.heap.size, 0, none⟩) s.size (grownCap w s.size 0 e)) s.data.toList :: L) :=
  h.add (A := RowA e (.slice (some ⟨w.heap.size, 0, none⟩) s.size (grownCap w s.size 0 e)) s.data.toList) (F' := fun k => k = w.heap.size) ⟨RowB.of_string w e s hs, fun k => by simp [Value.ownBlock]; exact eq_comm⟩ (bytesWorld_kept w e s) (fun k hk => Nat.le_of_eq hk.symm)
theorem At.rowNil (h : At w0 w L) (e : TypeId) : At w0 w (RowA e (.slice none 0 0) [] :: L) :=
  h.add (A := RowA e (.slice none 0 0) []) (F' := Nob) ⟨RowB.nil w e, fun k => by simp [Value.ownBlock, Nob]⟩ (Kept.refl _ _) (fun _ h => h.elim)
theorem At.setByte (h : At w0 w (RowA e v bs :: L)) {g : Nat} (hg : v.ownBlock = some g) (j : Nat) (hj : j < bs.length) (c : UInt8) (d : Int) (hd : d = (c.toNat : Int)) : At w0 (w.setCell ⟨g, j, none⟩ (.int .u8 d)) (RowA e v (bs.set j c) :: L) :=
  h.step fun F hF => ⟨F, ⟨hF.1.set_ hg j hj c d hd, hF.2⟩, Kept.setCell (Kept.refl _ _) (.inl ((hF.2 _).2 hg)) _, fun _ h => .inl h⟩
end
end Go.Proofs.YtjhdpmimccpcdaaGreatDoor
