/- Words for memory, and what is kept of it: plain lemmas on worlds, blocks and owned byte slices. No condition beyond those written in each lemma. -/
import Derived.Test.YthejfkkmcbdlhaaGreatDoorRows
import Derived.WalkKit
import Derived.WalkSpells
import Derived.WalkLawsBesides
import Derived.Deep.QuietTactic
import Derived.BigQuiet
import Derived.Deep.AppendLies
import Derived.Deep.RegionLaw
import Derived.Deep.Draws
import Derived.Lib.AppendStr
import Derived.Lib.Hide
import Derived.Shelf.Small.Strs
import Derived.Shelf.Strings.Search1
import Derived.StillTailTactics
namespace Go.Proofs.YthejfkkmcbdlhaaGreatDoor
set_option linter.unusedVariables false
open Go.RowKit Go.Lib

/-! ### A block that is known whole -/
def Blk (w : World) (g : Nat) (t : TypeId) (cs : Array Value) : Prop := w.heap[g]? = some (.cells cs t (0, 0))

/-- Outside S nothing that was there has turned. -/
structure Kept (S : Nat → Prop) (w w' : World) : Prop where
  os : w'.os = w.os
  tape : w'.tape = w.tape
  output : w'.output = w.output
  size : w.heap.size ≤ w'.heap.size
  block : ∀ k, k < w.heap.size → ¬ S k → w'.heap[k]? = w.heap[k]?

def Nob : Nat → Prop := fun _ => False

section
variable {S T : Nat → Prop} {w w1 w' : World}
theorem Kept.refl (S : Nat → Prop) (w : World) : Kept S w w := ⟨rfl, rfl, rfl, Nat.le_refl _, fun _ _ _ => rfl⟩
theorem Kept.trans (h : Kept S w w1) (k : Kept S w1 w') : Kept S w w' :=
  ⟨k.os.trans h.os, k.tape.trans h.tape, k.output.trans h.output, Nat.le_trans h.size k.size,
    fun i hi hs => (k.block i (Nat.lt_of_lt_of_le hi h.size) hs).trans (h.block i hi hs)⟩
/-- Two steps, the second over a footprint that may hold blocks made by the first. -/
theorem Kept.trans' (h : Kept S w w1) (k : Kept T w1 w') (hT : ∀ i, T i → S i ∨ w.heap.size ≤ i) : Kept S w w' :=
  ⟨k.os.trans h.os, k.tape.trans h.tape, k.output.trans h.output, Nat.le_trans h.size k.size,
    fun i hi hs => (k.block i (Nat.lt_of_lt_of_le hi h.size) (fun ht => by rcases hT i ht with h1 | h1; exact hs h1; omega)).trans (h.block i hi hs)⟩
theorem Kept.mono (h : Kept S w w') (hST : ∀ k, S k → T k) : Kept T w w' :=
  ⟨h.os, h.tape, h.output, h.size, fun k hk ht => h.block k hk fun hs => ht (hST k hs)⟩
theorem Kept.drew (h : Kept S w w') : Kept S w w'.drew := ⟨h.os, h.tape, h.output, h.size, h.block⟩
theorem Kept.drewN (h : Kept S w w') (n : Nat) : Kept S w (w'.drewN n) := ⟨h.os, h.tape, h.output, h.size, h.block⟩
theorem Kept.alloc (h : Kept S w w') (o : Obj) : Kept S w (w'.alloc o) :=
  h.trans ⟨rfl, rfl, rfl, by simp, fun k hk _ => Below.heap_alloc _ _ _ (by omega)⟩
theorem Kept.setCell (h : Kept S w w') {p : Addr} (hp : S p.block ∨ w.heap.size ≤ p.block) (u : Value) : Kept S w (w'.setCell p u) :=
  ⟨h.os, h.tape, h.output, Nat.le_trans h.size (by simp [World.setCell]), fun k hk hs => by
    rw [Below.heap_setCell _ _ _ _ (fun e => by subst e; rcases hp with hp | hp; exact hs hp; omega)]
    exact h.block k hk hs⟩
theorem Kept.grown (h : Kept S w w') {row : Option Nat} (hg : w'.grownBy w1 row) (hr : ∀ k, row = some k → S k ∨ w.heap.size ≤ k) : Kept S w w1 :=
  ⟨hg.os.trans h.os, hg.tape.trans h.tape, hg.output.trans h.output, Nat.le_trans h.size hg.size, fun k hk hs =>
    (hg.block k (Nat.lt_of_lt_of_le hk h.size) (fun e => by rcases hr k e.symm with h1 | h1; exact hs h1; omega)).trans (h.block k hk hs)⟩
theorem Kept.ofBelow {B : Nat} (h : Below B w w') : Kept (fun k => B ≤ k) w w' :=
  ⟨h.os, h.tape, h.output, h.size, fun k _ hs => h.block k (by omega)⟩
theorem Kept.below {B : Nat} (h : Kept S w w') (hS : ∀ k, S k → B ≤ k) (hB : B ≤ w.heap.size) : Below B w w' :=
  ⟨h.os, h.tape, h.output, h.size, fun k hk => h.block k (by omega) fun hs => by have := hS k hs; omega⟩
theorem Kept.below0 (h : Kept Nob w w') : Below w.heap.size w w' := h.below (fun _ h => h.elim) (Nat.le_refl _)
theorem Below.andKept {B : Nat} {a : World} (h : Below B a w) (k : Kept S w w') (hS : ∀ k, S k → B ≤ k) (hB : B ≤ a.heap.size) : Below B a w' :=
  h.trans (k.below hS (Nat.le_trans hB h.size))
theorem Kept.cell (h : Kept S w w') {p : Addr} {v : Value} (hc : w.cell? p = some v) (hp : ¬ S p.block) : w'.cell? p = some v :=
  (World.cell?_of_block (w := w) (h.block p.block (World.block_lt_of_cell? w p hc) hp)).trans hc
theorem Kept.cell' (h : Kept S w w') {p : Addr} (hc : p.block < w.heap.size) (hp : ¬ S p.block) : w'.cell? p = w.cell? p :=
  World.cell?_of_block (w := w) (h.block p.block hc hp)
end

section
variable {S : Nat → Prop} {w w' : World} {g : Nat} {t : TypeId} {cs : Array Value}
theorem Blk.lt (h : Blk w g t cs) : g < w.heap.size := by
  rcases Nat.lt_or_ge g w.heap.size with hlt | hge
  · exact hlt
  · unfold Blk at h; rw [Array.getElem?_eq_none hge] at h; cases h
theorem Blk.cell (h : Blk w g t cs) (i : Nat) : w.cell? ⟨g, i, none⟩ = cs[i]? := cell_of_row w g i cs t (0, 0) h
theorem Blk.frozen (h : Blk w g t cs) (i : Nat) : w.frozen? ⟨g, i, none⟩ = false := by
  unfold Blk at h
  simp [World.frozen?, h]
theorem Blk.new (w : World) (t : TypeId) (cs : Array Value) : Blk (w.alloc (.cells cs t)) w.heap.size t cs := heap_alloc_new w _
theorem Blk.new' {w : World} {g : Nat} {t : TypeId} {cs : Array Value} (h : g = w.heap.size) : Blk (w.alloc (.cells cs t)) g t cs := by subst h; exact heap_alloc_new w _
theorem Blk.drew (h : Blk w g t cs) : Blk w.drew g t cs := h
theorem Blk.drewN (h : Blk w g t cs) (n : Nat) : Blk (w.drewN n) g t cs := h
theorem Blk.alloc (h : Blk w g t cs) (o : Obj) : Blk (w.alloc o) g t cs := (Below.heap_alloc w o g h.lt).trans h
theorem Blk.set_ (h : Blk w g t cs) (i : Nat) (u : Value) : Blk (w.setCell ⟨g, i, none⟩ u) g t (cs.setIfInBounds i u) := by
  unfold Blk at h ⊢
  simp [World.setCell, Array.getElem?_modify, h]
theorem Blk.far (h : Blk w g t cs) {p : Addr} (hp : g ≠ p.block) (u : Value) : Blk (w.setCell p u) g t cs := (Below.heap_setCell w p u g hp).trans h
theorem Blk.kept (h : Blk w g t cs) (hk : Kept S w w') (hS : ¬ S g) : Blk w' g t cs := (hk.block g h.lt hS).trans h
theorem Blk.below {B : Nat} (h : Blk w g t cs) (hb : Below B w w') (hg : g < B) : Blk w' g t cs := (hb.block g hg).trans h
theorem Blk.grown {row : Option Nat} (h : Blk w g t cs) (hb : w.grownBy w' row) (hg : some g ≠ row) : Blk w' g t cs := (hb.block g h.lt hg).trans h
theorem Blk.ne_ {g' : Nat} {t' : TypeId} {cs' : Array Value} (h : Blk w g t cs) (h' : Blk w g' t' cs') (hne : t ≠ t') : g ≠ g' := by
  rintro rfl
  unfold Blk at h h'
  rw [h] at h'
  injection h' with h'
  injection h' with _ ht
  exact hne ht
end

/-! ### A byte slice of our own -/
def bcells (bs : List UInt8) : List Value := bs.map fun b => .int .u8 b.toNat
def Buf (w : World) (e : TypeId) (v : Value) (bs : List UInt8) : Prop := w.ownsRow 0 e 1 v bs.length (bcells bs)

section
variable {S : Nat → Prop} {w w' : World} {e : TypeId} {v : Value} {bs : List UInt8}
theorem Buf.nil (w : World) (e : TypeId) : Buf w e (.slice none 0 0) [] := World.ownsRow_nil w 0 e 1
theorem Buf.lt (h : Buf w e v bs) {k : Nat} (hk : v.ownBlock = some k) : k < w.heap.size := (World.ownsRow.lt h k hk).2
theorem Buf.of_block (h : Buf w e v bs) (hb : ∀ k, v.ownBlock = some k → w'.heap[k]? = w.heap[k]?) : Buf w' e v bs := by
  refine ⟨h.1, ?_⟩
  rcases h.2 with h2 | ⟨g, cap, cur, rfl, hg, hh, r⟩
  · exact .inl h2
  · exact .inr ⟨g, cap, cur, rfl, hg, by rw [hb g rfl]; exact hh, r⟩
theorem Buf.kept (h : Buf w e v bs) (hk : Kept S w w') (hS : ∀ k, v.ownBlock = some k → ¬ S k) : Buf w' e v bs :=
  h.of_block fun k hv => hk.block k (h.lt hv) (hS k hv)
theorem Buf.drew (h : Buf w e v bs) : Buf w.drew e v bs := h
theorem Buf.drewN (h : Buf w e v bs) (n : Nat) : Buf (w.drewN n) e v bs := h
theorem Buf.alloc (h : Buf w e v bs) (o : Obj) : Buf (w.alloc o) e v bs := h.of_block fun k hv => Below.heap_alloc w o k (h.lt hv)
theorem Buf.setCell (h : Buf w e v bs) {p : Addr} (hp : v.ownBlock ≠ some p.block) (u : Value) : Buf (w.setCell p u) e v bs :=
  h.of_block fun k hv => Below.heap_setCell w p u k fun e => hp (by rw [hv, e])
theorem Buf.ne_blk {g : Nat} {t : TypeId} {cs : Array Value} (h : Buf w e v bs) (hg : Blk w g t cs) (hne : e ≠ t) : v.ownBlock ≠ some g := by
  rcases h.2 with ⟨rfl, _⟩ | ⟨g', cap, cur, rfl, _, hh, _⟩
  · simp [Value.ownBlock]
  · intro he
    have : g' = g := by simpa [Value.ownBlock] using he
    subst this
    exact Blk.ne_ (t := e) hh hg hne rfl
theorem Buf.form (h : Buf w e v bs) : (v = .slice none 0 0 ∧ bs = []) ∨ ∃ g cap, v = .slice (some ⟨g, 0, none⟩) bs.length cap ∧ v.ownBlock = some g ∧ bs.length ≤ cap ∧ cap ≤ maxLen := by
  rcases h.2 with ⟨rfl, h2⟩ | ⟨g, cap, cur, rfl, hg, hh, h3, h4, _⟩
  · exact .inl ⟨rfl, List.eq_nil_of_length_eq_zero h2⟩
  · exact .inr ⟨g, cap, rfl, rfl, h3, h4⟩
theorem Buf.len (h : Buf w e v bs) : bs.length ≤ maxLen := by
  rcases h.form with ⟨_, rfl⟩ | ⟨_, _, _, _, h1, h2⟩
  · simp
  · omega
theorem bcells_str (s : ByteArray) : strCells s = bcells s.data.toList := rfl

/-- append of a string's bytes: the new value, and where it lies. -/
theorem run_append_buf {P : Program} (w : World) (t u ty e : TypeId) (i : TypeInfo) (ht : P.underlying t = some (.slice e)) (hu : P.underlying u = some .string) (hi : P.info? e = some i) (hz : i.zero = some (.int .u8 0))
    (hsize : i.size = 1) (hby : i.bytes = 1) (v : Value) (bs : List UInt8) (hown : Buf w e v bs) (s : ByteArray) (hbytes : bs.length + s.size ≤ 140737488355328) :
    ∃ v' w', (Builtin.append_ #[t, u] ty #[v, .string s]).run P w = .ok v' w' ∧ Buf w' e v' (bs ++ s.data.toList) ∧ w.grownBy w' v.ownBlock ∧
      (v'.ownBlock = v.ownBlock ∨ v'.ownBlock = some w.heap.size) := by
  have hss : s.data.toList.length = s.size := by rw [Array.length_toList]; rfl
  obtain ⟨v', w', hr, ho, hg, hiff⟩ := run_append_own_string (P := P) w 0 t u ty e i ht hu hi hz hsize hby v bs.length (bcells bs) hown s (by unfold maxLen; omega) hbytes (Nat.zero_le _)
  have hbuf : Buf w' e v' (bs ++ s.data.toList) := by
    unfold Buf
    rw [List.length_append, hss]
    simpa [bcells, strCells] using ho
  refine ⟨v', w', hr, hbuf, hg, ?_⟩
  rcases hown.2 with ⟨rfl, h2⟩ | ⟨g, cap, cur, rfl, _, hh, hc1, hc2, hc3, hc4⟩
  · by_cases hm : s.size = 0
    · left; rw [hiff.2 ⟨rfl, hm⟩]
    · right
      have hbs : bs = [] := List.eq_nil_of_length_eq_zero h2
      subst hbs
      have hrun := run_append_nil_string (P := P) w t u ty e i (.int .u8 0) ht hu hi hz s (by omega) (by simp at hbytes; omega) (by simp at hbytes; rw [hby]; omega)
      rw [hr] at hrun
      injection hrun with e1 _
      rw [e1]; rfl
  · by_cases hroom : bs.length + s.size ≤ cap
    · left
      have hrun := run_append_room_string (P := P) w t u ty e i ht hu hi hsize g bs.length cap cur hh s hroom (by omega)
      rw [hr] at hrun
      injection hrun with e1 _
      rw [e1]; rfl
    · right
      have hxl : (bcells bs).length = bs.length := by simp [bcells]
      have holds : ∀ j u, (bcells bs)[j]? = some u → w.cell? ((⟨g, 0, none⟩ : Addr).add j) = some u := World.ownsRow.cells (g := g) hown rfl
      have hrun := run_append_grow_string (P := P) w t u ty e i (.int .u8 0) ht hu hi hz ⟨g, 0, none⟩ bs.length cap (bcells bs) (by rw [hsize]; simpa using hxl) holds s (by omega) (by omega) (by rw [hby]; exact growslice_fits (by omega) (by omega))
      rw [hr] at hrun
      injection hrun with e1 _
      rw [e1]; rfl

/-- The same, as one step of a region that draws its order. -/
theorem step_append_buf {P : Program} {w : World} {ops : Array Oper} {o : Oper} {a : Act} {K : Act → World → Prop} {Q : Exit → Act → World → Prop} {E : Prop} (hgd : o.guard = none) (sl x : Operand) (t u : TypeId)
    (ho : o.op = .call { callee := .builtin .append, args := #[sl, x], argTypes := #[t, u] })
    (e : TypeId) (i : TypeInfo) (ht : P.underlying t = some (.slice e)) (hu : P.underlying u = some .string) (hi : P.info? e = some i) (hz : i.zero = some (.int .u8 0)) (hsize : i.size = 1) (hby : i.bytes = 1)
    (v : Value) (bs : List UInt8) (hs : a.eval sl = v) (hown : Buf w e v bs) (s : ByteArray) (hx : a.eval x = .string s) (hbytes : bs.length + s.size ≤ 140737488355328)
    (h : ∀ v' w', Buf w' e v' (bs ++ s.data.toList) → w.grownBy w' v.ownBlock → (v'.ownBlock = v.ownBlock ∨ v'.ownBlock = some w.heap.size) → K (a.put o.dst v') w') :
    if Region.wanted o (yielded ops a.tmps) = true then Oper.wp P o a w K Q else E := by
  have hw : Region.wanted o (yielded ops a.tmps) = true := by simp [Region.wanted, hgd]
  rw [if_pos hw]
  obtain ⟨v', w', hr, h2, h3, h4⟩ := run_append_buf (P := P) w t u o.type e i ht hu hi hz hsize hby v bs hown s hbytes
  unfold Oper.wp execOp
  simp only [ho, resolve, invoke, builtin, Sem.run_bind, Sem.run_pure, Result.andThen_ok, List.map_toArray, List.map_cons, List.map_nil, hs, hx, hr]
  exact h v' w' h2 h3 h4

/-- The same, at the list of a plain region's operations. -/
theorem wpList_append_buf {P : Program} {w : World} {ops : Array Oper} {rest : List Oper} {o : Oper} {a : Act} {Q : Exit → Act → World → Prop} (hgd : o.guard = none) (sl x : Operand) (t u : TypeId)
    (ho : o.op = .call { callee := .builtin .append, args := #[sl, x], argTypes := #[t, u] })
    (e : TypeId) (i : TypeInfo) (ht : P.underlying t = some (.slice e)) (hu : P.underlying u = some .string) (hi : P.info? e = some i) (hz : i.zero = some (.int .u8 0)) (hsize : i.size = 1) (hby : i.bytes = 1)
    (v : Value) (bs : List UInt8) (hs : a.eval sl = v) (hown : Buf w e v bs) (s : ByteArray) (hx : a.eval x = .string s) (hbytes : bs.length + s.size ≤ 140737488355328)
    (h : ∀ v' w', Buf w' e v' (bs ++ s.data.toList) → w.grownBy w' v.ownBlock → (v'.ownBlock = v.ownBlock ∨ v'.ownBlock = some w.heap.size) → wpList P ops Q rest (a.put o.dst v') w') : wpList P ops Q (o :: rest) a w := by
  refine wpList_plain hgd fun K hK => ?_
  obtain ⟨v', w', hr, h2, h3, h4⟩ := run_append_buf (P := P) w t u o.type e i ht hu hi hz hsize hby v bs hown s hbytes
  unfold Oper.wp execOp
  simp only [ho, resolve, invoke, builtin, Sem.run_bind, Sem.run_pure, Result.andThen_ok, List.map_toArray, List.map_cons, List.map_nil, hs, hx, hr]
  exact hK _ _ (h v' w' h2 h3 h4)

theorem Buf.form' (h : Buf w e v bs) : ∃ A cap, v = .slice A bs.length cap ∧ cap ≤ maxLen := by
  rcases h.form with ⟨rfl, rfl⟩ | ⟨g, cap, rfl, _, _, h2⟩
  · exact ⟨none, 0, rfl, Nat.zero_le _⟩
  · exact ⟨_, cap, rfl, h2⟩

/-- 'string(b)' of an owned byte slice. -/
theorem Buf.to_string {P : Program} (h : Buf w e v bs) (src dst : TypeId) (hs : P.underlying src = some (.slice e)) (he : P.underlying e = some (.int .u8)) (hd : P.underlying dst = some .string) :
    (convert src dst v).run P w = .ok (.string ⟨bs.toArray⟩) w := by
  rcases h.form with ⟨rfl, rfl⟩ | ⟨g, cap, rfl, _, _, _⟩
  · exact run_convert_bytes_nil w src e hs he 0 0 dst hd
  · refine run_convert_bytes_back w src dst e ⟨g, 0, none⟩ cap bs hs he hd fun j hj => ?_
    exact World.ownsRow.cells (g := g) h rfl j _ (by simp [bcells, hj])

end
end Go.Proofs.YthejfkkmcbdlhaaGreatDoor
