/- Chapter 7: the instruction at an address, as the program reads it. Conditions: as written. -/
import Derived.Test.YtjhdpmimccpcdaaGreatDoorT06
import Derived.Test.YtjhdpmimccpcdaaGreatDoorTCode2
import Derived.Test.YtjhdpmimccpcdaaGreatDoorT00
import Derived.Test.YtjhdpmimccpcdaaGreatDoorT01
namespace Go.Proofs.YtjhdpmimccpcdaaGreatDoor
set_option linter.unusedVariables false
open Go.RowKit Go.Lib Go.Deep

structure Inst where
  op : Int
  arg : Int
  lit : Int
  cells : Int
def Inst.none : Inst := ⟨0, 0, 0, 0⟩
def Inst.v (i : Inst) : Value := .agg #[.int .i64 i.op, .int .i64 i.arg, .int .i64 i.lit, .int .i64 i.cells]
def Inst.c (i : Inst) : Array Value := #[.int .i64 i.op, .int .i64 i.arg, .int .i64 i.lit, .int .i64 i.cells]
/-- the instruction at an address, and its fault -/
def Img.fetch (S : Img) (m a : Int) : Inst × Int :=
  if S.cellF m a false ≠ 0 then (Inst.none, S.cellF m a false)
  else if (Code.unpack (S.cellV m a)).2.2 = false then (Inst.none, 14)
  else if (Code.unpack (S.cellV m a)).1 = 2 then
    (if S.cellF m (a + 8) false ≠ 0 then (Inst.none, S.cellF m (a + 8) false) else (⟨2, (Code.unpack (S.cellV m a)).2.1, S.cellV m (a + 8), 2⟩, 0))
  else if (Code.unpack (S.cellV m a)).1 = 19 then
    (if S.textF m (a + 8) (Code.unpack (S.cellV m a)).2.1 ≠ 0 then (Inst.none, S.textF m (a + 8) (Code.unpack (S.cellV m a)).2.1) else (⟨19, (Code.unpack (S.cellV m a)).2.1, 0, 1 + ((Code.unpack (S.cellV m a)).2.1 + 7) / 8⟩, 0))
  else (⟨(Code.unpack (S.cellV m a)).1, (Code.unpack (S.cellV m a)).2.1, 0, 1⟩, 0)
theorem cellF_cases (S : Img) (m a : Int) (w : Bool) : S.cellF m a w = 0 ∨ S.cellF m a w = 5 ∨ S.cellF m a w = 6 := by
  unfold Img.cellF
  repeat' split
  all_goals simp
theorem textF_cases (S : Img) (m a n : Int) : S.textF m a n = 0 ∨ S.textF m a n = 5 ∨ S.textF m a n = 19 := by
  unfold Img.textF
  repeat' split
  all_goals simp
theorem cellF_in {S : Img} {m a : Int} {w : Bool} (hS : S.Ok) (h : S.cellF m a w = 0) : 0 ≤ a ∧ a + 8 ≤ 143360 := by
  unfold Img.cellF at h
  split at h
  · omega
  · split at h
    · rename_i h2
      have := S.row_in h2 (by omega)
      have := hS.small
      omega
    · omega
section
variable {w0 w : World} {g b : Nat} {t : TypeId} {S : Img} {i : Inst} {L : List Asr}
/-- four cells of a box among others -/
theorem At.four {cs : Array Value} (h : At w0 w (BlkA b t cs :: L)) : Blk w b t cs := h.blk
theorem box4 {w : World} {b : Nat} {t : TypeId} {i : Inst} (h : Blk w b t i.c) :
    (w.cell? ⟨b, 0, none⟩ = some (.int .i64 i.op) ∧ w.cell? ⟨b, 1, none⟩ = some (.int .i64 i.arg) ∧ w.cell? ⟨b, 2, none⟩ = some (.int .i64 i.lit) ∧ w.cell? ⟨b, 3, none⟩ = some (.int .i64 i.cells)) ∧
    (w.frozen? ⟨b, 0, none⟩ = false ∧ w.frozen? ⟨b, 1, none⟩ = false ∧ w.frozen? ⟨b, 2, none⟩ = false ∧ w.frozen? ⟨b, 3, none⟩ = false) := by
  refine ⟨⟨?_, ?_, ?_, ?_⟩, h.frozen 0, h.frozen 1, h.frozen 2, h.frozen 3⟩ <;> rw [h.cell] <;> rfl
/-- four stores into a box, and the box let go -/
theorem At.put4 (h : At w0 w (BlkA b t i.c :: L)) (j : Inst) : At w0 ((((w.setCell ⟨b, 0, none⟩ (.int .i64 j.op)).setCell ⟨b, 1, none⟩ (.int .i64 j.arg)).setCell ⟨b, 2, none⟩ (.int .i64 j.lit)).setCell ⟨b, 3, none⟩ (.int .i64 j.cells)) L :=
  ((((h.set 0 _).set 1 _).set 2 _).set 3 _).tail
end
section
variable {w0 w : World} {g : Nat} {S : Img} {L : List Asr}
set_option maxRecDepth 100000 in
theorem fetch_bad (h : At w0 w (ImgA g S :: L)) (m a f : Int) (hf : S.cellF m a false = f) (hff : f = 5 ∨ f = 6) :
    Calls Tryz.prog 81 #[.pointer (some ⟨g, 0, none⟩), .int .i64 m, .int .i64 a] w (Got1 (.tuple #[Inst.none.v, .int .i64 f]) (ImgA g S) w0 L) := by
  have hb := h.box Inst.none.c 178
  have hc := a_cell hb.swap m a
  rw [hf] at hc
  replace hc := Lib.hid hc
  generalize hv : S.cellV m a = v at *
  clear hf hv hb
  rcases hff with rfl | rfl
  all_goals
    go_enter Tryz.func81, Tryz.ntmps81
    go_wp2_with fail
    refine hc.out.mono ?_
    rintro e w1 ⟨rfl, h1⟩
    obtain ⟨⟨c0, c1, c2, c3⟩, f0, f1, f2, f3⟩ := box4 h1.swap.blk
    have h2 := Lib.hid (h1.swap.put4 Inst.none)
    clear h1
    simp only [Inst.none] at c0 c1 c2 c3
    go_wp2
    refine bodyPost_ret (v := .tuple #[Inst.none.v, .int .i64 _]) (by simp [results, Tryz.results81, go_sem, c0, c1, c2, c3, Inst.v, Inst.none]) rfl ⟨rfl, ?_⟩
    exact h2.out
set_option maxRecDepth 100000 in
theorem fetch_none (h : At w0 w (ImgA g S :: L)) (m a v : Int) (hf : S.cellF m a false = 0) (hv : S.cellV m a = v) (hun : Code.unpack v = (0, 0, false)) :
    Calls Tryz.prog 81 #[.pointer (some ⟨g, 0, none⟩), .int .i64 m, .int .i64 a] w (Got1 (.tuple #[Inst.none.v, .int .i64 14]) (ImgA g S) w0 L) := by
  have hb := h.box Inst.none.c 178
  have hc := a_cell hb.swap m a
  rw [hf, hv] at hc
  replace hc := Lib.hid hc
  obtain ⟨gb0, hrep⟩ := ImgA.rep h
  obtain ⟨q1, q2⟩ := cellF_in hrep.ok hf
  clear hf hv hb h hrep
  have hu := fun w => unpack_walk v w
  rw [hun] at hu
  replace hu := Lib.hid hu
  clear hun
  go_enter Tryz.func81, Tryz.ntmps81
  go_wp2_with fail
  refine hc.out.mono ?_
  rintro e w1 ⟨rfl, h1⟩
  replace h1 := Lib.hid h1
  go_wp2_with fail
  refine (hu.out w1).mono ?_
  rintro e w2 ⟨rfl, rfl⟩
  obtain ⟨⟨c0, c1, c2, c3⟩, f0, f1, f2, f3⟩ := box4 h1.out.swap.blk
  have h2 := Lib.hid (h1.out.swap.put4 Inst.none)
  simp only [Inst.none] at c0 c1 c2 c3
  go_wp2
  refine bodyPost_ret (v := .tuple #[Inst.none.v, .int .i64 _]) (by simp [results, Tryz.results81, go_sem, c0, c1, c2, c3, Inst.v, Inst.none]) rfl ⟨rfl, ?_⟩
  exact h2.out
set_option maxRecDepth 100000 in
theorem fetch_other (h : At w0 w (ImgA g S :: L)) (m a v : Int) (hf : S.cellF m a false = 0) (hv : S.cellV m a = v) (op arg : Int) (hun : Code.unpack v = (op, arg, true)) (n2 : (op == 2) = false) (n19 : (op == 19) = false) :
    Calls Tryz.prog 81 #[.pointer (some ⟨g, 0, none⟩), .int .i64 m, .int .i64 a] w (Got1 (.tuple #[Inst.v ⟨op, arg, 0, 1⟩, .int .i64 0]) (ImgA g S) w0 L) := by
  have hb := h.box Inst.none.c 178
  have hc := a_cell hb.swap m a
  rw [hf, hv] at hc
  replace hc := Lib.hid hc
  obtain ⟨gb0, hrep⟩ := ImgA.rep h
  obtain ⟨q1, q2⟩ := cellF_in hrep.ok hf
  clear hf hv hb h hrep
  have hu := fun w => unpack_walk v w
  rw [hun] at hu
  replace hu := Lib.hid hu
  clear hun
  go_enter Tryz.func81, Tryz.ntmps81
  go_wp2_with fail
  refine hc.out.mono ?_
  rintro e w1 ⟨rfl, h1⟩
  replace h1 := Lib.hid h1
  go_wp2_with fail
  refine (hu.out w1).mono ?_
  rintro e w2 ⟨rfl, rfl⟩
  have hz := h1.out.below.size
  have hB := Lib.hid ((h1.out.box (Inst.c ⟨op, arg, 0, 1⟩) 178).rot3)
  obtain ⟨⟨c0, c1, c2, c3⟩, f0, f1, f2, f3⟩ := box4 hB.out.blk
  obtain ⟨⟨d0, d1, d2, d3⟩, e0, e1, e2, e3⟩ := box4 hB.out.swap.blk
  have h2 := Lib.hid (hB.out.put4 ⟨op, arg, 0, 1⟩)
  simp only [Inst.none, Inst.c] at c0 c1 c2 c3 d0 d1 d2 d3 f0 f1 f2 f3
  go_wp2
  refine bodyPost_ret (v := .tuple #[Inst.v ⟨op, arg, 0, 1⟩, .int .i64 _]) (by simp [results, Tryz.results81, go_sem, c0, c1, c2, c3, Inst.v]) rfl ⟨rfl, ?_⟩
  exact h2.out.tail
set_option maxRecDepth 100000 in
set_option maxHeartbeats 2000000 in
theorem fetch_lit_bad (h : At w0 w (ImgA g S :: L)) (m a v : Int) (hf : S.cellF m a false = 0) (hv : S.cellV m a = v) (arg : Int) (hun : Code.unpack v = (2, arg, true)) (lit f : Int) (hf2 : S.cellF m (a + 8) false = f) (hv2 : S.cellV m (a + 8) = lit) (hff : f = 5 ∨ f = 6) :
    Calls Tryz.prog 81 #[.pointer (some ⟨g, 0, none⟩), .int .i64 m, .int .i64 a] w (Got1 (.tuple #[Inst.none.v, .int .i64 f]) (ImgA g S) w0 L) := by
  have hb := h.box Inst.none.c 178
  have hc := a_cell hb.swap m a
  rw [hf, hv] at hc
  replace hc := Lib.hid hc
  obtain ⟨gb0, hrep⟩ := ImgA.rep h
  obtain ⟨q1, q2⟩ := cellF_in hrep.ok hf
  clear hf hv hb h hrep
  have hu := fun w => unpack_walk v w
  rw [hun] at hu
  replace hu := Lib.hid hu
  clear hun
  rcases hff with rfl | rfl
  all_goals
    go_enter Tryz.func81, Tryz.ntmps81
    go_wp2_with fail
    refine hc.out.mono ?_
    rintro e w1 ⟨rfl, h1⟩
    replace h1 := Lib.hid h1
    go_wp2_with fail
    refine (hu.out w1).mono ?_
    rintro e w2 ⟨rfl, rfl⟩
    have hX : At w0 (w2.alloc (.cells #[.int .i64 2, .int .i64 arg, .int .i64 0, .int .i64 1] 178)) (BlkA w2.heap.size 178 (Inst.c ⟨2, arg, 0, 1⟩) :: _) := h1.out.box (Inst.c ⟨2, arg, 0, 1⟩) 178
    replace hX := Lib.hid hX
    have hc2 := a_cell hX.out.swap m (a + 8)
    rw [hf2, hv2] at hc2
    replace hc2 := Lib.hid hc2
    obtain ⟨⟨d0, d1, d2, d3⟩, e0, e1, e2, e3⟩ := box4 hX.out.blk
    dsimp only at d0 d1 d2 d3 e0 e1 e2 e3
    go_wp2_with fail
    refine hc2.out.mono ?_
    rintro e w3 ⟨rfl, h3⟩
    replace h3 := Lib.hid h3
    clear d0 d1 d2 d3 e0 e1 e2 e3
    have hB := Lib.hid h3.out.rot3
    obtain ⟨⟨c0, c1, c2, c3⟩, f0, f1, f2, f3⟩ := box4 hB.out.blk
    obtain ⟨⟨d0, d1, d2, d3⟩, e0, e1, e2, e3⟩ := box4 h3.out.swap.blk
    simp only [Inst.none] at c0 c1 c2 c3 d0 d1 d2 d3 f0 f1 f2 f3
    have hlt : w.heap.size < w2.heap.size := h1.out.swap.blk.lt
    go_wp2
    refine bodyPost_ret (v := .tuple #[Inst.v Inst.none, .int .i64 _]) (by simp [results, Tryz.results81, go_sem, c0, c1, c2, c3, Inst.v, Inst.none]) rfl ⟨rfl, ?_⟩
    exact ((h3.out.swap.set 2 _ |>.set 3 _).rot3.put4 Inst.none).tail
set_option maxRecDepth 100000 in
set_option maxHeartbeats 2000000 in
theorem fetch_lit_ok (h : At w0 w (ImgA g S :: L)) (m a v : Int) (hf : S.cellF m a false = 0) (hv : S.cellV m a = v) (arg : Int) (hun : Code.unpack v = (2, arg, true)) (lit f : Int) (hf2 : S.cellF m (a + 8) false = f) (hv2 : S.cellV m (a + 8) = lit) (hff : f = 0) :
    Calls Tryz.prog 81 #[.pointer (some ⟨g, 0, none⟩), .int .i64 m, .int .i64 a] w (Got1 (.tuple #[Inst.v ⟨2, arg, lit, 2⟩, .int .i64 0]) (ImgA g S) w0 L) := by
  have hb := h.box Inst.none.c 178
  have hc := a_cell hb.swap m a
  rw [hf, hv] at hc
  replace hc := Lib.hid hc
  obtain ⟨gb0, hrep⟩ := ImgA.rep h
  obtain ⟨q1, q2⟩ := cellF_in hrep.ok hf
  clear hf hv hb h hrep
  have hu := fun w => unpack_walk v w
  rw [hun] at hu
  replace hu := Lib.hid hu
  clear hun
  subst hff
  go_enter Tryz.func81, Tryz.ntmps81
  go_wp2_with fail
  refine hc.out.mono ?_
  rintro e w1 ⟨rfl, h1⟩
  replace h1 := Lib.hid h1
  go_wp2_with fail
  refine (hu.out w1).mono ?_
  rintro e w2 ⟨rfl, rfl⟩
  have hX : At w0 (w2.alloc (.cells #[.int .i64 2, .int .i64 arg, .int .i64 0, .int .i64 1] 178)) (BlkA w2.heap.size 178 (Inst.c ⟨2, arg, 0, 1⟩) :: _) := h1.out.box (Inst.c ⟨2, arg, 0, 1⟩) 178
  replace hX := Lib.hid hX
  have hc2 := a_cell hX.out.swap m (a + 8)
  rw [hf2, hv2] at hc2
  replace hc2 := Lib.hid hc2
  obtain ⟨⟨d0, d1, d2, d3⟩, e0, e1, e2, e3⟩ := box4 hX.out.blk
  dsimp only at d0 d1 d2 d3 e0 e1 e2 e3
  go_wp2_with fail
  refine hc2.out.mono ?_
  rintro e w3 ⟨rfl, h3⟩
  replace h3 := Lib.hid h3
  clear d0 d1 d2 d3 e0 e1 e2 e3
  have hB := Lib.hid h3.out.rot3
  obtain ⟨⟨c0, c1, c2, c3⟩, f0, f1, f2, f3⟩ := box4 hB.out.blk
  obtain ⟨⟨d0, d1, d2, d3⟩, e0, e1, e2, e3⟩ := box4 h3.out.swap.blk
  simp only [Inst.none] at c0 c1 c2 c3 d0 d1 d2 d3 f0 f1 f2 f3
  have hlt : w.heap.size < w2.heap.size := h1.out.swap.blk.lt
  go_wp2
  refine bodyPost_ret (v := .tuple #[Inst.v ⟨2, arg, lit, 2⟩, .int .i64 _]) (by simp [results, Tryz.results81, go_sem, c0, c1, c2, c3, Inst.v]) rfl ⟨rfl, ?_⟩
  exact ((h3.out.swap.set 2 _ |>.set 3 _).rot3.put4 ⟨2, arg, lit, 2⟩).tail
set_option maxRecDepth 100000 in
set_option maxHeartbeats 2000000 in
theorem fetch_text_bad (h : At w0 w (ImgA g S :: L)) (m a v : Int) (hf : S.cellF m a false = 0) (hv : S.cellV m a = v) (arg : Int) (hun : Code.unpack v = (19, arg, true)) (ha0 : 0 ≤ arg) (ha1 : arg < 36028797018963968) (f : Int) (txt : ByteArray) (hf2 : S.textF m (a + 8) arg = f) (hv2 : S.text m (a + 8) arg = txt) (hff : f = 5 ∨ f = 19) :
    Calls Tryz.prog 81 #[.pointer (some ⟨g, 0, none⟩), .int .i64 m, .int .i64 a] w (Got1 (.tuple #[Inst.none.v, .int .i64 f]) (ImgA g S) w0 L) := by
  have hb := h.box Inst.none.c 178
  have hc := a_cell hb.swap m a
  rw [hf, hv] at hc
  replace hc := Lib.hid hc
  obtain ⟨gb0, hrep⟩ := ImgA.rep h
  obtain ⟨q1, q2⟩ := cellF_in hrep.ok hf
  clear hf hv hb h hrep
  have hu := fun w => unpack_walk v w
  rw [hun] at hu
  replace hu := Lib.hid hu
  clear hun
  rcases hff with rfl | rfl
  all_goals
    go_enter Tryz.func81, Tryz.ntmps81
    go_wp2_with fail
    refine hc.out.mono ?_
    rintro e w1 ⟨rfl, h1⟩
    replace h1 := Lib.hid h1
    go_wp2_with fail
    refine (hu.out w1).mono ?_
    rintro e w2 ⟨rfl, rfl⟩
    have hX : At w0 (w2.alloc (.cells #[.int .i64 19, .int .i64 arg, .int .i64 0, .int .i64 1] 178)) (BlkA w2.heap.size 178 (Inst.c ⟨19, arg, 0, 1⟩) :: _) := h1.out.box (Inst.c ⟨19, arg, 0, 1⟩) 178
    replace hX := Lib.hid hX
    have hc2 := a_text hX.out.swap m (a + 8) arg (by omega)
    rw [hv2, hf2] at hc2
    replace hc2 := Lib.hid hc2
    obtain ⟨⟨d0, d1, d2, d3⟩, e0, e1, e2, e3⟩ := box4 hX.out.blk
    dsimp only at d0 d1 d2 d3 e0 e1 e2 e3
    go_wp2_with fail
    refine hc2.out.mono ?_
    rintro e w3 ⟨rfl, hw3⟩
    have h3 : At w0 w3 (ImgA g S :: BlkA w2.heap.size 178 (Inst.c ⟨19, arg, 0, 1⟩) :: BlkA w.heap.size 178 Inst.none.c :: L) := by rw [hw3]; exact hX.out.swap
    replace h3 := Lib.hid h3
    clear hw3
    clear d0 d1 d2 d3 e0 e1 e2 e3
    have hB := Lib.hid h3.out.rot3
    obtain ⟨⟨c0, c1, c2, c3⟩, f0, f1, f2, f3⟩ := box4 hB.out.blk
    obtain ⟨⟨d0, d1, d2, d3⟩, e0, e1, e2, e3⟩ := box4 h3.out.swap.blk
    simp only [Inst.none] at c0 c1 c2 c3 d0 d1 d2 d3 f0 f1 f2 f3
    have hlt : w.heap.size < w2.heap.size := h1.out.swap.blk.lt
    go_wp2
    refine bodyPost_ret (v := .tuple #[Inst.v Inst.none, .int .i64 _]) (by simp [results, Tryz.results81, go_sem, c0, c1, c2, c3, Inst.v, Inst.none]) rfl ⟨rfl, ?_⟩
    exact ((h3.out.swap.set 3 _).rot3.put4 Inst.none).tail
set_option maxRecDepth 100000 in
set_option maxHeartbeats 2000000 in
theorem fetch_text_ok (h : At w0 w (ImgA g S :: L)) (m a v : Int) (hf : S.cellF m a false = 0) (hv : S.cellV m a = v) (arg : Int) (hun : Code.unpack v = (19, arg, true)) (ha0 : 0 ≤ arg) (ha1 : arg < 36028797018963968) (f : Int) (txt : ByteArray) (hf2 : S.textF m (a + 8) arg = f) (hv2 : S.text m (a + 8) arg = txt) (hff : f = 0) :
    Calls Tryz.prog 81 #[.pointer (some ⟨g, 0, none⟩), .int .i64 m, .int .i64 a] w (Got1 (.tuple #[Inst.v ⟨19, arg, 0, 1 + (arg + 7) / 8⟩, .int .i64 0]) (ImgA g S) w0 L) := by
  have hb := h.box Inst.none.c 178
  have hc := a_cell hb.swap m a
  rw [hf, hv] at hc
  replace hc := Lib.hid hc
  obtain ⟨gb0, hrep⟩ := ImgA.rep h
  obtain ⟨q1, q2⟩ := cellF_in hrep.ok hf
  clear hf hv hb h hrep
  have hu := fun w => unpack_walk v w
  rw [hun] at hu
  replace hu := Lib.hid hu
  clear hun
  subst hff
  go_enter Tryz.func81, Tryz.ntmps81
  go_wp2_with fail
  refine hc.out.mono ?_
  rintro e w1 ⟨rfl, h1⟩
  replace h1 := Lib.hid h1
  go_wp2_with fail
  refine (hu.out w1).mono ?_
  rintro e w2 ⟨rfl, rfl⟩
  have hX : At w0 (w2.alloc (.cells #[.int .i64 19, .int .i64 arg, .int .i64 0, .int .i64 1] 178)) (BlkA w2.heap.size 178 (Inst.c ⟨19, arg, 0, 1⟩) :: _) := h1.out.box (Inst.c ⟨19, arg, 0, 1⟩) 178
  replace hX := Lib.hid hX
  have hc2 := a_text hX.out.swap m (a + 8) arg (by omega)
  rw [hv2, hf2] at hc2
  replace hc2 := Lib.hid hc2
  obtain ⟨⟨d0, d1, d2, d3⟩, e0, e1, e2, e3⟩ := box4 hX.out.blk
  dsimp only at d0 d1 d2 d3 e0 e1 e2 e3
  go_wp2_with fail
  refine hc2.out.mono ?_
  rintro e w3 ⟨rfl, hw3⟩
  have h3 : At w0 w3 (ImgA g S :: BlkA w2.heap.size 178 (Inst.c ⟨19, arg, 0, 1⟩) :: BlkA w.heap.size 178 Inst.none.c :: L) := by rw [hw3]; exact hX.out.swap
  replace h3 := Lib.hid h3
  clear hw3
  clear d0 d1 d2 d3 e0 e1 e2 e3
  have hB := Lib.hid h3.out.rot3
  obtain ⟨⟨c0, c1, c2, c3⟩, f0, f1, f2, f3⟩ := box4 hB.out.blk
  obtain ⟨⟨d0, d1, d2, d3⟩, e0, e1, e2, e3⟩ := box4 h3.out.swap.blk
  simp only [Inst.none] at c0 c1 c2 c3 d0 d1 d2 d3 f0 f1 f2 f3
  have hlt : w.heap.size < w2.heap.size := h1.out.swap.blk.lt
  go_wp2
  refine bodyPost_ret (v := .tuple #[Inst.v ⟨19, arg, 0, 1 + (arg + 7) / 8⟩, .int .i64 _]) (by simp [results, Tryz.results81, go_sem, c0, c1, c2, c3, Inst.v]) rfl ⟨rfl, ?_⟩
  exact ((h3.out.swap.set 3 _).rot3.put4 ⟨19, arg, 0, 1 + (arg + 7) / 8⟩).tail
theorem text_arg {arg : Int} (h : Code.right 19 arg = true) : 0 ≤ arg ∧ arg < 36028797018963968 := by
  rw [Code.right_iff] at h
  omega
theorem fetch_walk (h : At w0 w (ImgA g S :: L)) (m a : Int) :
    Calls Tryz.prog 81 #[.pointer (some ⟨g, 0, none⟩), .int .i64 m, .int .i64 a] w (Got1 (.tuple #[(S.fetch m a).1.v, .int .i64 (S.fetch m a).2]) (ImgA g S) w0 L) := by
  rcases cellF_cases S m a false with hf | hf | hf
  rotate_left
  · have e : S.fetch m a = (Inst.none, 5) := by unfold Img.fetch; simp [hf]
    rw [e]; exact fetch_bad h m a 5 hf (.inl rfl)
  · have e : S.fetch m a = (Inst.none, 6) := by unfold Img.fetch; simp [hf]
    rw [e]; exact fetch_bad h m a 6 hf (.inr rfl)
  obtain ⟨v, hv⟩ : ∃ v, S.cellV m a = v := ⟨_, rfl⟩
  rcases Code.pack_unpack v with ⟨op, arg, hun, hr, _⟩ | hun
  rotate_left
  · have e : S.fetch m a = (Inst.none, 14) := by unfold Img.fetch; simp [hf, hv, hun]
    rw [e]; exact fetch_none h m a v hf hv hun
  by_cases h2 : op = 2
  · subst h2
    obtain ⟨lit, hl⟩ : ∃ x, S.cellV m (a + 8) = x := ⟨_, rfl⟩
    rcases cellF_cases S m (a + 8) false with hf2 | hf2 | hf2
    · have e : S.fetch m a = (⟨2, arg, lit, 2⟩, 0) := by unfold Img.fetch; simp [hf, hv, hun, hf2, hl]
      rw [e]; exact fetch_lit_ok h m a v hf hv arg hun lit 0 hf2 hl rfl
    · have e : S.fetch m a = (Inst.none, 5) := by unfold Img.fetch; simp [hf, hv, hun, hf2]
      rw [e]; exact fetch_lit_bad h m a v hf hv arg hun lit 5 hf2 hl (.inl rfl)
    · have e : S.fetch m a = (Inst.none, 6) := by unfold Img.fetch; simp [hf, hv, hun, hf2]
      rw [e]; exact fetch_lit_bad h m a v hf hv arg hun lit 6 hf2 hl (.inr rfl)
  by_cases h19 : op = 19
  · subst h19
    obtain ⟨b1, b2⟩ := text_arg hr
    obtain ⟨txt, hl⟩ : ∃ x, S.text m (a + 8) arg = x := ⟨_, rfl⟩
    rcases textF_cases S m (a + 8) arg with hf2 | hf2 | hf2
    · have e : S.fetch m a = (⟨19, arg, 0, 1 + (arg + 7) / 8⟩, 0) := by unfold Img.fetch; simp [hf, hv, hun, hf2]
      rw [e]; exact fetch_text_ok h m a v hf hv arg hun b1 b2 0 txt hf2 hl rfl
    · have e : S.fetch m a = (Inst.none, 5) := by unfold Img.fetch; simp [hf, hv, hun, hf2]
      rw [e]; exact fetch_text_bad h m a v hf hv arg hun b1 b2 5 txt hf2 hl (.inl rfl)
    · have e : S.fetch m a = (Inst.none, 19) := by unfold Img.fetch; simp [hf, hv, hun, hf2]
      rw [e]; exact fetch_text_bad h m a v hf hv arg hun b1 b2 19 txt hf2 hl (.inr rfl)
  have e : S.fetch m a = (⟨op, arg, 0, 1⟩, 0) := by unfold Img.fetch; simp [hf, hv, hun, h2, h19]
  rw [e]; exact fetch_other h m a v hf hv op arg hun (by simpa using h2) (by simpa using h19)
end
end Go.Proofs.YtjhdpmimccpcdaaGreatDoor
/- Chapter 11: what the machine does, as plain functions on plain data: one instruction, a run. No condition. -/
namespace Go.Proofs.YtjhdpmimccpcdaaGreatDoor
set_option linter.unusedVariables false
open Go.RowKit Go.Lib
namespace Vm
/-- a step that is told -/
structure Stp where
  at_ : Int
  op : Int
  dep : Int
  top : Int
  fuel : Int
/-- what else a machine turns: the text that CREATE reads, and how far it has been read -/
structure Ext where
  text : ByteArray
  at_ : Nat
def Ext.zero : Ext := ⟨⟨#[]⟩, 0⟩
/-- a machine and all that it works on -/
structure Mt where
  S : Img
  pd : Pl
  pr : Pl
  d : Nat
  r : Nat
  T : Caps.Tab
  hs : Int
  ls : Int
  hk : Int
  lk : Int
  fault : Int
  used : Int
  hidden : Int
  tells : Bool
  seen : List Stp
  ext : Ext
/-- a run -/
structure Rn where
  mode : Int
  left : Int
  pc : Int
  next : Int
  over : Bool
  asked : Bool
  base : Int
namespace Mt
variable (s : Mt)
/-- the cell n below the topmost one of the data stack, of the return stack -/
def top (n : Int) : Int := stopv s.S s.pd.fr s.d n
def rtop (n : Int) : Int := stopv s.S s.pr.fr s.r n
/-- the n topmost cells, the topmost one last -/
def args (n : Nat) : List Int := (List.range n).map fun j => s.top ((n - 1 - j : Nat) : Int)
def pushD (l : List Int) : Mt := { s with S := spush s.S s.pd.fr s.d l, d := s.d + l.length }
def pushR (l : List Int) : Mt := { s with S := spush s.S s.pr.fr s.r l, r := s.r + l.length }
def cutD (n : Nat) : Mt := { s with d := n }
def cutR (n : Nat) : Mt := { s with r := n }
def pokeR (n : Nat) (v : Int) : Mt := { s with S := sset s.S s.pr.fr (s.r - 1 - n) v }
/-- so many cells off, some laid down: the fault, the machine -/
def lays (n : Nat) (l : List Int) : Int × Mt :=
  if s.pd.rm - (s.d - n) < l.length then (2, s.cutD (s.d - n)) else (0, (s.cutD (s.d - n)).pushD l)
end Mt

/-- what an instruction takes off the return stack, and lays there -/
def returns (op arg : Int) (same : Bool) : Int × Int :=
  if op = 1 ∨ op = 14 ∨ op = 18 then (1, 0)
  else if op = 17 then (if arg = 0 then (1, 0) else (0, 0))
  else if op = 3 ∨ op = 16 ∨ op = 13 then (0, 1)
  else if op = 7 then (if same then (0, 0) else (0, 2))
  else if op = 6 then (0, 2)
  else if op = 10 then (2, 0)
  else if op = 8 ∨ op = 9 ∨ op = 11 then (2, 2)
  else if op = 12 then (4, 4)
  else if op = 15 then (1, 1)
  else (0, 0)
/-- the capability that an operation needs -/
def needs (op : Int) : Int :=
  if 78 ≤ op ∧ op ≤ 82 then 1
  else if op = 83 ∨ op = 84 then 2
  else if op = 87 then 4
  else if 87 < op ∧ op ≤ 93 then 8
  else if 100 ≤ op ∧ op ≤ 104 then 16
  else 0
def Mt.same (s : Mt) : Bool := s.top 0 == s.top 1
/-- is all there that an instruction asks: 0, or the fault -/
def asks (i : Inst) (x : Rn) (s : Mt) : Int :=
  if (s.d : Int) < (Code.wants i.op).1 then 1
  else if (s.r : Int) - x.base < (returns i.op i.arg s.same).1 then 3
  else if (s.pd.rm : Int) < s.d - (Code.wants i.op).1 + (if i.op = 26 ∧ s.top 0 = 0 then (Code.wants i.op).1 else (Code.wants i.op).2) then 2
  else if (s.pr.rm : Int) < s.r - (returns i.op i.arg s.same).1 + (returns i.op i.arg s.same).2 then 4
  else if needs i.op ≠ 0 ∧ Caps.has s.T.pupil x.mode (needs i.op) = false then 11
  else 0
/-- how a part ends: its fault (0: none), the run, the machine -/
structure Rs where
  f : Int
  x : Rn
  s : Mt
/-- goes on where the return stack says -/
def back (x : Rn) (s : Mt) : Rs :=
  if s.r = 0 then ⟨3, x, s⟩ else ⟨0, { x with next := s.rtop 0, over := s.rtop 0 == 0 }, { s with r := s.r - 1 }⟩
def laysR (n : Nat) (l : List Int) (x : Rn) (s : Mt) : Rs := ⟨(s.lays n l).1, x, (s.lays n l).2⟩
def Rs.then (a : Rs) (k : Rn → Mt → Rs) : Rs := if a.f = 0 then k a.x a.s else a
/-- the end of a turn of a loop -/
def turn (n : Int) (ends : Bool) (at_ : Int) (x : Rn) (s : Mt) : Rs :=
  if ends then ⟨0, x, s.cutR (s.r - 2)⟩ else ⟨0, { x with next := at_ }, s.pokeR 0 n⟩
def Mt.told (s : Mt) (x : Rn) (op : Int) : Mt := if s.tells then { s with seen := s.seen ++ [⟨x.pc, op, s.d, s.top 0, x.left⟩] } else s
end Vm
end Go.Proofs.YtjhdpmimccpcdaaGreatDoor
