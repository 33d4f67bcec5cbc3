/- Chapter 7: the instruction at an address, as the document reads it. Conditions: as written. -/
import Derived.Test.YtanpbphgmnjdeaaDoorFetch1
namespace Go.Proofs.YtanpbphgmnjdeaaDoor
set_option linter.unusedVariables false
open Go.RowKit Go.Lib Go.Deep

theorem cellV_ok (S : Img) (m a : Int) : -9223372036854775808 ≤ S.cellV m a ∧ S.cellV m a ≤ 9223372036854775807 := by
  unfold Img.cellV ofB wrap64
  split <;> omega
section
variable {w0 w : World} {g : Nat} {S : Img} {L : List Asr}
set_option maxRecDepth 100000 in
theorem Fetch_bad (h : At w0 w (RimgA g S :: L)) (m a f : Int) (hf : S.cellF m a false = f) (hff : f = 5 ∨ f = 6) :
    Calls Tryd.prog 29 #[.pointer (some ⟨g, 0, none⟩), .int .i64 m, .int .i64 a] w (Got1 (.tuple #[Inst.none.v, .int .i64 f]) (RimgA g S) w0 L) := by
  have hb := h.box Inst.none.c 44
  have hc := b_cell hb.swap m a
  rw [hf] at hc
  replace hc := Lib.hid hc
  generalize hv : S.cellV m a = v at *
  clear hf hv hb
  rcases hff with rfl | rfl
  all_goals
    go_enter Tryd.func29, Tryd.ntmps29
    go_wp2_with fail
    refine hc.out.mono ?_
    rintro e w1 ⟨rfl, h1⟩
    obtain ⟨⟨c0, c1, c2, c3⟩, f0, f1, f2, f3⟩ := box4 h1.swap.blk
    have h2 := Lib.hid (h1.swap.put4 Inst.none)
    clear h1
    simp only [Inst.none] at c0 c1 c2 c3
    go_wp2
    refine bodyPost_ret (v := .tuple #[Inst.none.v, .int .i64 _]) (by simp [results, Tryd.results29, go_sem, c0, c1, c2, c3, Inst.v, Inst.none]) rfl ⟨rfl, ?_⟩
    exact h2.out
set_option maxRecDepth 100000 in
theorem Fetch_none (h : At w0 w (RimgA g S :: L)) (m a v : Int) (hf : S.cellF m a false = 0) (hv : S.cellV m a = v) (hun : Code.unpack v = (0, 0, false)) :
    Calls Tryd.prog 29 #[.pointer (some ⟨g, 0, none⟩), .int .i64 m, .int .i64 a] w (Got1 (.tuple #[Inst.none.v, .int .i64 14]) (RimgA g S) w0 L) := by
  have hb := h.box Inst.none.c 44
  have hc := b_cell hb.swap m a
  rw [hf, hv] at hc
  replace hc := Lib.hid hc
  obtain ⟨gb0, hrep⟩ := RimgA.rep h
  obtain ⟨q1, q2⟩ := cellF_in hrep.ok hf
  have hvr : -9223372036854775808 ≤ v ∧ v ≤ 9223372036854775807 := by rw [← hv]; exact cellV_ok S m a
  clear hf hv hb h hrep
  have hu := fun w => Unpack_walk v hvr w
  rw [hun] at hu
  replace hu := Lib.hid hu
  clear hvr
  clear hun
  go_enter Tryd.func29, Tryd.ntmps29
  go_wp2_with fail
  refine hc.out.mono ?_
  rintro e w1 ⟨rfl, h1⟩
  replace h1 := Lib.hid h1
  go_wp2_with fail
  refine (hu.out w1).mono ?_
  rintro e w2 ⟨rfl, rfl⟩
  obtain ⟨⟨c0, c1, c2, c3⟩, f0, f1, f2, f3⟩ := box4 h1.out.swap.blk
  have h2 := Lib.hid (h1.out.swap.put4 Inst.none)
  simp only [Inst.none] at c0 c1 c2 c3
  go_wp2
  refine bodyPost_ret (v := .tuple #[Inst.none.v, .int .i64 _]) (by simp [results, Tryd.results29, go_sem, c0, c1, c2, c3, Inst.v, Inst.none]) rfl ⟨rfl, ?_⟩
  exact h2.out
set_option maxRecDepth 100000 in
theorem Fetch_other (h : At w0 w (RimgA g S :: L)) (m a v : Int) (hf : S.cellF m a false = 0) (hv : S.cellV m a = v) (op arg : Int) (hun : Code.unpack v = (op, arg, true)) (n2 : (op == 2) = false) (n19 : (op == 19) = false) :
    Calls Tryd.prog 29 #[.pointer (some ⟨g, 0, none⟩), .int .i64 m, .int .i64 a] w (Got1 (.tuple #[Inst.v ⟨op, arg, 0, 1⟩, .int .i64 0]) (RimgA g S) w0 L) := by
  have hb := h.box Inst.none.c 44
  have hc := b_cell hb.swap m a
  rw [hf, hv] at hc
  replace hc := Lib.hid hc
  obtain ⟨gb0, hrep⟩ := RimgA.rep h
  obtain ⟨q1, q2⟩ := cellF_in hrep.ok hf
  have hvr : -9223372036854775808 ≤ v ∧ v ≤ 9223372036854775807 := by rw [← hv]; exact cellV_ok S m a
  clear hf hv hb h hrep
  have hu := fun w => Unpack_walk v hvr w
  rw [hun] at hu
  replace hu := Lib.hid hu
  clear hvr
  clear hun
  go_enter Tryd.func29, Tryd.ntmps29
  go_wp2_with fail
  refine hc.out.mono ?_
  rintro e w1 ⟨rfl, h1⟩
  replace h1 := Lib.hid h1
  go_wp2_with fail
  refine (hu.out w1).mono ?_
  rintro e w2 ⟨rfl, rfl⟩
  have hz := h1.out.below.size
  have hB := Lib.hid ((h1.out.box (Inst.c ⟨op, arg, 0, 1⟩) 44).rot3)
  obtain ⟨⟨c0, c1, c2, c3⟩, f0, f1, f2, f3⟩ := box4 hB.out.blk
  obtain ⟨⟨d0, d1, d2, d3⟩, e0, e1, e2, e3⟩ := box4 hB.out.swap.blk
  have h2 := Lib.hid (hB.out.put4 ⟨op, arg, 0, 1⟩)
  simp only [Inst.none, Inst.c] at c0 c1 c2 c3 d0 d1 d2 d3 f0 f1 f2 f3
  go_wp2
  refine bodyPost_ret (v := .tuple #[Inst.v ⟨op, arg, 0, 1⟩, .int .i64 _]) (by simp [results, Tryd.results29, go_sem, c0, c1, c2, c3, Inst.v]) rfl ⟨rfl, ?_⟩
  exact h2.out.tail
set_option maxRecDepth 100000 in
set_option maxHeartbeats 2000000 in
theorem Fetch_lit_bad (h : At w0 w (RimgA g S :: L)) (m a v : Int) (hf : S.cellF m a false = 0) (hv : S.cellV m a = v) (arg : Int) (hun : Code.unpack v = (2, arg, true)) (lit f : Int) (hf2 : S.cellF m (a + 8) false = f) (hv2 : S.cellV m (a + 8) = lit) (hff : f = 5 ∨ f = 6) :
    Calls Tryd.prog 29 #[.pointer (some ⟨g, 0, none⟩), .int .i64 m, .int .i64 a] w (Got1 (.tuple #[Inst.none.v, .int .i64 f]) (RimgA g S) w0 L) := by
  have hb := h.box Inst.none.c 44
  have hc := b_cell hb.swap m a
  rw [hf, hv] at hc
  replace hc := Lib.hid hc
  obtain ⟨gb0, hrep⟩ := RimgA.rep h
  obtain ⟨q1, q2⟩ := cellF_in hrep.ok hf
  have hvr : -9223372036854775808 ≤ v ∧ v ≤ 9223372036854775807 := by rw [← hv]; exact cellV_ok S m a
  clear hf hv hb h hrep
  have hu := fun w => Unpack_walk v hvr w
  rw [hun] at hu
  replace hu := Lib.hid hu
  clear hvr
  clear hun
  rcases hff with rfl | rfl
  all_goals
    go_enter Tryd.func29, Tryd.ntmps29
    go_wp2_with fail
    refine hc.out.mono ?_
    rintro e w1 ⟨rfl, h1⟩
    replace h1 := Lib.hid h1
    go_wp2_with fail
    refine (hu.out w1).mono ?_
    rintro e w2 ⟨rfl, rfl⟩
    have hX : At w0 (w2.alloc (.cells #[.int .i64 2, .int .i64 arg, .int .i64 0, .int .i64 2] 44)) (BlkA w2.heap.size 44 (Inst.c ⟨2, arg, 0, 2⟩) :: _) := h1.out.box (Inst.c ⟨2, arg, 0, 2⟩) 44
    replace hX := Lib.hid hX
    have hc2 := b_cell hX.out.swap m (a + 8)
    rw [hf2, hv2] at hc2
    replace hc2 := Lib.hid hc2
    obtain ⟨⟨d0, d1, d2, d3⟩, e0, e1, e2, e3⟩ := box4 hX.out.blk
    dsimp only at d0 d1 d2 d3 e0 e1 e2 e3
    go_wp2_with fail
    refine hc2.out.mono ?_
    rintro e w3 ⟨rfl, h3⟩
    replace h3 := Lib.hid h3
    clear d0 d1 d2 d3 e0 e1 e2 e3
    have hB := Lib.hid h3.out.rot3
    obtain ⟨⟨c0, c1, c2, c3⟩, f0, f1, f2, f3⟩ := box4 hB.out.blk
    obtain ⟨⟨d0, d1, d2, d3⟩, e0, e1, e2, e3⟩ := box4 h3.out.swap.blk
    simp only [Inst.none] at c0 c1 c2 c3 d0 d1 d2 d3 f0 f1 f2 f3
    have hlt : w.heap.size < w2.heap.size := h1.out.swap.blk.lt
    go_wp2
    refine bodyPost_ret (v := .tuple #[Inst.v Inst.none, .int .i64 _]) (by simp [results, Tryd.results29, go_sem, c0, c1, c2, c3, Inst.v, Inst.none]) rfl ⟨rfl, ?_⟩
    exact ((h3.out.swap.set 2 _).rot3.put4 Inst.none).tail
set_option maxRecDepth 100000 in
set_option maxHeartbeats 2000000 in
theorem Fetch_lit_ok (h : At w0 w (RimgA g S :: L)) (m a v : Int) (hf : S.cellF m a false = 0) (hv : S.cellV m a = v) (arg : Int) (hun : Code.unpack v = (2, arg, true)) (lit f : Int) (hf2 : S.cellF m (a + 8) false = f) (hv2 : S.cellV m (a + 8) = lit) (hff : f = 0) :
    Calls Tryd.prog 29 #[.pointer (some ⟨g, 0, none⟩), .int .i64 m, .int .i64 a] w (Got1 (.tuple #[Inst.v ⟨2, arg, lit, 2⟩, .int .i64 0]) (RimgA g S) w0 L) := by
  have hb := h.box Inst.none.c 44
  have hc := b_cell hb.swap m a
  rw [hf, hv] at hc
  replace hc := Lib.hid hc
  obtain ⟨gb0, hrep⟩ := RimgA.rep h
  obtain ⟨q1, q2⟩ := cellF_in hrep.ok hf
  have hvr : -9223372036854775808 ≤ v ∧ v ≤ 9223372036854775807 := by rw [← hv]; exact cellV_ok S m a
  clear hf hv hb h hrep
  have hu := fun w => Unpack_walk v hvr w
  rw [hun] at hu
  replace hu := Lib.hid hu
  clear hvr
  clear hun
  subst hff
  go_enter Tryd.func29, Tryd.ntmps29
  go_wp2_with fail
  refine hc.out.mono ?_
  rintro e w1 ⟨rfl, h1⟩
  replace h1 := Lib.hid h1
  go_wp2_with fail
  refine (hu.out w1).mono ?_
  rintro e w2 ⟨rfl, rfl⟩
  have hX : At w0 (w2.alloc (.cells #[.int .i64 2, .int .i64 arg, .int .i64 0, .int .i64 2] 44)) (BlkA w2.heap.size 44 (Inst.c ⟨2, arg, 0, 2⟩) :: _) := h1.out.box (Inst.c ⟨2, arg, 0, 2⟩) 44
  replace hX := Lib.hid hX
  have hc2 := b_cell hX.out.swap m (a + 8)
  rw [hf2, hv2] at hc2
  replace hc2 := Lib.hid hc2
  obtain ⟨⟨d0, d1, d2, d3⟩, e0, e1, e2, e3⟩ := box4 hX.out.blk
  dsimp only at d0 d1 d2 d3 e0 e1 e2 e3
  go_wp2_with fail
  refine hc2.out.mono ?_
  rintro e w3 ⟨rfl, h3⟩
  replace h3 := Lib.hid h3
  clear d0 d1 d2 d3 e0 e1 e2 e3
  have hB := Lib.hid h3.out.rot3
  obtain ⟨⟨c0, c1, c2, c3⟩, f0, f1, f2, f3⟩ := box4 hB.out.blk
  obtain ⟨⟨d0, d1, d2, d3⟩, e0, e1, e2, e3⟩ := box4 h3.out.swap.blk
  simp only [Inst.none] at c0 c1 c2 c3 d0 d1 d2 d3 f0 f1 f2 f3
  have hlt : w.heap.size < w2.heap.size := h1.out.swap.blk.lt
  go_wp2
  refine bodyPost_ret (v := .tuple #[Inst.v ⟨2, arg, lit, 2⟩, .int .i64 _]) (by simp [results, Tryd.results29, go_sem, c0, c1, c2, c3, Inst.v]) rfl ⟨rfl, ?_⟩
  exact ((h3.out.swap.set 2 _).rot3.put4 ⟨2, arg, lit, 2⟩).tail
set_option maxRecDepth 100000 in
set_option maxHeartbeats 2000000 in
theorem Fetch_text_0a (h : At w0 w (RimgA g S :: L)) (m a v : Int) (hf : S.cellF m a false = 0) (hv : S.cellV m a = v) (arg : Int) (hun : Code.unpack v = (19, arg, true)) (ha0 : 0 ≤ arg) (ha1 : arg < 36028797018963968) (txt : ByteArray) (hf2 : S.textF m (a + 8) arg = 0) (hv2 : S.text m (a + 8) arg = txt) (hd : decide (0 < arg % 8) = true) :
    Calls Tryd.prog 29 #[.pointer (some ⟨g, 0, none⟩), .int .i64 m, .int .i64 a] w (Got1 (.tuple #[Inst.v ⟨19, arg, 0, 1 + arg / 8 + 1⟩, .int .i64 0]) (RimgA g S) w0 L) := by
  have hb := h.box Inst.none.c 44
  have hc := b_cell hb.swap m a
  rw [hf, hv] at hc
  replace hc := Lib.hid hc
  obtain ⟨gb0, hrep⟩ := RimgA.rep h
  obtain ⟨q1, q2⟩ := cellF_in hrep.ok hf
  have hvr : -9223372036854775808 ≤ v ∧ v ≤ 9223372036854775807 := by rw [← hv]; exact cellV_ok S m a
  clear hf hv hb h hrep
  have hu := fun w => Unpack_walk v hvr w
  rw [hun] at hu
  replace hu := Lib.hid hu
  clear hvr hun
  go_enter Tryd.func29, Tryd.ntmps29
  go_wp2_with fail
  refine hc.out.mono ?_
  rintro e w1 ⟨rfl, h1⟩
  replace h1 := Lib.hid h1
  go_wp2_with fail
  refine (hu.out w1).mono ?_
  rintro e w2 ⟨rfl, rfl⟩
  have hX : At w0 (w2.alloc (.cells #[.int .i64 19, .int .i64 arg, .int .i64 0, .int .i64 1] 44)) (BlkA w2.heap.size 44 (Inst.c ⟨19, arg, 0, 1⟩) :: _) := h1.out.box (Inst.c ⟨19, arg, 0, 1⟩) 44
  replace hX := Lib.hid hX
  have hc2 := b_text hX.out.swap m (a + 8) arg (by omega)
  rw [hv2, hf2] at hc2
  replace hc2 := Lib.hid hc2
  obtain ⟨⟨d0, d1, d2, d3⟩, e0, e1, e2, e3⟩ := box4 hX.out.blk
  dsimp only at d0 d1 d2 d3 e0 e1 e2 e3
  go_wp2_with fail
  refine hc2.out.mono ?_
  rintro e w3 ⟨rfl, h3⟩
  replace h3 := Lib.hid h3
  clear d0 d1 d2 d3 e0 e1 e2 e3
  have hB := Lib.hid h3.out.rot3
  obtain ⟨⟨c0, c1, c2, c3⟩, f0, f1, f2, f3⟩ := box4 hB.out.blk
  obtain ⟨⟨d0, d1, d2, d3⟩, e0, e1, e2, e3⟩ := box4 h3.out.swap.blk
  simp only [Inst.none] at c0 c1 c2 c3 d0 d1 d2 d3 f0 f1 f2 f3
  have hlt : w.heap.size < w2.heap.size := h1.out.swap.blk.lt
  go_wp2
  refine bodyPost_ret (v := .tuple #[Inst.v ⟨19, arg, 0, 1 + arg / 8 + 1⟩, .int .i64 _]) (by simp [results, Tryd.results29, go_sem, c0, c1, c2, c3, Inst.v]) rfl ⟨rfl, ?_⟩
  exact ((h3.out.swap.set 3 _ |>.set 3 _).rot3.put4 ⟨19, arg, 0, 1 + arg / 8 + 1⟩).tail
set_option maxRecDepth 100000 in
set_option maxHeartbeats 2000000 in
theorem Fetch_text_0b (h : At w0 w (RimgA g S :: L)) (m a v : Int) (hf : S.cellF m a false = 0) (hv : S.cellV m a = v) (arg : Int) (hun : Code.unpack v = (19, arg, true)) (ha0 : 0 ≤ arg) (ha1 : arg < 36028797018963968) (txt : ByteArray) (hf2 : S.textF m (a + 8) arg = 0) (hv2 : S.text m (a + 8) arg = txt) (hd : decide (0 < arg % 8) = false) :
    Calls Tryd.prog 29 #[.pointer (some ⟨g, 0, none⟩), .int .i64 m, .int .i64 a] w (Got1 (.tuple #[Inst.v ⟨19, arg, 0, 1 + arg / 8⟩, .int .i64 0]) (RimgA g S) w0 L) := by
  have hb := h.box Inst.none.c 44
  have hc := b_cell hb.swap m a
  rw [hf, hv] at hc
  replace hc := Lib.hid hc
  obtain ⟨gb0, hrep⟩ := RimgA.rep h
  obtain ⟨q1, q2⟩ := cellF_in hrep.ok hf
  have hvr : -9223372036854775808 ≤ v ∧ v ≤ 9223372036854775807 := by rw [← hv]; exact cellV_ok S m a
  clear hf hv hb h hrep
  have hu := fun w => Unpack_walk v hvr w
  rw [hun] at hu
  replace hu := Lib.hid hu
  clear hvr hun
  go_enter Tryd.func29, Tryd.ntmps29
  go_wp2_with fail
  refine hc.out.mono ?_
  rintro e w1 ⟨rfl, h1⟩
  replace h1 := Lib.hid h1
  go_wp2_with fail
  refine (hu.out w1).mono ?_
  rintro e w2 ⟨rfl, rfl⟩
  have hX : At w0 (w2.alloc (.cells #[.int .i64 19, .int .i64 arg, .int .i64 0, .int .i64 1] 44)) (BlkA w2.heap.size 44 (Inst.c ⟨19, arg, 0, 1⟩) :: _) := h1.out.box (Inst.c ⟨19, arg, 0, 1⟩) 44
  replace hX := Lib.hid hX
  have hc2 := b_text hX.out.swap m (a + 8) arg (by omega)
  rw [hv2, hf2] at hc2
  replace hc2 := Lib.hid hc2
  obtain ⟨⟨d0, d1, d2, d3⟩, e0, e1, e2, e3⟩ := box4 hX.out.blk
  dsimp only at d0 d1 d2 d3 e0 e1 e2 e3
  go_wp2_with fail
  refine hc2.out.mono ?_
  rintro e w3 ⟨rfl, h3⟩
  replace h3 := Lib.hid h3
  clear d0 d1 d2 d3 e0 e1 e2 e3
  have hB := Lib.hid h3.out.rot3
  obtain ⟨⟨c0, c1, c2, c3⟩, f0, f1, f2, f3⟩ := box4 hB.out.blk
  obtain ⟨⟨d0, d1, d2, d3⟩, e0, e1, e2, e3⟩ := box4 h3.out.swap.blk
  simp only [Inst.none] at c0 c1 c2 c3 d0 d1 d2 d3 f0 f1 f2 f3
  have hlt : w.heap.size < w2.heap.size := h1.out.swap.blk.lt
  go_wp2
  refine bodyPost_ret (v := .tuple #[Inst.v ⟨19, arg, 0, 1 + arg / 8⟩, .int .i64 _]) (by simp [results, Tryd.results29, go_sem, c0, c1, c2, c3, Inst.v]) rfl ⟨rfl, ?_⟩
  exact ((h3.out.swap.set 3 _).rot3.put4 ⟨19, arg, 0, 1 + arg / 8⟩).tail
set_option maxRecDepth 100000 in
set_option maxHeartbeats 2000000 in
theorem Fetch_text_5a (h : At w0 w (RimgA g S :: L)) (m a v : Int) (hf : S.cellF m a false = 0) (hv : S.cellV m a = v) (arg : Int) (hun : Code.unpack v = (19, arg, true)) (ha0 : 0 ≤ arg) (ha1 : arg < 36028797018963968) (txt : ByteArray) (hf2 : S.textF m (a + 8) arg = 5) (hv2 : S.text m (a + 8) arg = txt) (hd : decide (0 < arg % 8) = true) :
    Calls Tryd.prog 29 #[.pointer (some ⟨g, 0, none⟩), .int .i64 m, .int .i64 a] w (Got1 (.tuple #[Inst.v Inst.none, .int .i64 5]) (RimgA g S) w0 L) := by
  have hb := h.box Inst.none.c 44
  have hc := b_cell hb.swap m a
  rw [hf, hv] at hc
  replace hc := Lib.hid hc
  obtain ⟨gb0, hrep⟩ := RimgA.rep h
  obtain ⟨q1, q2⟩ := cellF_in hrep.ok hf
  have hvr : -9223372036854775808 ≤ v ∧ v ≤ 9223372036854775807 := by rw [← hv]; exact cellV_ok S m a
  clear hf hv hb h hrep
  have hu := fun w => Unpack_walk v hvr w
  rw [hun] at hu
  replace hu := Lib.hid hu
  clear hvr hun
  go_enter Tryd.func29, Tryd.ntmps29
  go_wp2_with fail
  refine hc.out.mono ?_
  rintro e w1 ⟨rfl, h1⟩
  replace h1 := Lib.hid h1
  go_wp2_with fail
  refine (hu.out w1).mono ?_
  rintro e w2 ⟨rfl, rfl⟩
  have hX : At w0 (w2.alloc (.cells #[.int .i64 19, .int .i64 arg, .int .i64 0, .int .i64 1] 44)) (BlkA w2.heap.size 44 (Inst.c ⟨19, arg, 0, 1⟩) :: _) := h1.out.box (Inst.c ⟨19, arg, 0, 1⟩) 44
  replace hX := Lib.hid hX
  have hc2 := b_text hX.out.swap m (a + 8) arg (by omega)
  rw [hv2, hf2] at hc2
  replace hc2 := Lib.hid hc2
  obtain ⟨⟨d0, d1, d2, d3⟩, e0, e1, e2, e3⟩ := box4 hX.out.blk
  dsimp only at d0 d1 d2 d3 e0 e1 e2 e3
  go_wp2_with fail
  refine hc2.out.mono ?_
  rintro e w3 ⟨rfl, h3⟩
  replace h3 := Lib.hid h3
  clear d0 d1 d2 d3 e0 e1 e2 e3
  have hB := Lib.hid h3.out.rot3
  obtain ⟨⟨c0, c1, c2, c3⟩, f0, f1, f2, f3⟩ := box4 hB.out.blk
  obtain ⟨⟨d0, d1, d2, d3⟩, e0, e1, e2, e3⟩ := box4 h3.out.swap.blk
  simp only [Inst.none] at c0 c1 c2 c3 d0 d1 d2 d3 f0 f1 f2 f3
  have hlt : w.heap.size < w2.heap.size := h1.out.swap.blk.lt
  go_wp2
  refine bodyPost_ret (v := .tuple #[Inst.v Inst.none, .int .i64 _]) (by simp [results, Tryd.results29, go_sem, c0, c1, c2, c3, Inst.v, Inst.none]) rfl ⟨rfl, ?_⟩
  exact ((h3.out.swap.set 3 _ |>.set 3 _).rot3.put4 Inst.none).tail
set_option maxRecDepth 100000 in
set_option maxHeartbeats 2000000 in
theorem Fetch_text_5b (h : At w0 w (RimgA g S :: L)) (m a v : Int) (hf : S.cellF m a false = 0) (hv : S.cellV m a = v) (arg : Int) (hun : Code.unpack v = (19, arg, true)) (ha0 : 0 ≤ arg) (ha1 : arg < 36028797018963968) (txt : ByteArray) (hf2 : S.textF m (a + 8) arg = 5) (hv2 : S.text m (a + 8) arg = txt) (hd : decide (0 < arg % 8) = false) :
    Calls Tryd.prog 29 #[.pointer (some ⟨g, 0, none⟩), .int .i64 m, .int .i64 a] w (Got1 (.tuple #[Inst.v Inst.none, .int .i64 5]) (RimgA g S) w0 L) := by
  have hb := h.box Inst.none.c 44
  have hc := b_cell hb.swap m a
  rw [hf, hv] at hc
  replace hc := Lib.hid hc
  obtain ⟨gb0, hrep⟩ := RimgA.rep h
  obtain ⟨q1, q2⟩ := cellF_in hrep.ok hf
  have hvr : -9223372036854775808 ≤ v ∧ v ≤ 9223372036854775807 := by rw [← hv]; exact cellV_ok S m a
  clear hf hv hb h hrep
  have hu := fun w => Unpack_walk v hvr w
  rw [hun] at hu
  replace hu := Lib.hid hu
  clear hvr hun
  go_enter Tryd.func29, Tryd.ntmps29
  go_wp2_with fail
  refine hc.out.mono ?_
  rintro e w1 ⟨rfl, h1⟩
  replace h1 := Lib.hid h1
  go_wp2_with fail
  refine (hu.out w1).mono ?_
  rintro e w2 ⟨rfl, rfl⟩
  have hX : At w0 (w2.alloc (.cells #[.int .i64 19, .int .i64 arg, .int .i64 0, .int .i64 1] 44)) (BlkA w2.heap.size 44 (Inst.c ⟨19, arg, 0, 1⟩) :: _) := h1.out.box (Inst.c ⟨19, arg, 0, 1⟩) 44
  replace hX := Lib.hid hX
  have hc2 := b_text hX.out.swap m (a + 8) arg (by omega)
  rw [hv2, hf2] at hc2
  replace hc2 := Lib.hid hc2
  obtain ⟨⟨d0, d1, d2, d3⟩, e0, e1, e2, e3⟩ := box4 hX.out.blk
  dsimp only at d0 d1 d2 d3 e0 e1 e2 e3
  go_wp2_with fail
  refine hc2.out.mono ?_
  rintro e w3 ⟨rfl, h3⟩
  replace h3 := Lib.hid h3
  clear d0 d1 d2 d3 e0 e1 e2 e3
  have hB := Lib.hid h3.out.rot3
  obtain ⟨⟨c0, c1, c2, c3⟩, f0, f1, f2, f3⟩ := box4 hB.out.blk
  obtain ⟨⟨d0, d1, d2, d3⟩, e0, e1, e2, e3⟩ := box4 h3.out.swap.blk
  simp only [Inst.none] at c0 c1 c2 c3 d0 d1 d2 d3 f0 f1 f2 f3
  have hlt : w.heap.size < w2.heap.size := h1.out.swap.blk.lt
  go_wp2
  refine bodyPost_ret (v := .tuple #[Inst.v Inst.none, .int .i64 _]) (by simp [results, Tryd.results29, go_sem, c0, c1, c2, c3, Inst.v, Inst.none]) rfl ⟨rfl, ?_⟩
  exact ((h3.out.swap.set 3 _).rot3.put4 Inst.none).tail
set_option maxRecDepth 100000 in
set_option maxHeartbeats 2000000 in
theorem Fetch_text_19a (h : At w0 w (RimgA g S :: L)) (m a v : Int) (hf : S.cellF m a false = 0) (hv : S.cellV m a = v) (arg : Int) (hun : Code.unpack v = (19, arg, true)) (ha0 : 0 ≤ arg) (ha1 : arg < 36028797018963968) (txt : ByteArray) (hf2 : S.textF m (a + 8) arg = 19) (hv2 : S.text m (a + 8) arg = txt) (hd : decide (0 < arg % 8) = true) :
    Calls Tryd.prog 29 #[.pointer (some ⟨g, 0, none⟩), .int .i64 m, .int .i64 a] w (Got1 (.tuple #[Inst.v Inst.none, .int .i64 19]) (RimgA g S) w0 L) := by
  have hb := h.box Inst.none.c 44
  have hc := b_cell hb.swap m a
  rw [hf, hv] at hc
  replace hc := Lib.hid hc
  obtain ⟨gb0, hrep⟩ := RimgA.rep h
  obtain ⟨q1, q2⟩ := cellF_in hrep.ok hf
  have hvr : -9223372036854775808 ≤ v ∧ v ≤ 9223372036854775807 := by rw [← hv]; exact cellV_ok S m a
  clear hf hv hb h hrep
  have hu := fun w => Unpack_walk v hvr w
  rw [hun] at hu
  replace hu := Lib.hid hu
  clear hvr hun
  go_enter Tryd.func29, Tryd.ntmps29
  go_wp2_with fail
  refine hc.out.mono ?_
  rintro e w1 ⟨rfl, h1⟩
  replace h1 := Lib.hid h1
  go_wp2_with fail
  refine (hu.out w1).mono ?_
  rintro e w2 ⟨rfl, rfl⟩
  have hX : At w0 (w2.alloc (.cells #[.int .i64 19, .int .i64 arg, .int .i64 0, .int .i64 1] 44)) (BlkA w2.heap.size 44 (Inst.c ⟨19, arg, 0, 1⟩) :: _) := h1.out.box (Inst.c ⟨19, arg, 0, 1⟩) 44
  replace hX := Lib.hid hX
  have hc2 := b_text hX.out.swap m (a + 8) arg (by omega)
  rw [hv2, hf2] at hc2
  replace hc2 := Lib.hid hc2
  obtain ⟨⟨d0, d1, d2, d3⟩, e0, e1, e2, e3⟩ := box4 hX.out.blk
  dsimp only at d0 d1 d2 d3 e0 e1 e2 e3
  go_wp2_with fail
  refine hc2.out.mono ?_
  rintro e w3 ⟨rfl, h3⟩
  replace h3 := Lib.hid h3
  clear d0 d1 d2 d3 e0 e1 e2 e3
  have hB := Lib.hid h3.out.rot3
  obtain ⟨⟨c0, c1, c2, c3⟩, f0, f1, f2, f3⟩ := box4 hB.out.blk
  obtain ⟨⟨d0, d1, d2, d3⟩, e0, e1, e2, e3⟩ := box4 h3.out.swap.blk
  simp only [Inst.none] at c0 c1 c2 c3 d0 d1 d2 d3 f0 f1 f2 f3
  have hlt : w.heap.size < w2.heap.size := h1.out.swap.blk.lt
  go_wp2
  refine bodyPost_ret (v := .tuple #[Inst.v Inst.none, .int .i64 _]) (by simp [results, Tryd.results29, go_sem, c0, c1, c2, c3, Inst.v, Inst.none]) rfl ⟨rfl, ?_⟩
  exact ((h3.out.swap.set 3 _ |>.set 3 _).rot3.put4 Inst.none).tail
set_option maxRecDepth 100000 in
set_option maxHeartbeats 2000000 in
theorem Fetch_text_19b (h : At w0 w (RimgA g S :: L)) (m a v : Int) (hf : S.cellF m a false = 0) (hv : S.cellV m a = v) (arg : Int) (hun : Code.unpack v = (19, arg, true)) (ha0 : 0 ≤ arg) (ha1 : arg < 36028797018963968) (txt : ByteArray) (hf2 : S.textF m (a + 8) arg = 19) (hv2 : S.text m (a + 8) arg = txt) (hd : decide (0 < arg % 8) = false) :
    Calls Tryd.prog 29 #[.pointer (some ⟨g, 0, none⟩), .int .i64 m, .int .i64 a] w (Got1 (.tuple #[Inst.v Inst.none, .int .i64 19]) (RimgA g S) w0 L) := by
  have hb := h.box Inst.none.c 44
  have hc := b_cell hb.swap m a
  rw [hf, hv] at hc
  replace hc := Lib.hid hc
  obtain ⟨gb0, hrep⟩ := RimgA.rep h
  obtain ⟨q1, q2⟩ := cellF_in hrep.ok hf
  have hvr : -9223372036854775808 ≤ v ∧ v ≤ 9223372036854775807 := by rw [← hv]; exact cellV_ok S m a
  clear hf hv hb h hrep
  have hu := fun w => Unpack_walk v hvr w
  rw [hun] at hu
  replace hu := Lib.hid hu
  clear hvr hun
  go_enter Tryd.func29, Tryd.ntmps29
  go_wp2_with fail
  refine hc.out.mono ?_
  rintro e w1 ⟨rfl, h1⟩
  replace h1 := Lib.hid h1
  go_wp2_with fail
  refine (hu.out w1).mono ?_
  rintro e w2 ⟨rfl, rfl⟩
  have hX : At w0 (w2.alloc (.cells #[.int .i64 19, .int .i64 arg, .int .i64 0, .int .i64 1] 44)) (BlkA w2.heap.size 44 (Inst.c ⟨19, arg, 0, 1⟩) :: _) := h1.out.box (Inst.c ⟨19, arg, 0, 1⟩) 44
  replace hX := Lib.hid hX
  have hc2 := b_text hX.out.swap m (a + 8) arg (by omega)
  rw [hv2, hf2] at hc2
  replace hc2 := Lib.hid hc2
  obtain ⟨⟨d0, d1, d2, d3⟩, e0, e1, e2, e3⟩ := box4 hX.out.blk
  dsimp only at d0 d1 d2 d3 e0 e1 e2 e3
  go_wp2_with fail
  refine hc2.out.mono ?_
  rintro e w3 ⟨rfl, h3⟩
  replace h3 := Lib.hid h3
  clear d0 d1 d2 d3 e0 e1 e2 e3
  have hB := Lib.hid h3.out.rot3
  obtain ⟨⟨c0, c1, c2, c3⟩, f0, f1, f2, f3⟩ := box4 hB.out.blk
  obtain ⟨⟨d0, d1, d2, d3⟩, e0, e1, e2, e3⟩ := box4 h3.out.swap.blk
  simp only [Inst.none] at c0 c1 c2 c3 d0 d1 d2 d3 f0 f1 f2 f3
  have hlt : w.heap.size < w2.heap.size := h1.out.swap.blk.lt
  go_wp2
  refine bodyPost_ret (v := .tuple #[Inst.v Inst.none, .int .i64 _]) (by simp [results, Tryd.results29, go_sem, c0, c1, c2, c3, Inst.v, Inst.none]) rfl ⟨rfl, ?_⟩
  exact ((h3.out.swap.set 3 _).rot3.put4 Inst.none).tail
theorem Fetch_walk (h : At w0 w (RimgA g S :: L)) (m a : Int) :
    Calls Tryd.prog 29 #[.pointer (some ⟨g, 0, none⟩), .int .i64 m, .int .i64 a] w (Got1 (.tuple #[(S.fetch m a).1.v, .int .i64 (S.fetch m a).2]) (RimgA g S) w0 L) := by
  rcases cellF_cases S m a false with hf | hf | hf
  rotate_left
  · have e : S.fetch m a = (Inst.none, 5) := by unfold Img.fetch; simp [hf]
    rw [e]; exact Fetch_bad h m a 5 hf (.inl rfl)
  · have e : S.fetch m a = (Inst.none, 6) := by unfold Img.fetch; simp [hf]
    rw [e]; exact Fetch_bad h m a 6 hf (.inr rfl)
  obtain ⟨v, hv⟩ : ∃ v, S.cellV m a = v := ⟨_, rfl⟩
  rcases Code.pack_unpack v with ⟨op, arg, hun, hr, _⟩ | hun
  rotate_left
  · have e : S.fetch m a = (Inst.none, 14) := by unfold Img.fetch; simp [hf, hv, hun]
    rw [e]; exact Fetch_none h m a v hf hv hun
  by_cases h2 : op = 2
  · subst h2
    obtain ⟨lit, hl⟩ : ∃ x, S.cellV m (a + 8) = x := ⟨_, rfl⟩
    rcases cellF_cases S m (a + 8) false with hf2 | hf2 | hf2
    · have e : S.fetch m a = (⟨2, arg, lit, 2⟩, 0) := by unfold Img.fetch; simp [hf, hv, hun, hf2, hl]
      rw [e]; exact Fetch_lit_ok h m a v hf hv arg hun lit 0 hf2 hl rfl
    · have e : S.fetch m a = (Inst.none, 5) := by unfold Img.fetch; simp [hf, hv, hun, hf2]
      rw [e]; exact Fetch_lit_bad h m a v hf hv arg hun lit 5 hf2 hl (.inl rfl)
    · have e : S.fetch m a = (Inst.none, 6) := by unfold Img.fetch; simp [hf, hv, hun, hf2]
      rw [e]; exact Fetch_lit_bad h m a v hf hv arg hun lit 6 hf2 hl (.inr rfl)
  by_cases h19 : op = 19
  · subst h19
    obtain ⟨b1, b2⟩ := text_arg hr
    have hd8 : decide (0 < arg % 8) = true ∨ decide (0 < arg % 8) = false := by cases decide (0 < arg % 8) <;> simp
    obtain ⟨txt, hl⟩ : ∃ x, S.text m (a + 8) arg = x := ⟨_, rfl⟩
    rcases textF_cases S m (a + 8) arg with hf2 | hf2 | hf2
    · have e : S.fetch m a = (⟨19, arg, 0, 1 + (arg + 7) / 8⟩, 0) := by unfold Img.fetch; simp [hf, hv, hun, hf2]
      rw [e]
      rcases hd8 with hd | hd
      · have hq : 1 + (arg + 7) / 8 = 1 + arg / 8 + 1 := by simp only [decide_eq_true_eq] at hd; omega
        rw [hq]
        exact Fetch_text_0a h m a v hf hv arg hun b1 b2 txt hf2 hl hd
      · have hq : 1 + (arg + 7) / 8 = 1 + arg / 8 := by simp only [decide_eq_false_iff_not] at hd; omega
        rw [hq]
        exact Fetch_text_0b h m a v hf hv arg hun b1 b2 txt hf2 hl hd
    · have e : S.fetch m a = (Inst.none, 5) := by unfold Img.fetch; simp [hf, hv, hun, hf2]
      rw [e]
      rcases hd8 with hd | hd
      · exact Fetch_text_5a h m a v hf hv arg hun b1 b2 txt hf2 hl hd
      · exact Fetch_text_5b h m a v hf hv arg hun b1 b2 txt hf2 hl hd
    · have e : S.fetch m a = (Inst.none, 19) := by unfold Img.fetch; simp [hf, hv, hun, hf2]
      rw [e]
      rcases hd8 with hd | hd
      · exact Fetch_text_19a h m a v hf hv arg hun b1 b2 txt hf2 hl hd
      · exact Fetch_text_19b h m a v hf hv arg hun b1 b2 txt hf2 hl hd
  have e : S.fetch m a = (⟨op, arg, 0, 1⟩, 0) := by unfold Img.fetch; simp [hf, hv, hun, h2, h19]
  rw [e]; exact Fetch_other h m a v hf hv op arg hun (by simpa using h2) (by simpa using h19)
end
end Go.Proofs.YtanpbphgmnjdeaaDoor
