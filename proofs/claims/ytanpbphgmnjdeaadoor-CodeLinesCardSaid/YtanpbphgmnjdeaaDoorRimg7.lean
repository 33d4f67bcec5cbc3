/- Chapter 3: the document's image: texts, parts, the seal, a new one. Conditions: as written. -/
import Derived.Test.YtanpbphgmnjdeaaDoorRimg6
namespace Go.Proofs.YtanpbphgmnjdeaaDoor
set_option linter.unusedVariables false
open Go.RowKit Go.Lib Go.Deep

theorem r_text_neg (p : Value) (m a n : Int) (hn : n < 0) (w : World) : Calls Tryd.prog 63 #[p, .int .i64 m, .int .i64 a, .int .i64 n] w (Gives (.tuple #[.string ⟨#[]⟩, .int .i64 19]) w) := by
  go_enter Tryd.func63, Tryd.ntmps63
  go_wp2
  go_ret2
  exact ⟨rfl, Below.refl _ _⟩
theorem r_text_no (p : Value) (m a : Int) (n : Nat) (hn : n ≤ 9223372036854775807) (w : World) (hrow : Calls Tryd.prog 83 #[p, .int .i64 m, .int .i64 a, .int .i64 (n : Int), .int .i64 1] w (Gives (.bool false) w)) :
    Calls Tryd.prog 63 #[p, .int .i64 m, .int .i64 a, .int .i64 (n : Int)] w (Gives (.tuple #[.string ⟨#[]⟩, .int .i64 5]) w) := by
  replace hrow := Lib.hid hrow
  go_enter Tryd.func63, Tryd.ntmps63
  go_wp2_with fail
  refine hrow.out.mono ?_
  rintro e w1 ⟨rfl, h1⟩
  replace h1 := Lib.hid h1
  go_wp2
  go_ret2
  exact ⟨rfl, h1.out⟩
theorem r_text_0 (p : Value) (m a : Int) (w : World) (hrow : Calls Tryd.prog 83 #[p, .int .i64 m, .int .i64 a, .int .i64 0, .int .i64 1] w (Gives (.bool true) w)) :
    Calls Tryd.prog 63 #[p, .int .i64 m, .int .i64 a, .int .i64 0] w (Gives (.tuple #[.string ⟨#[]⟩, .int .i64 0]) w) := by
  replace hrow := Lib.hid hrow
  go_enter Tryd.func63, Tryd.ntmps63
  go_wp2_with fail
  refine hrow.out.mono ?_
  rintro e w1 ⟨rfl, h1⟩
  replace h1 := Lib.hid h1
  go_wp2
  go_ret2
  exact ⟨rfl, h1.out⟩
set_option maxRecDepth 100000 in
theorem r_text_yes {w : World} {g gb : Nat} {S : Img} (h : RRep w g gb S) (m : Int) (k n : Nat) (hn0 : 0 < n) (hle : k + n ≤ S.beg 6)
    (hrow : Calls Tryd.prog 83 #[.pointer (some ⟨g, 0, none⟩), .int .i64 m, .int .i64 (k : Int), .int .i64 (n : Int), .int .i64 1] w (Gives (.bool true) w)) :
    Calls Tryd.prog 63 #[.pointer (some ⟨g, 0, none⟩), .int .i64 m, .int .i64 (k : Int), .int .i64 (n : Int)] w (Gives (.tuple #[.string ⟨(S.bytes k n).toArray⟩, .int .i64 0]) w) := by
  have hsm := h.ok.small
  replace hrow := Lib.hid hrow
  replace h := Lib.hid h
  have hne : ((n : Int) == 0) = false := by rw [beq_eq_false_iff_ne]; omega
  have hkn : k + n - k = n := by omega
  go_enter Tryd.func63, Tryd.ntmps63
  go_wp2_with fail
  refine hrow.out.mono ?_
  rintro e w1 ⟨rfl, h1⟩
  have hR := h.out.below h1
  have hall := hR.all_cell
  have hc := fun cap => convR hR k n cap hle
  generalize (S.bytes (k : Int) n) = l at *
  generalize S.beg 6 = N at *
  replace h1 := Lib.hid h1
  clear hR
  go_wp2
  go_ret2
  exact ⟨rfl, h1.out⟩
theorem r_text {w : World} {g gb : Nat} {S : Img} (h : RRep w g gb S) (m a n : Int) (hn : n ≤ 9223372036854775807) :
    Calls Tryd.prog 63 #[.pointer (some ⟨g, 0, none⟩), .int .i64 m, .int .i64 a, .int .i64 n] w (Gives (.tuple #[.string (S.text m a n), .int .i64 (S.textF m a n)]) w) := by
  by_cases h0 : n < 0
  · have hF : S.textF m a n = 19 := by unfold Img.textF; simp [h0]
    have hT : S.text m a n = ⟨#[]⟩ := by unfold Img.text; simp [hF]
    rw [hF, hT]
    exact r_text_neg _ m a n h0 w
  obtain ⟨k, rfl⟩ := Int.eq_ofNat_of_zero_le (Int.not_lt.1 h0)
  have hF : S.textF m a k = if S.rowOk m a k false = true then 0 else 5 := by unfold Img.textF; rw [if_neg h0]; simp
  by_cases hk0 : k = 0
  · subst hk0
    have hrow := r_row h m a 0 (by omega) false
    have hk : S.rowOk m a 0 false = true := by unfold Img.rowOk; rfl
    rw [hk] at hrow
    rw [hk, if_pos rfl] at hF
    have hT : S.text m a ((0 : Nat) : Int) = ⟨#[]⟩ := by unfold Img.text; rw [if_pos hF]; simp [Img.bytes]
    rw [hF, hT]
    exact r_text_0 _ m a w hrow
  · rcases r_row_of h m a k hk0 (by omega) false with ⟨hk, hrow⟩ | ⟨hk, j, rfl, hle, hrow⟩
    · rw [hk, if_neg (by decide)] at hF
      have hT : S.text m a k = ⟨#[]⟩ := by unfold Img.text; simp [hF]
      rw [hF, hT]
      exact r_text_no _ m a k (by omega) w hrow
    · rw [hk, if_pos rfl] at hF
      have hT : S.text m j k = ⟨(S.bytes j k).toArray⟩ := by unfold Img.text; rw [if_pos hF]; simp
      rw [hF, hT]
      exact r_text_yes h m j k (by omega) hle hrow
set_option maxRecDepth 100000 in
theorem r_part {w : World} {g gb : Nat} {S : Img} (h : RRep w g gb S) (r : Nat) (h1 : 1 ≤ r) (h5 : r ≤ 5) :
    Calls Tryd.prog 31 #[.pointer (some ⟨g, 0, none⟩), .int .i64 (r : Int)] w (Gives (.string (S.part r)) w) := by
  have hle := S.beg_mono (i := r) (j := r + 1) h1 (by omega) (by omega)
  have hle6 := S.beg_mono (i := r + 1) (j := 6) (by omega) (by omega) (by omega)
  have hsm := h.ok.small
  have hspan := r_span h r
  obtain ⟨e1, e2⟩ := span_nat S r h1 h5
  rw [e1, e2] at hspan
  replace hspan := Lib.hid hspan
  have hT : S.part r = ⟨(S.bytes (S.beg r : Nat) (S.beg (r + 1) - S.beg r)).toArray⟩ := by unfold Img.part Img.bytes; rw [if_pos ⟨h1, h5⟩]; simp
  have hc : ∀ w' k cap, RRep w' g gb S → (k = S.beg r ∨ S.beg (r + 1) = S.beg r ∧ k = 0) → (convert 76 9 (.slice (some ⟨gb, k, none⟩) (S.beg (r + 1) - S.beg r) cap)).run Tryd.prog w' = .ok (.string (S.part r)) w' := fun w' k cap h hk => by
    rw [hT]
    rcases hk with rfl | ⟨he, rfl⟩
    · exact convR h _ _ cap (by omega)
    · rw [he, Nat.sub_self]
      have := convR h 0 0 cap (by omega)
      rw [this]
      simp [Img.bytes]
  replace hc := Lib.hid hc
  replace h := Lib.hid h
  clear hT e1 e2
  generalize hs : S.part r = s at *
  generalize hx : S.beg r = x at *
  generalize hy : S.beg (r + 1) = y at *
  clear hs hx hy
  have hxy : y = x ∨ (x < y ∧ ((y : Int) == x) = false) := by
    rcases Nat.eq_or_lt_of_le hle with h | h
    · exact .inl h.symm
    · exact .inr ⟨h, by rw [beq_eq_false_iff_ne]; omega⟩
  rcases hxy with rfl | ⟨hxy, hne⟩
  all_goals
    go_enter Tryd.func31, Tryd.ntmps31
    go_wp2_with fail
    refine hspan.out.mono ?_
    rintro e w1 ⟨rfl, h1⟩
    have hR := h.out.below h1
    have hall := hR.all_cell
  · have hc1 := fun k cap => hc.out w1 k cap hR
    rw [Nat.sub_self] at hc1
    have hc2 := fun cap => hc1 y cap (by simp)
    have hc3 := fun cap => hc1 0 cap (by simp)
    generalize S.beg 6 = N at *
    replace h1 := Lib.hid h1
    clear hR hc1
    go_wp2
    all_goals go_ret
    all_goals exact ⟨rfl, h1.out⟩
  · have hc1 := fun cap => hc.out w1 x cap hR (.inl rfl)
    generalize S.beg 6 = N at *
    replace h1 := Lib.hid h1
    clear hR
    go_wp2
    all_goals go_ret
    all_goals exact ⟨rfl, h1.out⟩

theorem rimgCells_op (gb : Nat) (S : Img) : (rimgCells gb S).setIfInBounds 6 (.bool true) = rimgCells gb { S with op := true } := rfl
theorem rimgCells_cl (gb : Nat) (S : Img) : (rimgCells gb S).setIfInBounds 7 (.bool true) = rimgCells gb { S with cl := true } := rfl
theorem r_open_shut {w : World} {g gb : Nat} {S : Img} (h : RRep w g gb S) (hc : S.cl = true) : Calls Tryd.prog 57 #[.pointer (some ⟨g, 0, none⟩)] w (Same (.int .i64 5) w) := by
  have hcl := h.cl_cell
  rw [hc] at hcl
  clear h hc
  go_enter Tryd.func57, Tryd.ntmps57
  go_wp2
  go_ret
  exact ⟨rfl, rfl⟩
theorem r_open {w : World} {g gb : Nat} {S : Img} (h : RRep w g gb S) (hc : S.cl = false) : Calls Tryd.prog 57 #[.pointer (some ⟨g, 0, none⟩)] w (Same (.int .i64 0) (w.setCell ⟨g, 6, none⟩ (.bool true))) := by
  have hcl := h.cl_cell
  have hop := h.op_cell
  have hf := h.blk.frozen 6
  rw [hc] at hcl
  generalize S.op = o at hop
  clear h hc
  go_enter Tryd.func57, Tryd.ntmps57
  go_wp2
  go_ret
  exact ⟨rfl, rfl⟩
theorem r_seal_shut {w : World} {g gb : Nat} {S : Img} (h : RRep w g gb S) (hc : S.cl = true) : Calls Tryd.prog 59 #[.pointer (some ⟨g, 0, none⟩)] w (Same (.int .i64 5) w) := by
  have hcl := h.cl_cell
  rw [hc] at hcl
  clear h hc
  go_enter Tryd.func59, Tryd.ntmps59
  go_wp2
  go_ret
  exact ⟨rfl, rfl⟩
theorem r_seal {w : World} {g gb : Nat} {S : Img} (h : RRep w g gb S) (hc : S.cl = false) : Calls Tryd.prog 59 #[.pointer (some ⟨g, 0, none⟩)] w (Same (.int .i64 0) (w.setCell ⟨g, 7, none⟩ (.bool true))) := by
  have hcl := h.cl_cell
  have hf := h.blk.frozen 7
  rw [hc] at hcl
  clear h hc
  go_enter Tryd.func59, Tryd.ntmps59
  go_wp2
  go_ret
  exact ⟨rfl, rfl⟩
section
variable {w0 w : World} {g : Nat} {S : Img} {L : List Asr}
theorem b_text (h : At w0 w (RimgA g S :: L)) (m a n : Int) (hn : n ≤ 9223372036854775807) : Calls Tryd.prog 63 #[.pointer (some ⟨g, 0, none⟩), .int .i64 m, .int .i64 a, .int .i64 n] w (Got1 (.tuple #[.string (S.text m a n), .int .i64 (S.textF m a n)]) (RimgA g S) w0 L) := by
  obtain ⟨gb, hr⟩ := RimgA.rep h
  exact (r_text hr m a n hn).mono fun e w' h' => ⟨h'.1, h.ofBelow h'.2⟩
theorem b_part (h : At w0 w (RimgA g S :: L)) (r : Nat) (h1 : 1 ≤ r) (h5 : r ≤ 5) : Calls Tryd.prog 31 #[.pointer (some ⟨g, 0, none⟩), .int .i64 (r : Int)] w (Got1 (.string (S.part r)) (RimgA g S) w0 L) := by
  obtain ⟨gb, hr⟩ := RimgA.rep h
  exact (r_part hr r h1 h5).mono fun e w' h' => ⟨h'.1, h.ofBelow h'.2⟩
theorem b_span (h : At w0 w (RimgA g S :: L)) (r : Int) : Calls Tryd.prog 27 #[.pointer (some ⟨g, 0, none⟩), .int .i64 r] w (Got1 (.tuple #[.int .i64 (spanFrom S r), .int .i64 (spanTo S r)]) (RimgA g S) w0 L) := by
  obtain ⟨gb, hr⟩ := RimgA.rep h
  exact (r_span hr r).mono fun e w' h' => ⟨h'.1, h.ofBelow h'.2⟩
theorem b_open (h : At w0 w (RimgA g S :: L)) : Calls Tryd.prog 57 #[.pointer (some ⟨g, 0, none⟩)] w (Got1 (.int .i64 S.openF) (RimgA g S.opened) w0 L) := by
  refine h.call1 fun F hF => ?_
  obtain ⟨gb, hr, hFk⟩ := hF
  unfold Img.openF Img.opened
  rcases Bool.eq_false_or_eq_true S.cl with hc | hc
  rotate_left
  · rw [if_neg (by rw [hc]; decide), if_neg (by rw [hc]; decide)]
    refine (r_open hr hc).mono ?_
    rintro e w' ⟨rfl, rfl⟩
    refine ⟨_, _, F, ⟨rfl, rfl⟩, rfl, ⟨gb, ⟨?_, hr.row.far (p := ⟨g, 6, none⟩) hr.ne.symm _, hr.ok.op true⟩, hFk⟩, (Kept.refl _ _).setCell (.inl ((hFk _).2 (.inl rfl))) _, fun k hk => .inl hk⟩
    rw [← rimgCells_op]
    exact hr.blk.set_ 6 _
  · rw [if_pos hc, if_pos hc]
    refine (r_open_shut hr hc).mono ?_
    rintro e w' ⟨rfl, rfl⟩
    exact ⟨_, _, F, ⟨rfl, rfl⟩, rfl, ⟨gb, hr, hFk⟩, Kept.refl _ _, fun k hk => .inl hk⟩
theorem b_seal (h : At w0 w (RimgA g S :: L)) : Calls Tryd.prog 59 #[.pointer (some ⟨g, 0, none⟩)] w (Got1 (.int .i64 S.openF) (RimgA g S.sealed) w0 L) := by
  refine h.call1 fun F hF => ?_
  obtain ⟨gb, hr, hFk⟩ := hF
  unfold Img.openF Img.sealed
  rcases Bool.eq_false_or_eq_true S.cl with hc | hc
  rotate_left
  · rw [if_neg (by rw [hc]; decide)]
    refine (r_seal hr hc).mono ?_
    rintro e w' ⟨rfl, rfl⟩
    refine ⟨_, _, F, ⟨rfl, rfl⟩, rfl, ⟨gb, ⟨?_, hr.row.far (p := ⟨g, 7, none⟩) hr.ne.symm _, hr.ok.cl true⟩, hFk⟩, (Kept.refl _ _).setCell (.inl ((hFk _).2 (.inl rfl))) _, fun k hk => .inl hk⟩
    rw [← rimgCells_cl]
    exact hr.blk.set_ 7 _
  · rw [if_pos hc]
    refine (r_seal_shut hr hc).mono ?_
    rintro e w' ⟨rfl, rfl⟩
    have hS : ({ S with cl := true } : Img) = S := by cases S; simp at hc; simp [hc]
    rw [hS]
    exact ⟨_, _, F, ⟨rfl, rfl⟩, rfl, ⟨gb, hr, hFk⟩, Kept.refl _ _, fun k hk => .inl hk⟩
end

theorem fits_yes (n lo hi : Int) (h1 : lo ≤ n) (h2 : n ≤ hi) (h8 : n % 8 = 0) (w : World) : Calls Tryd.prog 106 #[.int .i64 n, .int .i64 lo, .int .i64 hi] w (Same (.bool true) w) := by
  have h3 : n.tmod 8 = 0 := (tmod8 n).2 h8
  clear h8
  go_enter Tryd.func106, Tryd.ntmps106
  go_wp2
  go_ret
  exact ⟨rfl, rfl⟩
set_option maxRecDepth 100000 in
theorem Fits_yes {k s u d r : Nat} (hf : Fits k s u d r) (w : World) : Calls Tryd.prog 80 #[layoutV k s u d r] w (Gives (.bool true) w) := by
  have f1 := Lib.hid fun w => fits_yes k 16384 65536 (by have := hf.k1; omega) (by have := hf.k2; omega) (by have := hf.k8; omega) w
  have f2 := Lib.hid fun w => fits_yes s 0 4096 (by omega) (by have := hf.s2; omega) (by have := hf.s8; omega) w
  have f3 := Lib.hid fun w => fits_yes u 256 65536 (by have := hf.u1; omega) (by have := hf.u2; omega) (by have := hf.u8; omega) w
  have f4 := Lib.hid fun w => fits_yes d 64 4096 (by have := hf.d1; omega) (by have := hf.d2; omega) (by have := hf.d8; omega) w
  have f5 := Lib.hid fun w => fits_yes r 64 4096 (by have := hf.r1; omega) (by have := hf.r2; omega) (by have := hf.r8; omega) w
  clear hf
  unfold layoutV
  go_enter Tryd.func80, Tryd.ntmps80
  go_wp2_with fail
  refine (f1.out _).mono ?_
  rintro e w1 ⟨rfl, rfl⟩
  go_wp2_with fail
  refine (f2.out _).mono ?_
  rintro e w1 ⟨rfl, rfl⟩
  go_wp2_with fail
  refine (f3.out _).mono ?_
  rintro e w1 ⟨rfl, rfl⟩
  go_wp2_with fail
  refine (f4.out _).mono ?_
  rintro e w1 ⟨rfl, rfl⟩
  go_wp2_with fail
  refine (f5.out _).mono ?_
  rintro e w1 ⟨rfl, rfl⟩
  go_wp2
  go_ret
  exact ⟨rfl, (Below.refl _ _).alloc (Nat.le_refl _) _⟩
def RNewPost (S : Img) (w : World) (e : Ending) (w' : World) : Prop := ∃ g gb, e = .returned (.tuple #[.pointer (some ⟨g, 0, none⟩), .bool true]) ∧ w.heap.size ≤ g ∧ w.heap.size ≤ gb ∧ RRep w' g gb S ∧ Below w.heap.size w w'
set_option maxRecDepth 100000 in
set_option maxHeartbeats 2000000 in
theorem r_new (k s u d r : Nat) (hf : Fits k s u d r) (w : World) : Calls Tryd.prog 53 #[layoutV k s u d r] w (RNewPost (newImg k s u d r) w) := by
  have hfits := Lib.hid fun w => Fits_yes hf w
  have hok := Lib.hid (newImg_ok hf)
  obtain ⟨k1, k2, k8, s2, s8, u1, u2, u8, d1, d2, d8, r1, r2, r8⟩ := hf
  clear k1 k8 s8 u1 u8 d1 d8 r1 r8
  obtain ⟨n, hn⟩ : ∃ n, k + s + u + d + r = n := ⟨_, rfl⟩
  have hmk := fun w => run_make_row' (P := Tryd.prog) 76 5 (.int .u8 0) 1 Tryd.underlying76 (by kernel_rfl) rfl .i64 .i64 n (by omega) (by omega) w
  simp only [made0] at hmk
  have hsum : ((n : Nat) : Int) = (k : Int) + s + u + d + r := by omega
  rw [hsum] at hmk
  clear hsum
  replace hn := Lib.hid hn
  unfold layoutV at *
  go_enter Tryd.func53, Tryd.ntmps53
  go_wp2_with fail
  refine (hfits.out _).mono ?_
  rintro e w1 ⟨rfl, h1⟩
  have hb1 : Blk w1 w.heap.size 68 #[.int .i64 (k : Int), .int .i64 (s : Int), .int .i64 (u : Int), .int .i64 (d : Int), .int .i64 (r : Int)] := (Blk.new w _ _).below h1 (by simp)
  have hbl := Lib.hid (((Below.refl w.heap.size w).alloc (Nat.le_refl _) _).trans (h1.mono (by simp)))
  have hsz : w.heap.size < w1.heap.size := by have := h1.size; simp at this; omega
  have c0 : w1.cell? ⟨w.heap.size, 0, none⟩ = some (.int .i64 (k : Int)) := hb1.cell 0
  have c1 : w1.cell? ⟨w.heap.size, 1, none⟩ = some (.int .i64 (s : Int)) := hb1.cell 1
  have c2 : w1.cell? ⟨w.heap.size, 2, none⟩ = some (.int .i64 (u : Int)) := hb1.cell 2
  have c3 : w1.cell? ⟨w.heap.size, 3, none⟩ = some (.int .i64 (d : Int)) := hb1.cell 3
  have c4 : w1.cell? ⟨w.heap.size, 4, none⟩ = some (.int .i64 (r : Int)) := hb1.cell 4
  clear h1 hb1
  go_wp2
  go_region
  go_wp2
  go_ret2
  refine ⟨w1.heap.size + 1, w1.heap.size, rfl, by omega, by omega, ⟨?_, ?_, hok.out⟩, ((hbl.out.alloc (by omega) _).alloc (by simp; omega) _).drew⟩
  · have hn := hn.out
    subst hn
    exact (Blk.new' (by simp)).drew
  · have hn := hn.out
    subst hn
    exact ((Blk.new _ _ _).alloc _).drew
theorem b_new {w0 w : World} {L : List Asr} (h : At w0 w L) (k s u d r : Nat) (hf : Fits k s u d r) : Calls Tryd.prog 53 #[layoutV k s u d r] w fun e w' => ∃ g, e = .returned (.tuple #[.pointer (some ⟨g, 0, none⟩), .bool true]) ∧ At w0 w' (RimgA g (newImg k s u d r) :: L) := by
  refine (r_new k s u d r hf w).mono ?_
  rintro e w' ⟨g, gb, he, h1, h2, hr, hb⟩
  exact ⟨g, he, h.add (A := RimgA g (newImg k s u d r)) (F' := fun i => i = g ∨ i = gb) ⟨gb, hr, fun _ => Iff.rfl⟩ (Kept.ofBelow0 hb) (fun i hi => by rcases hi with rfl | rfl <;> assumption)⟩
end Go.Proofs.YtanpbphgmnjdeaaDoor
