/- Chapter 3: texts and parts of the program's image, its seal, a new one. Conditions: as written. -/
import Derived.Test.YtanpbphgmnjdeaaDoorImg5
namespace Go.Proofs.YtanpbphgmnjdeaaDoor
set_option linter.unusedVariables false
open Go.RowKit Go.Lib

theorem convS {w : World} {g gb : Nat} {S : Img} (h : IRep w g gb S) (k n cap : Nat) (hle : k + n ≤ S.beg 6) : (convert 76 9 (.slice (some ⟨gb, k, none⟩) n cap)).run Tryd.prog w = .ok (.string ⟨(S.bytes k n).toArray⟩) w := by
  have hl := bytes_len S h.ok k n hle
  have := run_convert_bytes_back (P := Tryd.prog) w 76 9 5 ⟨gb, k, none⟩ cap (S.bytes k n) Tryd.underlying76 Tryd.underlying5 Tryd.underlying9 (fun j hj => by
    have h2 : ((⟨gb, k, none⟩ : Addr).add j) = ⟨gb, k + j, none⟩ := by simp [Addr.add]
    rw [h2, h.byte (k + j) (by omega)]
    have h3 := bytes_getD S k n j (by omega)
    rw [← h3, List.getD_eq_getElem?_getD, List.getElem?_eq_getElem hj]
    rfl)
  rw [hl] at this
  exact this
theorem conv_nil (w : World) : (convert 76 9 (.slice none 0 0)).run Tryd.prog w = .ok (.string ⟨#[]⟩) w :=
  run_convert_bytes_nil w 76 5 Tryd.underlying76 Tryd.underlying5 0 0 9 Tryd.underlying9
set_option maxRecDepth 100000 in
/-- Text, the row's answer being known -/
theorem i_text_core (p : Value) (m a : Int) (n : Nat) (hn : n ≤ 9223372036854775807) (w : World) (sl : Value) (ok : Bool) (s : ByteArray) (f : Int)
    (hrow : Calls Tryd.prog 81 #[p, .int .i64 m, .int .i64 a, .int .i64 (n : Int), .int .i64 1] w (Same (.tuple #[sl, .bool ok]) w))
    (hc : ok = true → (convert 76 9 sl).run Tryd.prog w = .ok (.string s) w ∧ f = 0) (hno : ok = false → s = ⟨#[]⟩ ∧ f = 5) :
    Calls Tryd.prog 61 #[p, .int .i64 m, .int .i64 a, .int .i64 (n : Int)] w (Same (.tuple #[.string s, .int .i64 f]) w) := by
  replace hrow := Lib.hid hrow
  cases ok
  · obtain ⟨rfl, rfl⟩ := hno rfl
    clear hc hno
    go_enter Tryd.func61, Tryd.ntmps61
    go_wp2_with fail
    refine hrow.out.mono ?_
    rintro e w1 ⟨rfl, rfl⟩
    go_wp2
    go_ret2
    exact ⟨rfl, rfl⟩
  · obtain ⟨hc, rfl⟩ := hc rfl
    clear hno
    replace hc := Lib.hid hc
    go_enter Tryd.func61, Tryd.ntmps61
    go_wp2_with fail
    refine hrow.out.mono ?_
    rintro e w1 ⟨rfl, rfl⟩
    have hc := hc.out
    go_wp2
    go_ret2
    exact ⟨rfl, rfl⟩
theorem i_text_neg (p : Value) (m a n : Int) (hn : n < 0) (w : World) : Calls Tryd.prog 61 #[p, .int .i64 m, .int .i64 a, .int .i64 n] w (Same (.tuple #[.string ⟨#[]⟩, .int .i64 19]) w) := by
  go_enter Tryd.func61, Tryd.ntmps61
  go_wp2
  go_ret2
  exact ⟨rfl, rfl⟩
theorem i_text {w : World} {g gb : Nat} {S : Img} (h : IRep w g gb S) (m a n : Int) (hn : n ≤ 9223372036854775807) :
    Calls Tryd.prog 61 #[.pointer (some ⟨g, 0, none⟩), .int .i64 m, .int .i64 a, .int .i64 n] w (Same (.tuple #[.string (S.text m a n), .int .i64 (S.textF m a n)]) w) := by
  by_cases h0 : n < 0
  · have hF : S.textF m a n = 19 := by unfold Img.textF; simp [h0]
    have hT : S.text m a n = ⟨#[]⟩ := by unfold Img.text; simp [hF]
    rw [hF, hT]
    exact i_text_neg _ m a n h0 w
  obtain ⟨k, rfl⟩ := Int.eq_ofNat_of_zero_le (Int.not_lt.1 h0)
  have hF : S.textF m a k = if S.rowOk m a k false = true then 0 else 5 := by unfold Img.textF; rw [if_neg h0]; simp
  by_cases hk0 : k = 0
  · subst hk0
    have hrow := i_row h m a 0 (by omega) false
    have hk : S.rowOk m a 0 false = true := by unfold Img.rowOk; rfl
    rw [hk, if_pos rfl] at hF
    have hT : S.text m a ((0 : Nat) : Int) = ⟨#[]⟩ := by unfold Img.text; rw [if_pos hF]; simp [Img.bytes]
    rw [hF, hT]
    exact i_text_core _ m a 0 (by omega) w _ true _ _ hrow (fun _ => ⟨conv_nil w, rfl⟩) (fun h => by cases h)
  · rcases i_row_of h m a k hk0 (by omega) false with ⟨hk, hrow⟩ | ⟨hk, j, rfl, hle, hrow⟩
    · rw [hk, if_neg (by decide)] at hF
      have hT : S.text m a k = ⟨#[]⟩ := by unfold Img.text; simp [hF]
      rw [hF, hT]
      exact i_text_core _ m a k (by omega) w _ false _ _ hrow (fun h => by cases h) (fun _ => ⟨rfl, rfl⟩)
    · rw [hk, if_pos rfl] at hF
      have hT : S.text m j k = ⟨(S.bytes j k).toArray⟩ := by unfold Img.text; rw [if_pos hF]; simp
      rw [hF, hT]
      exact i_text_core _ m j k (by omega) w _ true _ _ hrow (fun _ => ⟨convS h j k k hle, rfl⟩) (fun h => by cases h)

theorem IRep.drewN {w : World} {g gb : Nat} {S : Img} (h : IRep w g gb S) (n : Nat) : IRep (w.drewN n) g gb S := ⟨h.blk, h.row, h.ok⟩
def PartPost (w : World) (gb x y : Nat) (e : Ending) (w' : World) : Prop := ∃ k cap, e = .returned (.slice (some ⟨gb, k, none⟩) (y - x) cap) ∧ (k = x ∨ y = x ∧ k = 0) ∧ ∃ n, w' = w.drewN n
set_option maxRecDepth 100000 in
theorem i_part {w : World} {g gb : Nat} {S : Img} (h : IRep w g gb S) (r : Nat) (h1 : 1 ≤ r) (h5 : r ≤ 5) :
    Calls Tryd.prog 30 #[.pointer (some ⟨g, 0, none⟩), .int .i64 (r : Int)] w fun e w' => e = .returned (.string (S.part r)) ∧ ∃ n, w' = w.drewN n := by
  have hle := S.beg_mono (i := r) (j := r + 1) h1 (by omega) (by omega)
  have hle6 := S.beg_mono (i := r + 1) (j := 6) (by omega) (by omega) (by omega)
  have hsm := h.ok.small
  have hspan := Lib.hid (i_span h r h1 h5)
  have hall := h.all_cell
  have hT : S.part r = ⟨(S.bytes (S.beg r : Nat) (S.beg (r + 1) - S.beg r)).toArray⟩ := by unfold Img.part Img.bytes; rw [if_pos ⟨h1, h5⟩]; simp
  have hc : ∀ k cap n, (k = S.beg r ∨ S.beg (r + 1) = S.beg r ∧ k = 0) → (convert 76 9 (.slice (some ⟨gb, k, none⟩) (S.beg (r + 1) - S.beg r) cap)).run Tryd.prog (w.drewN n) = .ok (.string (S.part r)) (w.drewN n) := fun k cap n hk => by
    rw [hT]
    rcases hk with rfl | ⟨he, rfl⟩
    · exact convS (h.drewN n) _ _ cap (by omega)
    · rw [he, Nat.sub_self]
      have := convS (h.drewN n) 0 0 cap (by omega)
      rw [this]
      simp [Img.bytes]
  clear h hT
  generalize S.part r = s at *
  generalize S.beg r = x at *
  generalize S.beg (r + 1) = y at *
  generalize S.beg 6 = N at *
  have hpart : Calls Tryd.prog 64 #[.pointer (some ⟨g, 0, none⟩), .int .i64 (r : Int)] w (PartPost w gb x y) := by
    clear hc
    have hxy : y = x ∨ (x < y ∧ ((y : Int) == x) = false) := by
      rcases Nat.eq_or_lt_of_le hle with h | h
      · exact .inl h.symm
      · exact .inr ⟨h, by rw [beq_eq_false_iff_ne]; omega⟩
    rcases hxy with rfl | ⟨hxy, hne⟩
    all_goals
      go_enter Tryd.func64, Tryd.ntmps64
      go_wp2_with fail
      refine hspan.out.mono ?_
      rintro e w1 ⟨rfl, n, rfl⟩
      go_wp2
    · go_ret
      exact ⟨0, 0, by rw [Nat.sub_self]; rfl, .inr ⟨rfl, rfl⟩, n, rfl⟩
    · go_ret
      exact ⟨x, y - x, rfl, .inl rfl, n, rfl⟩
  replace hpart := Lib.hid hpart
  replace hc := Lib.hid hc
  clear hspan hall
  go_enter Tryd.func30, Tryd.ntmps30
  go_wp2_with fail
  refine hpart.out.mono ?_
  rintro e w1 ⟨k, cap, rfl, hk, n, rfl⟩
  have hc := hc.out k cap n hk
  go_wp2
  go_ret
  exact ⟨rfl, n, rfl⟩

section
variable {w0 w : World} {g : Nat} {S : Img} {L : List Asr}
theorem a_text (h : At w0 w (ImgA g S :: L)) (m a n : Int) (hn : n ≤ 9223372036854775807) : Calls Tryd.prog 61 #[.pointer (some ⟨g, 0, none⟩), .int .i64 m, .int .i64 a, .int .i64 n] w (Same (.tuple #[.string (S.text m a n), .int .i64 (S.textF m a n)]) w) := by
  obtain ⟨gb, hr⟩ := ImgA.rep h
  exact i_text hr m a n hn
theorem a_part (h : At w0 w (ImgA g S :: L)) (r : Nat) (h1 : 1 ≤ r) (h5 : r ≤ 5) : Calls Tryd.prog 30 #[.pointer (some ⟨g, 0, none⟩), .int .i64 (r : Int)] w fun e w' => e = .returned (.string (S.part r)) ∧ At w0 w' (ImgA g S :: L) := by
  obtain ⟨gb, hr⟩ := ImgA.rep h
  refine (i_part hr r h1 h5).mono ?_
  rintro e w' ⟨he, n, rfl⟩
  exact ⟨he, h.drewN n⟩
/-- the two marks -/
theorem imgCells_op (gb : Nat) (S : Img) : (imgCells gb S).setIfInBounds 13 (.bool true) = imgCells gb { S with op := true } := rfl
theorem imgCells_cl (gb : Nat) (S : Img) : (imgCells gb S).setIfInBounds 14 (.bool true) = imgCells gb { S with cl := true } := rfl
theorem i_open_shut {w : World} {g gb : Nat} {S : Img} (h : IRep w g gb S) (hc : S.cl = true) : Calls Tryd.prog 56 #[.pointer (some ⟨g, 0, none⟩)] w (Same (.int .i64 5) w) := by
  have hcl := h.cl_cell
  rw [hc] at hcl
  clear h hc
  go_enter Tryd.func56, Tryd.ntmps56
  go_wp2
  go_ret
  exact ⟨rfl, rfl⟩
theorem i_open {w : World} {g gb : Nat} {S : Img} (h : IRep w g gb S) (hc : S.cl = false) : Calls Tryd.prog 56 #[.pointer (some ⟨g, 0, none⟩)] w (Same (.int .i64 0) (w.setCell ⟨g, 13, none⟩ (.bool true))) := by
  have hcl := h.cl_cell
  have hop := h.op_cell
  have hf := h.blk.frozen 13
  rw [hc] at hcl
  generalize S.op = o at hop
  clear h hc
  go_enter Tryd.func56, Tryd.ntmps56
  go_wp2
  go_ret
  exact ⟨rfl, rfl⟩
theorem i_seal_shut {w : World} {g gb : Nat} {S : Img} (h : IRep w g gb S) (hc : S.cl = true) : Calls Tryd.prog 58 #[.pointer (some ⟨g, 0, none⟩)] w (Same (.int .i64 5) w) := by
  have hcl := h.cl_cell
  rw [hc] at hcl
  clear h hc
  go_enter Tryd.func58, Tryd.ntmps58
  go_wp2
  go_ret
  exact ⟨rfl, rfl⟩
theorem i_seal {w : World} {g gb : Nat} {S : Img} (h : IRep w g gb S) (hc : S.cl = false) : Calls Tryd.prog 58 #[.pointer (some ⟨g, 0, none⟩)] w (Same (.int .i64 0) (w.setCell ⟨g, 14, none⟩ (.bool true))) := by
  have hcl := h.cl_cell
  have hf := h.blk.frozen 14
  rw [hc] at hcl
  clear h hc
  go_enter Tryd.func58, Tryd.ntmps58
  go_wp2
  go_ret
  exact ⟨rfl, rfl⟩
theorem Img.Ok.op {S : Img} (h : S.Ok) (o : Bool) : ({ S with op := o } : Img).Ok := by
  have hb : ∀ i, ({ S with op := o } : Img).beg i = S.beg i := fun i => by unfold Img.beg; rfl
  exact ⟨by rw [hb]; exact h.len, by rw [hb]; exact h.small⟩
theorem Img.Ok.cl {S : Img} (h : S.Ok) (o : Bool) : ({ S with cl := o } : Img).Ok := by
  have hb : ∀ i, ({ S with cl := o } : Img).beg i = S.beg i := fun i => by unfold Img.beg; rfl
  exact ⟨by rw [hb]; exact h.len, by rw [hb]; exact h.small⟩
theorem a_open (h : At w0 w (ImgA g S :: L)) : Calls Tryd.prog 56 #[.pointer (some ⟨g, 0, none⟩)] w (Got1 (.int .i64 S.openF) (ImgA g S.opened) w0 L) := by
  refine h.call1 fun F hF => ?_
  obtain ⟨gb, hr, hFk⟩ := hF
  unfold Img.openF Img.opened
  rcases Bool.eq_false_or_eq_true S.cl with hc | hc
  rotate_left
  · rw [if_neg (by rw [hc]; decide), if_neg (by rw [hc]; decide)]
    refine (i_open hr hc).mono ?_
    rintro e w' ⟨rfl, rfl⟩
    refine ⟨_, _, F, ⟨rfl, rfl⟩, rfl, ⟨gb, ⟨?_, hr.row.far (p := ⟨g, 13, none⟩) hr.ne.symm _, hr.ok.op true⟩, hFk⟩, (Kept.refl _ _).setCell (.inl ((hFk _).2 (.inl rfl))) _, fun k hk => .inl hk⟩
    rw [← imgCells_op]
    exact hr.blk.set_ 13 _
  · rw [if_pos hc, if_pos hc]
    refine (i_open_shut hr hc).mono ?_
    rintro e w' ⟨rfl, rfl⟩
    exact ⟨_, _, F, ⟨rfl, rfl⟩, rfl, ⟨gb, hr, hFk⟩, Kept.refl _ _, fun k hk => .inl hk⟩
theorem a_seal (h : At w0 w (ImgA g S :: L)) : Calls Tryd.prog 58 #[.pointer (some ⟨g, 0, none⟩)] w (Got1 (.int .i64 S.openF) (ImgA g S.sealed) w0 L) := by
  refine h.call1 fun F hF => ?_
  obtain ⟨gb, hr, hFk⟩ := hF
  unfold Img.openF Img.sealed
  rcases Bool.eq_false_or_eq_true S.cl with hc | hc
  rotate_left
  · rw [if_neg (by rw [hc]; decide)]
    refine (i_seal hr hc).mono ?_
    rintro e w' ⟨rfl, rfl⟩
    refine ⟨_, _, F, ⟨rfl, rfl⟩, rfl, ⟨gb, ⟨?_, hr.row.far (p := ⟨g, 14, none⟩) hr.ne.symm _, hr.ok.cl true⟩, hFk⟩, (Kept.refl _ _).setCell (.inl ((hFk _).2 (.inl rfl))) _, fun k hk => .inl hk⟩
    rw [← imgCells_cl]
    exact hr.blk.set_ 14 _
  · rw [if_pos hc]
    refine (i_seal_shut hr hc).mono ?_
    rintro e w' ⟨rfl, rfl⟩
    have hS : ({ S with cl := true } : Img) = S := by cases S; simp at hc; simp [hc]
    rw [hS]
    exact ⟨_, _, F, ⟨rfl, rfl⟩, rfl, ⟨gb, hr, hFk⟩, Kept.refl _ _, fun k hk => .inl hk⟩
end
end Go.Proofs.YtanpbphgmnjdeaaDoor
