/- Chapter 3: the document's image as an object: texts, parts, the seal, a new one. Conditions: as written. -/
import Derived.Test.YtanpbphgmnjdeaaDoorRimg5
namespace Go.Proofs.YtanpbphgmnjdeaaDoor
set_option linter.unusedVariables false
open Go.RowKit Go.Lib Go.Deep

def RimgA (g : Nat) (S : Img) : Asr where
  holds w F := ∃ gb, RRep w g gb S ∧ ∀ k, F k ↔ k = g ∨ k = gb
  lt h hk := by
    obtain ⟨gb, h, hF⟩ := h
    rcases (hF _).1 hk with rfl | rfl
    · exact h.blk.lt
    · exact h.row.lt
  kept h hk hT := by
    obtain ⟨gb, h, hF⟩ := h
    exact ⟨gb, ⟨h.blk.kept hk (hT _ ((hF _).2 (.inl rfl))), h.row.kept hk (hT _ ((hF _).2 (.inr rfl))), h.ok⟩, hF⟩
theorem RRep.ne {w : World} {g gb : Nat} {S : Img} (h : RRep w g gb S) : g ≠ gb := h.blk.ne_ h.row (by decide)
theorem r_row_of {w : World} {g gb : Nat} {S : Img} (h : RRep w g gb S) (m a : Int) (n : Nat) (hn : n ≠ 0) (hn2 : n ≤ 9223372036854775807) (wr : Bool) :
    (S.rowOk m a n wr = false ∧ Calls Tryd.prog 83 #[.pointer (some ⟨g, 0, none⟩), .int .i64 m, .int .i64 a, .int .i64 (n : Int), .int .i64 (rightOf wr)] w (Gives (.bool false) w)) ∨
    (S.rowOk m a n wr = true ∧ ∃ k : Nat, a = k ∧ k + n ≤ S.beg 6 ∧ Calls Tryd.prog 83 #[.pointer (some ⟨g, 0, none⟩), .int .i64 m, .int .i64 (k : Int), .int .i64 (n : Int), .int .i64 (rightOf wr)] w (Gives (.bool true) w)) := by
  have hrow := r_row h m a n hn2 wr
  cases hk : S.rowOk m a n wr
  · rw [hk] at hrow
    exact .inl ⟨rfl, hrow⟩
  · obtain ⟨h0, h1⟩ := S.row_in hk hn
    obtain ⟨k, rfl⟩ := Int.eq_ofNat_of_zero_le h0
    rw [hk] at hrow
    exact .inr ⟨rfl, k, rfl, by omega, hrow⟩
theorem convR {w : World} {g gb : Nat} {S : Img} (h : RRep w g gb S) (k n cap : Nat) (hle : k + n ≤ S.beg 6) : (convert 76 9 (.slice (some ⟨gb, k, none⟩) n cap)).run Tryd.prog w = .ok (.string ⟨(S.bytes k n).toArray⟩) w := by
  have hl := bytes_len S h.ok k n hle
  have := run_convert_bytes_back (P := Tryd.prog) w 76 9 5 ⟨gb, k, none⟩ cap (S.bytes k n) Tryd.underlying76 Tryd.underlying5 Tryd.underlying9 (fun j hj => by
    have h2 : ((⟨gb, k, none⟩ : Addr).add j) = ⟨gb, k + j, none⟩ := by simp [Addr.add]
    rw [h2, h.byte (k + j) (by omega)]
    have h3 := bytes_getD S k n j (by omega)
    rw [← h3, List.getD_eq_getElem?_getD, List.getElem?_eq_getElem hj]
    rfl)
  rw [hl] at this
  exact this
section
variable {w0 w : World} {g : Nat} {S : Img} {L : List Asr}
theorem RimgA.rep (h : At w0 w (RimgA g S :: L)) : ∃ gb, RRep w g gb S := by obtain ⟨F, gb, h, _⟩ := h.first; exact ⟨gb, h⟩
theorem b_cell (h : At w0 w (RimgA g S :: L)) (m a : Int) : Calls Tryd.prog 62 #[.pointer (some ⟨g, 0, none⟩), .int .i64 m, .int .i64 a] w (Got1 (.tuple #[.int .i64 (S.cellV m a), .int .i64 (S.cellF m a false)]) (RimgA g S) w0 L) := by
  obtain ⟨gb, hr⟩ := RimgA.rep h
  by_cases hal : a % 8 = 0
  · have h80 : (8 : Nat) ≠ 0 := by omega
    have h8 : (8 : Nat) ≤ 9223372036854775807 := by omega
    rcases r_row_of hr m a 8 h80 h8 false with ⟨hk, hrow⟩ | ⟨hk, k, rfl, hle, hrow⟩
    · have hF : S.cellF m a false = 5 := by unfold Img.cellF; simp [hal, hk]
      have hV : S.cellV m a = 0 := by unfold Img.cellV; simp [hF]
      rw [hF, hV]
      exact (r_cell_no _ m a w hal hrow).mono fun e w' h' => ⟨h'.1, h.ofBelow h'.2⟩
    · have hF : S.cellF m k false = 0 := by unfold Img.cellF; simp [hal, hk]
      have hV : S.cellV m k = ofB (S.bytes k 8) := by unfold Img.cellV; simp [hF]
      rw [hF, hV]
      exact (r_cell_yes hr m k hle hal hrow).mono fun e w' h' => ⟨h'.1, h.ofBelow h'.2⟩
  · have hF : S.cellF m a false = 6 := by unfold Img.cellF; simp [hal]
    have hV : S.cellV m a = 0 := by unfold Img.cellV; simp [hF]
    rw [hF, hV]
    exact (r_cell_mis _ m a w hal).mono fun e w' h' => ⟨h'.1, h.ofBelow h'.2⟩
theorem gives_post {v : Value} {F : Nat → Prop} {gb : Nat} {e : Ending} {w' : World} (hr : RRep w g gb S) (hFk : ∀ k, F k ↔ k = g ∨ k = gb) (h : Gives v w e w') : Post (fun u B => u = v ∧ B = RimgA g S) F w e w' :=
  ⟨v, RimgA g S, F, ⟨rfl, rfl⟩, h.1, ⟨gb, hr.below h.2, hFk⟩, (Kept.ofBelow0 h.2).mono (fun _ h => h.elim), fun _ hk => .inl hk⟩
theorem b_setCell (h : At w0 w (RimgA g S :: L)) (m a v : Int) (hv : -9223372036854775808 ≤ v ∧ v ≤ 9223372036854775807) :
    Calls Tryd.prog 55 #[.pointer (some ⟨g, 0, none⟩), .int .i64 m, .int .i64 a, .int .i64 v] w (Got1 (.int .i64 (S.cellF m a true)) (RimgA g (S.setCell m a v)) w0 L) := by
  refine h.call1 fun F hF => ?_
  obtain ⟨gb, hr, hFk⟩ := hF
  by_cases hal : a % 8 = 0
  · have h80 : (8 : Nat) ≠ 0 := by omega
    have h8 : (8 : Nat) ≤ 9223372036854775807 := by omega
    rcases r_row_of hr m a 8 h80 h8 true with ⟨hk, hrow⟩ | ⟨hk, k, rfl, hle, hrow⟩
    · have hC : S.cellF m a true = 5 := by unfold Img.cellF; simp [hal, hk]
      have hS : S.setCell m a v = S := by unfold Img.setCell; simp [hC]
      rw [hC, hS]
      exact (r_set_no _ m a v w hal hrow).mono fun e w' h' => gives_post hr hFk h'
    · have hC : S.cellF m k true = 0 := by unfold Img.cellF; simp [hal, hk]
      have hS : S.setCell m k v = S.put k (toB v) := by unfold Img.setCell; simp [hC]
      rw [hC, hS]
      refine (r_set_yes hr m v hv k hle hal hrow).mono ?_
      rintro e w' ⟨rfl, hb', hk'⟩
      refine ⟨_, _, F, ⟨rfl, rfl⟩, rfl, ⟨gb, ⟨?_, hb', hr.ok.put k _ (by rw [toB_len]; exact hle)⟩, hFk⟩, hk'.mono (fun i hi => (hFk i).2 (.inr hi)), fun k hk => .inl hk⟩
      exact hr.blk.kept hk' hr.ne
  · have hC : S.cellF m a true = 6 := by unfold Img.cellF; simp [hal]
    have hS : S.setCell m a v = S := by unfold Img.setCell; simp [hC]
    rw [hC, hS]
    exact (r_set_mis _ m a v w hal).mono fun e w' h' => gives_post hr hFk h'
end
end Go.Proofs.YtanpbphgmnjdeaaDoor
