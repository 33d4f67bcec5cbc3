/- What the bound of the second form gives: a text among what is read is no longer than the bound. No condition. -/
import Derived.Test.YtanpbphgmnjdeaaDoorRows
namespace Go.Proofs.YtanpbphgmnjdeaaDoor.bulks
set_option linter.unusedVariables false
theorem part_le {H : Type} {d : DataW H} {l : List (DataW H)} (h : d ∈ l) : Rows.uptoBulk d ≤ Rows.uptoBulkAll l := by
  induction l with
  | nil => cases h
  | cons x r ih =>
    simp only [Rows.uptoBulkAll]
    cases List.mem_cons.1 h with
    | inl e => subst e; omega
    | inr e => have := ih e; omega
theorem bound {H : Type} {l : List (DataW H)} (hk : Rows.uptoSmall H l = true) : Rows.uptoBulkAll l ≤ 1048576 := by
  simpa [Rows.uptoSmall] using hk
theorem str_le {H : Type} {l : List (DataW H)} (hk : Rows.uptoSmall H l = true) {d : DataW H} (hd : d ∈ l) {s : ByteArray} (e : d = .lit (.string s.data.toList)) : s.size ≤ 1048576 := by
  have h1 := bound hk
  have h2 := part_le hd
  have h3 : s.size = s.data.toList.length := by rw [Array.length_toList]; rfl
  subst e
  simp only [Rows.uptoBulk] at h2
  omega
end Go.Proofs.YtanpbphgmnjdeaaDoor.bulks
