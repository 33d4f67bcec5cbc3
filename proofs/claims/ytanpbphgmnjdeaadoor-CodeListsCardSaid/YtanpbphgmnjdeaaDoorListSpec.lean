/- Chapter 7: the plain specification of a listing. No condition. -/
import Derived.Test.YtanpbphgmnjdeaaDoorFetch1
import Derived.Test.YtanpbphgmnjdeaaDoorNumSpec
namespace Go.Proofs.YtanpbphgmnjdeaaDoor
set_option linter.unusedVariables false
open Go.RowKit Go.Lib Go.Deep

theorem textF_in {S : Img} {m a n : Int} (hS : S.Ok) (h : S.textF m a n = 0) : 0 ≤ n ∧ n ≤ 143360 := by
  unfold Img.textF at h
  split at h
  · omega
  · split at h
    · rename_i h1 h2
      by_cases hn : n.toNat = 0
      · omega
      · have := S.row_in h2 hn
        have := hS.small
        omega
    · omega
/-- a half byte's sign -/
def hexC (k : Nat) : UInt8 := UInt8.ofNat (if k < 10 then 48 + k else 87 + k)
def hexB (l : List UInt8) : List UInt8 := l.flatMap fun c => [hexC (c.toNat / 16), hexC (c.toNat % 16)]
def strOf (l : List UInt8) : ByteArray := ⟨l.toArray⟩
/-- what stands behind an operation's name -/
def Img.tailL (S : Img) (m a : Int) (i : Inst) : List UInt8 :=
  if i.op = 2 then 32 :: itoa i.lit
  else if i.op = 19 then (32 :: itoa i.arg) ++ (if 0 < i.arg then 32 :: hexB (S.text m (a + 8) i.arg).data.toList else [])
  else if Code.form i.op = 0 then [] else 32 :: itoa i.arg
/-- an instruction's line -/
def Img.lineL (S : Img) (m a : Int) (i : Inst) : List UInt8 := itoa a ++ 32 :: (Code.nameOf i.op).data.toList ++ S.tailL m a i ++ [10]
theorem hexB_len (l : List UInt8) : (hexB l).length = 2 * l.length := by
  unfold hexB
  induction l with
  | nil => rfl
  | cons c l ih => simp only [List.flatMap_cons, List.length_append, ih, List.length_cons, List.length_nil]; omega
theorem fetch_next {S : Img} {m a : Int} (hS : S.Ok) (h : (S.fetch m a).2 = 0) : 0 ≤ a ∧ a + 8 ≤ 143360 ∧ 1 ≤ (S.fetch m a).1.cells ∧ (S.fetch m a).1.cells ≤ 17930 := by
  unfold Img.fetch at h ⊢
  split at h
  · rename_i h1; exact absurd h h1
  · rename_i h1
    have h1 : S.cellF m a false = 0 := by simpa using h1
    have hin := cellF_in hS h1
    rw [if_neg (by simpa using h1)]
    split at h
    · simp at h
    · rename_i h2
      rw [if_neg h2]
      split at h
      · rename_i h3
        rw [if_pos h3]
        split at h
        · rename_i h4; exact absurd h h4
        · rename_i h4; rw [if_neg h4]; refine ⟨hin.1, hin.2, ?_, ?_⟩ <;> simp
      · rename_i h3
        rw [if_neg h3]
        split at h
        · rename_i h4
          rw [if_pos h4]
          split at h
          · rename_i h5; exact absurd h h5
          · rename_i h5
            rw [if_neg h5]
            have h6 : S.textF m (a + 8) (Code.unpack (S.cellV m a)).2.1 = 0 := by simpa using h5
            have hb := textF_in hS h6
            refine ⟨hin.1, hin.2, ?_, ?_⟩ <;> simp <;> omega
        · rename_i h4; rw [if_neg h4]; refine ⟨hin.1, hin.2, ?_, ?_⟩ <;> simp
/-- a listing from an address on, behind what is written already -/
def Img.listL (S : Img) (m t : Int) (a : Int) (acc : List UInt8) : List UInt8 × Int :=
  if a < t then
    (if (S.fetch m a).2 ≠ 0 then ([], (S.fetch m a).2)
    else if h : 0 ≤ a ∧ a ≤ 143360 ∧ 1 ≤ (S.fetch m a).1.cells then S.listL m t (a + 8 * (S.fetch m a).1.cells) (acc ++ S.lineL m a (S.fetch m a).1)
    else (acc, 0))
  else (acc, 0)
termination_by (143361 - a).toNat
decreasing_by omega
theorem listL_end {S : Img} {m t a : Int} {acc : List UInt8} (h : t ≤ a) : S.listL m t a acc = (acc, 0) := by
  unfold Img.listL
  rw [if_neg (by omega)]
theorem listL_bad {S : Img} {m t a : Int} {acc : List UInt8} (h : a < t) (hf : (S.fetch m a).2 ≠ 0) : S.listL m t a acc = ([], (S.fetch m a).2) := by
  unfold Img.listL
  rw [if_pos h, if_pos hf]
theorem listL_next {S : Img} {m t a : Int} {acc : List UInt8} (hS : S.Ok) (h : a < t) (hf : (S.fetch m a).2 = 0) :
    S.listL m t a acc = S.listL m t (a + 8 * (S.fetch m a).1.cells) (acc ++ S.lineL m a (S.fetch m a).1) := by
  have := fetch_next hS hf
  rw [Img.listL, if_pos h, if_neg (by simpa using hf), dif_pos ⟨this.1, by omega, this.2.2.1⟩]
end Go.Proofs.YtanpbphgmnjdeaaDoor
