/- The plain specification of chapter 3 (image) and of cells as bytes (chapter 1): one for the program and for the document's answer. No condition. -/
import Derived.Test.YtanpbphgmnjdeaaDoorMem
import Derived.Laws.BitsLemmas
import Derived.Laws.BitsAllLaws
namespace Go.Proofs.YtanpbphgmnjdeaaDoor
set_option linter.unusedVariables false
open Go.RowKit Go.Lib

/-! ### bytes of a cell -/
def leN : List UInt8 → Nat
  | [] => 0
  | x :: l => x.toNat + 256 * leN l
/-- the cell of some bytes, the lowest first -/
def ofB (l : List UInt8) : Int := wrap64 (leN l : Nat)
/-- a cell's bytes -/
def byteAt (v : Int) (i : Nat) : UInt8 := UInt8.ofNat ((v / (256 : Int) ^ i) % 256).toNat
def toB (v : Int) : List UInt8 := (List.range 8).map (byteAt v)
theorem toB_len (v : Int) : (toB v).length = 8 := by simp [toB]
theorem leN_lt : ∀ l : List UInt8, leN l < 256 ^ l.length
  | [] => by simp [leN]
  | x :: l => by
    have h1 := leN_lt l
    have h2 : x.toNat < 256 := x.toNat_lt
    simp only [leN, List.length_cons, Nat.pow_succ]
    omega
theorem leN_append : ∀ l m : List UInt8, leN (l ++ m) = leN l + 256 ^ l.length * leN m
  | [], m => by simp [leN]
  | x :: l, m => by
    simp only [List.cons_append, leN, leN_append l m, List.length_cons, Nat.pow_succ]
    rw [Nat.mul_add, ← Nat.mul_assoc, Nat.mul_comm 256 (256 ^ l.length), Nat.add_assoc]

/-- a row of bytes laid over some -/
def putL (b : List UInt8) (k : Nat) (l : List UInt8) : List UInt8 := b.take k ++ (l ++ b.drop (k + l.length))
theorem putL_len (b : List UInt8) (k : Nat) (l : List UInt8) (h : k + l.length ≤ b.length) : (putL b k l).length = b.length := by
  unfold putL
  simp
  omega

/-! ### the image -/
structure Img where
  k : Nat
  s : Nat
  u : Nat
  d : Nat
  r : Nat
  b : List UInt8
  op : Bool
  cl : Bool
namespace Img
variable (S : Img)
/-- where a region begins; behind the last one -/
def beg : Nat → Nat
  | 2 => S.k
  | 3 => S.k + S.s
  | 4 => S.k + S.s + S.u
  | 5 => S.k + S.s + S.u + S.d
  | 6 => S.k + S.s + S.u + S.d + S.r
  | _ => 0
structure Ok : Prop where
  len : S.b.length = S.beg 6
  small : S.beg 6 ≤ 143360
def region (a : Int) : Nat :=
  if a < 0 then 0 else if a < S.beg 2 then 1 else if a < S.beg 3 then 2 else if a < S.beg 4 then 3 else if a < S.beg 5 then 4 else if a < S.beg 6 then 5 else 0
/-- the rights of a mode in a region: 0 none, 1 read, 3 both -/
def may (m : Int) (r : Nat) : Int :=
  if r < 1 ∨ 5 < r ∨ m < 0 ∨ 2 < m then 0
  else if m = 0 then (if r = 1 ∧ S.cl = true then 1 else 3)
  else if r = 1 ∨ (r = 2 ∧ (m = 2 ∨ S.op = true)) then 1
  else if r = 3 then 3 else 0
def lets (m : Int) (r : Nat) (w : Bool) : Bool := if w then S.may m r == 3 else S.may m r != 0
/-- may a row of bytes be read (false), written (true)? -/
def rowOk (m a : Int) (n : Nat) (w : Bool) : Bool := n == 0 || (S.region a != 0 && decide ((n : Int) ≤ S.beg (S.region a + 1) - a) && S.lets m (S.region a) w)
def bytes (a : Int) (n : Nat) : List UInt8 := (S.b.drop a.toNat).take n
def cellF (m a : Int) (w : Bool) : Int := if a % 8 ≠ 0 then 6 else if S.rowOk m a 8 w = true then 0 else 5
def cellV (m a : Int) : Int := if S.cellF m a false = 0 then ofB (S.bytes a 8) else 0
def put (a : Nat) (l : List UInt8) : Img := { S with b := putL S.b a l }
def setCell (m a v : Int) : Img := if S.cellF m a true = 0 then S.put a.toNat (toB v) else S
def textF (m a n : Int) : Int := if n < 0 then 19 else if S.rowOk m a n.toNat false = true then 0 else 5
def text (m a n : Int) : ByteArray := if S.textF m a n = 0 then ⟨(S.bytes a n.toNat).toArray⟩ else ⟨#[]⟩
def openF : Int := if S.cl = true then 5 else 0
def opened : Img := if S.cl = true then S else { S with op := true }
def sealed : Img := { S with cl := true }
def part (r : Nat) : ByteArray := if 1 ≤ r ∧ r ≤ 5 then ⟨((S.b.drop (S.beg r)).take (S.beg (r + 1) - S.beg r)).toArray⟩ else ⟨#[]⟩

theorem beg_mono {i j : Nat} (hi : 1 ≤ i) (hij : i ≤ j) (hj : j ≤ 6) : S.beg i ≤ S.beg j := by
  have h1 : i = 1 ∨ i = 2 ∨ i = 3 ∨ i = 4 ∨ i = 5 ∨ i = 6 := by omega
  have h2 : j = 1 ∨ j = 2 ∨ j = 3 ∨ j = 4 ∨ j = 5 ∨ j = 6 := by omega
  rcases h1 with rfl | rfl | rfl | rfl | rfl | rfl <;> rcases h2 with rfl | rfl | rfl | rfl | rfl | rfl <;> simp [beg] <;> omega
theorem region_le (a : Int) : S.region a ≤ 5 := by unfold region; repeat' split
                                                   all_goals omega
theorem region_eq {j : Nat} {a : Int} (h0 : 0 ≤ a) (h1 : 1 ≤ j) (h5 : j ≤ 5) (hlo : (S.beg j : Int) ≤ a) (hhi : a < S.beg (j + 1)) : S.region a = j := by
  have hj : j = 1 ∨ j = 2 ∨ j = 3 ∨ j = 4 ∨ j = 5 := by omega
  unfold region
  rcases hj with rfl | rfl | rfl | rfl | rfl <;> simp only [beg] at * <;> repeat' split
  all_goals omega
theorem region_out {a : Int} (h : a < 0 ∨ (S.beg 6 : Int) ≤ a) : S.region a = 0 := by
  unfold region
  simp only [beg] at *
  repeat' split
  all_goals omega
/-- a region's bounds -/
theorem region_in {a : Int} (h : S.region a ≠ 0) : 0 ≤ a ∧ (S.beg (S.region a) : Int) ≤ a ∧ a < S.beg (S.region a + 1) ∧ (S.beg (S.region a + 1)) ≤ S.beg 6 ∧ 1 ≤ S.region a ∧ S.region a ≤ 5 := by
  by_cases h0 : a < 0
  · exact absurd (S.region_out (.inl h0)) h
  by_cases h6 : (S.beg 6 : Int) ≤ a
  · exact absurd (S.region_out (.inr h6)) h
  have hj : ∃ j, 1 ≤ j ∧ j ≤ 5 ∧ (S.beg j : Int) ≤ a ∧ a < S.beg (j + 1) := by
    by_cases h2 : a < S.beg 2
    · exact ⟨1, by omega, by omega, by simp only [beg]; omega, h2⟩
    by_cases h3 : a < S.beg 3
    · exact ⟨2, by omega, by omega, by omega, h3⟩
    by_cases h4 : a < S.beg 4
    · exact ⟨3, by omega, by omega, by omega, h4⟩
    by_cases h5 : a < S.beg 5
    · exact ⟨4, by omega, by omega, by omega, h5⟩
    · exact ⟨5, by omega, by omega, by omega, by have : S.beg (5 + 1) = S.beg 6 := rfl; omega⟩
  obtain ⟨j, h1, h5, hlo, hhi⟩ := hj
  rw [S.region_eq (by omega) h1 h5 hlo hhi]
  exact ⟨by omega, hlo, hhi, S.beg_mono (by omega) (by omega) (by omega), h1, h5⟩
theorem row_in {m a : Int} {n : Nat} {w : Bool} (h : S.rowOk m a n w = true) (hn : n ≠ 0) : 0 ≤ a ∧ a + n ≤ S.beg 6 := by
  unfold rowOk at h
  simp [hn] at h
  have := S.region_in h.1.1
  omega
end Img
end Go.Proofs.YtanpbphgmnjdeaaDoor
