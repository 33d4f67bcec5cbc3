/- The plain specification of chapter 3 (image) and of cells as bytes (chapter 1): one for the program and for the document's answer. No condition. -/
import Derived.Test.YtjhdpmimccpcdaaGreatDoorT00
import Derived.Laws.BitsLemmas
import Derived.Laws.BitsAllLaws
namespace Go.Proofs.YtjhdpmimccpcdaaGreatDoor
set_option linter.unusedVariables false
open Go.RowKit Go.Lib

/-! ### bytes of a cell -/
def leN : List UInt8 → Nat
  | [] => 0
  | x :: l => x.toNat + 256 * leN l
/-- the cell of some bytes, the lowest first -/
def ofB (l : List UInt8) : Int := wrap64 (leN l : Nat)
/-- a cell's bytes -/
def byteAt (v : Int) (i : Nat) : UInt8 := UInt8.ofNat ((v / (256 : Int) ^ i) % 256).toNat
def toB (v : Int) : List UInt8 := (List.range 8).map (byteAt v)
theorem toB_len (v : Int) : (toB v).length = 8 := by simp [toB]
theorem leN_lt : ∀ l : List UInt8, leN l < 256 ^ l.length
  | [] => by simp [leN]
  | x :: l => by
    have h1 := leN_lt l
    have h2 : x.toNat < 256 := x.toNat_lt
    simp only [leN, List.length_cons, Nat.pow_succ]
    omega
theorem leN_append : ∀ l m : List UInt8, leN (l ++ m) = leN l + 256 ^ l.length * leN m
  | [], m => by simp [leN]
  | x :: l, m => by
    simp only [List.cons_append, leN, leN_append l m, List.length_cons, Nat.pow_succ]
    rw [Nat.mul_add, ← Nat.mul_assoc, Nat.mul_comm 256 (256 ^ l.length), Nat.add_assoc]

/-- a row of bytes laid over some -/
def putL (b : List UInt8) (k : Nat) (l : List UInt8) : List UInt8 := b.take k ++ (l ++ b.drop (k + l.length))
theorem putL_len (b : List UInt8) (k : Nat) (l : List UInt8) (h : k + l.length ≤ b.length) : (putL b k l).length = b.length := by
  unfold putL
  simp
  omega

/-! ### the image -/
structure Img where
  k : Nat
  s : Nat
  u : Nat
  d : Nat
  r : Nat
  b : List UInt8
  op : Bool
  cl : Bool
namespace Img
variable (S : Img)
/-- where a region begins; behind the last one -/
def beg : Nat → Nat
  | 2 => S.k
  | 3 => S.k + S.s
  | 4 => S.k + S.s + S.u
  | 5 => S.k + S.s + S.u + S.d
  | 6 => S.k + S.s + S.u + S.d + S.r
  | _ => 0
structure Ok : Prop where
  len : S.b.length = S.beg 6
  small : S.beg 6 ≤ 143360
def region (a : Int) : Nat :=
  if a < 0 then 0 else if a < S.beg 2 then 1 else if a < S.beg 3 then 2 else if a < S.beg 4 then 3 else if a < S.beg 5 then 4 else if a < S.beg 6 then 5 else 0
/-- the rights of a mode in a region: 0 none, 1 read, 3 both -/
def may (m : Int) (r : Nat) : Int :=
  if r < 1 ∨ 5 < r ∨ m < 0 ∨ 2 < m then 0
  else if m = 0 then (if r = 1 ∧ S.cl = true then 1 else 3)
  else if r = 1 ∨ (r = 2 ∧ (m = 2 ∨ S.op = true)) then 1
  else if r = 3 then 3 else 0
def lets (m : Int) (r : Nat) (w : Bool) : Bool := if w then S.may m r == 3 else S.may m r != 0
/-- may a row of bytes be read (false), written (true)? -/
def rowOk (m a : Int) (n : Nat) (w : Bool) : Bool := n == 0 || (S.region a != 0 && decide ((n : Int) ≤ S.beg (S.region a + 1) - a) && S.lets m (S.region a) w)
def bytes (a : Int) (n : Nat) : List UInt8 := (S.b.drop a.toNat).take n
def cellF (m a : Int) (w : Bool) : Int := if a % 8 ≠ 0 then 6 else if S.rowOk m a 8 w = true then 0 else 5
def cellV (m a : Int) : Int := if S.cellF m a false = 0 then ofB (S.bytes a 8) else 0
def put (a : Nat) (l : List UInt8) : Img := { S with b := putL S.b a l }
def setCell (m a v : Int) : Img := if S.cellF m a true = 0 then S.put a.toNat (toB v) else S
def textF (m a n : Int) : Int := if n < 0 then 19 else if S.rowOk m a n.toNat false = true then 0 else 5
def text (m a n : Int) : ByteArray := if S.textF m a n = 0 then ⟨(S.bytes a n.toNat).toArray⟩ else ⟨#[]⟩
def openF : Int := if S.cl = true then 5 else 0
def opened : Img := if S.cl = true then S else { S with op := true }
def sealed : Img := { S with cl := true }
def part (r : Nat) : ByteArray := if 1 ≤ r ∧ r ≤ 5 then ⟨((S.b.drop (S.beg r)).take (S.beg (r + 1) - S.beg r)).toArray⟩ else ⟨#[]⟩

theorem beg_mono {i j : Nat} (hi : 1 ≤ i) (hij : i ≤ j) (hj : j ≤ 6) : S.beg i ≤ S.beg j := by
  have h1 : i = 1 ∨ i = 2 ∨ i = 3 ∨ i = 4 ∨ i = 5 ∨ i = 6 := by omega
  have h2 : j = 1 ∨ j = 2 ∨ j = 3 ∨ j = 4 ∨ j = 5 ∨ j = 6 := by omega
  rcases h1 with rfl | rfl | rfl | rfl | rfl | rfl <;> rcases h2 with rfl | rfl | rfl | rfl | rfl | rfl <;> simp [beg] <;> omega
theorem region_eq {j : Nat} {a : Int} (h0 : 0 ≤ a) (h1 : 1 ≤ j) (h5 : j ≤ 5) (hlo : (S.beg j : Int) ≤ a) (hhi : a < S.beg (j + 1)) : S.region a = j := by
  have hj : j = 1 ∨ j = 2 ∨ j = 3 ∨ j = 4 ∨ j = 5 := by omega
  unfold region
  rcases hj with rfl | rfl | rfl | rfl | rfl <;> simp only [beg] at * <;> repeat' split
  all_goals omega
theorem region_out {a : Int} (h : a < 0 ∨ (S.beg 6 : Int) ≤ a) : S.region a = 0 := by
  unfold region
  simp only [beg] at *
  repeat' split
  all_goals omega
/-- a region's bounds -/
theorem region_in {a : Int} (h : S.region a ≠ 0) : 0 ≤ a ∧ (S.beg (S.region a) : Int) ≤ a ∧ a < S.beg (S.region a + 1) ∧ (S.beg (S.region a + 1)) ≤ S.beg 6 ∧ 1 ≤ S.region a ∧ S.region a ≤ 5 := by
  by_cases h0 : a < 0
  · exact absurd (S.region_out (.inl h0)) h
  by_cases h6 : (S.beg 6 : Int) ≤ a
  · exact absurd (S.region_out (.inr h6)) h
  have hj : ∃ j, 1 ≤ j ∧ j ≤ 5 ∧ (S.beg j : Int) ≤ a ∧ a < S.beg (j + 1) := by
    by_cases h2 : a < S.beg 2
    · exact ⟨1, by omega, by omega, by simp only [beg]; omega, h2⟩
    by_cases h3 : a < S.beg 3
    · exact ⟨2, by omega, by omega, by omega, h3⟩
    by_cases h4 : a < S.beg 4
    · exact ⟨3, by omega, by omega, by omega, h4⟩
    by_cases h5 : a < S.beg 5
    · exact ⟨4, by omega, by omega, by omega, h5⟩
    · exact ⟨5, by omega, by omega, by omega, by have : S.beg (5 + 1) = S.beg 6 := rfl; omega⟩
  obtain ⟨j, h1, h5, hlo, hhi⟩ := hj
  rw [S.region_eq (by omega) h1 h5 hlo hhi]
  exact ⟨by omega, hlo, hhi, S.beg_mono (by omega) (by omega) (by omega), h1, h5⟩
theorem row_in {m a : Int} {n : Nat} {w : Bool} (h : S.rowOk m a n w = true) (hn : n ≠ 0) : 0 ≤ a ∧ a + n ≤ S.beg 6 := by
  unfold rowOk at h
  simp [hn] at h
  have := S.region_in h.1.1
  omega
end Img
end Go.Proofs.YtjhdpmimccpcdaaGreatDoor
/- Chapter 4: the cells of a stack in an image, as plain functions. Conditions: as written. -/
namespace Go.Proofs.YtjhdpmimccpcdaaGreatDoor
set_option linter.unusedVariables false
open Go.RowKit Go.Lib
namespace Vm
/-- the cell of a stack by its number; the stack begins at fr -/
def sget (S : Img) (fr i : Nat) : Int := S.cellV 0 ((fr : Int) + 8 * (i : Int))
def sset (S : Img) (fr i : Nat) (v : Int) : Img := S.setCell 0 ((fr : Int) + 8 * (i : Int)) v
/-- cells laid from depth d on -/
def spush (S : Img) (fr d : Nat) : List Int → Img
  | [] => S
  | x :: l => spush (sset S fr d x) fr (d + 1) l
theorem spush_snoc (fr : Nat) (x : Int) : ∀ (l : List Int) (S : Img) (d : Nat), spush S fr d (l ++ [x]) = sset (spush S fr d l) fr (d + l.length) x
  | [], S, d => rfl
  | y :: l, S, d => by
    show spush (sset S fr d y) fr (d + 1) (l ++ [x]) = sset (spush (sset S fr d y) fr (d + 1) l) fr (d + (l.length + 1)) x
    rw [spush_snoc fr x l, show d + 1 + l.length = d + (l.length + 1) by omega]
/-- the cell n below the topmost one; 0: there is none -/
def stopv (S : Img) (fr d : Nat) (n : Int) : Int := if 0 ≤ n ∧ n < d then sget S fr (d - 1 - n.toNat) else 0
/-- the image is as before but for its bytes -/
structure Alike (S S' : Img) : Prop where
  k : S'.k = S.k
  s : S'.s = S.s
  u : S'.u = S.u
  d : S'.d = S.d
  r : S'.r = S.r
  op : S'.op = S.op
  cl : S'.cl = S.cl
theorem Alike.refl (S : Img) : Alike S S := ⟨rfl, rfl, rfl, rfl, rfl, rfl, rfl⟩
theorem Alike.trans {S T U : Img} (h : Alike S T) (g : Alike T U) : Alike S U :=
  ⟨g.k.trans h.k, g.s.trans h.s, g.u.trans h.u, g.d.trans h.d, g.r.trans h.r, g.op.trans h.op, g.cl.trans h.cl⟩
theorem Alike.symm {S T : Img} (h : Alike S T) : Alike T S := ⟨h.k.symm, h.s.symm, h.u.symm, h.d.symm, h.r.symm, h.op.symm, h.cl.symm⟩
theorem Alike.put (S : Img) (a : Nat) (l : List UInt8) : Alike S (S.put a l) := ⟨rfl, rfl, rfl, rfl, rfl, rfl, rfl⟩
theorem Alike.setCell (S : Img) (m a v : Int) : Alike S (S.setCell m a v) := by
  unfold Img.setCell
  split
  · exact Alike.put _ _ _
  · exact Alike.refl S
theorem Alike.beg {S T : Img} (h : Alike S T) (i : Nat) : T.beg i = S.beg i := by
  unfold Img.beg
  rw [h.k, h.s, h.u, h.d, h.r]
theorem Alike.sset (S : Img) (fr i : Nat) (v : Int) : Alike S (sset S fr i v) := Alike.setCell _ _ _ _
theorem Alike.spush (fr : Nat) : ∀ (l : List Int) (S : Img) (d : Nat), Alike S (spush S fr d l)
  | [], S, d => Alike.refl S
  | x :: l, S, d => (Alike.sset S fr d x).trans (Alike.spush fr l _ _)
theorem replicate_snoc {α : Type} (n : Nat) (a : α) : List.replicate n a ++ [a] = List.replicate (n + 1) a := by rw [List.replicate_succ']
/-- where a stack lies -/
structure Pl where
  fr : Nat
  rm : Nat
  un : Int
  ov : Int
structure Pl.Ok (p : Pl) : Prop where
  fr : p.fr ≤ 143360
  rm : p.rm ≤ 512
end Vm
end Go.Proofs.YtjhdpmimccpcdaaGreatDoor
/- Chapter 8: a wordlist in an image, as plain functions: one for the program and for the document's answer. No condition. -/
namespace Go.Proofs.YtjhdpmimccpcdaaGreatDoor
set_option linter.unusedVariables false
open Go.RowKit Go.Lib

/-! ### single bytes -/
namespace Img
variable (S : Img)
def byteF (m a : Int) (w : Bool) : Int := if S.rowOk m a 1 w = true then 0 else 5
def byteV (m a : Int) : UInt8 := if S.rowOk m a 1 false = true then S.b.getD a.toNat 0 else 0
def setByte (m a : Int) (b : UInt8) : Img := if S.rowOk m a 1 true = true then S.put a.toNat [b] else S
end Img
theorem putL_append (b : List UInt8) (k : Nat) (l m : List UInt8) (h : k + l.length ≤ b.length) : putL (putL b k l) (k + l.length) m = putL b k (l ++ m) := by
  unfold putL
  have h1 : (b.take k).length = k := by simp; omega
  have e1 : (b.take k ++ (l ++ b.drop (k + l.length))).take (k + l.length) = b.take k ++ l := by
    rw [← List.append_assoc, List.take_append_of_le_length (by simp; omega), List.take_of_length_le (by simp; omega)]
  have e2 : (b.take k ++ (l ++ b.drop (k + l.length))).drop (k + l.length + m.length) = b.drop (k + (l ++ m).length) := by
    rw [← List.append_assoc, List.drop_append, List.drop_eq_nil_of_le (by simp; omega), List.nil_append, List.drop_drop]
    congr 1
    simp
    omega
  rw [e1, e2]
  simp [List.append_assoc]
theorem putL_nil (b : List UInt8) (k : Nat) : putL b k [] = b := by
  unfold putL
  simp
theorem Img.put_append (S : Img) (k : Nat) (l m : List UInt8) (h : k + l.length ≤ S.b.length) : (S.put k l).put (k + l.length) m = S.put k (l ++ m) := by
  unfold Img.put
  rw [putL_append _ _ _ _ h]
theorem Img.put_nil (S : Img) (k : Nat) : S.put k [] = S := by
  unfold Img.put
  rw [putL_nil]
namespace Vm
/-- the next multiple of 8 -/
def up (n : Nat) : Nat := (n + 7) / 8 * 8
/-- a byte that is no blank -/
def isHigh (c : UInt8) : Bool := decide (32 < c.toNat)
/-- a wordlist: its region, the next free address, the latest head -/
structure Dc where
  rg : Nat
  h : Nat
  l : Nat
namespace Dc
variable (S : Img) (D : Dc)
def fr : Nat := S.beg D.rg + 8
def lim : Nat := S.beg (D.rg + 1)
/-- may it not be written? -/
def shut : Bool := S.cl && D.rg == 1
structure Ok : Prop where
  rg : D.rg = 1 ∨ D.rg = 3
  lo : D.fr S ≤ D.h
  hi : D.h ≤ D.lim S
  l : D.l = 0 ∨ (D.l % 8 = 0 ∧ D.fr S ≤ D.l ∧ D.l + 16 ≤ D.lim S)
  al : D.lim S % 8 = 0 ∧ S.beg D.rg % 8 = 0
  room : S.beg D.rg + 256 ≤ D.lim S
/-- a cell is laid: the fault, the image, the wordlist -/
def commaF : Int := if D.lim S < D.h + 8 then 9 else if D.h % 8 ≠ 0 then 6 else if D.shut S = true then 5 else 0
def commaS (v : Int) : Img := if D.commaF S = 0 then S.put D.h (toB v) else S
def commaD : Dc := if D.commaF S = 0 then { D with h := D.h + 8 } else D
/-- a byte is laid -/
def ccommaF : Int := if D.lim S ≤ D.h then 9 else if D.shut S = true then 5 else 0
def ccommaS (b : UInt8) : Img := if D.ccommaF S = 0 then S.put D.h [b] else S
def ccommaD : Dc := if D.ccommaF S = 0 then { D with h := D.h + 1 } else D
/-- may a text be a name? -/
def nameB (n : List UInt8) : Bool := decide (1 ≤ n.length) && decide (n.length ≤ 31) && n.all isHigh
/-- a head is laid -/
def createF (n : List UInt8) : Int :=
  if nameB n = false then 15 else if D.lim S < up D.h + (8 + up (1 + n.length)) then 9 else if D.shut S = true then 5 else 0
def headB (n : List UInt8) : List UInt8 :=
  List.replicate (up D.h - D.h) 0 ++ (toB D.l ++ (UInt8.ofNat (n.length + 32) :: (n ++ List.replicate (up (1 + n.length) - (1 + n.length)) 0)))
def createS (n : List UInt8) : Img := if D.createF S n = 0 then S.put D.h (D.headB n) else S
def createD (n : List UInt8) : Dc := if D.createF S n = 0 then { D with h := up D.h + (8 + up (1 + n.length)), l := up D.h } else D
/-- what Create answers -/
def createV (n : List UInt8) : Int := if D.createF S n = 0 then (up D.h + (8 + up (1 + n.length)) : Nat) else 0
/-- marks: those that go, those that come -/
def flagS (off on : UInt8) : Img := if D.l = 0 ∨ D.shut S = true then S else S.put (D.l + 8) [S.b.getD (D.l + 8) 0 &&& ~~~off ||| on]
end Dc
/-- a word -/
structure Wd where
  name : List UInt8
  head : Nat
  xt : Nat
  imm : Bool
  hid : Bool
  inl : Bool
/-- the word whose head lies there, and where its cell leads -/
def headW (S : Img) (D : Dc) (a : Int) : Option (Wd × Int) :=
  if a % 8 ≠ 0 ∨ a < D.fr S ∨ (D.lim S : Int) < a + 16 then none
  else
    let p := a.toNat
    let b := S.b.getD (p + 8) 0
    let n := b.toNat % 32
    if n = 0 ∨ D.lim S < up (p + 9 + n) then none
    else some (⟨(S.b.drop (p + 9)).take n, p, up (p + 9 + n), b.toNat / 64 % 2 == 1, b.toNat / 32 % 2 == 1, b.toNat / 128 == 1⟩, ofB ((S.b.drop p).take 8))
/-- the words from a head on, the latest first -/
def wordsF (S : Img) (D : Dc) : Nat → Int → List Wd
  | 0, _ => []
  | k + 1, a =>
    match headW S D a with
    | none => []
    | some (w, next) => if a ≤ next then [w] else w :: wordsF S D k next
def words (S : Img) (D : Dc) : List Wd := wordsF S D (D.l + 1) D.l
/-- small letters -/
def lowC (c : UInt8) : UInt8 := if 65 ≤ c.toNat ∧ c.toNat ≤ 90 then c + 32 else c
def lowS (l : List UInt8) : List UInt8 := l.map lowC
def sameB (a b : List UInt8) : Bool := decide (lowS a = lowS b)
def findW (S : Img) (D : Dc) (n : List UInt8) : Option Wd := (words S D).find? fun w => !w.hid && sameB w.name n
theorem up_ge (n : Nat) : n ≤ up n ∧ up n ≤ n + 7 ∧ up n % 8 = 0 := by unfold up; omega
theorem up_id (n : Nat) (h : n % 8 = 0) : up n = n := by unfold up; omega
end Vm
end Go.Proofs.YtjhdpmimccpcdaaGreatDoor
/- Chapters 3, 4, 8: what is read of an image behind a row of bytes laid there. Plain lemmas. Conditions: as written. -/
namespace Go.Proofs.YtjhdpmimccpcdaaGreatDoor
set_option linter.unusedVariables false
open Go.RowKit Go.Lib
theorem putL_getD (b l : List UInt8) (k i : Nat) (h : k + l.length ≤ b.length) : (putL b k l).getD i 0 = if k ≤ i ∧ i < k + l.length then l.getD (i - k) 0 else b.getD i 0 := by
  unfold putL
  rw [List.getD_eq_getElem?_getD, List.getElem?_append]
  have h1 : (b.take k).length = k := by simp; omega
  rw [h1]
  by_cases hik : i < k
  · rw [if_pos hik, if_neg (by omega), List.getElem?_take, if_pos hik, List.getD_eq_getElem?_getD]
  rw [if_neg hik, List.getElem?_append]
  by_cases hl : i - k < l.length
  · rw [if_pos hl, if_pos (by omega), List.getD_eq_getElem?_getD]
  · rw [if_neg hl, if_neg (by omega), List.getElem?_drop, List.getD_eq_getElem?_getD]
    congr 2
    omega
theorem slice_ext (b c : List UInt8) (i j n : Nat) (hi : i + n ≤ b.length) (hj : j + n ≤ c.length) (h : ∀ k, k < n → b.getD (i + k) 0 = c.getD (j + k) 0) : (b.drop i).take n = (c.drop j).take n := by
  apply List.ext_getElem
  · simp; omega
  · intro k h1 h2
    have hk : k < n := by simp at h1; omega
    have e := h k hk
    rw [List.getD_eq_getElem?_getD, List.getD_eq_getElem?_getD, List.getElem?_eq_getElem (by omega), List.getElem?_eq_getElem (by omega)] at e
    simpa using e
namespace Img
variable (S : Img)
theorem put_len (k : Nat) (l : List UInt8) (h : k + l.length ≤ S.b.length) : (S.put k l).b.length = S.b.length := putL_len _ _ _ h
theorem put_getD (k i : Nat) (l : List UInt8) (h : k + l.length ≤ S.b.length) : (S.put k l).b.getD i 0 = if k ≤ i ∧ i < k + l.length then l.getD (i - k) 0 else S.b.getD i 0 := putL_getD _ _ _ _ h
theorem bytes_put_far (k a n : Nat) (l : List UInt8) (h : k + l.length ≤ S.b.length) (ha : a + n ≤ S.b.length) (hf : a + n ≤ k ∨ k + l.length ≤ a) : (S.put k l).bytes (a : Int) n = S.bytes (a : Int) n := by
  unfold Img.bytes
  refine slice_ext _ _ _ _ _ (by rw [S.put_len k l h]; simpa using ha) (by simpa using ha) fun j hj => ?_
  rw [S.put_getD k _ l h, if_neg (by simp; omega)]
theorem bytes_put_in (k j n : Nat) (l : List UInt8) (h : k + l.length ≤ S.b.length) (hj : j + n ≤ l.length) : (S.put k l).bytes ((k + j : Nat) : Int) n = (l.drop j).take n := by
  unfold Img.bytes
  refine slice_ext _ _ _ _ _ (by rw [S.put_len k l h]; simp; omega) hj fun i hi => ?_
  rw [S.put_getD k _ l h, if_pos (by simp; omega)]
  congr 1
  simp
  omega
end Img
/-! ### bytes of a cell, and back -/
theorem emod_split (v m : Int) (hm : 0 < m) : v % (m * 256) = v % m + m * (v / m % 256) := by
  have h1 : v = m * (v / m) + v % m := (Int.mul_ediv_add_emod v m).symm
  have h2 : v / m = 256 * (v / m / 256) + v / m % 256 := (Int.mul_ediv_add_emod (v / m) 256).symm
  have h3 := Int.emod_nonneg v (show m ≠ 0 by omega)
  have h4 := Int.emod_lt_of_pos v hm
  generalize v % m = r at *
  generalize v / m = q at *
  have h5 : 0 ≤ q % 256 ∧ q % 256 < 256 := by omega
  generalize q % 256 = p at *
  generalize q / 256 = t at *
  have h6 : m * 0 ≤ m * p := Int.mul_le_mul_of_nonneg_left h5.1 (by omega)
  have h7 : m * (p + 1) ≤ m * 256 := Int.mul_le_mul_of_nonneg_left (by omega) (by omega)
  have e : v = (r + m * p) + (m * 256) * t := by
    rw [h1, h2, Int.mul_add, Int.mul_assoc]
    omega
  rw [Int.mul_add, Int.mul_one] at h7
  rw [e, Int.add_mul_emod_self_left, Int.emod_eq_of_lt (by omega) (by omega)]
theorem leN_map (v : Int) (n : Nat) : (leN ((List.range n).map (byteAt v)) : Int) = v % (256 : Int) ^ n := by
  induction n with
  | zero => simp [leN]
  | succ n ih =>
    have hp : (0 : Int) < 256 ^ n := Int.pow_pos (by omega)
    have hb : ((byteAt v n).toNat : Int) = v / (256 : Int) ^ n % 256 := by
      unfold byteAt
      have h1 : 0 ≤ v / (256 : Int) ^ n % 256 := Int.emod_nonneg _ (by omega)
      have h2 : v / (256 : Int) ^ n % 256 < 256 := Int.emod_lt_of_pos _ (by omega)
      rw [UInt8.toNat_ofNat', Nat.mod_eq_of_lt (by omega)]
      omega
    rw [List.range_succ, List.map_append, leN_append, Int.pow_succ, emod_split v _ hp, ← hb, ← ih]
    simp [leN]
theorem leN_toB (v : Int) : (leN (toB v) : Int) = v % 18446744073709551616 := by
  have h := leN_map v 8
  rw [show ((256 : Int) ^ 8) = 18446744073709551616 from rfl] at h
  exact h
theorem ofB_toB (v : Int) (h : -9223372036854775808 ≤ v ∧ v ≤ 9223372036854775807) : ofB (toB v) = v := by
  unfold ofB
  rw [leN_toB]
  unfold wrap64
  omega
namespace Vm
theorem Alike.cellF {S T : Img} (h : Alike S T) (m a : Int) (w : Bool) : T.cellF m a w = S.cellF m a w := by
  have hr : T.region a = S.region a := by
    unfold Img.region
    rw [h.beg, h.beg, h.beg, h.beg, h.beg]
  have hm : ∀ r, T.may m r = S.may m r := fun r => by
    unfold Img.may
    rw [h.op, h.cl]
  unfold Img.cellF Img.rowOk Img.lets
  rw [hr, hm, h.beg]
theorem Alike.rowOk {S T : Img} (h : Alike S T) (m a : Int) (n : Nat) (w : Bool) : T.rowOk m a n w = S.rowOk m a n w := by
  have hr : T.region a = S.region a := by
    unfold Img.region
    rw [h.beg, h.beg, h.beg, h.beg, h.beg]
  have hm : ∀ r, T.may m r = S.may m r := fun r => by
    unfold Img.may
    rw [h.op, h.cl]
  unfold Img.rowOk Img.lets
  rw [hr, hm, h.beg]
/-- a cell that a row of bytes laid elsewhere leaves -/
theorem cellV_put_far (S : Img) (hS : S.Ok) (m a : Int) (k : Nat) (l : List UInt8) (h : k + l.length ≤ S.beg 6) (hf : a + 8 ≤ k ∨ ((k + l.length : Nat) : Int) ≤ a) : (S.put k l).cellV m a = S.cellV m a := by
  unfold Img.cellV
  rw [(Alike.put S k l).cellF]
  by_cases hc : S.cellF m a false = 0
  · rw [if_pos hc, if_pos hc]
    have hin : S.rowOk m a 8 false = true := by
      unfold Img.cellF at hc
      repeat' split at hc
      all_goals first | assumption | omega
    obtain ⟨h0, h1⟩ := S.row_in hin (by omega)
    obtain ⟨n, rfl⟩ : ∃ n : Nat, a = n := ⟨a.toNat, by omega⟩
    rw [S.bytes_put_far k n 8 l (by rw [hS.len]; exact h) (by rw [hS.len]; omega) (by omega)]
  · rw [if_neg hc, if_neg hc]
/-- a cell of a row of bytes that was laid -/
theorem cellV_put_in (S : Img) (hS : S.Ok) (m : Int) (k j : Nat) (l : List UInt8) (h : k + l.length ≤ S.beg 6) (hj : j + 8 ≤ l.length) (hc : S.cellF m ((k + j : Nat) : Int) false = 0) : (S.put k l).cellV m ((k + j : Nat) : Int) = ofB ((l.drop j).take 8) := by
  unfold Img.cellV
  rw [(Alike.put S k l).cellF, if_pos hc, S.bytes_put_in k j 8 l (by rw [hS.len]; exact h) hj]
end Vm
end Go.Proofs.YtjhdpmimccpcdaaGreatDoor
/- Chapter 8: a wordlist stays well, whatever is laid. Plain lemmas. Conditions: as written. -/
namespace Go.Proofs.YtjhdpmimccpcdaaGreatDoor
set_option linter.unusedVariables false
open Go.RowKit Go.Lib
namespace Vm
theorem put_ok {S : Img} (hS : S.Ok) (k : Nat) (l : List UInt8) (h : k + l.length ≤ S.beg 6) : (S.put k l).Ok := by
  have hb : ∀ i, (S.put k l).beg i = S.beg i := fun i => (Alike.put S k l).beg i
  refine ⟨?_, ?_⟩
  · rw [hb, S.put_len k l (by rw [hS.len]; exact h)]
    exact hS.len
  · rw [hb]
    exact hS.small
namespace Dc
variable {S T : Img} {D : Dc}
theorem fr_alike (h : Alike S T) : D.fr T = D.fr S := by unfold fr; rw [h.beg]
theorem lim_alike (h : Alike S T) : D.lim T = D.lim S := by unfold lim; rw [h.beg]
theorem shut_alike (h : Alike S T) : D.shut T = D.shut S := by unfold shut; rw [h.cl]
theorem Ok.alike (h : D.Ok S) (ha : Alike S T) : D.Ok T :=
  ⟨h.rg, by rw [fr_alike ha]; exact h.lo, by rw [lim_alike ha]; exact h.hi, by rw [fr_alike ha, lim_alike ha]; exact h.l, by rw [lim_alike ha, ha.beg]; exact h.al, by rw [lim_alike ha, ha.beg]; exact h.room⟩
theorem Ok.all (h : D.Ok S) : D.lim S ≤ S.beg 6 := by
  unfold lim
  rcases h.rg with e | e <;> rw [e] <;> exact S.beg_mono (by omega) (by omega) (by omega)
theorem Ok.le (h : D.Ok S) (hS : S.Ok) : D.lim S ≤ 143360 := Nat.le_trans h.all hS.small
theorem Ok.with (h : D.Ok S) (n m : Nat) (h1 : D.fr S ≤ n) (h2 : n ≤ D.lim S) (h3 : m = 0 ∨ (m % 8 = 0 ∧ D.fr S ≤ m ∧ m + 16 ≤ D.lim S)) : ({ D with h := n, l := m } : Dc).Ok S := ⟨h.rg, h1, h2, h3, h.al, h.room⟩
/-- an address of the wordlist's region -/
theorem Ok.region (h : D.Ok S) (a : Nat) (h1 : D.fr S ≤ a) (h2 : a < D.lim S) : S.region (a : Int) = D.rg := by
  have h3 : S.beg D.rg ≤ a := by unfold fr at h1; omega
  refine S.region_eq (by omega) ?_ ?_ (by omega) (by unfold lim at h2; omega)
  · rcases h.rg with e | e <;> omega
  · rcases h.rg with e | e <;> omega
theorem Ok.may (h : D.Ok S) : S.may 0 D.rg = if D.shut S = true then 1 else 3 := by
  unfold Img.may shut
  rcases h.rg with e | e <;> rw [e] <;> simp
theorem Ok.rowOk (h : D.Ok S) (a n : Nat) (h1 : D.fr S ≤ a) (h2 : a + n ≤ D.lim S) (hn : n ≠ 0) (w : Bool) : S.rowOk 0 (a : Int) n w = (!w || !D.shut S) := by
  have hr := h.region a h1 (by omega)
  unfold Img.rowOk Img.lets
  rw [hr, h.may]
  have h3 : (D.rg != 0) = true := by rcases h.rg with e | e <;> rw [e] <;> rfl
  have h4 : decide ((n : Int) ≤ (S.beg (D.rg + 1) : Int) - (a : Int)) = true := decide_eq_true (by unfold lim at h2; omega)
  have h5 : (n == 0) = false := by simpa using hn
  rw [h3, h4, h5]
  cases w <;> cases D.shut S <;> simp
theorem Ok.cellW (h : D.Ok S) (a : Nat) (h1 : D.fr S ≤ a) (h2 : a + 8 ≤ D.lim S) : S.cellF 0 (a : Int) true = if a % 8 ≠ 0 then 6 else if D.shut S = true then 5 else 0 := by
  unfold Img.cellF
  rw [h.rowOk a 8 h1 h2 (by omega) true]
  have e : ((a : Int) % 8 ≠ 0) ↔ a % 8 ≠ 0 := by omega
  simp only [e]
  cases D.shut S <;> simp
theorem Ok.byteW (h : D.Ok S) (a : Nat) (h1 : D.fr S ≤ a) (h2 : a + 1 ≤ D.lim S) : S.byteF 0 (a : Int) true = if D.shut S = true then 5 else 0 := by
  unfold Img.byteF
  rw [h.rowOk a 1 h1 h2 (by omega) true]
  cases D.shut S <;> simp
theorem Ok.byteR (h : D.Ok S) (a : Nat) (h1 : D.fr S ≤ a) (h2 : a + 1 ≤ D.lim S) : S.byteF 0 (a : Int) false = 0 ∧ S.byteV 0 (a : Int) = S.b.getD a 0 := by
  unfold Img.byteF Img.byteV
  rw [h.rowOk a 1 h1 h2 (by omega) false]
  simp
/-! ### each step -/
theorem comma_zero (h : D.commaF S = 0) : D.h + 8 ≤ D.lim S ∧ D.h % 8 = 0 ∧ D.shut S = false := by
  unfold commaF at h
  by_cases h1 : D.lim S < D.h + 8
  · rw [if_pos h1] at h; cases h
  rw [if_neg h1] at h
  by_cases h2 : D.h % 8 ≠ 0
  · rw [if_pos h2] at h; cases h
  rw [if_neg h2] at h
  by_cases h3 : D.shut S = true
  · rw [if_pos h3] at h; cases h
  exact ⟨by omega, by omega, by simpa using h3⟩
theorem alike_comma (D : Dc) (S : Img) (v : Int) : Alike S (D.commaS S v) := by
  unfold commaS
  split
  · exact Alike.put _ _ _
  · exact Alike.refl _
theorem ok_comma (hS : S.Ok) (h : D.Ok S) (v : Int) : (D.commaS S v).Ok ∧ (D.commaD S).Ok (D.commaS S v) := by
  refine ⟨?_, Ok.alike ?_ (alike_comma D S v)⟩
  · unfold commaS
    split
    · rename_i h1
      have := comma_zero h1
      exact put_ok hS _ _ (by rw [toB_len]; have := h.all; omega)
    · exact hS
  · unfold commaD
    split
    · rename_i h1
      have := comma_zero h1
      exact h.with _ _ (by have := h.lo; omega) (by omega) h.l
    · exact h
theorem Ok.up (h : D.Ok S) : Vm.up D.h ≤ D.lim S := by
  have h1 := h.hi
  have h2 := h.al.1
  unfold Vm.up
  omega
theorem create_zero {n : List UInt8} (h : D.createF S n = 0) : nameB n = true ∧ Vm.up D.h + (8 + Vm.up (1 + n.length)) ≤ D.lim S ∧ D.shut S = false := by
  unfold createF at h
  by_cases h1 : nameB n = false
  · rw [if_pos h1] at h; cases h
  rw [if_neg h1] at h
  by_cases h2 : D.lim S < Vm.up D.h + (8 + Vm.up (1 + n.length))
  · rw [if_pos h2] at h; cases h
  rw [if_neg h2] at h
  by_cases h3 : D.shut S = true
  · rw [if_pos h3] at h; cases h
  exact ⟨by simpa using h1, by omega, by simpa using h3⟩
theorem name_len {n : List UInt8} (h : nameB n = true) : 1 ≤ n.length ∧ n.length ≤ 31 := by
  unfold nameB at h
  simp at h
  omega
theorem head_len (D : Dc) (n : List UInt8) : (D.headB n).length = Vm.up D.h - D.h + (8 + Vm.up (1 + n.length)) := by
  have := up_ge (1 + n.length)
  unfold headB
  simp [toB_len]
  omega
theorem alike_create (D : Dc) (S : Img) (n : List UInt8) : Alike S (D.createS S n) := by
  unfold createS
  split
  · exact Alike.put _ _ _
  · exact Alike.refl _
theorem ok_create (hS : S.Ok) (h : D.Ok S) (n : List UInt8) : (D.createS S n).Ok ∧ (D.createD S n).Ok (D.createS S n) := by
  have h2 := up_ge D.h
  refine ⟨?_, Ok.alike ?_ (alike_create D S n)⟩
  · unfold createS
    split
    · rename_i h1
      have := create_zero h1
      exact put_ok hS _ _ (by rw [head_len]; have := h.all; omega)
    · exact hS
  · unfold createD
    split
    · rename_i h1
      obtain ⟨h3, h4, h5⟩ := create_zero h1
      have h6 := name_len h3
      have h7 := up_ge (1 + n.length)
      have h8 := h.lo
      exact h.with _ _ (by omega) (by omega) (.inr ⟨by omega, by omega, by omega⟩)
    · exact h
theorem alike_flag (D : Dc) (S : Img) (off on : UInt8) : Alike S (D.flagS S off on) := by
  unfold flagS
  split
  · exact Alike.refl _
  · exact Alike.put _ _ _
theorem ok_flag (hS : S.Ok) (h : D.Ok S) (off on : UInt8) : (D.flagS S off on).Ok ∧ D.Ok (D.flagS S off on) := by
  refine ⟨?_, h.alike (alike_flag D S off on)⟩
  unfold flagS
  split
  · exact hS
  · rename_i h1
    have h2 := h.l
    have h3 := h.all
    exact put_ok hS _ _ (by simp; omega)
end Dc
end Vm
end Go.Proofs.YtjhdpmimccpcdaaGreatDoor
