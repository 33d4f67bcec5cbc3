/- Chapter 19: what look does, in plain words: a definition that is open, the reader of a text. No condition; runs by the kernel. -/
import Derived.Test.YthejfkkmcbdlhaaGreatDoorQScan
import Derived.Test.YthejfkkmcbdlhaaGreatDoorQRow
import Derived.Test.YthejfkkmcbdlhaaGreatDoorQNumb
import Derived.Laws.AppendOwn
import Derived.BigRegion
namespace Go.Proofs.YthejfkkmcbdlhaaGreatDoor
set_option linter.unusedVariables false
open Go.RowKit Go.Lib
namespace Look

structure St where
  h : Int
  r : Int
  dead : Bool
deriving DecidableEq, Inhabited
structure Open where
  kind : Nat
  a : St
  b : St
  left : Bool
deriving DecidableEq, Inhabited
structure Eff where
  name : List UInt8
  inn : Int
  out : Int
  known : Bool
  needs : Nat
deriving DecidableEq, Inhabited
structure Def where
  e : Eff
  wild : Bool
  want : Int
  s : St
  stack : List Open
  ends : List Int
deriving DecidableEq, Inhabited
def st0 : St := ⟨0, 0, false⟩
def stDead : St := ⟨0, 0, true⟩

def Def.bad (d : Def) : Def := { d with e := { d.e with known := false } }
def Def.takes (d : Def) (t l : Int) : Def :=
  if d.s.dead then d else { d with want := max d.want (wrap64 (t - d.s.h)), s := { d.s with h := wrap64 (d.s.h + wrap64 (l - t)) } }
/-- two states that must agree -/
def Def.meet (d : Def) (a b : St) : Def × St :=
  if a.dead then (d, b) else if !b.dead && a != b then (d.bad, a) else (d, a)
/-- is the topmost thing of that kind? -/
def Def.top (d : Def) (k : Nat) : Option Open := match d.stack.getLast? with
  | some o => if o.kind = k then some o else none
  | none => none
def Def.opens (d : Def) (o : Open) : Def := { d with stack := d.stack ++ [o] }
def Def.closes (d : Def) : Def := { d with stack := d.stack.dropLast }
/-- the topmost loop's place, from the front -/
def innerAt : List Open → Option Nat
  | [] => none
  | o :: l => match innerAt l with
    | some i => some (i + 1)
    | none => if o.kind = 27 then some 0 else none
def Def.inner (d : Def) : Option Open := (innerAt d.stack).bind fun i => d.stack[i]?
/-- something lies on the return stack, or it ends at another height -/
def Def.odd (d : Def) : Bool := d.s.r != 0 || (match d.ends with | [] => false | x :: _ => x != d.s.h)
def Def.end_ (d : Def) : Def :=
  if d.s.dead then d else
  let d1 := if d.odd then d.bad else d
  { d1 with ends := d1.ends ++ [d1.s.h], s := stDead }
def Def.closed (d : Def) : Eff :=
  let d1 := (if d.stack.isEmpty then d else d.bad).end_
  if d1.e.known then { d1.e with inn := d1.want, out := match d1.ends with | [] => d1.want | x :: _ => wrap64 (d1.want + x) } else d1.e
def Def.operation (d : Def) (op : Int) : Def :=
  if op = 29 ∨ op = 26 ∨ op = 16 ∨ op = 85 ∨ op = 10 ∨ op = 93 then d.bad else
  let d1 := d.takes (Code.wants op).1 (Code.wants op).2
  if d1.s.dead then d1 else
  let base := match d1.inner with | some x => x.a.r | none => 0
  if op = 105 then { d1 with s := stDead }
  else if op = 13 then { d1 with s := { d1.s with r := wrap64 (d1.s.r + 1) } }
  else if op = 14 then
    let d2 := if d1.s.r ≤ base then d1.bad else d1
    { d2 with s := { d2.s with r := wrap64 (d2.s.r - 1) } }
  else if op = 15 then (if d1.s.r ≤ base then d1.bad else d1)
  else d1
def Def.setTop (d : Def) (o : Open) : Def := { d with stack := d.stack.dropLast ++ [o] }
def Def.branch (d : Def) (k : Nat) : Def :=
  if k = 19 then let d1 := d.takes 1 0; d1.opens ⟨19, d1.s, st0, false⟩
  else match d.top 19 with
  | none => d.bad
  | some x => if k = 20 then { d.setTop { x with a := d.s } with s := x.a } else
    let (d1, s1) := d.meet x.a d.s
    ({ d1 with s := s1 }).closes
def Def.turns (d : Def) (k : Nat) : Def :=
  if k = 22 then d.opens ⟨22, d.s, st0, false⟩ else
  let d1 := if k = 24 ∨ k = 25 then d.takes 1 0 else d
  match d1.top (if k = 26 then 25 else 22) with
  | none => d1.bad
  | some x =>
    if k = 25 then d1.setTop { x with kind := 25, b := d1.s } else
    let d2 := (d1.meet x.a d1.s).1
    let d3 := if k = 23 then { d2 with s := stDead } else if k = 26 then { d2 with s := x.b } else d2
    d3.closes
def Def.counts (d : Def) (k : Nat) : Def :=
  if k = 27 ∨ k = 28 then let d1 := d.takes 2 0; d1.opens ⟨27, d1.s, st0, decide (k = 28)⟩
  else if k = 31 then match innerAt d.stack with
    | none => d.bad
    | some i => match d.stack[i]? with
      | none => d.bad
      | some x =>
        let d1 := (d.meet x.a d.s).1
        { d1 with stack := d1.stack.set i { x with left := x.left || !d.s.dead }, s := stDead }
  else
  let d1 := if k = 30 then d.takes 1 0 else d
  match d1.top 27 with
  | none => d1.bad
  | some x =>
    let d2 := (d1.meet x.a d1.s).1
    (if !d2.s.dead || x.left then { d2 with s := x.a } else d2).closes
def Def.choice (d : Def) (k : Nat) : Def :=
  if k = 32 then d.opens ⟨32, stDead, st0, false⟩
  else if k = 33 then match d.top 32 with
    | none => d.bad
    | some _ => let d1 := d.takes 2 1; (d1.opens ⟨33, d1.s, st0, false⟩).takes 1 0
  else if k = 34 then match d.top 33 with
    | none => d.bad
    | some x =>
      let l := d.stack.dropLast
      match l.getLast? with
      | none => d.bad
      | some c =>
        let (d1, s1) := d.meet c.a d.s
        { d1 with stack := l.dropLast ++ [{ c with a := s1 }], s := x.a }
  else match d.top 32 with
    | none => d.bad
    | some x =>
      let d1 := d.takes 1 0
      let (d2, s2) := d1.meet x.a d1.s
      ({ d2 with s := s2 }).closes
def Def.special (d : Def) (k : Nat) : Def :=
  if k = 15 ∨ k = 16 ∨ k = 18 then d
  else if k = 8 ∨ k = 10 then d.takes 0 1
  else if k = 17 then d.takes 0 2
  else if k = 19 ∨ k = 20 ∨ k = 21 then d.branch k
  else if 22 ≤ k ∧ k ≤ 26 then d.turns k
  else if 27 ≤ k ∧ k ≤ 31 then d.counts k
  else if 32 ≤ k ∧ k ≤ 35 then d.choice k
  else if k = 36 then
    let d1 := if d.inner.isSome then d.bad else d
    let d2 := d1.end_
    { d2 with s := { d2.s with dead := true } }
  else d.bad

/-! ### the reader -/
/-- a word: its kind (0 unknown, 1 operation, 2 special, 3 defined, 4 own, 5 numeral), its number, the kernel's name -/
structure W where
  kind : Nat
  n : Nat
  name : List UInt8
deriving DecidableEq, Inhabited
/-- a text that is read: its words, which of them are wild, all mentions of the kernel's words, what is open -/
structure Rd where
  at_ : Nat
  list : List Eff
  wild : List Bool
  spoken : List (List UInt8)
  loose : Bool
  needs : Nat
  open_ : Option Def
deriving DecidableEq, Inhabited
def rd0 : Rd := ⟨0, [], [], [], false, 0, none⟩
/-- the latest word of that name (in small letters) -/
def latest : List Eff → List UInt8 → Option Nat
  | [], _ => none
  | e :: l, k => match latest l k with
    | some i => some (i + 1)
    | none => if lowS e.name = k then some 0 else none
def cap (op : Nat) : Nat :=
  if op = 78 ∨ op = 79 ∨ op = 80 ∨ op = 81 ∨ op = 82 then 1
  else if op = 83 ∨ op = 84 then 2
  else if op = 87 then 4
  else if 88 ≤ op ∧ op ≤ 93 then 8
  else if 100 ≤ op ∧ op ≤ 104 then 16
  else 0
/-- the kernel's table, by names in small letters; the words of the kernel's source, which of them are wild (none: it is the kernel's source itself that is read) -/
structure Env where
  tab : List (List UInt8 × W)
  klist : List Eff
  kwild : List Bool
def what (E : Env) (l : List Eff) (s : List UInt8) : W :=
  match latest l (lowS s) with
  | some i => ⟨4, i, []⟩
  | none => match latest E.klist (lowS s) with
    | some i => ⟨3, i, (E.klist.getD i default).name⟩
    | none => match E.tab.lookup (lowS s) with
      | some w => w
      | none => if (parseN s 10).2 then ⟨5, 0, []⟩ else ⟨0, 0, []⟩
def effect (E : Env) (l : List Eff) (w : W) : Eff := if w.kind = 3 then E.klist.getD w.n default else l.getD w.n default
def needed (E : Env) (l : List Eff) (w : W) : Nat :=
  if w.kind = 4 ∨ w.kind = 3 then (effect E l w).needs
  else if w.kind = 1 then cap w.n
  else if w.kind = 2 ∧ w.n = 18 then 1 else 0
def isLoose (E : Env) (opened : Bool) (w : W) : Bool :=
  if w.kind = 3 then E.kwild.getD w.n false
  else if w.kind = 2 then decide (3 ≤ w.n ∧ w.n ≤ 6 ∨ w.n = 12)
  else if w.kind = 1 then
    (if w.n = 13 then !opened else if w.n = 85 then opened
     else decide (w.n = 16 ∨ w.n = 66 ∨ w.n = 68 ∨ w.n = 69 ∨ w.n = 70 ∨ w.n = 71 ∨ w.n = 74 ∨ w.n = 75 ∨ w.n = 73 ∨ w.n = 84 ∨ w.n = 86 ∨ w.n = 93 ∨ w.n = 10))
  else false
def speaks (E : Env) (r : Rd) (w : W) : Rd :=
  let r1 := if w.name = [] then r else { r with spoken := r.spoken ++ [w.name] }
  if isLoose E r.open_.isSome w then { r1 with loose := true, open_ := r1.open_.map fun d => { d with wild := true } } else r1
def named (opened : Bool) (w : W) : Bool :=
  if w.kind = 1 then decide (w.n = 85) && !opened
  else if w.kind ≠ 2 then false
  else if w.n = 8 ∨ w.n = 10 then opened
  else !opened && decide (w.n = 1 ∨ w.n = 7 ∨ w.n = 9 ∨ w.n = 13 ∨ w.n = 14)
def untilEnd (b : UInt8) (s : List UInt8) (i : Nat) : Option Nat := if goesTo (notB b) s i < s.length then some (goesTo (notB b) s i + 1) else none
/-- what a word reads that is no name; none: the text ends -/
def passes (T : List UInt8) (i : Nat) (w : W) : Option Nat :=
  if w.kind ≠ 2 then some i
  else if w.n = 15 then untilEnd 41 T i
  else if w.n = 17 ∨ w.n = 18 then untilEnd 34 T i
  else if w.n = 16 then some (restEnd T i)
  else some i
def owns (r : Rd) (e : Eff) (wild : Bool) : Rd := { r with list := r.list ++ [e], wild := r.wild ++ [wild] }
def item (E : Env) (l : List Eff) (d : Def) (w : W) : Def :=
  let d1 := { d with e := { d.e with needs := d.e.needs ||| needed E l w } }
  if w.kind = 5 then d1.takes 0 1
  else if w.kind = 4 ∨ w.kind = 3 then
    let e := effect E l w
    (if e.known then d1 else d1.bad).takes e.inn e.out
  else if w.kind = 1 then d1.operation w.n
  else if w.kind = 2 then d1.special w.n
  else d1.bad
def does (E : Env) (r : Rd) (w : W) (name : List UInt8) : Rd :=
  match r.open_ with
  | some d => if w.kind = 2 ∧ w.n = 2 then owns { r with open_ := none } d.closed d.wild else { r with open_ := some (item E r.list d w) }
  | none =>
    if w.kind = 1 ∧ w.n = 85 ∨ w.kind = 2 ∧ (w.n = 13 ∨ w.n = 14) then owns r ⟨name, 0, 1, true, 0⟩ false
    else if w.kind = 2 ∧ w.n = 1 then { r with open_ := some ⟨⟨name, 0, 0, true, 0⟩, false, 0, st0, [], []⟩ }
    else if w.kind = 2 ∧ w.n = 3 then (match r.list.getLast? with
      | none => r
      | some e => { r with list := r.list.dropLast ++ [{ e with inn := 0, out := 0, known := false }] })
    else r
def wordAt (T : List UInt8) (i : Nat) : List UInt8 := (T.take (wordTo T i)).drop (wordFrom T i)
/-- one word more; false: the text ends -/
def round (E : Env) (T : List UInt8) (r : Rd) : Rd × Bool :=
  let s := wordAt T r.at_
  let r := { r with at_ := wordEnd T r.at_ }
  if s = [] then (r, false) else
  let w := what E r.list s
  let r := speaks E r w
  let r := { r with needs := r.needs ||| needed E r.list w }
  match passes T r.at_ w with
  | none => (r, false)
  | some i =>
    let r := { r with at_ := i }
    if named r.open_.isSome w then
      let name := wordAt T r.at_
      let r := { r with at_ := wordEnd T r.at_ }
      if name = [] then (r, false) else
      let r := if w.kind = 2 ∧ (w.n = 7 ∨ w.n = 8) then speaks E r (what E r.list name) else r
      (does E r w name, true)
    else (does E r w [], true)
def read (E : Env) (T : List UInt8) : Nat → Rd → Rd
  | 0, r => r
  | f + 1, r => match round E T r with
    | (r, true) => read E T f r
    | (r, false) => r

end Look
end Go.Proofs.YthejfkkmcbdlhaaGreatDoor
/- Chapter 19: where a text's words begin and end: plain lemmas. -/
namespace Go.Proofs.YthejfkkmcbdlhaaGreatDoor
set_option linter.unusedVariables false
open Go.RowKit Go.Lib
namespace Look
theorem wordTo_le {T : List UInt8} {i : Nat} (h : i ≤ T.length) : wordTo T i ≤ T.length := goesTo_le (goesTo_le h)
theorem wordEnd_le {T : List UInt8} {i : Nat} (h : i ≤ T.length) : wordEnd T i ≤ T.length := stepTo_le (wordTo_le h)
theorem wordAt_len (T : List UInt8) (i : Nat) : (wordAt T i).length ≤ T.length := by unfold wordAt; simp; omega
theorem wordEnd_lt {T : List UInt8} {i : Nat} (h : i ≤ T.length) (hw : wordAt T i ≠ []) : i + 1 ≤ wordEnd T i := by
  have h1 : wordFrom T i < wordTo T i := by
    rcases Nat.lt_or_ge (wordFrom T i) (wordTo T i) with h1 | h1
    · exact h1
    · exfalso
      apply hw
      unfold wordAt
      apply List.drop_eq_nil_of_le
      simp
      omega
  have h2 := le_goesTo isLow T i
  have h3 : i ≤ wordFrom T i := h2
  have h4 := le_stepTo T (wordTo T i)
  have h5 : wordTo T i ≤ wordEnd T i := h4
  omega
theorem restEnd_le {T : List UInt8} {i : Nat} (h : i ≤ T.length) : restEnd T i ≤ T.length := stepTo_le (goesTo_le h)
theorem le_restEnd (T : List UInt8) (i : Nat) : i ≤ restEnd T i := Nat.le_trans (le_goesTo _ T i) (le_stepTo T _)
theorem passes_at {T : List UInt8} {i j : Nat} {w : W} (h : i ≤ T.length) (hp : passes T i w = some j) : i ≤ j ∧ j ≤ T.length := by
  have hu : ∀ b, untilEnd b T i = some j → i ≤ j ∧ j ≤ T.length := by
    intro b hb
    unfold untilEnd at hb
    split at hb
    · cases hb
      have := le_goesTo (notB b) T i
      omega
    · cases hb
  unfold passes at hp
  split at hp
  · cases hp; omega
  · split at hp
    · exact hu _ hp
    · split at hp
      · exact hu _ hp
      · split at hp
        · cases hp; exact ⟨le_restEnd T i, restEnd_le h⟩
        · cases hp; omega
theorem extract_word (T : ByteArray) (i : Nat) : T.extract (wordFrom T.data.toList i) (wordTo T.data.toList i) = ⟨(wordAt T.data.toList i).toArray⟩ := by
  unfold wordAt
  generalize wordFrom T.data.toList i = a
  generalize wordTo T.data.toList i = b
  apply ByteArray.ext
  rw [ByteArray.data_extract]
  apply Array.ext'
  rw [Array.toList_extract]
  simp [List.extract, List.drop_take]
end Look
end Go.Proofs.YthejfkkmcbdlhaaGreatDoor
/- Rows of elements of several cells, of the call's own, with room behind them (World.ownsRow of the kit), as objects. Plain lemmas. -/
namespace Go.Proofs.YthejfkkmcbdlhaaGreatDoor
set_option linter.unusedVariables false
open Go.RowKit Go.Lib

theorem ownsRow_of_block {w w' : World} {e : TypeId} {size n : Nat} {v : Value} {xs : List Value} (h : w.ownsRow 0 e size v n xs) (hb : ∀ k, v.ownBlock = some k → w'.heap[k]? = w.heap[k]?) : w'.ownsRow 0 e size v n xs := by
  obtain ⟨hx, h | ⟨g, cap, cur, rfl, hg, hc, r⟩⟩ := h
  · exact ⟨hx, .inl h⟩
  · exact ⟨hx, .inr ⟨g, cap, cur, rfl, hg, (hb g rfl).trans hc, r⟩⟩
theorem ownsRow_drew {w : World} {b : Nat} {e : TypeId} {size n : Nat} {v : Value} {xs : List Value} (h : w.ownsRow b e size v n xs) : w.drew.ownsRow b e size v n xs := h
/-- a row of n elements of 'size' cells -/
def RowK (e : TypeId) (size : Nat) (v : Value) (n : Nat) (xs : List Value) : Asr where
  holds w F := w.ownsRow 0 e size v n xs ∧ ∀ k, F k ↔ v.ownBlock = some k
  lt h hk := (h.1.lt _ ((h.2 _).1 hk)).2
  kept h hk hT := ⟨ownsRow_of_block h.1 fun k hv => hk.block k (h.1.lt _ hv).2 (hT k ((h.2 _).2 hv)), h.2⟩
/-- one element less: s[:len(s)-1] -/
theorem ownsRow_less {w : World} {e : TypeId} {size n : Nat} {g : Nat} {cap : Nat} {xs : List Value} (h : w.ownsRow 0 e size (.slice (some ⟨g, 0, none⟩) (n + 1) cap) (n + 1) xs) : w.ownsRow 0 e size (.slice (some ⟨g, 0, none⟩) n cap) n (xs.take (n * size)) := by
  obtain ⟨hx, ⟨h, _⟩ | ⟨g', cap', cur, hv, hg, hc, h1, h2, h3, h4⟩⟩ := h
  · cases h
  · cases hv
    have hs : n * size ≤ (n + 1) * size := Nat.mul_le_mul_right _ (by omega)
    refine ⟨by rw [List.length_take, hx]; omega, .inr ⟨g, cap, cur, rfl, hg, hc, by omega, h2, h3, ?_⟩⟩
    rw [← h4, List.take_take, Nat.min_eq_left hs]
/-- a cell of an element turned -/
theorem ownsRow_set {w : World} {e : TypeId} {size n g cap i : Nat} {xs : List Value} (h : w.ownsRow 0 e size (.slice (some ⟨g, 0, none⟩) n cap) n xs) (hi : i < xs.length) (u : Value) : (w.setCell ⟨g, i, none⟩ u).ownsRow 0 e size (.slice (some ⟨g, 0, none⟩) n cap) n (xs.set i u) := by
  obtain ⟨hx, ⟨h, _⟩ | ⟨g', cap', cur, hv, hg, hc, h1, h2, h3, h4⟩⟩ := h
  · cases h
  · cases hv
    have hb : Blk w g e cur := hc
    refine ⟨by simp [hx], .inr ⟨g, cap, cur.setIfInBounds i u, rfl, hg, hb.set_ i u, h1, h2, by simp [h3], ?_⟩⟩
    rw [← h4, Array.toList_setIfInBounds, List.take_set]
theorem At.rowK {w0 w : World} {L : List Asr} {e : TypeId} {size n : Nat} {v : Value} {xs : List Value} (h : At w0 w (RowK e size v n xs :: L)) : w.ownsRow 0 e size v n xs := by obtain ⟨F, hF⟩ := h.first; exact hF.1
end Go.Proofs.YthejfkkmcbdlhaaGreatDoor
/- Rows of strings as objects: plain lemmas. -/
namespace Go.Proofs.YthejfkkmcbdlhaaGreatDoor
set_option linter.unusedVariables false
open Go.RowKit Go.Lib
namespace Look
/-- rows of strings -/
def strsC (l : List (List UInt8)) : List Value := l.map fun s => Value.string ⟨s.toArray⟩
def RowS (v : Value) (l : List (List UInt8)) : Asr := RowK 9 1 v l.length (strsC l)
theorem strs_at {w : World} {F : Nat → Prop} {sg n cap : Nat} {l : List (List UInt8)} (h : (RowS (.slice (some ⟨sg, 0, none⟩) n cap) l).holds w F) {j : Nat} {s : List UInt8} (hs : l[j]? = some s) : w.cell? ⟨sg, j, none⟩ = some (.string ⟨s.toArray⟩) := by
  have := h.1.cells (g := sg) rfl j (.string ⟨s.toArray⟩) (by unfold strsC; rw [List.getElem?_map, hs]; rfl)
  rw [← this]
  unfold Addr.add
  split <;> simp_all
end Look
end Go.Proofs.YthejfkkmcbdlhaaGreatDoor
/- Chapter 19: an open definition as an object in memory. Plain lemmas and the small methods' walks. -/
namespace Go.Proofs.YthejfkkmcbdlhaaGreatDoor
set_option linter.unusedVariables false
open Go.RowKit Go.Lib
namespace Look

def stC (s : St) : List Value := [.int .i64 s.h, .int .i64 s.r, .bool s.dead]
def openC (o : Open) : List Value := [.int .i64 (o.kind : Int)] ++ stC o.a ++ stC o.b ++ [.bool o.left]
def stackC (l : List Open) : List Value := l.flatMap openC
def endsC (l : List Int) : List Value := l.map (Value.int .i64)
def defC (d : Def) (vs ve : Value) : Array Value := #[.string ⟨d.e.name.toArray⟩, .int .i64 d.e.inn, .int .i64 d.e.out, .bool d.e.known, .int .i64 (d.e.needs : Int), .bool d.wild, .int .i64 d.want, .int .i64 d.s.h, .int .i64 d.s.r, .bool d.s.dead, vs, ve]
theorem openC_len (o : Open) : (openC o).length = 8 := rfl
theorem stackC_len (l : List Open) : (stackC l).length = l.length * 8 := by
  induction l with
  | nil => rfl
  | cons o l ih => unfold stackC at ih ⊢; rw [List.flatMap_cons, List.length_append, ih, openC_len]; simp; omega
/-- an open definition: its struct, its stack's row, its ends' row -/
structure DefAt (w : World) (g : Nat) (d : Def) (vs ve : Value) : Prop where
  blk : Blk w g 147 (defC d vs ve)
  stack : w.ownsRow 0 211 8 vs d.stack.length (stackC d.stack)
  ends : w.ownsRow 0 3 1 ve d.ends.length (endsC d.ends)
  ne1 : vs.ownBlock ≠ some g
  ne2 : ve.ownBlock ≠ some g
  ne3 : ∀ k, vs.ownBlock = some k → ve.ownBlock ≠ some k
/-- the same as an object, its two slices named -/
def DefB (g : Nat) (d : Def) (vs ve : Value) : Asr where
  holds w F := DefAt w g d vs ve ∧ ∀ k, F k ↔ k = g ∨ vs.ownBlock = some k ∨ ve.ownBlock = some k
  lt := by
    rintro w F k ⟨h, hF⟩ hk
    rcases (hF k).1 hk with rfl | h1 | h1
    · exact h.blk.lt
    · exact (h.stack.lt _ h1).2
    · exact (h.ends.lt _ h1).2
  kept := by
    rintro w w' F T ⟨h, hF⟩ hk hT
    refine ⟨⟨h.blk.kept hk (hT _ ((hF _).2 (.inl rfl))), ownsRow_of_block h.stack fun k hv => hk.block k (h.stack.lt _ hv).2 (hT k ((hF k).2 (.inr (.inl hv)))), ownsRow_of_block h.ends fun k hv => hk.block k (h.ends.lt _ hv).2 (hT k ((hF k).2 (.inr (.inr hv)))), h.ne1, h.ne2, h.ne3⟩, hF⟩
def DefA (g : Nat) (d : Def) : Asr where
  holds w F := ∃ vs ve, (DefB g d vs ve).holds w F
  lt := by
    rintro w F k ⟨vs, ve, h⟩ hk
    exact (DefB g d vs ve).lt h hk
  kept := by
    rintro w w' F T ⟨vs, ve, h⟩ hk hT
    exact ⟨vs, ve, (DefB g d vs ve).kept h hk hT⟩
theorem kept_setAt {S : Nat → Prop} {w w' : World} (h : Kept S w w') {g : Nat} (hg : S g) (i : Nat) (u : Value) : Kept S w (w'.setCell ⟨g, i, none⟩ u) := h.setCell (p := ⟨g, i, none⟩) (.inl hg) u
theorem kept_set3 (w : World) (g i j l : Nat) (a b c : Value) : Kept (fun k => k = g) w (((w.setCell ⟨g, i, none⟩ a).setCell ⟨g, j, none⟩ b).setCell ⟨g, l, none⟩ c) :=
  kept_setAt (kept_setAt (kept_setAt (Kept.refl (fun k => k = g) w) (g := g) rfl i a) (g := g) rfl j b) (g := g) rfl l c
/-- an object of footprint F in w has become A in w'; nothing else of w has turned -/
def On (F : Nat → Prop) (w : World) (A : Asr) (w' : World) : Prop := ∃ F', A.holds w' F' ∧ Kept F w w' ∧ ∀ k, F' k → F k ∨ w.heap.size ≤ k
section
variable {P : Program} {f : FuncId} {args : Array Value} {w w' w'' : World} {F : Nat → Prop} {A A' : Asr} {R : Value → Asr → Prop}
theorem On.refl (h : A.holds w F) : On F w A w := ⟨F, h, Kept.refl F w, fun _ h => .inl h⟩
theorem On.step (h : On F w A w') (hs : ∀ F', A.holds w' F' → On F' w' A' w'') : On F w A' w'' := by
  obtain ⟨F', ha, hk, hF⟩ := h
  obtain ⟨F2, ha2, hk2, hF2⟩ := hs F' ha
  refine ⟨F2, ha2, hk.trans' hk2 hF, fun k h => ?_⟩
  rcases hF2 k h with h | h
  · exact hF k h
  · exact .inr (Nat.le_trans hk.size h)
theorem On.call (h : On F w A w') (hc : ∀ F', A.holds w' F' → Calls P f args w' (Post R F' w')) : Calls P f args w' (fun e w'' => ∃ v A', R v A' ∧ e = .returned v ∧ On F w A' w'') := by
  obtain ⟨F', ha, hk, hF⟩ := h
  refine (hc F' ha).mono ?_
  rintro e w2 ⟨v, A', F2, hR, he, ha2, hk2, hF2⟩
  refine ⟨v, A', hR, he, F2, ha2, hk.trans' hk2 hF, fun k h => ?_⟩
  rcases hF2 k h with h | h
  · exact hF k h
  · exact .inr (Nat.le_trans hk.size h)
theorem On.keptNob (h : On F w A w') (hk : Kept Nob w' w'') : On F w A w'' := by
  obtain ⟨F', ha, hk1, hF⟩ := h
  exact ⟨F', A.kept ha hk (fun _ _ h => h), hk1.trans' hk (fun _ h => h.elim), hF⟩
theorem On.drewN (h : On F w A w') (n : Nat) : On F w A (w'.drewN n) := h.keptNob ((Kept.refl _ _).drewN n)
theorem On.drew (h : On F w A w') : On F w A w'.drew := h.keptNob (Kept.refl _ _).drew
theorem On.alloc (h : On F w A w') (o : Obj) : On F w A (w'.alloc o) := h.keptNob ((Kept.refl _ _).alloc o)
theorem On.post {v : Value} (h : On F w A w') (hR : R v A) : Post R F w (.returned v) w' := by
  obtain ⟨F', ha, hk, hF⟩ := h
  exact ⟨v, A, F', hR, rfl, ha, hk, hF⟩
end
/-- a cell of the struct turned -/
theorem DefAt.setOwn {w : World} {g : Nat} {d d' : Def} {vs ve : Value} (h : DefAt w g d vs ve) (i : Nat) (u : Value) (hs : d'.stack = d.stack) (he : d'.ends = d.ends) (hc : (defC d vs ve).setIfInBounds i u = defC d' vs ve) : DefAt (w.setCell ⟨g, i, none⟩ u) g d' vs ve := by
  refine ⟨hc ▸ h.blk.set_ i u, ?_, ?_, h.ne1, h.ne2, h.ne3⟩
  · rw [hs]; exact ownsRow_of_block h.stack fun k hv => Below.heap_setCell _ _ _ _ (fun e => h.ne1 (by subst e; exact hv))
  · rw [he]; exact ownsRow_of_block h.ends fun k hv => Below.heap_setCell _ _ _ _ (fun e => h.ne2 (by subst e; exact hv))
theorem DefAt.drewN {w : World} {g : Nat} {d : Def} {vs ve : Value} (h : DefAt w g d vs ve) (n : Nat) : DefAt (w.drewN n) g d vs ve := ⟨h.blk, h.stack, h.ends, h.ne1, h.ne2, h.ne3⟩

theorem bad_walk (g : Nat) (d : Def) (vs ve : Value) (w : World) (F : Nat → Prop) (hb : (DefB g d vs ve).holds w F) :
    Calls Tryz.prog 132 #[.pointer (some ⟨g, 0, none⟩)] w (Post (fun u B => u = .tuple #[] ∧ B = DefB g d.bad vs ve) F w) := by
  obtain ⟨h, hF⟩ := hb
  have f3 := h.blk.frozen 3
  have c3 := h.blk.cell 3
  simp [defC] at c3
  replace h := Lib.hid h
  replace hF := Lib.hid hF
  go_enter Tryz.func132, Tryz.ntmps132
  go_wp2
  go_end0
  exact ⟨_, _, F, ⟨rfl, rfl⟩, rfl, ⟨h.out.setOwn 3 _ rfl rfl rfl, hF.out⟩, Kept.setCell (Kept.refl F w) (.inl ((hF.out _).2 (.inl rfl))) _, fun k h => .inl h⟩
end Look
end Go.Proofs.YthejfkkmcbdlhaaGreatDoor
/- Several objects that a call finds, one behind the other; what turns, and what does not (the objects need not be new). Plain lemmas. -/
namespace Go.Proofs.YthejfkkmcbdlhaaGreatDoor
set_option linter.unusedVariables false
open Go.RowKit Go.Lib
namespace Look
def AllA (L : List Asr) : Asr where
  holds := All L
  lt := All.lt
  kept := All.kept
section
variable {P : Program} {f : FuncId} {args : Array Value} {w w' w'' : World} {F : Nat → Prop} {A A' B C D : Asr} {L L' : List Asr} {R : Value → Asr → Prop}
theorem On.mono (h : On F w A w') (hs : ∀ F', A.holds w' F' → A'.holds w' F') : On F w A' w' := by
  obtain ⟨F', ha, hk, hF⟩ := h
  exact ⟨F', hs F' ha, hk, hF⟩
theorem All.congrF : ∀ {L : List Asr} {w : World} {F F' : Nat → Prop}, All L w F → (∀ k, F' k ↔ F k) → All L w F'
  | [], _, _, _, h, hF => fun k hk => h k ((hF k).1 hk)
  | A :: L, _, _, _, ⟨F1, F2, h1, h2, hd, h3⟩, hF => ⟨F1, F2, h1, h2, hd, fun k => (hF k).trans (h3 k)⟩
theorem All.one {w : World} {F : Nat → Prop} (h : A.holds w F) : All [A] w F := ⟨F, fun _ => False, h, fun _ h => h, fun _ _ h => h, fun k => ⟨fun h => .inl h, fun h => h.elim id (fun h => h.elim)⟩⟩
theorem On.one (h : On F w A w') : On F w (AllA [A]) w' := h.mono fun _ h => All.one h
theorem On.swapA (h : On F w (AllA (A :: B :: L)) w') : On F w (AllA (B :: A :: L)) w' := h.mono fun _ h => All.swap h
theorem All.rot3 {w : World} {F : Nat → Prop} (h : All (A :: B :: C :: L) w F) : All (C :: A :: B :: L) w F := by
  obtain ⟨F1, F2, h1, h2, hd, hF⟩ := h
  exact All.swap ⟨F1, F2, h1, h2.swap, hd, hF⟩
theorem All.rot4 {w : World} {F : Nat → Prop} (h : All (A :: B :: C :: D :: L) w F) : All (D :: A :: B :: C :: L) w F := by
  obtain ⟨F1, F2, h1, h2, hd, hF⟩ := h
  exact All.swap ⟨F1, F2, h1, Look.All.rot3 h2, hd, hF⟩
theorem On.rot3A (h : On F w (AllA (A :: B :: C :: L)) w') : On F w (AllA (C :: A :: B :: L)) w' := h.mono fun _ h => All.rot3 h
theorem On.rot4A (h : On F w (AllA (A :: B :: C :: D :: L)) w') : On F w (AllA (D :: A :: B :: C :: L)) w' := h.mono fun _ h => All.rot4 h
theorem On.tailA (h : On F w (AllA (A :: L)) w') : On F w (AllA L) w' := by
  obtain ⟨F', ⟨F1, F2, h1, h2, hd, hF⟩, hk, hF'⟩ := h
  exact ⟨F2, h2, hk, fun k h => hF' k ((hF k).2 (.inr h))⟩
theorem On.headA (h : On F w (AllA (A :: L)) w') : On F w A w' := by
  obtain ⟨F', ⟨F1, F2, h1, h2, hd, hF⟩, hk, hF'⟩ := h
  exact ⟨F1, h1, hk, fun k h => hF' k ((hF k).2 (.inl h))⟩
theorem On.firstA (h : On F w (AllA (A :: L)) w') : ∃ F', A.holds w' F' := by
  obtain ⟨F', ⟨F1, F2, h1, _⟩, _⟩ := h
  exact ⟨F1, h1⟩
/-- the first object changed -/
theorem On.stepA (h : On F w (AllA (A :: L)) w') (hs : ∀ F', A.holds w' F' → On F' w' A' w'') : On F w (AllA (A' :: L)) w'' := by
  refine h.step fun F' ha => ?_
  obtain ⟨F1, F2, h1, h2, hd, hF⟩ := ha
  obtain ⟨F3, h3, hk3, hF3⟩ := hs F1 h1
  refine ⟨fun k => F3 k ∨ F2 k, ⟨F3, F2, h3, h2.kept hk3 (fun k a b => hd k b a), fun k a b => ?_, fun k => Iff.rfl⟩, hk3.mono fun k h => (hF k).2 (.inl h), ?_⟩
  · rcases hF3 k a with c | c
    · exact hd k c b
    · have := h2.lt b; omega
  · rintro k (h | h)
    · exact (hF3 k h).imp (fun h => (hF k).2 (.inl h)) id
    · exact .inl ((hF k).2 (.inr h))
theorem On.callA (h : On F w (AllA (A :: L)) w') (hc : ∀ F', A.holds w' F' → Calls P f args w' (Post R F' w')) : Calls P f args w' (fun e w'' => ∃ v A', R v A' ∧ e = .returned v ∧ On F w (AllA (A' :: L)) w'') := by
  obtain ⟨F', ⟨F1, F2, h1, h2, hd, hF⟩, hk, hF'⟩ := h
  refine (hc F1 h1).mono ?_
  rintro e w2 ⟨v, A', F3, hR, he, h3, hk3, hF3⟩
  refine ⟨v, A', hR, he, fun k => F3 k ∨ F2 k, ⟨F3, F2, h3, h2.kept hk3 (fun k a b => hd k b a), fun k a b => ?_, fun k => Iff.rfl⟩, hk.trans' hk3 (fun k h => hF' k ((hF k).2 (.inl h))), ?_⟩
  · rcases hF3 k a with c | c
    · exact hd k c b
    · have := h2.lt b; omega
  · rintro k (h | h)
    · rcases hF3 k h with c | c
      · exact hF' k ((hF k).2 (.inl c))
      · exact .inr (Nat.le_trans hk.size c)
    · exact hF' k ((hF k).2 (.inr h))
theorem On.boxA (h : On F w (AllA L) w') (cs : Array Value) (t : TypeId) : On F w (AllA (BlkA w'.heap.size t cs :: L)) (w'.alloc (.cells cs t)) := by
  refine h.step fun F' ha => ?_
  refine ⟨fun k => k = w'.heap.size ∨ F' k, ⟨fun k => k = w'.heap.size, F', ⟨Blk.new w' t cs, fun _ => Iff.rfl⟩, ha.kept ((Kept.refl Nob w').alloc _) (fun _ _ h => h), fun k a b => ?_, fun _ => Iff.rfl⟩, (Kept.refl F' w').alloc _, ?_⟩
  · have := All.lt ha b; omega
  · rintro k (h | h)
    · exact .inr (by omega)
    · exact .inl h
theorem On.setA {g : Nat} {t : TypeId} {cs : Array Value} (h : On F w (AllA (BlkA g t cs :: L)) w') (i : Nat) (u : Value) : On F w (AllA (BlkA g t (cs.setIfInBounds i u) :: L)) (w'.setCell ⟨g, i, none⟩ u) :=
  h.stepA fun F' ha => ⟨F', ⟨ha.1.set_ i u, ha.2⟩, kept_setAt (Kept.refl F' w') ((ha.2 g).2 rfl) i u, fun _ h => .inl h⟩
theorem On.blkA {g : Nat} {t : TypeId} {cs : Array Value} (h : On F w (AllA (BlkA g t cs :: L)) w') : Blk w' g t cs := by
  obtain ⟨F', h1⟩ := h.firstA
  exact h1.1
end
end Look
end Go.Proofs.YthejfkkmcbdlhaaGreatDoor
/- Rows that grow by an append: plain lemmas. -/
namespace Go.Proofs.YthejfkkmcbdlhaaGreatDoor
set_option linter.unusedVariables false
open Go.RowKit Go.Lib
namespace Look
theorem info_str : (Tryz.prog.info? 9).map (fun i => (i.zero, i.size, i.bytes)) = some (some (.string ⟨#[]⟩), 1, 16) := by kernel_rfl
theorem str_one (s : List UInt8) : ∀ u ∈ [Value.string ⟨s.toArray⟩], u.oneCell' = true := by
  intro u hu
  rw [List.mem_singleton] at hu
  subst hu
  rfl
theorem str_news {w : World} {B : Nat} {t : TypeId} {s : List UInt8} (hb : Blk w B t #[Value.string ⟨s.toArray⟩]) : ∀ j u, [Value.string ⟨s.toArray⟩][j]? = some u → w.cell? ((⟨B, 0, none⟩ : Addr).add j) = some u := fun j u hu => World.news_of_block hb j u (by simpa using hu)
theorem grew_at {v : Value} {sg n cap H H0 : Nat} (h : v.ownBlock = some sg ∨ sg = H) (hH : H0 ≤ H := by simp) : ∀ k, (Value.slice (some ⟨sg, 0, none⟩) n cap).ownBlock = some k → v.ownBlock = some k ∨ H0 ≤ k := by
  intro k hk
  have hk : some sg = some k := hk
  cases hk
  rcases h with h | h
  · exact .inl h
  · exact .inr (by omega)
theorem RowK.grew {w w0 w1 : World} {F : Nat → Prop} {e : TypeId} {size n n' : Nat} {v v' : Value} {xs xs' : List Value} (h : (RowK e size v n xs).holds w F) (hk0 : Kept Nob w w0) (hg : w0.grownBy w1 v.ownBlock) (hown : w1.ownsRow 0 e size v' n' xs') (hat : ∀ k, v'.ownBlock = some k → v.ownBlock = some k ∨ w.heap.size ≤ k) : On F w (RowK e size v' n' xs') w1 := by
  refine ⟨fun k => v'.ownBlock = some k, ⟨hown, fun _ => Iff.rfl⟩, Kept.grown (hk0.mono (fun _ h => h.elim)) hg (fun k hv => .inl ((h.2 k).2 hv)), fun k hk => ?_⟩
  rcases hat k hk with h1 | h1
  · exact .inl ((h.2 k).2 h1)
  · exact .inr h1
theorem strs_one (l : List (List UInt8)) : ∀ u ∈ strsC l, u.oneCell' = true := by
  intro u hu
  obtain ⟨s, _, rfl⟩ := List.mem_map.1 hu
  rfl
theorem strs_news {w : World} {B : Nat} {t : TypeId} {l : List (List UInt8)} (hb : Blk w B t (strsC l).toArray) : ∀ j u, (strsC l)[j]? = some u → w.cell? ((⟨B, 0, none⟩ : Addr).add j) = some u := fun j u hu => World.news_of_block hb j u (by simpa using hu)
end Look
end Go.Proofs.YthejfkkmcbdlhaaGreatDoor
/- Chapter 19: the definition's small methods, walked. No condition. -/
namespace Go.Proofs.YthejfkkmcbdlhaaGreatDoor
set_option linter.unusedVariables false
open Go.RowKit Go.Lib
namespace Look
set_option maxHeartbeats 1000000 in
theorem takes_walk (g : Nat) (d : Def) (t l : Int) (vs ve : Value) (w : World) (F : Nat → Prop) (hb : (DefB g d vs ve).holds w F) :
    Calls Tryz.prog 134 #[.pointer (some ⟨g, 0, none⟩), .int .i64 t, .int .i64 l] w (Post (fun u B => u = .tuple #[] ∧ B = DefB g (d.takes t l) vs ve) F w) := by
  obtain ⟨h, hF⟩ := hb
  have f6 := h.blk.frozen 6
  have f7 := h.blk.frozen 7
  have c6 := h.blk.cell 6
  have c7 := h.blk.cell 7
  have c9 := h.blk.cell 9
  simp [defC] at c6 c7 c9
  rcases hd : d.s.dead with _ | _
  · rw [hd] at c9
    have he : d.takes t l = { d with want := max d.want (wrap64 (t - d.s.h)), s := { d.s with h := wrap64 (d.s.h + wrap64 (l - t)) } } := by unfold Def.takes; rw [hd]; rfl
    rw [he]
    have h1 := h.setOwn (d' := { d with want := max d.want (wrap64 (t - d.s.h)) }) 6 (.int .i64 (max d.want (wrap64 (t - d.s.h)))) rfl rfl rfl
    have h2 := fun n => (h1.drewN n).setOwn (d' := { d with want := max d.want (wrap64 (t - d.s.h)), s := { d.s with h := wrap64 (d.s.h + wrap64 (l - t)) } }) 7 (.int .i64 (wrap64 (d.s.h + wrap64 (l - t)))) rfl rfl rfl
    clear he
    replace h1 := Lib.hid h1
    replace h2 := Lib.hid h2
    replace h := Lib.hid h
    replace hF := Lib.hid hF
    go_enter Tryz.func134, Tryz.ntmps134
    go_wp2
    go_region
    go_wp2
    go_end0
    refine ⟨_, _, F, ⟨rfl, rfl⟩, rfl, ⟨?_, hF.out⟩, ?_, fun k h => .inl h⟩
    · first | exact h2.out _
    · exact Kept.setCell ((Kept.setCell (Kept.refl F w) (.inl ((hF.out _).2 (.inl rfl))) _).drewN _) (.inl ((hF.out _).2 (.inl rfl))) _
  · rw [hd] at c9
    have he : d.takes t l = d := by unfold Def.takes; rw [hd]; rfl
    rw [he]
    clear he
    replace h := Lib.hid h
    replace hF := Lib.hid hF
    go_enter Tryz.func134, Tryz.ntmps134
    go_wp2
    go_end0
    exact ⟨_, _, F, ⟨rfl, rfl⟩, rfl, ⟨h.out, hF.out⟩, Kept.refl F w, fun k h => .inl h⟩
theorem stack_form {w : World} {e : TypeId} {size n : Nat} {v : Value} {xs : List Value} (h : w.ownsRow 0 e size v (n + 1) xs) : ∃ sg cap, v = .slice (some ⟨sg, 0, none⟩) (n + 1) cap ∧ n + 1 ≤ cap ∧ cap ≤ maxLen := by
  obtain ⟨hx, ⟨_, h⟩ | ⟨g', cap', cur, hv, hg, hc, h1, h2, h3, h4⟩⟩ := h
  · omega
  · exact ⟨g', cap', hv, h1, h2⟩
theorem stackC_less (l : List Open) : (stackC l).take ((l.length - 1) * 8) = stackC l.dropLast := by
  rcases List.eq_nil_or_concat l with rfl | ⟨l', o, rfl⟩
  · rfl
  · simp only [List.length_concat, Nat.add_sub_cancel]
    unfold stackC
    rw [List.concat_eq_append, List.dropLast_concat, List.flatMap_append, List.take_append_of_le_length (by have := stackC_len l'; unfold stackC at this; omega)]
    rw [List.take_of_length_le (by have := stackC_len l'; unfold stackC at this; omega)]
set_option maxHeartbeats 1000000 in
theorem closes_walk (g : Nat) (d : Def) (hne : d.stack ≠ []) (vs ve : Value) (w : World) (F : Nat → Prop) (hb : (DefB g d vs ve).holds w F) :
    Calls Tryz.prog 164 #[.pointer (some ⟨g, 0, none⟩)] w (Post (fun u B => u = .tuple #[] ∧ ∃ vs', B = DefB g d.closes vs' ve) F w) := by
  obtain ⟨h, hF⟩ := hb
  obtain ⟨n, hn⟩ : ∃ n, d.stack.length = n + 1 := ⟨d.stack.length - 1, by have := List.length_pos_iff.2 hne; omega⟩
  have hst := h.stack
  rw [hn] at hst
  obtain ⟨sg, cap, rfl, hcap, hmax⟩ := stack_form hst
  have hless := ownsRow_less hst
  have e1 : (stackC d.stack).take (n * 8) = stackC d.stack.dropLast := by rw [← stackC_less, hn]; rfl
  have e2 : d.stack.dropLast.length = n := by rw [List.length_dropLast, hn]; rfl
  rw [e1] at hless
  have hnew : DefAt (w.setCell ⟨g, 10, none⟩ (.slice (some ⟨sg, 0, none⟩) n cap)) g d.closes (.slice (some ⟨sg, 0, none⟩) n cap) ve := by
    refine ⟨h.blk.set_ 10 _, ?_, ?_, h.ne1, h.ne2, h.ne3⟩
    · show World.ownsRow _ _ _ _ _ d.stack.dropLast.length _
      rw [e2]
      exact ownsRow_of_block hless fun k hv => Below.heap_setCell _ _ _ _ (fun e => h.ne1 (by subst e; exact hv))
    · exact ownsRow_of_block h.ends fun k hv => Below.heap_setCell _ _ _ _ (fun e => h.ne2 (by subst e; exact hv))
  have f10 := h.blk.frozen 10
  have c10 := h.blk.cell 10
  simp [defC] at c10
  replace hF := Lib.hid hF
  replace hnew := Lib.hid hnew
  have hnb : (n : Int) ≤ 9223372036854775807 := by unfold maxLen at hmax; omega
  have hw : wrap64 (n : Int) = (n : Int) := by unfold wrap64; omega
  have hnc : (n : Int) ≤ (cap : Int) := by omega
  clear hst hless e1 e2 h
  go_enter Tryz.func164, Tryz.ntmps164
  go_wp2
  go_region
  go_wp2
  go_end0
  refine ⟨_, _, F, ⟨rfl, .slice (some ⟨sg, 0, none⟩) n cap, rfl⟩, rfl, ⟨?_, hF.out⟩, ?_, fun k h => .inl h⟩
  · first | exact hnew.out | exact hnew.out.drewN _
  · first | exact (Kept.setCell (Kept.refl F w) (.inl ((hF.out _).2 (.inl rfl))) _).drewN _ | exact Kept.setCell (Kept.refl F w) (.inl ((hF.out _).2 (.inl rfl))) _
end Look
end Go.Proofs.YthejfkkmcbdlhaaGreatDoor
/- Chapter 19: meet. -/
namespace Go.Proofs.YthejfkkmcbdlhaaGreatDoor
set_option linter.unusedVariables false
open Go.RowKit Go.Lib
namespace Look
def stV (s : St) : Value := .agg (stC s).toArray
set_option maxHeartbeats 1000000 in
theorem meet_first (g : Nat) (d : Def) (a b : St) (ha : a.dead = true) (vs ve : Value) (w : World) (F : Nat → Prop) (hb : (DefB g d vs ve).holds w F) :
    Calls Tryz.prog 163 #[.pointer (some ⟨g, 0, none⟩), stV a, stV b] w (Post (fun u B => u = stV b ∧ B = DefB g d vs ve) F w) := by
  obtain ⟨h, hF⟩ := hb
  obtain ⟨ah, ar, ad⟩ := a
  obtain ⟨bh, br, bd⟩ := b
  simp only at ha
  subst ha
  unfold stV stC
  replace h := Lib.hid h
  replace hF := Lib.hid hF
  go_enter Tryz.func163, Tryz.ntmps163
  go_wp2
  have hB := Blk.new' (w := (w.alloc (Obj.cells #[Value.int IntKind.i64 ah, Value.int IntKind.i64 ar, Value.bool true] 144)).alloc (Obj.cells #[Value.int IntKind.i64 bh, Value.int IntKind.i64 br, Value.bool bd] 144)) (g := w.heap.size + 1 + 1) (t := 144) (cs := #[Value.int IntKind.i64 bh, Value.int IntKind.i64 br, Value.bool bd]) (by simp)
  have c0 := hB.cell 0
  have c1 := hB.cell 1
  have c2 := hB.cell 2
  simp at c0 c1 c2
  refine bodyPost_ret (v := .agg #[Value.int IntKind.i64 bh, Value.int IntKind.i64 br, Value.bool bd]) (by simp [results, Tryz.results163, go_sem, c0, c1, c2]) rfl ?_
  have hK : Kept F w (((w.alloc (Obj.cells #[Value.int IntKind.i64 ah, Value.int IntKind.i64 ar, Value.bool true] 144)).alloc (Obj.cells #[Value.int IntKind.i64 bh, Value.int IntKind.i64 br, Value.bool bd] 144)).alloc (Obj.cells #[Value.int IntKind.i64 bh, Value.int IntKind.i64 br, Value.bool bd] 144)) := (((Kept.refl F w).alloc _).alloc _).alloc _
  have hN : Kept Nob w (((w.alloc (Obj.cells #[Value.int IntKind.i64 ah, Value.int IntKind.i64 ar, Value.bool true] 144)).alloc (Obj.cells #[Value.int IntKind.i64 bh, Value.int IntKind.i64 br, Value.bool bd] 144)).alloc (Obj.cells #[Value.int IntKind.i64 bh, Value.int IntKind.i64 br, Value.bool bd] 144)) := (((Kept.refl Nob w).alloc _).alloc _).alloc _
  exact ⟨_, _, F, ⟨rfl, rfl⟩, rfl, (DefB g d vs ve).kept ⟨h.out, hF.out⟩ hN (fun _ _ h => h), hK, fun k h => .inl h⟩
set_option maxHeartbeats 1000000 in
theorem meet_second (g : Nat) (d : Def) (a b : St) (ha : a.dead = false) (hbd : b.dead = true) (vs ve : Value) (w : World) (F : Nat → Prop) (hb : (DefB g d vs ve).holds w F) :
    Calls Tryz.prog 163 #[.pointer (some ⟨g, 0, none⟩), stV a, stV b] w (Post (fun u B => u = stV a ∧ B = DefB g d vs ve) F w) := by
  obtain ⟨h, hF⟩ := hb
  obtain ⟨ah, ar, ad⟩ := a
  obtain ⟨bh, br, bd⟩ := b
  simp only at ha
  simp only at hbd
  subst ha
  subst hbd
  unfold stV stC
  replace h := Lib.hid h
  replace hF := Lib.hid hF
  go_enter Tryz.func163, Tryz.ntmps163
  go_wp2
  have hB := Blk.new' (w := (w.alloc (Obj.cells #[Value.int IntKind.i64 ah, Value.int IntKind.i64 ar, Value.bool false] 144)).alloc (Obj.cells #[Value.int IntKind.i64 bh, Value.int IntKind.i64 br, Value.bool true] 144)) (g := w.heap.size + 1 + 1) (t := 144) (cs := #[Value.int IntKind.i64 ah, Value.int IntKind.i64 ar, Value.bool false]) (by simp)
  have c0 := hB.cell 0
  have c1 := hB.cell 1
  have c2 := hB.cell 2
  simp at c0 c1 c2
  refine bodyPost_ret (v := .agg #[Value.int IntKind.i64 ah, Value.int IntKind.i64 ar, Value.bool false]) (by simp [results, Tryz.results163, go_sem, c0, c1, c2]) rfl ?_
  have hK : Kept F w (((w.alloc (Obj.cells #[Value.int IntKind.i64 ah, Value.int IntKind.i64 ar, Value.bool false] 144)).alloc (Obj.cells #[Value.int IntKind.i64 bh, Value.int IntKind.i64 br, Value.bool true] 144)).alloc (Obj.cells #[Value.int IntKind.i64 ah, Value.int IntKind.i64 ar, Value.bool false] 144)) := (((Kept.refl F w).alloc _).alloc _).alloc _
  have hN : Kept Nob w (((w.alloc (Obj.cells #[Value.int IntKind.i64 ah, Value.int IntKind.i64 ar, Value.bool false] 144)).alloc (Obj.cells #[Value.int IntKind.i64 bh, Value.int IntKind.i64 br, Value.bool true] 144)).alloc (Obj.cells #[Value.int IntKind.i64 ah, Value.int IntKind.i64 ar, Value.bool false] 144)) := (((Kept.refl Nob w).alloc _).alloc _).alloc _
  exact ⟨_, _, F, ⟨rfl, rfl⟩, rfl, (DefB g d vs ve).kept ⟨h.out, hF.out⟩ hN (fun _ _ h => h), hK, fun k h => .inl h⟩
set_option maxHeartbeats 1000000 in
theorem meet_third (g : Nat) (d : Def) (h0 r0 : Int) (vs ve : Value) (w : World) (F : Nat → Prop) (hb : (DefB g d vs ve).holds w F) :
    Calls Tryz.prog 163 #[.pointer (some ⟨g, 0, none⟩), stV ⟨h0, r0, false⟩, stV ⟨h0, r0, false⟩] w (Post (fun u B => u = stV ⟨h0, r0, false⟩ ∧ B = DefB g d vs ve) F w) := by
  unfold stV stC
  replace hb := Lib.hid hb
  go_enter Tryz.func163, Tryz.ntmps163
  go_wp2
  have hB := Blk.new' (w := (w.alloc (Obj.cells #[Value.int IntKind.i64 h0, Value.int IntKind.i64 r0, Value.bool false] 144)).alloc (Obj.cells #[Value.int IntKind.i64 h0, Value.int IntKind.i64 r0, Value.bool false] 144)) (g := w.heap.size + 1 + 1) (t := 144) (cs := #[Value.int IntKind.i64 h0, Value.int IntKind.i64 r0, Value.bool false]) (by simp)
  have c0 := hB.cell 0
  have c1 := hB.cell 1
  have c2 := hB.cell 2
  simp at c0 c1 c2
  refine bodyPost_ret (v := .agg #[Value.int IntKind.i64 h0, Value.int IntKind.i64 r0, Value.bool false]) (by simp [results, Tryz.results163, go_sem, c0, c1, c2]) rfl ?_
  exact ((((On.refl hb.out).alloc _).alloc _).alloc _).post ⟨rfl, rfl⟩
set_option maxHeartbeats 1000000 in
theorem meet_fourth (g : Nat) (d : Def) (ah ar bh br : Int) (hne : ¬ (ah = bh ∧ ar = br)) (vs ve : Value) (w : World) (F : Nat → Prop) (hb : (DefB g d vs ve).holds w F) :
    Calls Tryz.prog 163 #[.pointer (some ⟨g, 0, none⟩), stV ⟨ah, ar, false⟩, stV ⟨bh, br, false⟩] w (Post (fun u B => u = stV ⟨ah, ar, false⟩ ∧ B = DefB g d.bad vs ve) F w) := by
  unfold stV stC
  have hlt : ∀ k, F k → k < w.heap.size := fun k hk => (DefB g d vs ve).lt hb hk
  replace hb := Lib.hid hb
  replace hlt := Lib.hid hlt
  replace hne := Lib.hid hne
  go_enter Tryz.func163, Tryz.ntmps163
  go_wp2_with fail
  · exact absurd ⟨by first | rfl | assumption, by first | rfl | assumption⟩ hne.out
  all_goals
    subst_vars
    refine (bad_walk g d vs ve _ F ((DefB g d vs ve).kept hb.out ((((Kept.refl Nob w).alloc _).alloc _).alloc _) (fun _ _ h => h))).mono ?_
    rintro e w1 ⟨v, A', F', ⟨rfl, rfl⟩, rfl, ha, hk, hF'⟩
    have hA := Blk.kept (((Blk.new w _ _).alloc _).alloc _) hk (fun h => Nat.lt_irrefl _ (hlt.out _ h))
    have hC := Blk.kept (Blk.new' (g := w.heap.size + 1 + 1) (by simp)) hk (fun h => by have := hlt.out _ h; omega)
    have hA0 := hA.cell 0
    have hA1 := hA.cell 1
    have hA2 := hA.cell 2
    have fC0 := hC.frozen 0
    have fC1 := hC.frozen 1
    have fC2 := hC.frozen 2
    have hC0 := hC.cell 0
    have hC1 := hC.cell 1
    have hC2 := hC.cell 2
    have hon : ∀ x y : Int, On F w (DefB g d.bad vs ve) (((w1.setCell ⟨w.heap.size + 1 + 1, 0, none⟩ (.int .i64 x)).setCell ⟨w.heap.size + 1 + 1, 1, none⟩ (.int .i64 y)).setCell ⟨w.heap.size + 1 + 1, 2, none⟩ (.bool false)) := by
      intro x y
      have hk2 : Kept (fun k => k = w.heap.size + 1 + 1) w1 (((w1.setCell ⟨w.heap.size + 1 + 1, 0, none⟩ (.int .i64 x)).setCell ⟨w.heap.size + 1 + 1, 1, none⟩ (.int .i64 y)).setCell ⟨w.heap.size + 1 + 1, 2, none⟩ (.bool false)) := kept_set3 w1 _ 0 1 2 _ _ _
      refine ⟨F', (DefB g d.bad vs ve).kept ha hk2 ?_, ((((Kept.refl F w).alloc _).alloc _ |>.alloc _).trans' hk (fun _ h => .inl h)).trans' hk2 (fun k hk => .inr (by omega)), ?_⟩
      · rintro k h rfl
        rcases hF' _ h with h | h
        · have := hlt.out _ h; omega
        · have h2 := h
          simp only [World.alloc, Array.size_push] at h2
          omega
      · intro k h
        rcases hF' k h with h | h
        · exact .inl h
        · exact .inr (Nat.le_trans (by simp; omega) h)
    simp at hA0 hA1 hA2 hC0 hC1 hC2
    clear hk ha hF'
    replace hC := Lib.hid hC
    replace hA := Lib.hid hA
    replace hon := Lib.hid hon
    go_wp2
    first
      | (have hB := ((hC.out.set_ 0 (.int .i64 ah)).set_ 1 (.int .i64 ar)).set_ 2 (.bool false)
         have c0 := hB.cell 0
         have c1 := hB.cell 1
         have c2 := hB.cell 2
         simp at c0 c1 c2
         refine bodyPost_ret (v := .agg #[Value.int IntKind.i64 ah, Value.int IntKind.i64 ar, Value.bool false]) (by simp [results, Tryz.results163, go_sem, c0, c1, c2]) rfl ?_
         exact (hon.out ah ar).post ⟨rfl, rfl⟩)
      | (have hB := ((hC.out.set_ 0 (.int .i64 bh)).set_ 1 (.int .i64 ar)).set_ 2 (.bool false)
         have c0 := hB.cell 0
         have c1 := hB.cell 1
         have c2 := hB.cell 2
         simp at c0 c1 c2
         refine bodyPost_ret (v := .agg #[Value.int IntKind.i64 bh, Value.int IntKind.i64 ar, Value.bool false]) (by simp [results, Tryz.results163, go_sem, c0, c1, c2]) rfl ?_
         exact (hon.out bh ar).post ⟨rfl, rfl⟩)
theorem meet_walk (g : Nat) (d : Def) (a b : St) (vs ve : Value) (w : World) (F : Nat → Prop) (hb : (DefB g d vs ve).holds w F) :
    Calls Tryz.prog 163 #[.pointer (some ⟨g, 0, none⟩), stV a, stV b] w (Post (fun u B => u = stV (d.meet a b).2 ∧ B = DefB g (d.meet a b).1 vs ve) F w) := by
  rcases ha : a.dead with _ | _
  · rcases hd : b.dead with _ | _
    · obtain ⟨ah, ar, ad⟩ := a
      obtain ⟨bh, br, bd⟩ := b
      simp only at ha hd
      subst ha hd
      by_cases hq : ah = bh ∧ ar = br
      · obtain ⟨rfl, rfl⟩ := hq
        have he : d.meet ⟨ah, ar, false⟩ ⟨ah, ar, false⟩ = (d, ⟨ah, ar, false⟩) := by simp [Def.meet]
        rw [he]
        exact meet_third g d ah ar vs ve w F hb
      · have he : d.meet ⟨ah, ar, false⟩ ⟨bh, br, false⟩ = (d.bad, ⟨ah, ar, false⟩) := by
          have : (⟨ah, ar, false⟩ : St) ≠ ⟨bh, br, false⟩ := by
            intro h
            rw [St.mk.injEq] at h
            exact hq ⟨h.1, h.2.1⟩
          simp [Def.meet, this]
        rw [he]
        exact meet_fourth g d ah ar bh br hq vs ve w F hb
    · have he : d.meet a b = (d, a) := by simp [Def.meet, ha, hd]
      rw [he]
      exact meet_second g d a b ha hd vs ve w F hb
  · have he : d.meet a b = (d, b) := by simp [Def.meet, ha]
    rw [he]
    exact meet_first g d a b ha vs ve w F hb
end Look
end Go.Proofs.YthejfkkmcbdlhaaGreatDoor
