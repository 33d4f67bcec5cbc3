/- What a table of capabilities is and does, as plain functions on plain data. No condition. -/
namespace Go.Proofs.YtjhdpmimccpcdaaGreatDoor.Caps
set_option linter.unusedVariables false

structure Tab where
  pupil : Int
  room : Int
  inp : ByteArray
  out : ByteArray
  log : ByteArray
  points : Int
  said : Bool

def isCap (c : Int) : Bool := c == 1 || c == 2 || c == 4 || c == 8 || c == 16
def has (p m c : Int) : Bool := isCap c && (if m == 1 then p / c % 2 == 1 else (m == 0 || m == 2))
def made (p r : Int) (s : ByteArray) : Tab := ⟨p, r, s, ⟨#[]⟩, ⟨#[]⟩, 0, false⟩
def newErr (p r : Int) (s : ByteArray) : Int := if p < 0 ∨ 31 < p ∨ r < 0 ∨ 65536 < r then 1 else if 4096 < s.size then 2 else 0

structure Tab.Ok (S : Tab) : Prop where
  p0 : 0 ≤ S.pupil
  p1 : S.pupil ≤ 31
  r0 : 0 ≤ S.room
  r1 : S.room ≤ 65536
  inp : S.inp.size ≤ 4096
  out : (S.out.size : Int) ≤ S.room
  log : (S.log.size : Int) ≤ S.room
  n0 : 0 ≤ S.points
  n1 : S.points ≤ 100

def fit (r : Int) (was s : ByteArray) : Nat := min s.size (r.toNat - was.size)
def behind (r : Int) (was s : ByteArray) : ByteArray := was ++ s.extract 0 (fit r was s)

def typE (S : Tab) (m : Int) (s : ByteArray) : Int :=
  if has S.pupil m 1 then (if m == 1 && decide ((S.room - S.out.size : Int) < s.size) then 12 else 0) else 11
def typS (S : Tab) (m : Int) (s : ByteArray) : Tab :=
  if has S.pupil m 1 then (if m == 1 then { S with out := behind S.room S.out s } else { S with log := behind S.room S.log s }) else S

def keyB (S : Tab) (m : Int) : Int := if has S.pupil m 2 then (match S.inp.data.toList with | [] => 0 | c :: _ => c.toNat) else 0
def keyE (S : Tab) (m : Int) : Int := if has S.pupil m 2 then (if S.inp.size = 0 then 18 else 0) else 11
def keyS (S : Tab) (m : Int) : Tab := if has S.pupil m 2 then { S with inp := S.inp.extract 1 S.inp.size } else S

/-- how many letters stand ahead of the first line's end, n at most -/
def nl : List UInt8 → Nat → Nat
  | [], _ => 0
  | _ :: _, 0 => 0
  | c :: l, n + 1 => if c = 10 then 0 else nl l n + 1
def cut (s : ByteArray) (n : Int) : Nat := nl s.data.toList n.toNat
def taken (s : ByteArray) (n : Int) : Nat := if cut s n < min n.toNat s.size then cut s n + 1 else cut s n

def accE (S : Tab) (m n : Int) : Int :=
  if has S.pupil m 2 then (if n < 0 then 19 else if n = 0 then 0 else if S.inp.size = 0 then 18 else 0) else 11
def accB (S : Tab) (m n : Int) : ByteArray := if has S.pupil m 2 ∧ 0 < n then S.inp.extract 0 (cut S.inp n) else ⟨#[]⟩
def accS (S : Tab) (m n : Int) : Tab := if has S.pupil m 2 ∧ 0 < n then { S with inp := S.inp.extract (taken S.inp n) S.inp.size } else S

def sayE (S : Tab) (m p : Int) : Int := if has S.pupil m 8 then (if p < 0 ∨ 100 < p then 19 else 0) else 11
def sayS (S : Tab) (m p : Int) : Tab := if has S.pupil m 8 ∧ 0 ≤ p ∧ p ≤ 100 then { S with points := p, said := true } else S

theorem size_data (s : ByteArray) : s.data.toList.length = s.size := by rw [Array.length_toList]; rfl
theorem ext (s t : ByteArray) (h : s.data.toList = t.data.toList) : s = t := by
  cases s; cases t; simp at h; subst h; rfl

theorem nl_le : ∀ (l : List UInt8) (n : Nat), nl l n ≤ min n l.length
  | [], n => by simp [nl]
  | _ :: _, 0 => by simp [nl]
  | c :: l, n + 1 => by
    have := nl_le l n
    simp only [nl, List.length_cons]
    split <;> omega
theorem cut_le (s : ByteArray) (n : Int) : cut s n ≤ min n.toNat s.size := by
  have := nl_le s.data.toList n.toNat
  rw [size_data] at this
  exact this
theorem taken_le (s : ByteArray) (n : Int) : taken s n ≤ min n.toNat s.size := by
  have := cut_le s n
  unfold taken
  split <;> omega

theorem made_ok {p r : Int} {s : ByteArray} (h : newErr p r s = 0) : (made p r s).Ok := by
  unfold newErr at h
  split at h
  · omega
  · split at h
    · omega
    · rename_i h1 h2
      have e : (ByteArray.mk #[]).size = 0 := rfl
      constructor <;> simp [made, e] <;> omega
theorem behind_size (r : Int) (was s : ByteArray) (h : (was.size : Int) ≤ r) : ((behind r was s).size : Int) ≤ r := by
  have : fit r was s ≤ r.toNat - was.size := Nat.min_le_right _ _
  have h2 : fit r was s ≤ s.size := Nat.min_le_left _ _
  have e : (behind r was s).size = was.size + fit r was s := by
    unfold behind
    rw [ByteArray.size_append, ByteArray.size_extract]
    omega
  omega
theorem typ_ok {S : Tab} (h : S.Ok) (m : Int) (s : ByteArray) : (typS S m s).Ok := by
  unfold typS
  split
  · split
    · exact ⟨h.p0, h.p1, h.r0, h.r1, h.inp, behind_size _ _ _ h.out, h.log, h.n0, h.n1⟩
    · exact ⟨h.p0, h.p1, h.r0, h.r1, h.inp, h.out, behind_size _ _ _ h.log, h.n0, h.n1⟩
  · exact h
theorem inp_ok {S : Tab} (h : S.Ok) (k : Nat) : ({ S with inp := S.inp.extract k S.inp.size } : Tab).Ok := by
  have := h.inp
  exact ⟨h.p0, h.p1, h.r0, h.r1, by simp only [ByteArray.size_extract]; omega, h.out, h.log, h.n0, h.n1⟩
theorem key_ok {S : Tab} (h : S.Ok) (m : Int) : (keyS S m).Ok := by
  unfold keyS; split
  · exact inp_ok h 1
  · exact h
theorem acc_ok {S : Tab} (h : S.Ok) (m n : Int) : (accS S m n).Ok := by
  unfold accS; split
  · exact inp_ok h _
  · exact h
theorem say_ok {S : Tab} (h : S.Ok) (m p : Int) : (sayS S m p).Ok := by
  unfold sayS; split
  · rename_i hp
    exact ⟨h.p0, h.p1, h.r0, h.r1, h.inp, h.out, h.log, hp.2.1, hp.2.2⟩
  · exact h
end Go.Proofs.YtjhdpmimccpcdaaGreatDoor.Caps
