/- The reference's package proctorref9: what each of its functions does to a table that lies in memory. Conditions: the table's numbers are in their bounds (Tab.Ok). -/
import Derived.Test.YtobneijdhedckaaCaps5
namespace Go.Proofs.Ytobneijdhedckaa
set_option linter.unusedVariables false
open Go.RowKit Go.Lib

def rcells (S : Caps.Tab) : Array Value := #[.int .i64 S.pupil, .int .i64 S.room, .string S.inp, .string S.out, .string S.log, .int .i64 S.points, .bool S.said]
structure RRep (w : World) (g : Nat) (S : Caps.Tab) : Prop where
  ok : S.Ok
  blk : Blk w g 70 (rcells S)

theorem RRep.kept {w w' : World} {g : Nat} {S : Caps.Tab} {T : Nat → Prop} (h : RRep w g S) (hk : Kept T w w') (hT : ¬ T g) : RRep w' g S := ⟨h.ok, h.blk.kept hk hT⟩
theorem RRep.lt {w : World} {g : Nat} {S : Caps.Tab} (h : RRep w g S) : g < w.heap.size := h.blk.lt

def RPost (v : Value) (g : Nat) (S' : Caps.Tab) (w : World) (e : Ending) (w' : World) : Prop :=
  e = .returned v ∧ RRep w' g S' ∧ Kept (fun k => k = g) w w'

/-- the seven cells, each as the walk wants it -/
theorem RRep.cells {w : World} {g : Nat} {S : Caps.Tab} (h : RRep w g S) :
    w.cell? ⟨g, 0, none⟩ = some (.int .i64 S.pupil) ∧ w.cell? ⟨g, 1, none⟩ = some (.int .i64 S.room) ∧ w.cell? ⟨g, 2, none⟩ = some (.string S.inp) ∧ w.cell? ⟨g, 3, none⟩ = some (.string S.out) ∧
      w.cell? ⟨g, 4, none⟩ = some (.string S.log) ∧ w.cell? ⟨g, 5, none⟩ = some (.int .i64 S.points) ∧ w.cell? ⟨g, 6, none⟩ = some (.bool S.said) :=
  ⟨h.blk.cell 0, h.blk.cell 1, h.blk.cell 2, h.blk.cell 3, h.blk.cell 4, h.blk.cell 5, h.blk.cell 6⟩
theorem RRep.frozen {w : World} {g : Nat} {S : Caps.Tab} (h : RRep w g S) (i : Nat) : w.frozen? ⟨g, i, none⟩ = false := h.blk.frozen i

def RNewPost (p r : Int) (s : ByteArray) (w : World) (e : Ending) (w' : World) : Prop :=
  if Caps.newErr p r s = 0 then e = .returned (.tuple #[.pointer (some ⟨w.heap.size, 0, none⟩), .int .i64 0]) ∧ RRep w' w.heap.size (Caps.made p r s) ∧ Kept Nob w w'
  else e = .returned (.tuple #[.pointer none, .int .i64 (Caps.newErr p r s)]) ∧ w' = w

set_option maxHeartbeats 400000 in
theorem ref_new (p r : Int) (s : ByteArray) (w : World) : Calls Try.prog 11 #[.int .i64 p, .int .i64 r, .string s] w (RNewPost p r s w) := by
  by_cases hbad : p < 0 ∨ 31 < p ∨ r < 0 ∨ 65536 < r
  · have e1 : Caps.newErr p r s = 1 := by unfold Caps.newErr; rw [if_pos hbad]
    have fin : RNewPost p r s w (.returned (.tuple #[.pointer none, .int .i64 1])) w := by
      unfold RNewPost; rw [e1]; simp
    have Fin := Lib.hid fin
    clear fin
    clear e1
    go_enter Try.func11, Try.ntmps11
    go_wp2
    all_goals first | (go_ret2; exact Fin.out) | (exfalso; omega)
  · by_cases hl : 4096 < s.size
    · have e1 : Caps.newErr p r s = 2 := by unfold Caps.newErr; rw [if_neg hbad, if_pos hl]
      have fin : RNewPost p r s w (.returned (.tuple #[.pointer none, .int .i64 2])) w := by
        unfold RNewPost; rw [e1]; simp
      have Fin := Lib.hid fin
      clear fin e1
      have q1 : 0 ≤ p := by omega
      have q2 : p ≤ 31 := by omega
      have q3 : 0 ≤ r := by omega
      have q4 : r ≤ 65536 := by omega
      clear hbad
      go_enter Try.func11, Try.ntmps11
      go_wp2
      all_goals first | (go_ret2; exact Fin.out) | (exfalso; omega)
    · have e1 : Caps.newErr p r s = 0 := by unfold Caps.newErr; rw [if_neg hbad, if_neg hl]
      have hok := Caps.made_ok e1
      have E1 := Lib.hid e1
      clear e1
      have q1 : 0 ≤ p := by omega
      have q2 : p ≤ 31 := by omega
      have q3 : 0 ≤ r := by omega
      have q4 : r ≤ 65536 := by omega
      have q5 : s.size ≤ 4096 := by omega
      clear hbad hl
      go_enter Try.func11, Try.ntmps11
      go_wp2
      go_ret2
      unfold RNewPost
      rw [if_pos E1.out]
      exact ⟨rfl, ⟨hok, Blk.new' rfl⟩, (Kept.refl _ w).alloc _⟩

set_option maxHeartbeats 1000000 in
theorem refHas_no (g : Nat) (p m c : Int) (w : World) (hc : ¬ (c = 1 ∨ c = 2 ∨ c = 4 ∨ c = 8 ∨ c = 16)) :
    Calls Try.prog 14 #[.pointer (some ⟨g, 0, none⟩), .int .i64 m, .int .i64 c] w (Same (.bool (Caps.has p m c)) w) := by
  have e : Caps.has p m c = false := by simp [Caps.has, Caps.isCap]; omega
  rw [e]
  have a1 : (c == 1) = false := by simp; omega
  have a2 : (c == 2) = false := by simp; omega
  have a4 : (c == 4) = false := by simp; omega
  have a8 : (c == 8) = false := by simp; omega
  have a16 : (c == 16) = false := by simp; omega
  have b1 : (c != 1) = true := by simp; omega
  have b2 : (c != 2) = true := by simp; omega
  have b4 : (c != 4) = true := by simp; omega
  have b8 : (c != 8) = true := by simp; omega
  have b16 : (c != 16) = true := by simp; omega
  go_enter Try.func14, Try.ntmps14
  go_wp2
  go_ret
  exact ⟨rfl, rfl⟩

set_option maxHeartbeats 1000000 in
theorem refHas_yes (g : Nat) (p m c : Int) (w : World) (hc : c = 1 ∨ c = 2 ∨ c = 4 ∨ c = 8 ∨ c = 16) (hp : 0 ≤ p ∧ p ≤ 31) (hw : w.cell? ⟨g, 0, none⟩ = some (.int .i64 p)) :
    Calls Try.prog 14 #[.pointer (some ⟨g, 0, none⟩), .int .i64 m, .int .i64 c] w (Same (.bool (Caps.has p m c)) w) := by
  by_cases m1 : m = 1
  · subst m1
    have e : Caps.has p 1 c = (p / c % 2 == 1) := by simp [Caps.has, Caps.isCap]; omega
    rw [e]
    clear e
    rcases hc with rfl | rfl | rfl | rfl | rfl
    all_goals
      go_enter Try.func14, Try.ntmps14
      go_wp2
      go_ret
      exact ⟨by simp, rfl⟩
  · have e : Caps.has p m c = (m == 0 || m == 2) := by
      have : (m == 1) = false := by simpa using m1
      simp [Caps.has, Caps.isCap, this]; omega
    rw [e]
    clear e
    have m1' : (m == 1) = false := by simpa using m1
    by_cases m0 : m = 0
    · subst m0
      rcases hc with rfl | rfl | rfl | rfl | rfl
      all_goals
        go_enter Try.func14, Try.ntmps14
        go_wp2
        go_ret
        exact ⟨rfl, rfl⟩
    · have m0' : (m == 0) = false := by simpa using m0
      by_cases m2 : m = 2
      · subst m2
        rcases hc with rfl | rfl | rfl | rfl | rfl
        all_goals
          go_enter Try.func14, Try.ntmps14
          go_wp2
          go_ret
          exact ⟨rfl, rfl⟩
      · have m2' : (m == 2) = false := by simpa using m2
        rcases hc with rfl | rfl | rfl | rfl | rfl
        all_goals
          go_enter Try.func14, Try.ntmps14
          go_wp2
          go_ret
          exact ⟨by rw [m0', m2']; rfl, rfl⟩

section
variable {w : World} {g : Nat} {S : Caps.Tab}
theorem RRep.has (h : RRep w g S) (m c : Int) :
    Calls Try.prog 14 #[.pointer (some ⟨g, 0, none⟩), .int .i64 m, .int .i64 c] w (Same (.bool (Caps.has S.pupil m c)) w) := by
  by_cases hc : c = 1 ∨ c = 2 ∨ c = 4 ∨ c = 8 ∨ c = 16
  · exact refHas_yes g S.pupil m c w hc ⟨h.ok.p0, h.ok.p1⟩ h.cells.1
  · exact refHas_no g S.pupil m c w hc

set_option maxHeartbeats 400000 in
theorem RRep.behind (h : RRep w g S) (was s : ByteArray) (hw : (was.size : Int) ≤ S.room) (hs : s.size ≤ maxLen) :
    Calls Try.prog 33 #[.pointer (some ⟨g, 0, none⟩), .string was, .string s] w (Same (.string (Caps.behind S.room was s)) w) := by
  obtain ⟨-, c1, -⟩ := h.cells
  have r1 := h.ok.r1
  unfold maxLen at hs
  obtain ⟨n, hrn⟩ : ∃ n : Nat, S.room - (was.size : Int) = n := ⟨(S.room - was.size).toNat, by omega⟩
  have efit : Caps.fit S.room was s = min s.size n := by unfold Caps.fit; congr 1; omega
  unfold Caps.behind
  rw [efit]
  clear efit
  by_cases hn : s.size < n
  · rw [Nat.min_eq_left (by omega)]
    go_enter Try.func33, Try.ntmps33
    go_wp2
    go_ret
    exact ⟨by simp, rfl⟩
  · rw [Nat.min_eq_right (by omega)]
    have hle : n ≤ s.size := by omega
    go_enter Try.func33, Try.ntmps33
    go_wp2
    go_ret
    exact ⟨rfl, rfl⟩

set_option maxHeartbeats 400000 in
theorem RRep.say (h : RRep w g S) (m p : Int) : Calls Try.prog 31 #[.pointer (some ⟨g, 0, none⟩), .int .i64 m, .int .i64 p] w (RPost (.int .i64 (Caps.sayE S m p)) g (Caps.sayS S m p) w) := by
  have hh := h.has m 8
  have hok := Caps.say_ok h.ok m p
  by_cases hc : Caps.has S.pupil m 8 = true
  · rw [hc] at hh
    by_cases hp : p < 0 ∨ 100 < p
    · have e1 : Caps.sayE S m p = 19 := by simp [Caps.sayE, hc, hp]
      have e2 : Caps.sayS S m p = S := by unfold Caps.sayS; rw [if_neg (by omega)]
      rw [e1, e2]
      have H := Lib.hid h
      clear e1 e2 hok hc h
      go_enter Try.func31, Try.ntmps31
      go_wp2_with fail
      refine hh.mono ?_
      rintro e w' ⟨rfl, rfl⟩
      clear hh
      go_wp2
      all_goals first | (go_ret; exact ⟨rfl, H.out, Kept.refl _ _⟩) | (exfalso; omega)
    · have e1 : Caps.sayE S m p = 0 := by simp [Caps.sayE, hc, hp]
      have e2 : Caps.sayS S m p = { S with points := p, said := true } := by unfold Caps.sayS; rw [if_pos ⟨hc, by omega, by omega⟩]
      rw [e2] at hok
      rw [e1, e2]
      obtain ⟨-, -, -, -, -, c5, c6⟩ := h.cells
      have f5 := h.frozen 5
      have f6 := h.frozen 6
      have H := Lib.hid h
      have q1 : 0 ≤ p := by omega
      have q2 : p ≤ 100 := by omega
      clear e1 e2 hc h hp
      go_enter Try.func31, Try.ntmps31
      go_wp2_with fail
      refine hh.mono ?_
      rintro e w' ⟨rfl, rfl⟩
      clear hh
      go_wp2
      go_ret
      refine ⟨rfl, ⟨hok, (H.out.blk.set_ 5 _).set_ 6 _⟩, ?_⟩
      refine Kept.setCell (Kept.setCell (Kept.refl _ _) ?_ _) ?_ _ <;> exact .inl rfl
  · have hc' : Caps.has S.pupil m 8 = false := by simpa using hc
    rw [hc'] at hh
    have e1 : Caps.sayE S m p = 11 := by simp [Caps.sayE, hc']
    have e2 : Caps.sayS S m p = S := by simp [Caps.sayS, hc']
    rw [e1, e2]
    have H := Lib.hid h
    clear e1 e2 hc hc' h hok
    go_enter Try.func31, Try.ntmps31
    go_wp2_with fail
    refine hh.mono ?_
    rintro e w' ⟨rfl, rfl⟩
    clear hh
    go_wp2
    go_ret
    exact ⟨rfl, H.out, Kept.refl _ _⟩

set_option maxHeartbeats 400000 in
theorem RRep.key (h : RRep w g S) (m : Int) : Calls Try.prog 29 #[.pointer (some ⟨g, 0, none⟩), .int .i64 m] w
    (RPost (.tuple #[.int .u8 (Caps.keyB S m), .int .i64 (Caps.keyE S m)]) g (Caps.keyS S m) w) := by
  have hh := h.has m 2
  have hok := Caps.key_ok h.ok m
  by_cases hc : Caps.has S.pupil m 2 = true
  · rw [hc] at hh
    obtain ⟨-, -, c2, -⟩ := h.cells
    have f2 := h.frozen 2
    by_cases hz : S.inp.size = 0
    · have hd : S.inp.data.toList = [] := List.eq_nil_of_length_eq_zero (by rw [Caps.size_data]; exact hz)
      have e0 : Caps.keyB S m = 0 := by simp [Caps.keyB, hd]
      have e1 : Caps.keyE S m = 18 := by simp [Caps.keyE, hc, hz]
      have e2 : Caps.keyS S m = S := by
        unfold Caps.keyS; rw [if_pos hc]
        have : S.inp.extract 1 S.inp.size = S.inp := Caps.ext _ _ (by simp [hd])
        rw [this]
      rw [e0, e1, e2]
      have H := Lib.hid h
      have HH := Lib.hid hh
      have hs0 : S.inp.toList = [] := by rw [Lib.toList_data]; exact hd
      clear e0 e1 e2 hc hh h hok hd hz
      go_enter Try.func29, Try.ntmps29
      go_wp2_with fail
      refine HH.out.mono ?_
      rintro e w' ⟨rfl, rfl⟩
      go_wp2
      go_ret2
      exact ⟨rfl, H.out, Kept.refl _ _⟩
    · obtain ⟨c, t, hd⟩ : ∃ c t, S.inp.data.toList = c :: t := by
        cases hh : S.inp.data.toList with
        | nil => exfalso; apply hz; rw [← Caps.size_data, hh]; rfl
        | cons c t => exact ⟨c, t, rfl⟩
      have e0 : Caps.keyB S m = c.toNat := by simp [Caps.keyB, hd, hc]
      have e1 : Caps.keyE S m = 0 := by simp [Caps.keyE, hc, hz]
      have e2 : Caps.keyS S m = { S with inp := S.inp.extract 1 S.inp.size } := by
        unfold Caps.keyS; rw [if_pos hc]
      rw [e2] at hok
      rw [e0, e1, e2]
      have H := Lib.hid h
      have HH := Lib.hid hh
      have hs0 : (S.inp.toList.isEmpty) = false := by rw [Lib.toList_data, hd]; rfl
      have hlt : 0 < S.inp.size := by omega
      have hc0 : S.inp[0] = c := by
        have : S.inp.data.toList[0]'(by rw [Caps.size_data]; exact hlt) = c := by simp [hd]
        show S.inp.data[0] = c
        simpa using this
      have hsz := h.ok.inp
      clear e0 e1 e2 hc hh h hd hz
      go_enter Try.func29, Try.ntmps29
      go_wp2_with fail
      refine HH.out.mono ?_
      rintro e w' ⟨rfl, rfl⟩
      go_wp2
      go_ret2
      refine ⟨rfl, ⟨hok, H.out.blk.set_ 2 _⟩, ?_⟩
      refine Kept.setCell (Kept.refl _ _) ?_ _; exact .inl rfl
  · have hc' : Caps.has S.pupil m 2 = false := by simpa using hc
    rw [hc'] at hh
    have e0 : Caps.keyB S m = 0 := by simp [Caps.keyB, hc']
    have e1 : Caps.keyE S m = 11 := by simp [Caps.keyE, hc']
    have e2 : Caps.keyS S m = S := by simp [Caps.keyS, hc']
    rw [e0, e1, e2]
    have H := Lib.hid h
    have HH := Lib.hid hh
    clear e0 e1 e2 hc hc' h hok hh
    go_enter Try.func29, Try.ntmps29
    go_wp2_with fail
    refine HH.out.mono ?_
    rintro e w' ⟨rfl, rfl⟩
    go_wp2
    go_ret2
    exact ⟨rfl, H.out, Kept.refl _ _⟩
end
end Go.Proofs.Ytobneijdhedckaa
