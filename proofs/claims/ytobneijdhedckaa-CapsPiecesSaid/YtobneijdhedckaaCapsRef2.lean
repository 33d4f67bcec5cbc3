/- The reference's package proctorref9: its table's Type and Accept. Conditions: the table lies in memory as RRep says; a string that is handed in is no longer than a string may be. -/
import Derived.Test.YtobneijdhedckaaCapsRef
namespace Go.Proofs.Ytobneijdhedckaa
set_option linter.unusedVariables false
open Go.RowKit Go.Lib

section
variable {w : World} {g : Nat} {S : Caps.Tab}
set_option maxHeartbeats 1000000 in
theorem RRep.typ (h : RRep w g S) (m : Int) (s : ByteArray) (hs : s.size ≤ maxLen) : Calls Try.prog 28 #[.pointer (some ⟨g, 0, none⟩), .int .i64 m, .string s] w (RPost (.int .i64 (Caps.typE S m s)) g (Caps.typS S m s) w) := by
  have hh := h.has m 1
  have hok := Caps.typ_ok h.ok m s
  have hsl : s.size ≤ 9223372036854775807 := by unfold maxLen at hs; omega
  by_cases hc : Caps.has S.pupil m 1 = true
  · rw [hc] at hh
    obtain ⟨-, c1, -, c3, c4, -⟩ := h.cells
    have f3 := h.frozen 3
    have f4 := h.frozen 4
    have r0 := h.ok.r0
    have r1 := h.ok.r1
    have ro := h.ok.out
    by_cases hm : m = 1
    · subst hm
      have e2 : Caps.typS S 1 s = { S with out := Caps.behind S.room S.out s } := by simp [Caps.typS, hc]
      rw [e2] at hok ⊢
      have hb := h.behind S.out s h.ok.out hs
      have HB := Lib.hid (fun q : Nat => (show RRep (w.drewN q) g S from h.kept (T := Nob) ((Kept.refl _ w).drewN q) (fun h => h)).behind S.out s h.ok.out hs)
      by_cases hf : (S.room - S.out.size : Int) < s.size
      · have hdd : decide ((s.size : Int) ≤ S.room - (S.out.size : Int)) = false := by simp; omega
        have e1 : Caps.typE S 1 s = 12 := by simp [Caps.typE, hc, hf]
        rw [e1]
        have H := Lib.hid h
        have HH := Lib.hid hh
        clear hb e1 e2 hc hh h
        go_enter Try.func28, Try.ntmps28
        go_wp2_with fail
        refine HH.out.mono ?_
        rintro e w' ⟨rfl, rfl⟩
        go_wp2_with fail
        go_quiet (fail)
        go_wp2_with fail
        refine (HB.out _).mono ?_
        rintro e w' ⟨rfl, rfl⟩
        go_wp2
        go_ret
        refine ⟨rfl, ⟨hok, (H.out.blk.drewN _).set_ 3 _⟩, ?_⟩
        refine Kept.setCell ((Kept.refl _ _).drewN _) ?_ _; exact .inl rfl
      · have hdd : decide ((s.size : Int) ≤ S.room - (S.out.size : Int)) = true := by simp; omega
        have e1 : Caps.typE S 1 s = 0 := by simp [Caps.typE, hc, hf]
        rw [e1]
        have H := Lib.hid h
        have HH := Lib.hid hh
        clear hb e1 e2 hc hh h
        go_enter Try.func28, Try.ntmps28
        go_wp2_with fail
        refine HH.out.mono ?_
        rintro e w' ⟨rfl, rfl⟩
        go_wp2_with fail
        go_quiet (fail)
        go_wp2_with fail
        refine (HB.out _).mono ?_
        rintro e w' ⟨rfl, rfl⟩
        go_wp2
        go_ret
        refine ⟨rfl, ⟨hok, (H.out.blk.drewN _).set_ 3 _⟩, ?_⟩
        refine Kept.setCell ((Kept.refl _ _).drewN _) ?_ _; exact .inl rfl
    · have hm' : (m == 1) = false := by simpa using hm
      have hm2 : (m != 1) = true := by simpa using hm
      have e2 : Caps.typS S m s = { S with log := Caps.behind S.room S.log s } := by simp [Caps.typS, hc, hm]
      have e1 : Caps.typE S m s = 0 := by simp [Caps.typE, hc, hm]
      rw [e2] at hok ⊢
      rw [e1]
      have HB := Lib.hid (h.behind S.log s h.ok.log hs)
      have H := Lib.hid h
      have HH := Lib.hid hh
      clear e1 e2 hc hh h
      go_enter Try.func28, Try.ntmps28
      go_wp2_with fail
      refine HH.out.mono ?_
      rintro e w' ⟨rfl, rfl⟩
      go_wp2_with fail
      refine HB.out.mono ?_
      rintro e w' ⟨rfl, rfl⟩
      go_wp2
      go_ret
      refine ⟨rfl, ⟨hok, H.out.blk.set_ 4 _⟩, ?_⟩
      refine Kept.setCell (Kept.refl _ _) ?_ _; exact .inl rfl
  · have hc' : Caps.has S.pupil m 1 = false := by simpa using hc
    rw [hc'] at hh
    have e1 : Caps.typE S m s = 11 := by simp [Caps.typE, hc']
    have e2 : Caps.typS S m s = S := by simp [Caps.typS, hc']
    rw [e1, e2]
    have H := Lib.hid h
    have HH := Lib.hid hh
    clear e1 e2 hc hc' h hok hh
    go_enter Try.func28, Try.ntmps28
    go_wp2_with fail
    refine HH.out.mono ?_
    rintro e w' ⟨rfl, rfl⟩
    go_wp2
    go_ret
    exact ⟨rfl, H.out, Kept.refl _ _⟩


theorem nl_at : ∀ (l : List UInt8) (n j : Nat) (h : j < l.length), j < n → j ≤ Caps.nl l n → (l[j] = 10 ↔ j = Caps.nl l n)
  | [], n, j, h, _, _ => by simp at h
  | c :: l, 0, j, h, h1, _ => by omega
  | c :: l, n + 1, 0, h, h1, h2 => by
    simp only [Caps.nl, List.getElem_cons_zero]
    by_cases hc : c = 10
    · simp [hc]
    · simp [hc]
  | c :: l, n + 1, j + 1, h, h1, h2 => by
    simp only [Caps.nl, List.getElem_cons_succ] at *
    by_cases hc : c = 10
    · simp [hc] at h2
    · simp only [if_neg hc] at *
      have := nl_at l n j (by simpa using h) (by omega) (by omega)
      rw [this]; omega
def strLen : Value → Nat | .string s => s.size | _ => 0

def AccRel (S : Caps.Tab) (n : Int) (g : Nat) (w : World) (s : Value) (wr : World) : Prop :=
  ∃ (j : Nat) (I J : ByteArray), j ≤ Caps.cut S.inp n ∧ I = S.inp.extract j S.inp.size ∧ J = S.inp.extract 0 j ∧ s = .string J ∧ Blk wr g 70 (rcells { S with inp := I }) ∧ Kept (fun k => k = g) w wr

theorem drop_end (s : ByteArray) (a : Nat) : (s.extract a s.size).data.toList = s.data.toList.drop a := by
  rw [Lib.extract_data, List.take_of_length_le (by rw [List.length_drop, Caps.size_data]; omega)]

/-- one letter ahead -/
theorem head_byte (s I : ByteArray) (j : Nat) (hj : j < s.size) (hI : I = s.extract j s.size) : ∃ c, I.extract 0 1 = ⟨#[c]⟩ ∧ s.data.toList[j]'(by rw [Caps.size_data]; exact hj) = c := by
  refine ⟨_, Caps.ext _ _ ?_, rfl⟩
  subst hI
  rw [Lib.extract_data, drop_end, List.drop_zero, List.drop_eq_getElem_cons (by rw [Caps.size_data]; exact hj)]
  rfl
theorem tail_tail (s I : ByteArray) (j : Nat) (hI : I = s.extract j s.size) : I.extract 1 I.size = s.extract (j + 1) s.size := by
  apply Caps.ext
  rw [drop_end, drop_end, hI, drop_end, List.drop_drop]
theorem take_more (s J : ByteArray) (j : Nat) (c : UInt8) (hj : j < s.size) (hJ : J = s.extract 0 j) (hc : s.data.toList[j]'(by rw [Caps.size_data]; exact hj) = c) : J ++ ⟨#[c]⟩ = s.extract 0 (j + 1) := by
  apply Caps.ext
  subst hJ
  rw [Lib.extract_data]
  simp only [List.drop_zero, Nat.sub_zero]
  rw [List.take_succ_eq_append_getElem (by rw [Caps.size_data]; exact hj), hc]
  simp
theorem isEmpty_false (s : ByteArray) (h : 0 < s.size) : s.toList.isEmpty = false := by
  rw [Lib.toList_data]
  cases hd : s.data.toList with
  | nil => exfalso; rw [← Caps.size_data, hd] at h; simp at h
  | cons c t => rfl
theorem toList_nil (s : ByteArray) (h : s.size = 0) : s.toList = [] := by
  rw [Lib.toList_data]; exact List.eq_nil_of_length_eq_zero (by rw [Caps.size_data]; exact h)

set_option maxHeartbeats 1000000 in
theorem RRep.accept (h : RRep w g S) (m n : Int) : Calls Try.prog 30 #[.pointer (some ⟨g, 0, none⟩), .int .i64 m, .int .i64 n] w
    (RPost (accV S m n) g (Caps.accS S m n) w) := by
  have hh := h.has m 2
  have hok := Caps.acc_ok h.ok m n
  by_cases hc : Caps.has S.pupil m 2 = true
  · rw [hc] at hh
    obtain ⟨-, -, c2, -⟩ := h.cells
    have f2 := h.frozen 2
    have hsz := h.ok.inp
    by_cases hn0 : n < 0
    · have e1 : accV S m n = .tuple #[.string ⟨#[]⟩, .int .i64 19] := by
        have : ¬ 0 < n := by omega
        simp [accV, Caps.accB, Caps.accE, hc, hn0, this]
      have e2 : Caps.accS S m n = S := by unfold Caps.accS; rw [if_neg (by omega)]
      rw [e1, e2]
      have H := Lib.hid h
      have HH := Lib.hid hh
      clear e1 e2 hc hh h hok
      go_enter Try.func30, Try.ntmps30
      go_wp2_with fail
      refine HH.out.mono ?_
      rintro e w' ⟨rfl, rfl⟩
      go_wp2
      go_ret2
      exact ⟨rfl, H.out, Kept.refl _ _⟩
    by_cases hn1 : n = 0
    · subst hn1
      have e1 : accV S m 0 = .tuple #[.string ⟨#[]⟩, .int .i64 0] := by simp [accV, Caps.accB, Caps.accE, hc]
      have e2 : Caps.accS S m 0 = S := by unfold Caps.accS; rw [if_neg (by omega)]
      rw [e1, e2]
      have H := Lib.hid h
      have HH := Lib.hid hh
      clear e1 e2 hc hh h hok
      go_enter Try.func30, Try.ntmps30
      go_wp2_with fail
      refine HH.out.mono ?_
      rintro e w' ⟨rfl, rfl⟩
      go_wp2
      go_ret2
      exact ⟨rfl, H.out, Kept.refl _ _⟩
    have hnp : 0 < n := by omega
    have hn1' : (n == 0) = false := by simpa using hn1
    by_cases hz : S.inp.size = 0
    · have hd : S.inp.data.toList = [] := List.eq_nil_of_length_eq_zero (by rw [Caps.size_data]; exact hz)
      have e1 : accV S m n = .tuple #[.string ⟨#[]⟩, .int .i64 18] := by
        have : S.inp.extract 0 (Caps.cut S.inp n) = ⟨#[]⟩ := Caps.ext _ _ (by simp [hd])
        simp [accV, Caps.accB, Caps.accE, hc, hn0, hnp, hz, hn1, this]
      have e2 : Caps.accS S m n = S := by
        unfold Caps.accS; rw [if_pos ⟨hc, hnp⟩]
        have : S.inp.extract (Caps.taken S.inp n) S.inp.size = S.inp := Caps.ext _ _ (by simp [hd])
        rw [this]
      rw [e1, e2]
      have H := Lib.hid h
      have HH := Lib.hid hh
      have hs0 : S.inp.toList = [] := by rw [Lib.toList_data]; exact hd
      clear e1 e2 hc hh h hok hd hz
      go_enter Try.func30, Try.ntmps30
      go_wp2_with fail
      refine HH.out.mono ?_
      rintro e w' ⟨rfl, rfl⟩
      go_wp2
      go_ret2
      exact ⟨rfl, H.out, Kept.refl _ _⟩
    · have hs0 : (S.inp.toList.isEmpty) = false := by
        rw [Lib.toList_data]
        cases hd : S.inp.data.toList with
        | nil => exfalso; apply hz; rw [← Caps.size_data, hd]; rfl
        | cons c t => rfl
      have e1 : accV S m n = .tuple #[.string (S.inp.extract 0 (Caps.cut S.inp n)), .int .i64 0] := by
        simp [accV, Caps.accB, Caps.accE, hc, hn0, hnp, hz, hn1]
      have e2 : Caps.accS S m n = { S with inp := S.inp.extract (Caps.taken S.inp n) S.inp.size } := by
        unfold Caps.accS; rw [if_pos ⟨hc, hnp⟩]
      rw [e2] at hok
      rw [e1, e2]
      have H := Lib.hid h
      have HH := Lib.hid hh
      have q1 : 0 ≤ n := by omega
      have hcl := Caps.cut_le S.inp n
      have E0 : AccRel S n g w (.string ⟨#[]⟩) w := by
        exact ⟨0, S.inp, ⟨#[]⟩, Nat.zero_le _, by simp, Caps.ext _ _ (by simp), rfl, h.blk, Kept.refl _ _⟩
      clear e1 e2 hc hh h hn0 hn1 hz
      go_enter Try.func30, Try.ntmps30
      go_wp2_with fail
      refine HH.out.mono ?_
      rintro e w' ⟨rfl, rfl⟩
      go_wp2
      go_loopw [9] (fun s wr => AccRel S n g w' s wr) (fun s _ => S.inp.size + 1 - strLen s)
      case atStart => exact E0
      case round =>
        obtain ⟨j, I, J, hj, hI, hJ, rfl, hb, hk⟩ := hrel
        clear E0 c2 f2 hs0
        have c2 := hb.cell 2
        have f2 := hb.frozen 2
        simp [rcells] at c2
        have hjs : J.size = j := by rw [hJ]; simp; omega
        have hIs : I.size = S.inp.size - j := by rw [hI]; simp
        by_cases hlt : j < min n.toNat S.inp.size
        · have hj2 : j < S.inp.size := by omega
          obtain ⟨c, hc1, hc2⟩ := head_byte S.inp I j hj2 hI
          have hat := nl_at S.inp.data.toList n.toNat j (by rw [Caps.size_data]; exact hj2) (by omega) hj
          have ht1 := tail_tail S.inp I j hI
          have ht2 := take_more S.inp J j c hj2 hJ hc2
          have HT1 := Lib.hid ht1
          have HT2 := Lib.hid ht2
          have HA := Lib.hid hat
          have HC2 := Lib.hid hc2
          have hne := isEmpty_false I (by omega)
          have hjn : (J.size : Int) < n := by omega
          have h1I : 1 ≤ I.size := by omega
          have hbig : J.size + 1 ≤ 9223372036854775807 := by omega
          have HI := Lib.hid hI
          have HJ := Lib.hid hJ
          have HS := Lib.hid hjs
          clear ht1 ht2 hat hc2 hI hJ hIs hjs
          go_wp2
          · rename_i hten
            have hten' : c = 10 := by simpa using hten
            have hjk : j = Caps.cut S.inp n := (HA.out).1 (HC2.out.trans hten')
            have et : Caps.taken S.inp n = j + 1 := by unfold Caps.taken; rw [← hjk, if_pos hlt]
            rw [et] at hok
            go_ret2
            refine ⟨?_, ⟨?_, ?_⟩, ?_⟩
            · rw [← hjk, ← HJ.out]; rfl
            · rw [et]; exact hok
            · rw [et, ← HT1.out]; exact hb.set_ 2 _
            · exact hk.setCell (.inl rfl) _
          · rename_i hten
            have hten' : ¬ c = 10 := by simpa using hten
            have hjk : j ≠ Caps.cut S.inp n := fun e => hten' (HC2.out.symm.trans (HA.out.2 e))
            refine ⟨⟨j + 1, _, _, by omega, HT1.out, HT2.out, rfl, hb.set_ 2 _, hk.setCell (.inl rfl) _⟩, ?_⟩
            have : (J ++ ⟨#[c]⟩).size = J.size + 1 := by rw [ByteArray.size_append]; rfl
            have := HS.out
            simp only [strLen]
            omega
        · have hjk : j = Caps.cut S.inp n := by omega
          have et : Caps.taken S.inp n = j := by unfold Caps.taken; rw [← hjk, if_neg hlt]
          rw [et] at hok
          have fin : RPost (.tuple #[.string (S.inp.extract 0 (Caps.cut S.inp n)), .int .i64 0]) g { S with inp := S.inp.extract (Caps.taken S.inp n) S.inp.size } w' (.returned (.tuple #[.string J, .int .i64 0])) wr := by
            rw [et, ← hjk, ← hJ, ← hI]
            exact ⟨rfl, ⟨by rw [hI]; exact hok, hb⟩, hk⟩
          have Fin := Lib.hid fin
          clear fin hI hJ et hok hjk
          by_cases hn : (J.size : Int) < n
          · have hIz : I.size = 0 := by omega
            have hnil := toList_nil I hIz
            clear hIz hIs
            go_wp2
            go_ret2
            exact Fin.out
          · clear hIs
            go_wp2
            go_ret2
            exact Fin.out
  · have hc' : Caps.has S.pupil m 2 = false := by simpa using hc
    rw [hc'] at hh
    have e1 : accV S m n = .tuple #[.string ⟨#[]⟩, .int .i64 11] := by simp [accV, Caps.accB, Caps.accE, hc']
    have e2 : Caps.accS S m n = S := by simp [Caps.accS, hc']
    rw [e1, e2]
    have H := Lib.hid h
    have HH := Lib.hid hh
    clear e1 e2 hc hc' h hok hh
    go_enter Try.func30, Try.ntmps30
    go_wp2_with fail
    refine HH.out.mono ?_
    rintro e w' ⟨rfl, rfl⟩
    go_wp2
    go_ret2
    exact ⟨rfl, H.out, Kept.refl _ _⟩
end
end Go.Proofs.Ytobneijdhedckaa
