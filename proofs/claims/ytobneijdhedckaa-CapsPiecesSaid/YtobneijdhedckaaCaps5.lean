/- The program's package caps: its table's Emit, Key and Accept. Conditions: the table lies in memory as CRep says. -/
import Derived.Test.YtobneijdhedckaaCaps4
namespace Go.Proofs.Ytobneijdhedckaa
set_option linter.unusedVariables false
open Go.RowKit Go.Lib

section
variable {w : World} {g : Nat} {S : Caps.Tab} {F : Nat → Prop}

/-- one byte as a string -/
def byteStr (b : Int) : ByteArray := ⟨#[UInt8.ofNat b.toNat]⟩

set_option maxHeartbeats 400000 in
theorem CRep.key (h : CRep w g S F) (m : Int) : Calls Try.prog 20 #[.pointer (some ⟨g, 0, none⟩), .int .i64 m] w
    (CPost (.tuple #[.int .u8 (Caps.keyB S m), .int .i64 (Caps.keyE S m)]) g (Caps.keyS S m) F w) := by
  have hh := h.has m 2
  have hok := Caps.key_ok h.ok m
  by_cases hc : Caps.has S.pupil m 2 = true
  · rw [hc] at hh
    obtain ⟨o, l, vo, vl, h1, h2, h3, h4, h5, h6, hF⟩ := h.rep
    have c1 := h1.cell 1
    have f1 := h1.frozen 1
    simp at c1
    by_cases hz : S.inp.size = 0
    · have hd : S.inp.data.toList = [] := List.eq_nil_of_length_eq_zero (by rw [Caps.size_data]; exact hz)
      have e0 : Caps.keyB S m = 0 := by simp [Caps.keyB, hd]
      have e1 : Caps.keyE S m = 18 := by simp [Caps.keyE, hc, hz]
      have e2 : Caps.keyS S m = S := by
        unfold Caps.keyS; rw [if_pos hc]
        have : S.inp.extract 1 S.inp.size = S.inp := Caps.ext _ _ (by simp [hd])
        rw [this]
      rw [e0, e1, e2]
      have H := Lib.hid h
      have HH := Lib.hid hh
      have hs0 : S.inp.toList = [] := by rw [Lib.toList_data]; exact hd
      clear e0 e1 e2 hc hh h hok hF h6 hd hz
      go_enter Try.func20, Try.ntmps20
      go_wp2_with fail
      refine HH.out.mono ?_
      rintro e w' ⟨rfl, rfl⟩
      go_wp2
      go_ret2
      exact ⟨rfl, F, H.out, Kept.refl _ _, fun k hk => .inl hk⟩
    · obtain ⟨c, t, hd⟩ : ∃ c t, S.inp.data.toList = c :: t := by
        cases hh : S.inp.data.toList with
        | nil => exfalso; apply hz; rw [← Caps.size_data, hh]; rfl
        | cons c t => exact ⟨c, t, rfl⟩
      have e0 : Caps.keyB S m = c.toNat := by simp [Caps.keyB, hd, hc]
      have e1 : Caps.keyE S m = 0 := by simp [Caps.keyE, hc, hz]
      have e2 : Caps.keyS S m = { S with inp := S.inp.extract 1 S.inp.size } := by
        unfold Caps.keyS; rw [if_pos hc]
      rw [e2] at hok
      rw [e0, e1, e2]
      have H := Lib.hid h
      have HH := Lib.hid hh
      have hs0 : (S.inp.toList.isEmpty) = false := by rw [Lib.toList_data, hd]; rfl
      have hlt : 0 < S.inp.size := by omega
      have hc0 : S.inp[0] = c := by
        have : S.inp.data.toList[0]'(by rw [Caps.size_data]; exact hlt) = c := by simp [hd]
        show S.inp.data[0] = c
        simpa using this
      have hsz := h.ok.inp
      clear e0 e1 e2 hc hh h hF h6 hd hz
      go_enter Try.func20, Try.ntmps20
      go_wp2_with fail
      refine HH.out.mono ?_
      rintro e w' ⟨rfl, rfl⟩
      go_wp2
      go_ret2
      refine ⟨rfl, F, H.out.change hok rfl rfl rfl ?_ ?_, ?_, fun k hk => .inl hk⟩
      · refine Kept.setCell (Kept.refl _ _) ?_ _; exact .inl rfl
      · intro o l hb
        exact hb.set_ 1 _
      · refine Kept.setCell (Kept.refl _ _) ?_ _; exact .inl H.out.gin
  · have hc' : Caps.has S.pupil m 2 = false := by simpa using hc
    rw [hc'] at hh
    have e0 : Caps.keyB S m = 0 := by simp [Caps.keyB, hc']
    have e1 : Caps.keyE S m = 11 := by simp [Caps.keyE, hc']
    have e2 : Caps.keyS S m = S := by simp [Caps.keyS, hc']
    rw [e0, e1, e2]
    have H := Lib.hid h
    have HH := Lib.hid hh
    clear e0 e1 e2 hc hc' h hok hh
    go_enter Try.func20, Try.ntmps20
    go_wp2_with fail
    refine HH.out.mono ?_
    rintro e w' ⟨rfl, rfl⟩
    go_wp2
    go_ret2
    exact ⟨rfl, F, H.out, Kept.refl _ _, fun k hk => .inl hk⟩

theorem nl_index : ∀ (l : List UInt8), Lib.indexByte l 10 = if Caps.nl l l.length < l.length then (Caps.nl l l.length : Int) else -1
  | [] => by simp [Lib.indexByte, Caps.nl]
  | c :: l => by
    have ih := nl_index l
    have hle := Caps.nl_le l l.length
    simp only [Lib.indexByte, Caps.nl, List.length_cons, beq_iff_eq]
    by_cases hc : c = 10
    · simp [hc]
    · rw [if_neg hc, if_neg hc, ih]
      by_cases h : Caps.nl l l.length < l.length
      · have h2 : Caps.nl l l.length + 1 < l.length + 1 := by omega
        have h3 : ¬ ((Caps.nl l l.length : Int) = -1) := by omega
        simp only [if_pos h, if_pos h2, if_neg h3]
        omega
      · have h2 : ¬ (Caps.nl l l.length + 1 < l.length + 1) := by omega
        simp only [if_neg h, if_neg h2]
        simp
theorem nl_take : ∀ (l : List UInt8) (n : Nat), Caps.nl (l.take n) (l.take n).length = Caps.nl l n
  | [], n => by simp [Caps.nl]
  | c :: l, 0 => by simp [Caps.nl]
  | c :: l, n + 1 => by
    have ih := nl_take l n
    simp only [List.take_succ_cons, List.length_cons, Caps.nl]
    rw [ih]

set_option maxHeartbeats 400000 in
theorem CRep.emit (h : CRep w g S F) (m b : Int) : Calls Try.prog 24 #[.pointer (some ⟨g, 0, none⟩), .int .i64 m, .int .u8 b] w
    (CPost (.int .i64 (Caps.typE S m (byteStr b))) g (Caps.typS S m (byteStr b)) F w) := by
  have hbk := fun (w : World) => run_convert_bytes_arg (P := Try.prog) (w.alloc (.cells #[.int .u8 b] 5)) 59 5 Try.underlying59 Try.underlying5 w.heap.size 0 1 1 [b] rfl
    (fun i hi => by obtain rfl : i = 0 := by omega
                    simp) 9 Try.underlying9
  have hs1 : strOfNums [b] = byteStr b := rfl
  rw [hs1] at hbk
  have hsz : (byteStr b).size ≤ maxLen := by unfold maxLen; show 1 ≤ _; omega
  have Hsz := Lib.hid hsz
  have h' := h.kept (T := Nob) ((Kept.refl _ w).alloc (.cells #[.int .u8 b] 5)) (fun _ _ h => h)
  have H := Lib.hid h'
  have Hk := Lib.hid ((Kept.refl F w).alloc (.cells #[.int .u8 b] 5))
  clear hs1 h h' hsz
  go_enter Try.func24, Try.ntmps24
  go_wp2_with fail
  refine (H.out.typ m (byteStr b) Hsz.out).mono ?_
  rintro e w' ⟨rfl, F', hr, hk, hF⟩
  have HF := Lib.hid hF
  clear hF hbk
  go_wp2
  go_ret
  exact ⟨rfl, F', hr, Hk.out.trans hk, fun k hk => by rcases HF.out k hk with h | h; exact .inl h; exact .inr (by simp at h; omega)⟩

def accV (S : Caps.Tab) (m n : Int) : Value := .tuple #[.string (Caps.accB S m n), .int .i64 (Caps.accE S m n)]

set_option maxHeartbeats 1000000 in
theorem CRep.accept (h : CRep w g S F) (m n : Int) : Calls Try.prog 22 #[.pointer (some ⟨g, 0, none⟩), .int .i64 m, .int .i64 n] w
    (CPost (accV S m n) g (Caps.accS S m n) F w) := by
  have hh := h.has m 2
  have hok := Caps.acc_ok h.ok m n
  by_cases hc : Caps.has S.pupil m 2 = true
  · rw [hc] at hh
    obtain ⟨o, l, vo, vl, h1, h2, h3, h4, h5, h6, hF⟩ := h.rep
    have c1 := h1.cell 1
    have f1 := h1.frozen 1
    simp at c1
    have hsz := h.ok.inp
    by_cases hn0 : n < 0
    · have e1 : accV S m n = .tuple #[.string ⟨#[]⟩, .int .i64 19] := by
        have : ¬ 0 < n := by omega
        simp [accV, Caps.accB, Caps.accE, hc, hn0, this]
      have e2 : Caps.accS S m n = S := by unfold Caps.accS; rw [if_neg (by omega)]
      rw [e1, e2]
      have H := Lib.hid h
      have HH := Lib.hid hh
      clear e1 e2 hc hh h hok hF h6
      go_enter Try.func22, Try.ntmps22
      go_wp2_with fail
      refine HH.out.mono ?_
      rintro e w' ⟨rfl, rfl⟩
      go_wp2
      go_ret2
      exact ⟨rfl, F, H.out, Kept.refl _ _, fun k hk => .inl hk⟩
    by_cases hn1 : n = 0
    · subst hn1
      have e1 : accV S m 0 = .tuple #[.string ⟨#[]⟩, .int .i64 0] := by simp [accV, Caps.accB, Caps.accE, hc]
      have e2 : Caps.accS S m 0 = S := by unfold Caps.accS; rw [if_neg (by omega)]
      rw [e1, e2]
      have H := Lib.hid h
      have HH := Lib.hid hh
      clear e1 e2 hc hh h hok hF h6
      go_enter Try.func22, Try.ntmps22
      go_wp2_with fail
      refine HH.out.mono ?_
      rintro e w' ⟨rfl, rfl⟩
      go_wp2
      go_ret2
      exact ⟨rfl, F, H.out, Kept.refl _ _, fun k hk => .inl hk⟩
    have hnp : 0 < n := by omega
    have hn1' : (n == 0) = false := by simpa using hn1
    by_cases hz : S.inp.size = 0
    · have hd : S.inp.data.toList = [] := List.eq_nil_of_length_eq_zero (by rw [Caps.size_data]; exact hz)
      have e1 : accV S m n = .tuple #[.string ⟨#[]⟩, .int .i64 18] := by
        have : S.inp.extract 0 (Caps.cut S.inp n) = ⟨#[]⟩ := Caps.ext _ _ (by simp [hd])
        simp [accV, Caps.accB, Caps.accE, hc, hn0, hnp, hz, hn1, this]
      have e2 : Caps.accS S m n = S := by
        unfold Caps.accS; rw [if_pos ⟨hc, hnp⟩]
        have : S.inp.extract (Caps.taken S.inp n) S.inp.size = S.inp := Caps.ext _ _ (by simp [hd])
        rw [this]
      rw [e1, e2]
      have H := Lib.hid h
      have HH := Lib.hid hh
      have hs0 : S.inp.toList = [] := by rw [Lib.toList_data]; exact hd
      clear e1 e2 hc hh h hok hF h6 hd hz
      go_enter Try.func22, Try.ntmps22
      go_wp2_with fail
      refine HH.out.mono ?_
      rintro e w' ⟨rfl, rfl⟩
      go_wp2
      go_ret2
      exact ⟨rfl, F, H.out, Kept.refl _ _, fun k hk => .inl hk⟩
    · have hs0 : (S.inp.toList.isEmpty) = false := by
        rw [Lib.toList_data]
        cases hd : S.inp.data.toList with
        | nil => exfalso; apply hz; rw [← Caps.size_data, hd]; rfl
        | cons c t => rfl
      obtain ⟨q, hq⟩ : ∃ q : Nat, min n (S.inp.size : Int) = q := ⟨(min n (S.inp.size : Int)).toNat, by omega⟩
      have hqs : q ≤ S.inp.size := by omega
      have hix : Lib.indexByte (S.inp.extract 0 q).data.toList 10 = if Caps.cut S.inp n < q then (Caps.cut S.inp n : Int) else -1 := by
        have e : (S.inp.extract 0 q).data.toList = S.inp.data.toList.take q := by simp
        rw [e, nl_index, nl_take]
        have hcut : Caps.nl S.inp.data.toList q = Caps.cut S.inp n := by
          unfold Caps.cut
          rw [← nl_take S.inp.data.toList n.toNat, ← nl_take S.inp.data.toList q]
          have : S.inp.data.toList.take q = S.inp.data.toList.take n.toNat := by
            rcases Nat.le_total n.toNat S.inp.size with h | h
            · rw [show q = n.toNat by omega]
            · rw [show q = S.inp.size by omega, List.take_of_length_le (by rw [Caps.size_data]; omega), List.take_of_length_le (by rw [Caps.size_data]; omega)]
          rw [this]
        rw [hcut]
        have : (S.inp.data.toList.take q).length = q := by rw [List.length_take, Caps.size_data]; omega
        rw [this]
      have e1 : accV S m n = .tuple #[.string (S.inp.extract 0 (Caps.cut S.inp n)), .int .i64 0] := by
        simp [accV, Caps.accB, Caps.accE, hc, hn0, hnp, hz, hn1]
      have e2 : Caps.accS S m n = { S with inp := S.inp.extract (Caps.taken S.inp n) S.inp.size } := by
        unfold Caps.accS; rw [if_pos ⟨hc, hnp⟩]
      rw [e2] at hok
      rw [e1, e2]
      have H := Lib.hid h
      have HH := Lib.hid hh
      have hcl := Caps.cut_le S.inp n
      by_cases hk : Caps.cut S.inp n < q
      · rw [if_pos hk] at hix
        have h0 : Caps.cut S.inp n < min n.toNat S.inp.size := by omega
        have et : Caps.taken S.inp n = Caps.cut S.inp n + 1 := by unfold Caps.taken; rw [if_pos h0]
        clear h0
        rw [et] at hok ⊢
        have HIX := Lib.hid hix
        clear e1 e2 hcl et
        generalize Caps.cut S.inp n = k at *
        have hxx : (S.inp.extract 0 q).extract 0 k = S.inp.extract 0 k := Caps.ext _ _ (by rw [Lib.extract_data, Lib.extract_data, Lib.extract_data]; simp only [List.drop_zero, Nat.sub_zero, List.take_take]; rw [Nat.min_eq_left (Nat.le_of_lt hk)])
        have q1 : 0 ≤ n := by omega
        have q2 : k + 1 ≤ S.inp.size := by omega
        have q3 : k ≤ (S.inp.extract 0 q).size := by simp; omega
        clear hc hh h hF h6 hix hn0 hn1 hz
        go_enter Try.func22, Try.ntmps22
        go_wp2_with fail
        refine HH.out.mono ?_
        rintro e w' ⟨rfl, rfl⟩
        go_wp2_with fail
        refine (Try.strings_IndexByte _ 10 _).mono ?_
        rintro e w' ⟨rfl, rfl⟩
        rw [show (10 : Int).toNat.toUInt8 = 10 from rfl, HIX.out]
        go_wp2
        go_ret2
        refine ⟨rfl, F, H.out.change hok rfl rfl rfl ?_ ?_, ?_, fun k hk => .inl hk⟩
        · refine Kept.setCell (Kept.refl _ _) ?_ _; exact .inl rfl
        · intro o l hb
          exact hb.set_ 1 _
        · refine Kept.setCell (Kept.refl _ _) ?_ _; exact .inl H.out.gin
      · rw [if_neg hk] at hix
        have h0 : ¬ Caps.cut S.inp n < min n.toNat S.inp.size := by omega
        have et : Caps.taken S.inp n = Caps.cut S.inp n := by unfold Caps.taken; rw [if_neg h0]
        clear h0
        have ek : Caps.cut S.inp n = q := by omega
        rw [et, ek] at hok ⊢
        have HIX := Lib.hid hix
        have q1 : 0 ≤ n := by omega
        clear e1 e2 hc hh h hF h6 hcl hix et ek hn0 hn1 hz hk
        go_enter Try.func22, Try.ntmps22
        go_wp2_with fail
        refine HH.out.mono ?_
        rintro e w' ⟨rfl, rfl⟩
        go_wp2_with fail
        refine (Try.strings_IndexByte _ 10 _).mono ?_
        rintro e w' ⟨rfl, rfl⟩
        rw [show (10 : Int).toNat.toUInt8 = 10 from rfl, HIX.out]
        go_wp2
        go_ret2
        refine ⟨rfl, F, H.out.change hok rfl rfl rfl ?_ ?_, ?_, fun k hk => .inl hk⟩
        · refine Kept.setCell (Kept.refl _ _) ?_ _; exact .inl rfl
        · intro o l hb
          exact hb.set_ 1 _
        · refine Kept.setCell (Kept.refl _ _) ?_ _; exact .inl H.out.gin
  · have hc' : Caps.has S.pupil m 2 = false := by simpa using hc
    rw [hc'] at hh
    have e1 : accV S m n = .tuple #[.string ⟨#[]⟩, .int .i64 11] := by simp [accV, Caps.accB, Caps.accE, hc']
    have e2 : Caps.accS S m n = S := by simp [Caps.accS, hc']
    rw [e1, e2]
    have H := Lib.hid h
    have HH := Lib.hid hh
    clear e1 e2 hc hc' h hok hh
    go_enter Try.func22, Try.ntmps22
    go_wp2_with fail
    refine HH.out.mono ?_
    rintro e w' ⟨rfl, rfl⟩
    go_wp2
    go_ret2
    exact ⟨rfl, F, H.out, Kept.refl _ _, fun k hk => .inl hk⟩
end
end Go.Proofs.Ytobneijdhedckaa
