/- The law CapsInput: keys, one behind the other, are the input, and so are the lines. Conditions: as written. -/
import Derived.Test.YtobneijdhedckaaCapsLaw1
import Derived.Test.YtobneijdhedckaaFrame
namespace Go.Proofs.Ytobneijdhedckaa
set_option linter.unusedVariables false
open Go.RowKit Go.Lib LawF

/-- a table of input alone, of which j letters are gone -/
def inS (s : ByteArray) (j : Nat) : Caps.Tab := ⟨2, 0, s.extract j s.size, ⟨#[]⟩, ⟨#[]⟩, 0, false⟩
theorem in_0 (s : ByteArray) : Caps.made 2 0 s = inS s 0 := by unfold Caps.made inS; simp
theorem has_2 (m : Int) (hm : 0 ≤ m ∧ m < 3) : Caps.has 2 m 2 = true := by
  have : m = 0 ∨ m = 1 ∨ m = 2 := by omega
  rcases this with rfl | rfl | rfl <;> decide
theorem drop_cons (s : ByteArray) (j : Nat) (hj : j < s.size) : (s.extract j s.size).data.toList = s.data.toList[j]'(by rw [Caps.size_data]; exact hj) :: s.data.toList.drop (j + 1) := by
  rw [drop_end, List.drop_eq_getElem_cons (by rw [Caps.size_data]; exact hj)]
theorem in_key (s : ByteArray) (j : Nat) (hj : j < s.size) (m : Int) (hm : 0 ≤ m ∧ m < 3) :
    Caps.keyB (inS s j) m = (s[j]).toNat ∧ Caps.keyE (inS s j) m = 0 ∧ Caps.keyS (inS s j) m = inS s (j + 1) := by
  refine ⟨?_, ?_, ?_⟩
  · unfold Caps.keyB inS
    simp only [has_2 m hm, if_true, drop_cons s j hj]
    rfl
  · unfold Caps.keyE inS
    simp only [has_2 m hm, if_true]
    rw [if_neg]; simp; omega
  · unfold Caps.keyS inS
    simp only [has_2 m hm, if_true]
    rw [tail_tail s _ j rfl]
theorem in_done (s : ByteArray) : (inS s s.size).inp.size = 0 := by unfold inS; simp
theorem in_end_key (s : ByteArray) : Caps.keyB (inS s s.size) 1 = 0 ∧ Caps.keyE (inS s s.size) 1 = 18 ∧ Caps.keyS (inS s s.size) 1 = inS s s.size := by
  have h := in_done s
  have hd : (inS s s.size).inp.data.toList = [] := List.eq_nil_of_length_eq_zero (by rw [Caps.size_data]; exact h)
  have hh : Caps.has (inS s s.size).pupil 1 2 = true := has_2 1 (by omega)
  refine ⟨?_, ?_, ?_⟩
  · unfold Caps.keyB; rw [if_pos hh, hd]
  · unfold Caps.keyE; rw [if_pos hh, if_pos h]
  · unfold Caps.keyS; rw [if_pos hh]
    have : (inS s s.size).inp.extract 1 (inS s s.size).inp.size = (inS s s.size).inp := Caps.ext _ _ (by simp [hd])
    rw [this]
theorem in_end_acc (s : ByteArray) : Caps.accE (inS s s.size) 1 1 = 18 := by
  have h := in_done s
  have hh : Caps.has (inS s s.size).pupil 1 2 = true := has_2 1 (by omega)
  unfold Caps.accE
  rw [if_pos hh, if_neg (by omega), if_neg (by omega), if_pos h]

/-- the next line: how many letters, and how many with its end -/
def lineN (s : ByteArray) (j : Nat) : Nat := Caps.cut (s.extract j s.size) 5000
def lineT (s : ByteArray) (j : Nat) : Nat := Caps.taken (s.extract j s.size) 5000
theorem line_le (s : ByteArray) (j : Nat) : lineN s j ≤ s.size - j ∧ lineT s j ≤ s.size - j := by
  have h1 := Caps.cut_le (s.extract j s.size) 5000
  have h2 := Caps.taken_le (s.extract j s.size) 5000
  have : (s.extract j s.size).size = s.size - j := by simp
  rw [this] at h1 h2
  unfold lineN lineT
  omega
theorem ext_ext (s : ByteArray) (j k : Nat) : (s.extract j s.size).extract k (s.extract j s.size).size = s.extract (j + k) s.size := by
  apply Caps.ext
  rw [drop_end, drop_end, drop_end, List.drop_drop]
theorem in_acc (s : ByteArray) (j : Nat) (hj : j < s.size) : Caps.accB (inS s j) 1 5000 = (s.extract j s.size).extract 0 (lineN s j) ∧ Caps.accE (inS s j) 1 5000 = 0 ∧ Caps.accS (inS s j) 1 5000 = inS s (j + lineT s j) := by
  have hh : Caps.has 2 1 2 = true := has_2 1 (by omega)
  refine ⟨?_, ?_, ?_⟩
  · show (if Caps.has 2 1 2 = true ∧ (0 : Int) < 5000 then _ else _) = _
    rw [if_pos ⟨hh, by omega⟩]
    rfl
  · unfold Caps.accE inS
    simp only [hh, if_true]
    rw [if_neg (by omega), if_neg (by omega), if_neg (by simp; omega)]
  · show (if Caps.has 2 1 2 = true ∧ (0 : Int) < 5000 then _ else _) = _
    rw [if_pos ⟨hh, by omega⟩]
    show Caps.Tab.mk _ _ ((s.extract j s.size).extract (lineT s j) (s.extract j s.size).size) _ _ _ _ = _
    rw [ext_ext]
    rfl
/-- a line and its end are what was taken -/
theorem line_take (s : ByteArray) (j : Nat) (hj : j < s.size) (hs : s.size ≤ 4096) :
    0 < lineT s j ∧ (lineT s j = lineN s j ∧ s.extract 0 j ++ (s.extract j s.size).extract 0 (lineN s j) = s.extract 0 (j + lineT s j) ∨
      lineT s j = lineN s j + 1 ∧ (s.extract 0 j ++ (s.extract j s.size).extract 0 (lineN s j)) ++ ⟨#[10]⟩ = s.extract 0 (j + lineT s j)) := by
  have hl := line_le s j
  have hsz : (s.extract j s.size).size = s.size - j := by simp
  have hjl : j < s.data.toList.length := by rw [Caps.size_data]; exact hj
  have base : s.extract 0 j ++ (s.extract j s.size).extract 0 (lineN s j) = s.extract 0 (j + lineN s j) := by
    apply Caps.ext
    simp only [ByteArray.data_append, Array.toList_append]
    rw [Lib.extract_data s 0 j, Lib.extract_data (s.extract j s.size) 0 (lineN s j), drop_end, Lib.extract_data s 0 (j + lineN s j)]
    simp only [List.drop_zero, Nat.sub_zero]
    rw [List.take_add]
  by_cases hc : lineN s j < s.size - j
  · have ht : lineT s j = lineN s j + 1 := by
      unfold lineT Caps.taken lineN at *
      rw [if_pos (by rw [hsz]; omega)]
    refine ⟨by omega, .inr ⟨ht, ?_⟩⟩
    rw [base, ht]
    have h10 : (s.data.toList.drop j)[lineN s j]'(by rw [List.length_drop, Caps.size_data]; exact hc) = 10 := by
      have := nl_at (s.extract j s.size).data.toList 5000 (lineN s j) (by rw [Caps.size_data, hsz]; exact hc) (by omega) (Nat.le_refl _)
      have h2 := this.2 rfl
      simp only [drop_end] at h2
      exact h2
    rw [List.getElem_drop] at h10
    rw [show j + (lineN s j + 1) = (j + lineN s j) + 1 by omega]
    exact take_more s _ (j + lineN s j) 10 (by omega) rfl h10
  · have ht : lineT s j = lineN s j := by
      unfold lineT Caps.taken lineN at *
      rw [if_neg (by rw [hsz]; omega)]
    refine ⟨?_, .inl ⟨ht, ?_⟩⟩
    · have : lineN s j = s.size - j := by omega
      omega
    · rw [base, ht]

section
variable {w0 w : World} {g j : Nat} {s : ByteArray} {L : List Asr}
theorem i_key (h : At w0 w (TabA g (inS s j) :: L)) (hj : j < s.size) (m : Int) (hm : 0 ≤ m ∧ m < 3) : Calls Try.prog 20 #[.pointer (some ⟨g, 0, none⟩), .int .i64 m] w (Got1 (.tuple #[.int .u8 (s[j]).toNat, .int .i64 0]) (TabA g (inS s (j + 1))) w0 L) := by
  have := t_key h m
  obtain ⟨e0, e1, e2⟩ := in_key s j hj m hm
  rw [e0, e1, e2] at this; exact this
theorem i_left (h : At w0 w (TabA g (inS s j) :: L)) : Calls Try.prog 21 #[.pointer (some ⟨g, 0, none⟩)] w (Same (.int .i64 (s.size - j : Nat)) w) := by
  have := t_left h
  have e : (inS s j).inp.size = s.size - j := by unfold inS; simp
  rw [e] at this; exact this
theorem i_end_key (h : At w0 w (TabA g (inS s s.size) :: L)) : Calls Try.prog 20 #[.pointer (some ⟨g, 0, none⟩), .int .i64 1] w (Got1 (.tuple #[.int .u8 0, .int .i64 18]) (TabA g (inS s s.size)) w0 L) := by
  have := t_key h 1
  obtain ⟨e0, e1, e2⟩ := in_end_key s
  rw [e0, e1, e2] at this; exact this
theorem i_end_acc (h : At w0 w (TabA g (inS s s.size) :: L)) : Calls Try.prog 22 #[.pointer (some ⟨g, 0, none⟩), .int .i64 1, .int .i64 1] w (Got1 (.tuple #[.string (Caps.accB (inS s s.size) 1 1), .int .i64 18]) (TabA g (Caps.accS (inS s s.size) 1 1)) w0 L) := by
  have := t_accept h 1 1
  rw [in_end_acc] at this; exact this
theorem i_acc (h : At w0 w (TabA g (inS s j) :: L)) (hj : j < s.size) : Calls Try.prog 22 #[.pointer (some ⟨g, 0, none⟩), .int .i64 1, .int .i64 5000] w (Got1 (.tuple #[.string ((s.extract j s.size).extract 0 (lineN s j)), .int .i64 0]) (TabA g (inS s (j + lineT s j))) w0 L) := by
  have := t_accept h 1 5000
  obtain ⟨e0, e1, e2⟩ := in_acc s j hj
  rw [e0, e1, e2] at this; exact this
end

set_option maxRecDepth 100000 in
set_option maxHeartbeats 4000000 in
theorem input_any (s : ByteArray) (A : Option Addr) (n cap : Nat) (zs : List Int) (w : World) (hn : n ≤ maxLen) (hl : zs.length = n) (hz : ∀ z ∈ zs, (Lit.int .i64 z).wf = true)
    (hA : Row w A n fun j => .int .i64 (zs.getD j 0)) :
    Calls Try.prog 5 #[.string s, .slice A n cap] w fun e w' => e = .returned (.bool true) ∧ Below w.heap.size w w' := by
  unfold maxLen at hn
  by_cases hs : 4096 < s.size
  · clear hA
    go_enter Try.func5, Try.ntmps5
    go_wp2_with fail
    refine (shown_any (At.refl w)).mono ?_
    rintro e w1 ⟨rfl, h1⟩
    have H1 := Lib.hid h1
    clear h1
    go_wp2
    go_ret
    exact ⟨rfl, H1.out.below⟩
  · have HA := Lib.hid hA
    have HZ := Lib.hid hz
    clear hA hz
    have h0 : Caps.newErr 2 0 s = 0 := by unfold Caps.newErr; rw [if_neg (by omega), if_neg hs]
    have h00 := Lib.hid h0
    clear h0
    have hs' : s.size ≤ 4096 := by omega
    clear hs
    go_enter Try.func5, Try.ntmps5
    go_wp2_with fail
    refine (shown_any (At.refl w)).mono ?_
    rintro e w1 ⟨rfl, h1⟩
    have H1 := Lib.hid h1
    clear h1
    go_wp2_with fail
    refine (made_any H1.out 2 0 s h00.out hs').mono ?_
    rintro e w2 ⟨g, rfl, h2⟩
    rw [in_0] at h2
    have H2 := Lib.hid h2
    clear h2
    go_wp2_with fail
    refine (made_any H2.out 2 0 s h00.out hs').mono ?_
    rintro e w3 ⟨x, rfl, h3⟩
    rw [in_0] at h3
    have H3 := Lib.hid h3
    clear h3
    go_wp2
    go_loopw [8] (fun i wr => ∃ (j : Nat), j ≤ s.size ∧ i = .int .i64 j ∧ At w wr [TabA g (inS s j), TabA x (inS s 0)]) (fun i _ => s.size - (RowKit.intOf i).toNat)
    case atStart => exact ⟨0, Nat.zero_le _, rfl, H3.out.swap⟩
    case round =>
      obtain ⟨j, hj, rfl, hat⟩ := hrel
      have HT := Lib.hid hat
      clear hat
      by_cases hlt : j < s.size
      · have i0 : (0 : Int) ≤ (j : Int) := Int.natCast_nonneg _
        have i1 : (j : Int) < (s.size : Int) := by omega
        by_cases hlt2 : j < n
        · obtain ⟨b, off, rfl, hb, hcell⟩ := HA.out (by omega)
          have c0 : wr.cell? ⟨b, off + j, none⟩ = some (.int .i64 (zs.getD j 0)) := HT.out.old (hcell j hlt2)
          have hz0 := i64ok_of (HZ.out (zs.getD j 0) (by simp [List.getD, List.getElem?_eq_getElem (show j < zs.length by omega)]))
          generalize zs.getD j 0 = z at *
          have hp := pickI_lt (c := z) (n := 3) (by omega)
          have HP := Lib.hid (pick_any z 3 wr hz0 (by omega))
          generalize pickI z 3 = m at *
          have i2 : (j : Int) < (n : Int) := by omega
          have HM := Lib.hid hp
          clear hcell hb hz0 hp
          go_wp2_with fail
          refine HP.out.mono ?_
          rintro e w4 ⟨rfl, rfl⟩
          go_wp2_with fail
          refine (i_key HT.out hlt m HM.out).mono ?_
          rintro e w5 ⟨rfl, h5⟩
          have H5 := Lib.hid h5
          have HL := Lib.hid (i_left h5)
          clear h5 c0
          go_wp2_with fail
          refine HL.out.mono ?_
          rintro e w6 ⟨rfl, rfl⟩
          have e1 : ((s.size - (j + 1) : Nat) : Int) = (s.size : Int) - (j : Int) - 1 := by omega
          rw [e1]
          clear e1
          go_wp2
          go_roundw
          case rel => exact ⟨j + 1, by omega, by go_num, H5.out⟩
          case measure => simp [RowKit.intOf]; omega
        · have hge : ¬ ((j : Int) < (n : Int)) := by omega
          go_wp2_with fail
          refine (i_key HT.out hlt 0 (by omega)).mono ?_
          rintro e w5 ⟨rfl, h5⟩
          have H5 := Lib.hid h5
          have HL := Lib.hid (i_left h5)
          clear h5
          go_wp2_with fail
          refine HL.out.mono ?_
          rintro e w6 ⟨rfl, rfl⟩
          have e1 : ((s.size - (j + 1) : Nat) : Int) = (s.size : Int) - (j : Int) - 1 := by omega
          rw [e1]
          clear e1
          go_wp2
          go_roundw
          case rel => exact ⟨j + 1, by omega, by go_num, H5.out⟩
          case measure => simp [RowKit.intOf]; omega
      · obtain rfl : j = s.size := by omega
        go_wp2_with fail
        refine (i_end_key HT.out).mono ?_
        rintro e w4 ⟨rfl, h4⟩
        have H4 := Lib.hid h4
        clear h4
        go_wp2_with fail
        refine (i_end_acc H4.out).mono ?_
        rintro e w5 ⟨rfl, h5⟩
        have H5 := Lib.hid h5.swap
        clear h5 H4
        generalize Caps.accB (inS s s.size) 1 1 = ab
        generalize Caps.accS (inS s s.size) 1 1 = asx at *
        go_wp2
        go_loopw [16] (fun a wr => ∃ (j : Nat), j ≤ s.size ∧ a = .string (s.extract 0 j) ∧ At w wr [TabA x (inS s j), TabA g asx]) (fun a _ => s.size - strLen a)
        case atStart => exact ⟨0, Nat.zero_le _, by rw [show s.extract 0 0 = ⟨#[]⟩ from Caps.ext _ _ (by simp)], H5.out⟩
        case round =>
          obtain ⟨j, hj, rfl, hat⟩ := hrel
          have HT2 := Lib.hid hat
          have HL := Lib.hid (i_left hat)
          clear hat
          by_cases hlt : j < s.size
          · obtain ⟨hp, hlt2⟩ := line_take s j hlt hs'
            have hle := line_le s j
            have HK := Lib.hid (i_acc HT2.out hlt)
            have hll : ((s.extract j s.size).extract 0 (lineN s j)).size = lineN s j := by simp; omega
            have hjj : (s.extract 0 j).size = j := by simp; omega
            generalize lineT s j = tk at *
            generalize lineN s j = ln at *
            generalize (s.extract j s.size).extract 0 ln = S1 at *
            have hpos : (0 : Int) < ((s.size - j : Nat) : Int) := by omega
            go_wp2_with fail
            refine HL.out.mono ?_
            rintro e w6 ⟨rfl, rfl⟩
            go_wp2_with fail
            refine HL.out.mono ?_
            rintro e w6 ⟨rfl, rfl⟩
            go_wp2_with fail
            refine HK.out.mono ?_
            rintro e w7 ⟨rfl, h7⟩
            have H7 := Lib.hid h7
            have HL7 := Lib.hid (i_left h7)
            clear h7
            have hcat : (s.extract 0 j ++ S1).size ≤ 9223372036854775807 := by rw [ByteArray.size_append]; omega
            have hcat1 : (s.extract 0 j).size + S1.size ≤ 9223372036854775807 := by omega
            go_wp2_with fail
            refine HL7.out.mono ?_
            rintro e w8 ⟨rfl, rfl⟩
            have hlow : ((s.size - (j + tk) : Nat) : Int) < ((s.size - j : Nat) : Int) := by omega
            go_wp2_with fail
            refine HL7.out.mono ?_
            rintro e w9 ⟨rfl, rfl⟩
            have hdiff : ((s.size - j : Nat) : Int) - ((s.size - (j + tk) : Nat) : Int) = (tk : Int) := by omega
            rcases hlt2 with ⟨hk1, hk2⟩ | ⟨hk1, hk2⟩
            · have hk3 : ¬ ((ln : Int) < (tk : Int)) := by omega
              have HK2 := Lib.hid hk2
              clear hk1 hk2
              go_wp2
              go_roundw
              case rel => exact ⟨j + tk, by omega, by rw [HK2.out], H7.out⟩
              case measure => rw [HK2.out]; simp [strLen]; omega
            · have hk3 : (ln : Int) < (tk : Int) := by omega
              have HK2 := Lib.hid hk2
              have hcat2 : (s.extract 0 j ++ S1).size + 1 ≤ 9223372036854775807 := by rw [ByteArray.size_append]; omega
              have hcat3 : (s.extract 0 j).size + S1.size + 1 ≤ 9223372036854775807 := by omega
              clear hk1 hk2
              go_wp2
              go_roundw
              case rel => exact ⟨j + tk, by omega, by rw [HK2.out], H7.out⟩
              case measure => rw [HK2.out]; simp [strLen]; omega
          · obtain rfl : j = s.size := by omega
            go_wp2_with fail
            refine HL.out.mono ?_
            rintro e w6 ⟨rfl, rfl⟩
            have hz0 : ((s.size - s.size : Nat) : Int) = 0 := by omega
            rw [hz0]
            go_wp2
            go_ret
            exact ⟨by simp, HT2.out.below⟩
end Go.Proofs.Ytobneijdhedckaa
