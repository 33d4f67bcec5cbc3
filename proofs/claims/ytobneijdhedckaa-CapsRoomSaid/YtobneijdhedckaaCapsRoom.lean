/- The law CapsRoom: what is put out is what was typed, up to the room. Conditions: as written. -/
import Derived.Test.YtobneijdhedckaaCapsLaw1
import Derived.Test.YtobneijdhedckaaFrame
namespace Go.Proofs.Ytobneijdhedckaa
set_option linter.unusedVariables false
open Go.RowKit Go.Lib LawF

/-- the first n letters -/
def upTo (n : Nat) (s : ByteArray) : ByteArray := s.extract 0 n
theorem upTo_data (n : Nat) (s : ByteArray) : (upTo n s).data.toList = s.data.toList.take n := by unfold upTo; simp
theorem upTo_size (n : Nat) (s : ByteArray) : (upTo n s).size = min n s.size := by unfold upTo; simp
theorem upTo_behind (n : Nat) (a t : ByteArray) : Caps.behind n (upTo n a) t = upTo n (a ++ t) := by
  apply Caps.ext
  rw [fit_list, upTo_data, upTo_data]
  simp only [Array.toList_append, ByteArray.data_append]
  rw [List.take_append, Caps.size_data]
  congr 1
  unfold Caps.fit
  rw [upTo_size, Int.toNat_natCast]
  by_cases h : n - min n a.size ≤ t.size
  · rw [Nat.min_eq_right h]; congr 1; omega
  · rw [Nat.min_eq_left (by omega), List.take_of_length_le (by rw [Caps.size_data]; omega), List.take_of_length_le (by rw [Caps.size_data]; omega)]
/-- what a text that came in has at most; and what is gathered -/
def longN : Nat := 140737488355328
def gathN : Nat := 140737488365328
theorem reach_longN : reachBytes ≤ longN := by unfold longN; have := reachBytes_lt; omega
theorem longN_le : longN ≤ 9223372036854775807 := by unfold longN; omega
theorem gath_of (a t : Nat) (ha : a < 10000) (ht : t ≤ longN) : a + t ≤ gathN ∧ a + t ≤ 9223372036854775807 := by unfold longN at ht; unfold gathN; omega
def roomS (n : Nat) (a : ByteArray) : Caps.Tab := ⟨1, n, ⟨#[]⟩, upTo n a, upTo n a, 0, false⟩
def roomS1 (n : Nat) (a t : ByteArray) : Caps.Tab := ⟨1, n, ⟨#[]⟩, upTo n (a ++ t), upTo n a, 0, false⟩
theorem room_0 (n : Nat) : Caps.made 1 n ⟨#[]⟩ = roomS n ⟨#[]⟩ := by
  have : upTo n ⟨#[]⟩ = ⟨#[]⟩ := Caps.ext _ _ (by rw [upTo_data]; simp)
  unfold roomS Caps.made
  rw [this]
theorem has_1_1 : Caps.has 1 1 1 = true := by decide
theorem has_1_2 : Caps.has 1 2 1 = true := by decide
theorem room_1 (n : Nat) (a t : ByteArray) : Caps.typS (roomS n a) 1 t = roomS1 n a t := by
  unfold Caps.typS roomS roomS1
  simp only [has_1_1, if_true]
  rw [upTo_behind]
  rfl
theorem room_2 (n : Nat) (a t : ByteArray) : Caps.typS (roomS1 n a t) 2 t = roomS n (a ++ t) := by
  unfold Caps.typS roomS roomS1
  simp only [has_1_2, if_true, upTo_behind]
  rfl
theorem room_e (n : Nat) (a t : ByteArray) : Caps.typE (roomS n a) 1 t = if n < a.size + t.size ∧ 0 < t.size then 12 else 0 := by
  unfold Caps.typE roomS
  simp only [has_1_1, if_true, upTo_size]
  by_cases h : n < a.size + t.size ∧ 0 < t.size
  · rw [if_pos h, if_pos]; simp; omega
  · rw [if_neg h, if_neg]; simp; omega
theorem room_f (n : Nat) (a t : ByteArray) : Caps.typE (roomS1 n a t) 2 t = 0 := by
  unfold Caps.typE roomS1
  simp only [has_1_2, if_true]
  rfl

section
variable {w0 w : World} {g n : Nat} {L : List Asr}
theorem r_one {a : ByteArray} (h : At w0 w (TabA g (roomS n a) :: L)) (t : ByteArray) (ht : t.size ≤ maxLen) : Calls Try.prog 17 #[.pointer (some ⟨g, 0, none⟩), .int .i64 1, .string t] w
    (Got1 (.int .i64 (if n < a.size + t.size ∧ 0 < t.size then 12 else 0)) (TabA g (roomS1 n a t)) w0 L) := by
  have := t_typ h 1 t ht
  rw [room_e, room_1] at this; exact this
theorem r_two {a t : ByteArray} (h : At w0 w (TabA g (roomS1 n a t) :: L)) (ht : t.size ≤ maxLen) : Calls Try.prog 17 #[.pointer (some ⟨g, 0, none⟩), .int .i64 2, .string t] w
    (Got1 (.int .i64 0) (TabA g (roomS n (a ++ t))) w0 L) := by
  have := t_typ h 2 t ht
  rw [room_f, room_2] at this; exact this
theorem r_out {a X : ByteArray} (h : At w0 w (TabA g (roomS n a) :: L)) (hx : upTo n a = X) : Calls Try.prog 18 #[.pointer (some ⟨g, 0, none⟩)] w (Same (.string X) w) := by subst hx; exact t_output h
theorem r_log {a X : ByteArray} (h : At w0 w (TabA g (roomS n a) :: L)) (hx : upTo n a = X) : Calls Try.prog 19 #[.pointer (some ⟨g, 0, none⟩)] w (Same (.string X) w) := by subst hx; exact t_log h
theorem r_one' {a t : ByteArray} (f : Int) (hf : f = if n < a.size + t.size ∧ 0 < t.size then 12 else 0) (h : At w0 w (TabA g (roomS n a) :: L)) (ht : t.size ≤ maxLen) : Calls Try.prog 17 #[.pointer (some ⟨g, 0, none⟩), .int .i64 1, .string t] w
    (Got1 (.int .i64 f) (TabA g (roomS1 n a t)) w0 L) := by rw [hf]; exact r_one h t ht
end

set_option maxRecDepth 100000 in
set_option maxHeartbeats 4000000 in
theorem room_any (r : Int) (A : Option Addr) (n cap : Nat) (ss : List ByteArray) (w : World) (hr : i64ok r) (hn : n ≤ maxLen) (hss : ∀ s ∈ ss, s.size ≤ longN) (hl : ss.length = n)
    (hA : Row w A n fun j => .string (ss.getD j ByteArray.empty)) :
    Calls Try.prog 4 #[.int .i64 r, .slice A n cap] w fun e w' => e = .returned (.bool true) ∧ Below w.heap.size w w' := by
  unfold maxLen at hn
  have HA := Lib.hid hA
  have HSS := Lib.hid hss
  clear hss
  have hp := pickI_lt (c := r) (n := 200) (by omega)
  obtain ⟨q, hq⟩ : ∃ q : Nat, pickI r 200 = q := ⟨(pickI r 200).toNat, by omega⟩
  have hq2 : q < 200 := by omega
  have HP := Lib.hid (fun wx : World => pick_any r 200 wx hr (by omega))
  rw [hq] at HP
  have h0 : Caps.newErr 1 q ⟨#[]⟩ = 0 := by unfold Caps.newErr; rw [if_neg (by omega), if_neg (by decide)]
  have h00 := Lib.hid h0
  clear hA hp hq h0 hr
  go_enter Try.func4, Try.ntmps4
  go_wp2_with fail
  refine (shown_any (At.refl w)).mono ?_
  rintro e w1 ⟨rfl, h1⟩
  have H1 := Lib.hid h1
  clear h1
  go_wp2_with fail
  refine (HP.out w1).mono ?_
  rintro e w2 ⟨rfl, rfl⟩
  go_wp2_with fail
  refine (made_any H1.out 1 q ⟨#[]⟩ h00.out (by decide)).mono ?_
  rintro e w3 ⟨g, rfl, h3⟩
  rw [room_0] at h3
  have H3 := Lib.hid h3
  clear h3
  go_wp2
  go_loopw [8, 9] (fun a i wr => ∃ (j : Nat) (all : ByteArray), j ≤ n ∧ i = .int .i64 j ∧ a = .string all ∧ all.size ≤ gathN ∧ At w wr [TabA g (roomS q all)]) (fun _ i _ => n - (RowKit.intOf i).toNat)
  case atStart => exact ⟨0, ⟨#[]⟩, Nat.zero_le _, rfl, rfl, by show 0 ≤ gathN; exact Nat.zero_le _, H3.out⟩
  case round =>
    obtain ⟨j, all, hj, rfl, rfl, hall, hat⟩ := hrel
    have HT := Lib.hid hat
    clear hat
    by_cases hlt : j < n
    · by_cases hlt2 : all.size < 10000
      · obtain ⟨b, off, rfl, hb, hcell⟩ := HA.out (by omega)
        have c0 : wr.cell? ⟨b, off + j, none⟩ = some (.string (ss.getD j ByteArray.empty)) := HT.out.old (hcell j hlt)
        have c00 : w.cell? ⟨b, off + j, none⟩ = some (.string (ss.getD j ByteArray.empty)) := hcell j hlt
        have hmem : ss.getD j ByteArray.empty ∈ ss := by
          simp [List.getD, List.getElem?_eq_getElem (show j < ss.length by omega)]
        have ht := HSS.out _ hmem
        generalize ss.getD j ByteArray.empty = t at *
        have i0 : (0 : Int) ≤ (j : Int) := Int.natCast_nonneg _
        have i1 : (j : Int) < (n : Int) := by omega
        have hcat : (all ++ t).size = all.size + t.size := ByteArray.size_append
        have HC := Lib.hid hcat
        have htm : t.size ≤ maxLen := by have := longN_le; unfold maxLen; omega
        have hg := gath_of all.size t.size hlt2 ht
        have HG := Lib.hid hg.1
        have hbig := hg.2
        clear hg
        have C0 := Lib.hid c00
        clear hcell hb hmem hcat c00
        by_cases hA1 : all.size + t.size ≤ q
        · have HF := Lib.hid (show (0 : Int) = if q < all.size + t.size ∧ 0 < t.size then 12 else 0 by rw [if_neg (by omega)])
          have HX : Hid (upTo q (all ++ t) = all ++ t) := Caps.ext _ _ (by rw [upTo_data, List.take_of_length_le (by rw [Caps.size_data, HC.out]; omega)])
          have hle : (all.size : Int) + (t.size : Int) ≤ (q : Int) := by omega
          have hd1 : decide ((all.size : Int) + (t.size : Int) ≤ (q : Int)) = true := by simpa using hle
          have hd2 : decide ((q : Int) < (all.size : Int) + (t.size : Int)) = false := by simpa using hle
          go_wp2_with fail
          refine (r_one' 0 HF.out HT.out htm).mono ?_
          rintro e w4 ⟨rfl, h4⟩
          have H4 := Lib.hid h4
          have c1 := h4.old C0.out
          clear h4 c0
          go_wp2_with fail
          refine (r_two H4.out htm).mono ?_
          rintro e w5 ⟨rfl, h5⟩
          have H5 := Lib.hid h5
          have c2 := h5.old C0.out
          clear h5 c1
          go_wp2_with fail
          go_quiet ((first | (go_at_call 18; exact Calls.quiet_of_same (r_out (H5.out.drewN _) HX.out)) | (go_at_call 19; exact Calls.quiet_of_same (r_log (H5.out.drewN _) HX.out))))
          go_wp2
          go_roundw
          case rel => exact ⟨j + 1, _, by omega, by go_num, rfl, by rw [HC.out]; exact HG.out, H5.out.drewN _⟩
          case measure => simp [RowKit.intOf]; omega
        · by_cases hz : t.size = 0
          · have HF := Lib.hid (show (0 : Int) = if q < all.size + t.size ∧ 0 < t.size then 12 else 0 by rw [if_neg (by omega)])
            have HX : Hid (upTo q (all ++ t) = (all ++ t).extract 0 q) := rfl
            have hle : (q : Int) < (all.size : Int) + (t.size : Int) := by omega
            have hd1 : decide ((all.size : Int) + (t.size : Int) ≤ (q : Int)) = false := by simp; omega
            have hd2 : decide ((q : Int) < (all.size : Int) + (t.size : Int)) = true := by simpa using hle
            have hqs : q ≤ all.size + t.size := by omega
            have hqc : q ≤ (all ++ t).size := by rw [HC.out]; omega
            have hnil := toList_nil t hz
            clear hz
            go_wp2_with fail
            refine (r_one' 0 HF.out HT.out htm).mono ?_
            rintro e w4 ⟨rfl, h4⟩
            have H4 := Lib.hid h4
            have c1 := h4.old C0.out
            clear h4 c0
            go_wp2_with fail
            refine (r_two H4.out htm).mono ?_
            rintro e w5 ⟨rfl, h5⟩
            have H5 := Lib.hid h5
            have c2 := h5.old C0.out
            clear h5 c1
            go_wp2_with fail
            go_quiet ((first | (go_at_call 18; exact Calls.quiet_of_same (r_out (H5.out.drewN _) HX.out)) | (go_at_call 19; exact Calls.quiet_of_same (r_log (H5.out.drewN _) HX.out))))
            go_wp2
            go_roundw
            case rel => exact ⟨j + 1, _, by omega, by go_num, rfl, by rw [HC.out]; exact HG.out, H5.out.drewN _⟩
            case measure => simp [RowKit.intOf]; omega

          · have HF := Lib.hid (show (12 : Int) = if q < all.size + t.size ∧ 0 < t.size then 12 else 0 by rw [if_pos (by omega)])
            have HX : Hid (upTo q (all ++ t) = (all ++ t).extract 0 q) := rfl
            have hle : (q : Int) < (all.size : Int) + (t.size : Int) := by omega
            have hd1 : decide ((all.size : Int) + (t.size : Int) ≤ (q : Int)) = false := by simp; omega
            have hd2 : decide ((q : Int) < (all.size : Int) + (t.size : Int)) = true := by simpa using hle
            have hqs : q ≤ all.size + t.size := by omega
            have hqc : q ≤ (all ++ t).size := by rw [HC.out]; omega
            have hne := isEmpty_false t (by omega)
            go_wp2_with fail
            refine (r_one' 12 HF.out HT.out htm).mono ?_
            rintro e w4 ⟨rfl, h4⟩
            have H4 := Lib.hid h4
            have c1 := h4.old C0.out
            clear h4 c0
            go_wp2_with fail
            refine (r_two H4.out htm).mono ?_
            rintro e w5 ⟨rfl, h5⟩
            have H5 := Lib.hid h5
            have c2 := h5.old C0.out
            clear h5 c1
            go_wp2_with fail
            go_quiet ((first | (go_at_call 18; exact Calls.quiet_of_same (r_out (H5.out.drewN _) HX.out)) | (go_at_call 19; exact Calls.quiet_of_same (r_log (H5.out.drewN _) HX.out))))
            go_wp2
            go_roundw
            case rel => exact ⟨j + 1, _, by omega, by go_num, rfl, by rw [HC.out]; exact HG.out, H5.out.drewN _⟩
            case measure => simp [RowKit.intOf]; omega
      · have hd : decide ((all.size : Int) < 10000) = false := by simp; omega
        go_wp2
        go_ret
        exact ⟨rfl, HT.out.below⟩
    · go_wp2
      go_ret
      exact ⟨rfl, HT.out.below⟩
end Go.Proofs.Ytobneijdhedckaa
