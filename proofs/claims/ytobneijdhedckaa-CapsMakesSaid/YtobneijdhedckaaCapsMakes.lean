/- The law CapsMakes: any table, modes, capabilities. Conditions: as written. -/
import Derived.Test.YtobneijdhedckaaCapsLaw2
import Derived.Test.YtobneijdhedckaaFrame
namespace Go.Proofs.Ytobneijdhedckaa
set_option linter.unusedVariables false
open Go.RowKit Go.Lib LawF

set_option maxHeartbeats 1000000 in
theorem makes_bad (p r : Int) (s : ByteArray) (A B : Option Addr) (n cap n2 cap2 : Nat) (w : World) (h0 : Caps.newErr p r s ≠ 0) :
    Calls Try.prog 3 #[.int .i64 p, .int .i64 r, .string s, .slice A n cap, .slice B n2 cap2] w fun e w' => e = .returned (.bool true) ∧ Below w.heap.size w w' := by
  have hE : (Caps.newErr p r s == 0) = false := by simpa using h0
  have hE' : (Caps.newErr p r s != 0) = true := by simpa using h0
  go_enter Try.func3, Try.ntmps3
  go_wp2_with fail
  refine (shown_any (At.refl w)).mono ?_
  rintro e w1 ⟨rfl, h1⟩
  have H1 := Lib.hid h1
  clear h1
  go_wp2_with fail
  refine (t_new_bad p r s w1 h0).mono ?_
  rintro e w2 ⟨rfl, rfl⟩
  go_wp2_with fail
  refine (r_new_bad p r s w2 h0).mono ?_
  rintro e w3 ⟨rfl, rfl⟩
  go_wp2
  go_ret
  exact ⟨by simp, H1.out.below⟩

set_option maxHeartbeats 2000000 in
theorem makes_ok (p r : Int) (s : ByteArray) (A B : Option Addr) (n cap n2 cap2 : Nat) (zs ys : List Int) (w : World) (h0 : Caps.newErr p r s = 0) (hn : n ≤ maxLen) (hn2 : n2 ≤ maxLen)
    (hA : Row w A n fun j => .int .i64 (zs.getD j 0)) (hB : Row w B n2 fun j => .int .i64 (ys.getD j 0)) :
    Calls Try.prog 3 #[.int .i64 p, .int .i64 r, .string s, .slice A n cap, .slice B n2 cap2] w fun e w' => e = .returned (.bool true) ∧ Below w.heap.size w w' := by
  unfold maxLen at hn hn2
  have HA := Lib.hid hA
  have HB := Lib.hid hB
  clear hA hB
  go_enter Try.func3, Try.ntmps3
  go_wp2_with fail
  refine (shown_any (At.refl w)).mono ?_
  rintro e w1 ⟨rfl, h1⟩
  have H1 := Lib.hid h1
  clear h1
  go_wp2_with fail
  refine (t_new H1.out p r s h0).mono ?_
  rintro e w2 ⟨g, rfl, h2⟩
  have H2 := Lib.hid h2
  clear h2
  go_wp2_with fail
  refine (r_new H2.out p r s h0).mono ?_
  rintro e w3 ⟨x, rfl, h3⟩
  have H3 := Lib.hid h3
  clear h3
  go_wp2_with fail
  refine (alike_any H3.out.swap).mono ?_
  rintro e w4 ⟨rfl, h4⟩
  have H4 := Lib.hid h4
  clear h4
  go_wp2
  go_loopw [17] (fun i wr => ∃ (j : Nat), j ≤ n ∧ j ≤ n2 ∧ i = .int .i64 j ∧ At w wr [TabA g (Caps.made p r s), RefA x (Caps.made p r s)]) (fun i _ => n - (RowKit.intOf i).toNat)
  case atStart => exact ⟨0, Nat.zero_le _, Nat.zero_le _, rfl, H4.out⟩
  case round =>
    obtain ⟨j, hj, hj2, rfl, hat⟩ := hrel
    have HT := Lib.hid hat
    clear hat
    by_cases hlt : j < n
    · by_cases hlt2 : j < n2
      · obtain ⟨b, off, rfl, hb, hcell⟩ := HA.out (by omega)
        obtain ⟨b2, off2, rfl, hb2, hcell2⟩ := HB.out (by omega)
        have c0 := HT.out.old (hcell j hlt)
        have c1 := HT.out.old (hcell2 j hlt2)
        have i0 : (0 : Int) ≤ (j : Int) := Int.natCast_nonneg _
        have i1 : (j : Int) < (n : Int) := by omega
        have i2 : (j : Int) < (n2 : Int) := by omega
        clear hcell hcell2 hb hb2
        go_wp2_with fail
        go_quiet ((first | (go_at_call 13; exact Calls.quiet_of_same (t_has (HT.out.drewN _) _ _)) | (go_at_call 14; exact Calls.quiet_of_same (r_has (HT.out.drewN _).swap _ _))))
        go_wp2
        go_roundw
        case rel => exact ⟨j + 1, by omega, by omega, by go_num, HT.out.drewN _⟩
        case measure => simp [RowKit.intOf]; omega
      · have hd : decide ((j : Int) < (n2 : Int)) = false := by simp; omega
        go_wp2
        go_ret
        exact ⟨rfl, HT.out.below⟩
    · go_wp2
      go_ret
      exact ⟨rfl, HT.out.below⟩

theorem makes_any (p r : Int) (s : ByteArray) (A B : Option Addr) (n cap n2 cap2 : Nat) (zs ys : List Int) (w : World) (hn : n ≤ maxLen) (hn2 : n2 ≤ maxLen)
    (hA : Row w A n fun j => .int .i64 (zs.getD j 0)) (hB : Row w B n2 fun j => .int .i64 (ys.getD j 0)) :
    Calls Try.prog 3 #[.int .i64 p, .int .i64 r, .string s, .slice A n cap, .slice B n2 cap2] w fun e w' => e = .returned (.bool true) ∧ Below w.heap.size w w' := by
  by_cases h0 : Caps.newErr p r s = 0
  · exact makes_ok p r s A B n cap n2 cap2 zs ys w h0 hn hn2 hA hB
  · exact makes_bad p r s A B n cap n2 cap2 w h0
end Go.Proofs.Ytobneijdhedckaa
