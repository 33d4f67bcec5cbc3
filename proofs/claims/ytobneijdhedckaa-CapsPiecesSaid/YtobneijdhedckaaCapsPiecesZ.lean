/- The law CapsPieces: a piece is empty. Conditions: as written. -/
import Derived.Test.YtobneijdhedckaaCapsPieces
namespace Go.Proofs.Ytobneijdhedckaa
set_option linter.unusedVariables false
open Go.RowKit Go.Lib LawF

set_option maxRecDepth 100000 in
set_option maxHeartbeats 2000000 in
theorem pieces_zero (s : ByteArray) (n m : Int) (w : World) (hn : i64ok n) (hm : i64ok m) (N M : Nat) (hN : pickI n 60 = N) (hM : pickI m 60 = M) (hN2 : N < 60) (hM2 : M < 60) (hs' : s.size ≤ 4096) (hz : ¬ s.size = 0) (hNM : N = 0 ∨ M = 0) :
    Calls Try.prog 6 #[.string s, .int .i64 n, .int .i64 m] w fun e w' => e = .returned (.bool true) ∧ Below w.heap.size w w' := by
  have h0 : Caps.newErr 2 0 s = 0 := by unfold Caps.newErr; rw [if_neg (by omega), if_neg (by omega)]
  have h00 := Lib.hid h0
  clear h0
  have HPN := Lib.hid (fun wx : World => pick_any n 60 wx hn (by omega))
  have HPM := Lib.hid (fun wx : World => pick_any m 60 wx hm (by omega))
  rw [hN] at HPN
  rw [hM] at HPM
  clear hN hM hn hm
  go_enter Try.func6, Try.ntmps6
  go_wp2_with fail
  refine (shown_any (At.refl w)).mono ?_
  rintro e w1 ⟨rfl, h1⟩
  have H1 := Lib.hid h1
  clear h1
  go_wp2_with fail
  refine (made_any H1.out 2 0 s h00.out hs').mono ?_
  rintro e w2 ⟨g, rfl, h2⟩
  rw [in_0] at h2
  have H2 := Lib.hid h2
  clear h2
  go_wp2_with fail
  refine (made_any H2.out 2 0 s h00.out hs').mono ?_
  rintro e w3 ⟨x, rfl, h3⟩
  rw [in_0] at h3
  have H3 := Lib.hid h3
  clear h3
  go_wp2_with fail
  refine (HPN.out _).mono ?_
  rintro e w4 ⟨rfl, rfl⟩
  go_wp2_with fail
  refine (HPM.out _).mono ?_
  rintro e w5 ⟨rfl, rfl⟩
  have hpos : (0 : Int) < (s.size : Int) := by omega
  have hpz : ((s.size : Int) == 0) = false := by rw [beq_eq_false_iff_ne]; omega
  go_wp2_with fail
  refine (p_any H3.out.swap _).mono ?_
  rintro e w6 ⟨rfl, h6⟩
  have H6 := Lib.hid h6
  clear h6
  go_wp2_with fail
  refine (p_any H6.out.swap _).mono ?_
  rintro e w7 ⟨rfl, h7⟩
  have H7 := Lib.hid h7
  clear h7
  generalize Caps.accB (inS s 0) 1 _ = b1
  generalize Caps.accE (inS s 0) 1 _ = e1
  generalize Caps.accB (inS s 0) 1 _ = b2
  generalize Caps.accE (inS s 0) 1 _ = e2
  rcases hNM with h | h
  · subst h
    go_wp2
    go_ret
    exact ⟨by simp, H7.out.below⟩
  · subst h
    by_cases hN0 : N = 0
    · subst hN0
      go_wp2
      go_ret
      exact ⟨by simp, H7.out.below⟩
    · have hN1 : ((N : Int) == 0) = false := by rw [beq_eq_false_iff_ne]; omega
      go_wp2
      go_ret
      exact ⟨by simp, H7.out.below⟩

end Go.Proofs.Ytobneijdhedckaa
