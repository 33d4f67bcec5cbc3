/- The law CapsPieces: the input is empty, or a piece is. Conditions: as written. -/
import Derived.Test.YtobneijdhedckaaCapsPieces
namespace Go.Proofs.Ytobneijdhedckaa
set_option linter.unusedVariables false
open Go.RowKit Go.Lib LawF

section
variable {w0 w : World} {g : Nat} {s : ByteArray} {L : List Asr}
theorem p_e0 (h : At w0 w (TabA g (inS s 0) :: L)) (q : Nat) (hs : s.size = 0) (hq : q = 0) : Calls Try.prog 22 #[.pointer (some ⟨g, 0, none⟩), .int .i64 1, .int .i64 q] w
    (Got1 (.tuple #[.string (Caps.accB (inS s 0) 1 q), .int .i64 0]) (TabA g (Caps.accS (inS s 0) 1 q)) w0 L) := by
  have := p_empty h q hs
  rw [if_pos hq] at this; exact this
theorem p_e18 (h : At w0 w (TabA g (inS s 0) :: L)) (q : Nat) (hs : s.size = 0) (hq : ¬ q = 0) : Calls Try.prog 22 #[.pointer (some ⟨g, 0, none⟩), .int .i64 1, .int .i64 q] w
    (Got1 (.tuple #[.string (Caps.accB (inS s 0) 1 q), .int .i64 18]) (TabA g (Caps.accS (inS s 0) 1 q)) w0 L) := by
  have := p_empty h q hs
  rw [if_neg hq] at this; exact this
end

set_option maxRecDepth 100000 in
set_option maxHeartbeats 2000000 in
theorem pieces_empty0 (s : ByteArray) (n m : Int) (w : World) (hn : i64ok n) (hm : i64ok m) (N M : Nat) (hN : pickI n 60 = N) (hM : pickI m 60 = M) (hN2 : N < 60) (hM2 : M < 60) (hs' : s.size ≤ 4096) (hz : s.size = 0) (h1 : N = 0) (h2 : M = 0) :
    Calls Try.prog 6 #[.string s, .int .i64 n, .int .i64 m] w fun e w' => e = .returned (.bool true) ∧ Below w.heap.size w w' := by
  have h0 : Caps.newErr 2 0 s = 0 := by unfold Caps.newErr; rw [if_neg (by omega), if_neg (by omega)]
  have h00 := Lib.hid h0
  clear h0
  have HPN := Lib.hid (fun wx : World => pick_any n 60 wx hn (by omega))
  have HPM := Lib.hid (fun wx : World => pick_any m 60 wx hm (by omega))
  rw [hN] at HPN
  rw [hM] at HPM
  clear hN hM hn hm
  have HS := Lib.hid (show (N : Int) + (M : Int) = ((N + M : Nat) : Int) by omega)
  have g1 : ¬ ((0 : Int) < (N : Int) + (M : Int)) := by omega
  have g2 : ¬ ((0 : Int) < (N : Int)) := by omega
  have g3 : decide ((0 : Int) < (N : Int) + (M : Int)) = false := decide_eq_false (by omega)
  have g4 : decide ((0 : Int) < (N : Int)) = false := decide_eq_false (by omega)
  have G1 := Lib.hid h1
  have G2 := Lib.hid h2
  clear h1 h2
  have PE := Lib.hid hz
  have hz1 : ((s.size : Int) == 0) = true := by rw [beq_iff_eq]; omega
  have hz2 : ¬ ((0 : Int) < (s.size : Int)) := by omega
  have hz3 : decide ((0 : Int) < (s.size : Int)) = false := decide_eq_false (by omega)
  clear hz
  go_enter Try.func6, Try.ntmps6
  go_wp2_with fail
  refine (shown_any (At.refl w)).mono ?_
  rintro e w1 ⟨rfl, h1⟩
  have H1 := Lib.hid h1
  clear h1
  go_wp2_with fail
  refine (made_any H1.out 2 0 s h00.out hs').mono ?_
  rintro e w2 ⟨g, rfl, h2⟩
  rw [in_0] at h2
  have H2 := Lib.hid h2
  clear h2
  go_wp2_with fail
  refine (made_any H2.out 2 0 s h00.out hs').mono ?_
  rintro e w3 ⟨x, rfl, h3⟩
  rw [in_0] at h3
  have H3 := Lib.hid h3
  clear h3
  go_wp2_with fail
  refine (HPN.out _).mono ?_
  rintro e w4 ⟨rfl, rfl⟩
  go_wp2_with fail
  refine (HPM.out _).mono ?_
  rintro e w5 ⟨rfl, rfl⟩
  go_wp2_with fail
  rw [HS.out]
  refine (p_e0 H3.out.swap (N + M) PE.out (by have := G1.out; have := G2.out; omega)).mono ?_
  rintro e w6 ⟨rfl, h6⟩
  have H6 := Lib.hid h6
  clear h6
  go_wp2_with fail
  refine (p_e0 H6.out.swap N PE.out G1.out).mono ?_
  rintro e w7 ⟨rfl, h7⟩
  have H7 := Lib.hid h7
  clear h7 H6
  generalize Caps.accB (inS s 0) 1 (N + M : Nat) = b1
  generalize Caps.accB (inS s 0) 1 N = b2
  have hz4 := PE.out
  clear hz1 hz2 hz3
  go_wp2
  go_ret
  exact ⟨by have a1 := G1.out; simp; omega, H7.out.below⟩

set_option maxRecDepth 100000 in
set_option maxHeartbeats 2000000 in
theorem pieces_empty1 (s : ByteArray) (n m : Int) (w : World) (hn : i64ok n) (hm : i64ok m) (N M : Nat) (hN : pickI n 60 = N) (hM : pickI m 60 = M) (hN2 : N < 60) (hM2 : M < 60) (hs' : s.size ≤ 4096) (hz : s.size = 0) (h1 : N = 0) (h2 : ¬ M = 0) :
    Calls Try.prog 6 #[.string s, .int .i64 n, .int .i64 m] w fun e w' => e = .returned (.bool true) ∧ Below w.heap.size w w' := by
  have h0 : Caps.newErr 2 0 s = 0 := by unfold Caps.newErr; rw [if_neg (by omega), if_neg (by omega)]
  have h00 := Lib.hid h0
  clear h0
  have HPN := Lib.hid (fun wx : World => pick_any n 60 wx hn (by omega))
  have HPM := Lib.hid (fun wx : World => pick_any m 60 wx hm (by omega))
  rw [hN] at HPN
  rw [hM] at HPM
  clear hN hM hn hm
  have HS := Lib.hid (show (N : Int) + (M : Int) = ((N + M : Nat) : Int) by omega)
  have g1 : ((0 : Int) < (N : Int) + (M : Int)) := by omega
  have g2 : ¬ ((0 : Int) < (N : Int)) := by omega
  have g3 : decide ((0 : Int) < (N : Int) + (M : Int)) = true := decide_eq_true (by omega)
  have g4 : decide ((0 : Int) < (N : Int)) = false := decide_eq_false (by omega)
  have G1 := Lib.hid h1
  have G2 := Lib.hid h2
  clear h1 h2
  have PE := Lib.hid hz
  have hz1 : ((s.size : Int) == 0) = true := by rw [beq_iff_eq]; omega
  have hz2 : ¬ ((0 : Int) < (s.size : Int)) := by omega
  have hz3 : decide ((0 : Int) < (s.size : Int)) = false := decide_eq_false (by omega)
  clear hz
  go_enter Try.func6, Try.ntmps6
  go_wp2_with fail
  refine (shown_any (At.refl w)).mono ?_
  rintro e w1 ⟨rfl, h1⟩
  have H1 := Lib.hid h1
  clear h1
  go_wp2_with fail
  refine (made_any H1.out 2 0 s h00.out hs').mono ?_
  rintro e w2 ⟨g, rfl, h2⟩
  rw [in_0] at h2
  have H2 := Lib.hid h2
  clear h2
  go_wp2_with fail
  refine (made_any H2.out 2 0 s h00.out hs').mono ?_
  rintro e w3 ⟨x, rfl, h3⟩
  rw [in_0] at h3
  have H3 := Lib.hid h3
  clear h3
  go_wp2_with fail
  refine (HPN.out _).mono ?_
  rintro e w4 ⟨rfl, rfl⟩
  go_wp2_with fail
  refine (HPM.out _).mono ?_
  rintro e w5 ⟨rfl, rfl⟩
  go_wp2_with fail
  rw [HS.out]
  refine (p_e18 H3.out.swap (N + M) PE.out (by have := G1.out; have := G2.out; omega)).mono ?_
  rintro e w6 ⟨rfl, h6⟩
  have H6 := Lib.hid h6
  clear h6
  go_wp2_with fail
  refine (p_e0 H6.out.swap N PE.out G1.out).mono ?_
  rintro e w7 ⟨rfl, h7⟩
  have H7 := Lib.hid h7
  clear h7 H6
  generalize Caps.accB (inS s 0) 1 (N + M : Nat) = b1
  generalize Caps.accB (inS s 0) 1 N = b2
  have hz4 := PE.out
  clear hz1 hz2 hz3
  go_wp2
  go_ret
  exact ⟨by have a1 := G1.out; simp; omega, H7.out.below⟩

set_option maxRecDepth 100000 in
set_option maxHeartbeats 2000000 in
theorem pieces_empty2 (s : ByteArray) (n m : Int) (w : World) (hn : i64ok n) (hm : i64ok m) (N M : Nat) (hN : pickI n 60 = N) (hM : pickI m 60 = M) (hN2 : N < 60) (hM2 : M < 60) (hs' : s.size ≤ 4096) (hz : s.size = 0) (h1 : ¬ N = 0) :
    Calls Try.prog 6 #[.string s, .int .i64 n, .int .i64 m] w fun e w' => e = .returned (.bool true) ∧ Below w.heap.size w w' := by
  have h0 : Caps.newErr 2 0 s = 0 := by unfold Caps.newErr; rw [if_neg (by omega), if_neg (by omega)]
  have h00 := Lib.hid h0
  clear h0
  have HPN := Lib.hid (fun wx : World => pick_any n 60 wx hn (by omega))
  have HPM := Lib.hid (fun wx : World => pick_any m 60 wx hm (by omega))
  rw [hN] at HPN
  rw [hM] at HPM
  clear hN hM hn hm
  have HS := Lib.hid (show (N : Int) + (M : Int) = ((N + M : Nat) : Int) by omega)
  have g1 : ((0 : Int) < (N : Int) + (M : Int)) := by omega
  have g2 : ((0 : Int) < (N : Int)) := by omega
  have g3 : decide ((0 : Int) < (N : Int) + (M : Int)) = true := decide_eq_true (by omega)
  have g4 : decide ((0 : Int) < (N : Int)) = true := decide_eq_true (by omega)
  have G1 := Lib.hid h1
  clear h1
  have PE := Lib.hid hz
  have hz1 : ((s.size : Int) == 0) = true := by rw [beq_iff_eq]; omega
  have hz2 : ¬ ((0 : Int) < (s.size : Int)) := by omega
  have hz3 : decide ((0 : Int) < (s.size : Int)) = false := decide_eq_false (by omega)
  clear hz
  go_enter Try.func6, Try.ntmps6
  go_wp2_with fail
  refine (shown_any (At.refl w)).mono ?_
  rintro e w1 ⟨rfl, h1⟩
  have H1 := Lib.hid h1
  clear h1
  go_wp2_with fail
  refine (made_any H1.out 2 0 s h00.out hs').mono ?_
  rintro e w2 ⟨g, rfl, h2⟩
  rw [in_0] at h2
  have H2 := Lib.hid h2
  clear h2
  go_wp2_with fail
  refine (made_any H2.out 2 0 s h00.out hs').mono ?_
  rintro e w3 ⟨x, rfl, h3⟩
  rw [in_0] at h3
  have H3 := Lib.hid h3
  clear h3
  go_wp2_with fail
  refine (HPN.out _).mono ?_
  rintro e w4 ⟨rfl, rfl⟩
  go_wp2_with fail
  refine (HPM.out _).mono ?_
  rintro e w5 ⟨rfl, rfl⟩
  go_wp2_with fail
  rw [HS.out]
  refine (p_e18 H3.out.swap (N + M) PE.out (by have := G1.out; omega)).mono ?_
  rintro e w6 ⟨rfl, h6⟩
  have H6 := Lib.hid h6
  clear h6
  go_wp2_with fail
  refine (p_e18 H6.out.swap N PE.out G1.out).mono ?_
  rintro e w7 ⟨rfl, h7⟩
  have H7 := Lib.hid h7
  clear h7 H6
  generalize Caps.accB (inS s 0) 1 (N + M : Nat) = b1
  generalize Caps.accB (inS s 0) 1 N = b2
  have hz4 := PE.out
  clear hz1 hz2 hz3
  go_wp2
  go_ret
  exact ⟨by have a1 := G1.out; simp; omega, H7.out.below⟩

end Go.Proofs.Ytobneijdhedckaa
