/- The law CapsPieces: the first piece ends with a line, or the input with it. Conditions: as written. -/
import Derived.Test.YtobneijdhedckaaCapsPieces
namespace Go.Proofs.Ytobneijdhedckaa
set_option linter.unusedVariables false
open Go.RowKit Go.Lib LawF

set_option maxRecDepth 100000 in
set_option maxHeartbeats 2000000 in
theorem pieces_one (s : ByteArray) (n m : Int) (w : World) (hn : i64ok n) (hm : i64ok m) (N M : Nat) (hN : pickI n 60 = N) (hM : pickI m 60 = M) (hN2 : N < 60) (hM2 : M < 60) (hs' : s.size ≤ 4096) (hz : ¬ s.size = 0) (hNM : ¬ (N = 0 ∨ M = 0)) (hP : cutN s N < takN s N ∨ takN s N = s.size) :
    Calls Try.prog 6 #[.string s, .int .i64 n, .int .i64 m] w fun e w' => e = .returned (.bool true) ∧ Below w.heap.size w w' := by
  have h0 : Caps.newErr 2 0 s = 0 := by unfold Caps.newErr; rw [if_neg (by omega), if_neg (by omega)]
  have h00 := Lib.hid h0
  clear h0
  have HPN := Lib.hid (fun wx : World => pick_any n 60 wx hn (by omega))
  have HPM := Lib.hid (fun wx : World => pick_any m 60 wx hm (by omega))
  rw [hN] at HPN
  rw [hM] at HPM
  clear hN hM hn hm
  go_enter Try.func6, Try.ntmps6
  go_wp2_with fail
  refine (shown_any (At.refl w)).mono ?_
  rintro e w1 ⟨rfl, h1⟩
  have H1 := Lib.hid h1
  clear h1
  go_wp2_with fail
  refine (made_any H1.out 2 0 s h00.out hs').mono ?_
  rintro e w2 ⟨g, rfl, h2⟩
  rw [in_0] at h2
  have H2 := Lib.hid h2
  clear h2
  go_wp2_with fail
  refine (made_any H2.out 2 0 s h00.out hs').mono ?_
  rintro e w3 ⟨x, rfl, h3⟩
  rw [in_0] at h3
  have H3 := Lib.hid h3
  clear h3
  go_wp2_with fail
  refine (HPN.out _).mono ?_
  rintro e w4 ⟨rfl, rfl⟩
  go_wp2_with fail
  refine (HPM.out _).mono ?_
  rintro e w5 ⟨rfl, rfl⟩
  have hpos : (0 : Int) < (s.size : Int) := by omega
  have hpz : ((s.size : Int) == 0) = false := by rw [beq_eq_false_iff_ne]; omega
  have hN0 : 0 < N := by omega
  have hM0 : 0 < M := by omega
  have hN1 : ((N : Int) == 0) = false := by simp; omega
  have hM1 : ((M : Int) == 0) = false := by simp; omega
  have HS := Lib.hid (show (N : Int) + (M : Int) = ((N + M : Nat) : Int) by omega)
  have hclN := cutN_le s N
  have htN := takN_eq s N
  have hclNM := cutN_le s (N + M)
  obtain ⟨q1, q2⟩ := piece_one s N M hP
  have HT1 := Lib.hid (p_acc0 H3.out.swap (N + M) (by omega) (by omega))
  rw [q1, q2] at HT1
  have htk : takN s N ≤ s.size := by rw [htN]; split <;> omega
  have hca : (s.extract 0 (cutN s N)).size = cutN s N := by simp; omega
  have HU := Lib.hid (fun (w6 : World) (h6 : At w w6 [TabA g (inS s (takN s N)), TabA x (inS s 0)]) => p_acc0 h6.swap N hN0 (by omega))
  clear q1 q2 htN hclN hclNM hNM
  generalize takN s N = tk at *
  generalize cutN s N = ct at *
  generalize s.extract 0 ct = S1 at *
  go_wp2_with fail
  rw [HS.out]
  refine HT1.out.mono ?_
  rintro e w6 ⟨rfl, h6⟩
  have H6 := Lib.hid h6
  clear h6
  go_wp2_with fail
  refine (HU.out _ H6.out).mono ?_
  rintro e w7 ⟨rfl, h7⟩
  have H7 := Lib.hid h7
  have HLx := Lib.hid (i_left h7)
  have HLg := Lib.hid (i_left h7.swap)
  clear h7 HU HT1
  have e1 : ((s.size - tk : Nat) : Int) = (s.size : Int) - (tk : Int) := by omega
  go_wp2_with fail
  refine HLx.out.mono ?_
  rintro e w8 ⟨rfl, rfl⟩
  rw [e1]
  by_cases hc : ct < tk
  · have hd : decide ((ct : Int) < (s.size : Int) - ((s.size : Int) - (tk : Int))) = true := by simp; omega
    have hd2 : decide ((ct : Int) < (tk : Int)) = true := by simp; omega
    clear e1
    go_wp2_with fail
    refine HLg.out.mono ?_
    rintro e w9 ⟨rfl, rfl⟩
    go_wp2_with fail
    refine HLx.out.mono ?_
    rintro e w10 ⟨rfl, rfl⟩
    go_wp2
    go_ret
    exact ⟨by simp, H7.out.below⟩
  · have hts : tk = s.size := by omega
    have hd : decide ((ct : Int) < (s.size : Int) - ((s.size : Int) - (tk : Int))) = false := by simp; omega
    have hd2 : decide ((ct : Int) < (tk : Int)) = false := by simp; omega
    have hz2 : ((s.size : Int) - (tk : Int)) = 0 := by omega
    have HZ2 := Lib.hid hz2
    clear hz2 hts
    go_wp2_with fail
    refine HLx.out.mono ?_
    rintro e w9 ⟨rfl, rfl⟩
    rw [e1, HZ2.out]
    clear e1
    go_wp2_with fail
    refine HLg.out.mono ?_
    rintro e w10 ⟨rfl, rfl⟩
    go_wp2_with fail
    refine HLx.out.mono ?_
    rintro e w11 ⟨rfl, rfl⟩
    go_wp2
    go_ret
    exact ⟨by simp, H7.out.below⟩

end Go.Proofs.Ytobneijdhedckaa
