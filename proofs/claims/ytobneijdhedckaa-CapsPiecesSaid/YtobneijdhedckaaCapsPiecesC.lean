/- The law CapsPieces: the first piece ends within a line. Conditions: as written. -/
import Derived.Test.YtobneijdhedckaaCapsPieces
namespace Go.Proofs.Ytobneijdhedckaa
set_option linter.unusedVariables false
open Go.RowKit Go.Lib LawF

set_option maxRecDepth 100000 in
set_option maxHeartbeats 2000000 in
theorem pieces_two (s : ByteArray) (n m : Int) (w : World) (hn : i64ok n) (hm : i64ok m) (N M : Nat) (hN : pickI n 60 = N) (hM : pickI m 60 = M) (hN2 : N < 60) (hM2 : M < 60) (hs' : s.size ≤ 4096) (hz : ¬ s.size = 0) (hNM : ¬ (N = 0 ∨ M = 0)) (hP : ¬ (cutN s N < takN s N ∨ takN s N = s.size)) :
    Calls Try.prog 6 #[.string s, .int .i64 n, .int .i64 m] w fun e w' => e = .returned (.bool true) ∧ Below w.heap.size w w' := by
  have h0 : Caps.newErr 2 0 s = 0 := by unfold Caps.newErr; rw [if_neg (by omega), if_neg (by omega)]
  have h00 := Lib.hid h0
  clear h0
  have HPN := Lib.hid (fun wx : World => pick_any n 60 wx hn (by omega))
  have HPM := Lib.hid (fun wx : World => pick_any m 60 wx hm (by omega))
  rw [hN] at HPN
  rw [hM] at HPM
  clear hN hM hn hm
  go_enter Try.func6, Try.ntmps6
  go_wp2_with fail
  refine (shown_any (At.refl w)).mono ?_
  rintro e w1 ⟨rfl, h1⟩
  have H1 := Lib.hid h1
  clear h1
  go_wp2_with fail
  refine (made_any H1.out 2 0 s h00.out hs').mono ?_
  rintro e w2 ⟨g, rfl, h2⟩
  rw [in_0] at h2
  have H2 := Lib.hid h2
  clear h2
  go_wp2_with fail
  refine (made_any H2.out 2 0 s h00.out hs').mono ?_
  rintro e w3 ⟨x, rfl, h3⟩
  rw [in_0] at h3
  have H3 := Lib.hid h3
  clear h3
  go_wp2_with fail
  refine (HPN.out _).mono ?_
  rintro e w4 ⟨rfl, rfl⟩
  go_wp2_with fail
  refine (HPM.out _).mono ?_
  rintro e w5 ⟨rfl, rfl⟩
  have hpos : (0 : Int) < (s.size : Int) := by omega
  have hpz : ((s.size : Int) == 0) = false := by rw [beq_eq_false_iff_ne]; omega
  have hN0 : 0 < N := by omega
  have hM0 : 0 < M := by omega
  have hN1 : ((N : Int) == 0) = false := by simp; omega
  have hM1 : ((M : Int) == 0) = false := by simp; omega
  have HS := Lib.hid (show (N : Int) + (M : Int) = ((N + M : Nat) : Int) by omega)
  have hclN := cutN_le s N
  have htN := takN_eq s N
  have hclNM := cutN_le s (N + M)
  obtain ⟨q1, q2, q3, q4, q5⟩ := piece_two s N M hP
  have HT1 := Lib.hid (p_acc0 H3.out.swap (N + M) (by omega) (by omega))
  rw [q4, q5] at HT1
  have HU := Lib.hid (fun (w6 : World) (h6 : At w w6 [TabA g (inS s (N + takN (s.extract N s.size) M)), TabA x (inS s 0)]) => p_acc0 h6.swap N hN0 (by omega))
  rw [q1, q2] at HU
  have HV := Lib.hid (fun (w7 : World) (h7 : At w w7 [TabA x (inS s N), TabA g (inS s (N + takN (s.extract N s.size) M))]) => p_acc h7 q3 M hM0)
  have hR : (s.extract N s.size).size = s.size - N := by simp
  have hcl := cutN_le (s.extract N s.size) M
  have htl := takN_eq (s.extract N s.size) M
  have htk : N + takN (s.extract N s.size) M ≤ s.size := by rw [htl]; split <;> omega
  have hcat : s.extract 0 N ++ (s.extract N s.size).extract 0 (cutN (s.extract N s.size) M) = s.extract 0 (N + cutN (s.extract N s.size) M) := by
    apply Caps.ext
    simp only [ByteArray.data_append, Array.toList_append]
    rw [Lib.extract_data s 0 N, Lib.extract_data (s.extract N s.size) 0 _, drop_end, Lib.extract_data s 0 (N + _)]
    simp only [List.drop_zero, Nat.sub_zero]
    rw [List.take_add]
  have hs1 : (s.extract 0 N).size = N := by simp; omega
  have hs2 : ((s.extract N s.size).extract 0 (cutN (s.extract N s.size) M)).size ≤ s.size := by simp; omega
  clear q1 q2 q4 q5 htN hclN hclNM hNM hP hR hcl htl
  generalize N + takN (s.extract N s.size) M = tk at *
  generalize (s.extract N s.size).extract 0 (cutN (s.extract N s.size) M) = S2 at *
  generalize s.extract 0 (N + cutN (s.extract N s.size) M) = S12 at *
  generalize s.extract 0 N = S1 at *
  have HC := Lib.hid hcat
  clear hcat
  go_wp2_with fail
  rw [HS.out]
  refine HT1.out.mono ?_
  rintro e w6 ⟨rfl, h6⟩
  have H6 := Lib.hid h6
  clear h6
  go_wp2_with fail
  refine (HU.out _ H6.out).mono ?_
  rintro e w7 ⟨rfl, h7⟩
  have H7 := Lib.hid h7
  have HLx := Lib.hid (i_left h7)
  clear h7 HU HT1
  have e1 : ((s.size - N : Nat) : Int) = (s.size : Int) - (N : Int) := by omega
  go_wp2_with fail
  refine HLx.out.mono ?_
  rintro e w8 ⟨rfl, rfl⟩
  rw [e1]
  have hd : decide ((N : Int) < (s.size : Int) - ((s.size : Int) - (N : Int))) = false := by simp; omega
  have hnz : ((s.size : Int) - (N : Int) == 0) = false := by simp; omega
  go_wp2_with fail
  refine HLx.out.mono ?_
  rintro e w9 ⟨rfl, rfl⟩
  rw [e1]
  clear e1
  go_wp2_with fail
  refine (HV.out _ H7.out).mono ?_
  rintro e w10 ⟨rfl, h10⟩
  have H10 := Lib.hid h10
  have HLx2 := Lib.hid (i_left h10)
  have HLg2 := Lib.hid (i_left h10.swap)
  clear h10 HV hd hnz
  have hcs : S1.size + S2.size ≤ 9223372036854775807 := by omega
  have hcat := HC.out
  go_wp2_with fail
  refine HLg2.out.mono ?_
  rintro e w11 ⟨rfl, rfl⟩
  go_wp2_with fail
  refine HLx2.out.mono ?_
  rintro e w12 ⟨rfl, rfl⟩
  go_wp2
  go_ret
  exact ⟨by simp, H10.out.below⟩

end Go.Proofs.Ytobneijdhedckaa
