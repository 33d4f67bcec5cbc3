/- The law CapsPieces: its parts joined. Conditions: as written. -/
import Derived.Test.YtobneijdhedckaaCapsPiecesA
import Derived.Test.YtobneijdhedckaaCapsPiecesB
import Derived.Test.YtobneijdhedckaaCapsPiecesC
import Derived.Test.YtobneijdhedckaaCapsPiecesZ
namespace Go.Proofs.Ytobneijdhedckaa
set_option linter.unusedVariables false
open Go.RowKit Go.Lib LawF

set_option maxRecDepth 100000 in
set_option maxHeartbeats 2000000 in
theorem pieces_long (s : ByteArray) (n m : Int) (w : World) (hs : 4096 < s.size) :
    Calls Try.prog 6 #[.string s, .int .i64 n, .int .i64 m] w fun e w' => e = .returned (.bool true) ∧ Below w.heap.size w w' := by
  go_enter Try.func6, Try.ntmps6
  go_wp2_with fail
  refine (shown_any (At.refl w)).mono ?_
  rintro e w1 ⟨rfl, h1⟩
  have H1 := Lib.hid h1
  clear h1
  go_wp2
  go_ret
  exact ⟨rfl, H1.out.below⟩

theorem pieces_any (s : ByteArray) (n m : Int) (w : World) (hn : i64ok n) (hm : i64ok m) :
    Calls Try.prog 6 #[.string s, .int .i64 n, .int .i64 m] w fun e w' => e = .returned (.bool true) ∧ Below w.heap.size w w' := by
  by_cases hs : 4096 < s.size
  · exact pieces_long s n m w hs
  have hs' : s.size ≤ 4096 := by omega
  have hp := pickI_lt (c := n) (n := 60) (by omega)
  have hp' := pickI_lt (c := m) (n := 60) (by omega)
  obtain ⟨N, hN⟩ : ∃ N : Nat, pickI n 60 = N := ⟨(pickI n 60).toNat, by omega⟩
  obtain ⟨M, hM⟩ : ∃ M : Nat, pickI m 60 = M := ⟨(pickI m 60).toNat, by omega⟩
  have hN2 : N < 60 := by omega
  have hM2 : M < 60 := by omega
  by_cases hz : s.size = 0
  · by_cases h1 : N = 0
    · by_cases h2 : M = 0
      · exact pieces_empty0 s n m w hn hm N M hN hM hN2 hM2 hs' hz h1 h2
      · exact pieces_empty1 s n m w hn hm N M hN hM hN2 hM2 hs' hz h1 h2
    · exact pieces_empty2 s n m w hn hm N M hN hM hN2 hM2 hs' hz h1
  · by_cases hNM : N = 0 ∨ M = 0
    · exact pieces_zero s n m w hn hm N M hN hM hN2 hM2 hs' hz hNM
    · by_cases hP : cutN s N < takN s N ∨ takN s N = s.size
      · exact pieces_one s n m w hn hm N M hN hM hN2 hM2 hs' hz hNM hP
      · exact pieces_two s n m w hn hm N M hN hM hN2 hM2 hs' hz hNM hP
end Go.Proofs.Ytobneijdhedckaa
