/- The document's words of a text: the next word, up to a byte, to the line's end. Condition: the text is no longer than a machine's memory. -/
import Derived.Test.YthejfkkmcbdlhaaGreatDoorQSpec
import Derived.Test.YthejfkkmcbdlhaaGreatDoorQNum
import Derived.Test.YthejfkkmcbdlhaaGreatDoorQScan
import Derived.OwnWalk
import Derived.Test.YthejfkkmcbdlhaaGreatDoorQMap
import Derived.Test.YthejfkkmcbdlhaaGreatDoorQDefa
import Derived.Deep.DrawnRows
namespace Go.Proofs.YthejfkkmcbdlhaaGreatDoor
set_option linter.unusedVariables false
set_option maxRecDepth 100000
open Go.RowKit Go.Lib
namespace Look
theorem d_long (s : ByteArray) (w : World) : Calls Tryz.prog 27 #[.string s] w (Same (.bool (decide (60000 < s.size))) w) := by
  go_enter Tryz.func27, Tryz.ntmps27
  go_wp2
  all_goals go_ret
  all_goals exact ⟨by simp; omega, rfl⟩
theorem d_word (s : ByteArray) (hs : s.size ≤ 140737488355327) (i : Nat) (hi : i ≤ s.size) (w : World) :
    Calls Tryz.prog 72 #[.string s, .int .i64 (i : Int)] w (Same (.tuple #[.string (s.extract (wordFrom s.data.toList i) (wordTo s.data.toList i)), .int .i64 ((wordEnd s.data.toList i : Int) - (i : Int))]) w) := by
  have hl : s.data.toList.length = s.size := by rw [Lib.size_eq]
  have ia := fun (j : Nat) (h : j < s.size) => idx_str s j h
  obtain ⟨A, hA⟩ : ∃ A, wordFrom s.data.toList i = A := ⟨_, rfl⟩
  obtain ⟨B, hB⟩ : ∃ B, wordTo s.data.toList i = B := ⟨_, rfl⟩
  have hAi : i ≤ A := by rw [← hA]; exact le_goesTo _ _ _
  have hAs : A ≤ s.size := by rw [← hA, ← hl]; exact goesTo_le (by rw [hl]; exact hi)
  have hAB : A ≤ B := by rw [← hB, ← hA]; exact le_goesTo _ _ _
  have hBs : B ≤ s.size := by rw [← hB, ← hl]; unfold wordTo; rw [hA]; exact goesTo_le (by rw [hl]; exact hAs)
  have hE : wordEnd s.data.toList i = if B < s.size then B + 1 else B := by unfold wordEnd stepTo; rw [hB, hl]
  have hB2 : goesTo isHigh s.data.toList A = B := by rw [← hB]; unfold wordTo; rw [hA]
  have hA2 : goesTo isLow s.data.toList i = A := hA
  obtain ⟨E, hEE⟩ : ∃ E, wordEnd s.data.toList i = E := ⟨_, rfl⟩
  rw [hEE] at hE
  rw [hA, hB, hEE]
  clear hA hB hEE
  replace hE := Lib.hid hE
  replace ia := Lib.hid ia
  replace hl := Lib.hid hl
  replace hA2 := Lib.hid hA2
  replace hB2 := Lib.hid hB2
  go_enter Tryz.func72, Tryz.ntmps72
  go_wp2
  go_loopw [6] (fun k wr => ∃ j : Nat, i ≤ j ∧ j ≤ s.size ∧ k = .int .i64 (j : Int) ∧ wr = w ∧ goesTo isLow s.data.toList j = A) (fun k _ => s.size - (RowKit.intOf k).toNat)
  case atStart => exact ⟨i, by omega, by omega, rfl, rfl, hA2.out⟩
  case round =>
    obtain ⟨j, hij, hj, rfl, rfl, hg⟩ := hrel
    replace hg := Lib.hid hg
    by_cases hlt : j < s.size
    · have hx := ia.out j hlt wr
      obtain ⟨c, hc⟩ : ∃ c, s.data.toList.getD j 0 = c := ⟨_, rfl⟩
      rw [hc] at hx
      obtain ⟨n, hn⟩ : ∃ n, c.toNat = n := ⟨_, rfl⟩
      rw [hn] at hx
      replace hc := Lib.hid hc
      replace hn := Lib.hid hn
      by_cases c1 : n ≤ 32
      · have t3 : decide ((n : Int) ≤ 32) = true := by rw [decide_eq_true_eq]; omega
        replace c1 := Lib.hid c1
        go_wp2
        go_roundw
        case rel => exact ⟨j + 1, by omega, by omega, by go_num, by first | rfl | trivial, by rw [goesTo_next (by rw [hl.out]; exact hlt) (by rw [hc.out]; unfold isLow; rw [hn.out]; simpa using c1.out)]; exact hg.out⟩
        case measure => simp [RowKit.intOf]; omega
      · have t3 : decide ((n : Int) ≤ 32) = false := by rw [decide_eq_false_iff_not]; omega
        have hjA : j = A := by rw [← hg.out]; exact (goesTo_stop (.inr (by rw [hc.out]; unfold isLow; rw [hn.out]; simpa using c1))).symm
        subst hjA
        replace c1 := Lib.hid c1
        go_wp2
        go_loopw [6] (fun k wx => ∃ q : Nat, j ≤ q ∧ q ≤ s.size ∧ k = .int .i64 (q : Int) ∧ wx = wr ∧ goesTo isHigh s.data.toList q = B) (fun k _ => s.size - (RowKit.intOf k).toNat)
        case atStart => exact ⟨j, by omega, by omega, rfl, rfl, hB2.out⟩
        case round =>
          clear hx t3
          obtain ⟨q, hjq, hq, rfl, rfl, hg2⟩ := hrel
          replace hg2 := Lib.hid hg2
          by_cases hlt2 : q < s.size
          · have hx := ia.out q hlt2 wr
            obtain ⟨c', hc'⟩ : ∃ c, s.data.toList.getD q 0 = c := ⟨_, rfl⟩
            rw [hc'] at hx
            obtain ⟨m, hm⟩ : ∃ n, c'.toNat = n := ⟨_, rfl⟩
            rw [hm] at hx
            replace hc' := Lib.hid hc'
            replace hm := Lib.hid hm
            by_cases c2 : m ≤ 32
            · have t3 : decide ((m : Int) > 32) = false := by rw [decide_eq_false_iff_not]; omega
              have hqB : q = B := by rw [← hg2.out]; exact (goesTo_stop (.inr (by rw [hc'.out]; unfold isHigh; rw [hm.out]; simpa using c2))).symm
              subst hqB
              have hE1 : E = q + 1 := by have := hE.out; rw [if_pos hlt2] at this; exact this
              subst hE1
              replace c2 := Lib.hid c2
              go_wp2
              go_ret2
              exact ⟨by simp; try omega, rfl⟩
            · have t3 : decide ((m : Int) > 32) = true := by rw [decide_eq_true_eq]; omega
              replace c2 := Lib.hid c2
              go_wp2
              go_roundw
              case rel => exact ⟨q + 1, by omega, by omega, by go_num, by first | rfl | trivial, by rw [goesTo_next (by rw [hl.out]; exact hlt2) (by rw [hc'.out]; unfold isHigh; rw [hm.out]; have := c2.out; simp; omega)]; exact hg2.out⟩
              case measure => simp [RowKit.intOf]; omega
          · have hqs : q = s.size := by omega
            have hqB : q = B := by rw [← hg2.out]; exact (goesTo_stop (.inl (by rw [hl.out]; omega))).symm
            subst hqB
            have hE1 : E = q := by have := hE.out; rw [if_neg hlt2] at this; exact this
            subst hE1
            subst hqs
            go_wp2
            go_ret2
            exact ⟨by simp; try omega, rfl⟩
    · have hjs : j = s.size := by omega
      have hjA : j = A := by rw [← hg.out]; exact (goesTo_stop (.inl (by rw [hl.out]; omega))).symm
      subst hjA
      have hBj : B = j := by rw [← hB2.out]; exact goesTo_stop (.inl (by rw [hl.out]; omega))
      have hE1 : E = j := by have := hE.out; rw [if_neg (by omega)] at this; omega
      subst hjs
      subst hBj
      subst hE1
      clear hg hB2 hA2
      go_wp2
      go_loopw [6] (fun k wx => k = .int .i64 (s.size : Int) ∧ wx = wr) (fun _ _ => 0)
      case atStart => exact ⟨rfl, rfl⟩
      case round =>
        obtain ⟨rfl, rfl⟩ := hrel
        go_wp2
        go_ret2
        exact ⟨by simp; try omega, rfl⟩
/-- how far a reader goes on -/
def howFar (i : Nat) : Option Nat → Int
  | some j => (j : Int) - (i : Int)
  | none => 0
/-- what stands ahead of the byte -/
def untilV (s : ByteArray) (i : Nat) : Option Nat → Value
  | some j => .string (s.extract i (j - 1))
  | none => .string ⟨#[]⟩
theorem d_until (s : ByteArray) (hs : s.size ≤ 140737488355327) (i : Nat) (hi : i ≤ s.size) (b : UInt8) (w : World) :
    Calls Tryz.prog 80 #[.string s, .int .i64 (i : Int), .int .u8 (b.toNat : Int)] w (Same (.tuple #[untilV s i (untilEnd b s.data.toList i), .int .i64 (howFar i (untilEnd b s.data.toList i)), .bool (untilEnd b s.data.toList i).isSome]) w) := by
  have hl : s.data.toList.length = s.size := by rw [Lib.size_eq]
  have ia := fun (j : Nat) (h : j < s.size) => idx_str s j h
  obtain ⟨A, hA⟩ : ∃ A, goesTo (notB b) s.data.toList i = A := ⟨_, rfl⟩
  have hAi : i ≤ A := by rw [← hA]; exact le_goesTo _ _ _
  have hAs : A ≤ s.size := by rw [← hA, ← hl]; exact goesTo_le (by rw [hl]; exact hi)
  have hU : untilEnd b s.data.toList i = if A < s.size then some (A + 1) else none := by unfold untilEnd; rw [hA, hl]
  obtain ⟨U, hUU⟩ : ∃ U, untilEnd b s.data.toList i = U := ⟨_, rfl⟩
  rw [hUU] at hU
  rw [hUU]
  obtain ⟨M, hM⟩ : ∃ M : Int, howFar i U = M := ⟨_, rfl⟩
  rw [hM]
  obtain ⟨V, hV⟩ : ∃ V : Value, untilV s i U = V := ⟨_, rfl⟩
  rw [hV]
  obtain ⟨bn, hbn⟩ : ∃ n, b.toNat = n := ⟨_, rfl⟩
  rw [hbn]
  clear hUU
  replace ia := Lib.hid ia
  replace hl := Lib.hid hl
  replace hA := Lib.hid hA
  replace hU := Lib.hid hU
  replace hM := Lib.hid hM
  replace hV := Lib.hid hV
  replace hbn := Lib.hid hbn
  go_enter Tryz.func80, Tryz.ntmps80
  go_wp2
  go_loopw [9] (fun k wr => ∃ j : Nat, i ≤ j ∧ j ≤ s.size ∧ k = .int .i64 (j : Int) ∧ wr = w ∧ goesTo (notB b) s.data.toList j = A) (fun k _ => s.size - (RowKit.intOf k).toNat)
  case atStart => exact ⟨i, by omega, by omega, rfl, rfl, hA.out⟩
  case round =>
    obtain ⟨j, hij, hj, rfl, rfl, hg⟩ := hrel
    replace hg := Lib.hid hg
    by_cases hlt : j < s.size
    · have hx := ia.out j hlt wr
      obtain ⟨c, hc⟩ : ∃ c, s.data.toList.getD j 0 = c := ⟨_, rfl⟩
      rw [hc] at hx
      obtain ⟨n, hn⟩ : ∃ n, c.toNat = n := ⟨_, rfl⟩
      rw [hn] at hx
      replace hc := Lib.hid hc
      replace hn := Lib.hid hn
      by_cases c1 : n = bn
      · have t3 : ((n : Int) == (bn : Int)) = true := by rw [beq_iff_eq]; omega
        have hcb : c = b := UInt8.toNat_inj.1 (by rw [hn.out, hbn.out]; exact c1)
        have hjA : j = A := by rw [← hg.out]; exact (goesTo_stop (.inr (by rw [hc.out, hcb]; simp [notB]))).symm
        subst hjA
        have hU1 : U = some (j + 1) := by rw [hU.out, if_pos hlt]
        subst hU1
        have hM1 : M = ((j + 1 : Nat) : Int) - i := hM.out.symm
        subst hM1
        have hV1 : V = .string (s.extract i j) := hV.out.symm
        subst hV1
        clear hU hM hV
        replace hcb := Lib.hid hcb
        replace c1 := Lib.hid c1
        go_wp2
        go_ret3
        exact ⟨by simp, rfl⟩
      · have t3 : ((n : Int) == (bn : Int)) = false := by rw [beq_eq_false_iff_ne]; omega
        have hcb : c ≠ b := fun h => c1 (by rw [← hn.out, ← hbn.out, h])
        replace c1 := Lib.hid c1
        replace hcb := Lib.hid hcb
        go_wp2
        go_roundw
        case rel => exact ⟨j + 1, by omega, by omega, by go_num, by first | rfl | trivial, by rw [goesTo_next (by rw [hl.out]; exact hlt) (by rw [hc.out]; simpa [notB] using hcb.out)]; exact hg.out⟩
        case measure => simp [RowKit.intOf]; omega
    · have hjs : j = s.size := by omega
      have hjA : j = A := by rw [← hg.out]; exact (goesTo_stop (.inl (by rw [hl.out]; omega))).symm
      subst hjA
      have hU1 : U = none := by rw [hU.out, if_neg hlt]
      subst hU1
      have hM1 : M = 0 := hM.out.symm
      subst hM1
      have hV1 : V = .string ⟨#[]⟩ := hV.out.symm
      subst hV1
      clear hU hM hV
      go_wp2
      go_ret3
      exact ⟨rfl, rfl⟩
theorem d_rest (s : ByteArray) (hs : s.size ≤ 140737488355327) (i : Nat) (hi : i ≤ s.size) (w : World) :
    Calls Tryz.prog 79 #[.string s, .int .i64 (i : Int)] w (Same (.int .i64 ((restEnd s.data.toList i : Int) - (i : Int))) w) := by
  have hl : s.data.toList.length = s.size := by rw [Lib.size_eq]
  have ia := fun (j : Nat) (h : j < s.size) => idx_str s j h
  obtain ⟨A, hA⟩ : ∃ A, goesTo notLf s.data.toList i = A := ⟨_, rfl⟩
  have hAi : i ≤ A := by rw [← hA]; exact le_goesTo _ _ _
  have hAs : A ≤ s.size := by rw [← hA, ← hl]; exact goesTo_le (by rw [hl]; exact hi)
  have hE : restEnd s.data.toList i = if A < s.size then A + 1 else A := by unfold restEnd stepTo; rw [hA, hl]
  obtain ⟨E, hEE⟩ : ∃ E, restEnd s.data.toList i = E := ⟨_, rfl⟩
  rw [hEE] at hE
  rw [hEE]
  clear hEE
  replace ia := Lib.hid ia
  replace hl := Lib.hid hl
  replace hA := Lib.hid hA
  replace hE := Lib.hid hE
  go_enter Tryz.func79, Tryz.ntmps79
  go_wp2
  go_loopw [5] (fun k wr => ∃ j : Nat, i ≤ j ∧ j ≤ s.size ∧ k = .int .i64 (j : Int) ∧ wr = w ∧ goesTo notLf s.data.toList j = A) (fun k _ => s.size - (RowKit.intOf k).toNat)
  case atStart => exact ⟨i, by omega, by omega, rfl, rfl, hA.out⟩
  case round =>
    obtain ⟨j, hij, hj, rfl, rfl, hg⟩ := hrel
    replace hg := Lib.hid hg
    by_cases hlt : j < s.size
    · have hx := ia.out j hlt wr
      obtain ⟨c, hc⟩ : ∃ c, s.data.toList.getD j 0 = c := ⟨_, rfl⟩
      rw [hc] at hx
      obtain ⟨n, hn⟩ : ∃ n, c.toNat = n := ⟨_, rfl⟩
      rw [hn] at hx
      replace hc := Lib.hid hc
      replace hn := Lib.hid hn
      by_cases c1 : n = 10
      · have t3 : ((n : Int) == 10) = true := by rw [beq_iff_eq]; omega
        have hcb : c = 10 := UInt8.toNat_inj.1 (by rw [hn.out]; exact c1)
        have hjA : j = A := by rw [← hg.out]; exact (goesTo_stop (.inr (by rw [hc.out, hcb]; rfl))).symm
        subst hjA
        have hE1 : E = j + 1 := by have := hE.out; rw [if_pos hlt] at this; exact this
        subst hE1
        replace hcb := Lib.hid hcb
        replace c1 := Lib.hid c1
        go_wp2
        go_ret
        exact ⟨by simp; try omega, rfl⟩
      · have t3 : ((n : Int) == 10) = false := by rw [beq_eq_false_iff_ne]; omega
        have hcb : notLf c = true := by unfold notLf; rw [hn.out]; simpa using c1
        replace c1 := Lib.hid c1
        replace hcb := Lib.hid hcb
        go_wp2
        go_roundw
        case rel => exact ⟨j + 1, by omega, by omega, by go_num, by first | rfl | trivial, by rw [goesTo_next (by rw [hl.out]; exact hlt) (by rw [hc.out]; exact hcb.out)]; exact hg.out⟩
        case measure => simp [RowKit.intOf]; omega
    · have hjs : j = s.size := by omega
      have hjA : j = A := by rw [← hg.out]; exact (goesTo_stop (.inl (by rw [hl.out]; omega))).symm
      subst hjA
      have hE1 : E = j := by have := hE.out; rw [if_neg hlt] at this; exact this
      subst hE1
      go_wp2
      go_ret
      exact ⟨by simp; try omega, rfl⟩
end Look
end Go.Proofs.YthejfkkmcbdlhaaGreatDoor
/- The document's open definition as an object in memory: its name, its struct's cells whatever they hold, its row of things. Plain lemmas and the small methods' walks. -/
namespace Go.Proofs.YthejfkkmcbdlhaaGreatDoor
set_option linter.unusedVariables false
open Go.RowKit Go.Lib
namespace Look
def ddC (nm : List UInt8) (kn : Bool) (nd : Int) (lo : Bool) (n h r : Int) (dd : Bool) (v : Value) (en : Bool) (hh : Int) : Array Value := #[.string ⟨nm.toArray⟩, .bool kn, .int .i64 nd, .bool lo, .int .i64 n, .int .i64 h, .int .i64 r, .bool dd, v, .bool en, .int .i64 hh]
/-- an open definition of that name, its things in a row -/
def DdB (g : Nat) (nm : List UInt8) (l : List Open) (v : Value) : Asr where
  holds w F := (∃ kn nd lo n h r dd en hh, Blk w g 101 (ddC nm kn nd lo n h r dd v en hh)) ∧ w.ownsRow 0 167 8 v l.length (stackC l) ∧ v.ownBlock ≠ some g ∧ ∀ k, F k ↔ k = g ∨ v.ownBlock = some k
  lt := by
    rintro w F k ⟨⟨kn, nd, lo, n, h, r, dd, en, hh, hb⟩, hr, hne, hF⟩ hk
    rcases (hF k).1 hk with rfl | h1
    · exact hb.lt
    · exact (hr.lt _ h1).2
  kept := by
    rintro w w' F T ⟨⟨kn, nd, lo, n, h, r, dd, en, hh, hb⟩, hr, hne, hF⟩ hk hT
    exact ⟨⟨kn, nd, lo, n, h, r, dd, en, hh, hb.kept hk (hT _ ((hF _).2 (.inl rfl)))⟩, ownsRow_of_block hr fun k hv => hk.block k (hr.lt _ hv).2 (hT k ((hF k).2 (.inr hv))), hne, hF⟩
/-- which cells may be written, and with what -/
def Fits (i : Nat) (u : Value) : Prop := (i = 1 ∨ i = 3 ∨ i = 7 ∨ i = 9) ∧ (∃ b, u = .bool b) ∨ (i = 2 ∨ i = 4 ∨ i = 5 ∨ i = 6 ∨ i = 10) ∧ ∃ x, u = .int .i64 x
theorem Fits.b {i : Nat} (h : i = 1 ∨ i = 3 ∨ i = 7 ∨ i = 9) (b : Bool) : Fits i (.bool b) := .inl ⟨h, b, rfl⟩
theorem Fits.n {i : Nat} (h : i = 2 ∨ i = 4 ∨ i = 5 ∨ i = 6 ∨ i = 10) (x : Int) : Fits i (.int .i64 x) := .inr ⟨h, x, rfl⟩
section
variable {w w' : World} {F : Nat → Prop} {g : Nat} {nm : List UInt8} {l : List Open} {v : Value}
theorem DdB.set (h : On F w (DdB g nm l v) w') (i : Nat) (u : Value) (hu : Fits i u) : On F w (DdB g nm l v) (w'.setCell ⟨g, i, none⟩ u) := by
  refine h.step fun F' hd => ?_
  obtain ⟨⟨kn, nd, lo, n, h, r, dd, en, hh, hb⟩, hr, hne, hF⟩ := hd
  refine ⟨F', ⟨?_, ownsRow_of_block hr fun k hv => Below.heap_setCell _ _ _ _ (fun e => hne (by subst e; exact hv)), hne, hF⟩, kept_setAt (Kept.refl F' w') ((hF g).2 (.inl rfl)) i u, fun k h => .inl h⟩
  have hs := hb.set_ i u
  rcases hu with ⟨hi, b, rfl⟩ | ⟨hi, x, rfl⟩
  · rcases hi with rfl | rfl | rfl | rfl
    · exact ⟨b, nd, lo, n, h, r, dd, en, hh, hs⟩
    · exact ⟨kn, nd, b, n, h, r, dd, en, hh, hs⟩
    · exact ⟨kn, nd, lo, n, h, r, b, en, hh, hs⟩
    · exact ⟨kn, nd, lo, n, h, r, dd, b, hh, hs⟩
  · rcases hi with rfl | rfl | rfl | rfl | rfl
    · exact ⟨kn, x, lo, n, h, r, dd, en, hh, hs⟩
    · exact ⟨kn, nd, lo, x, h, r, dd, en, hh, hs⟩
    · exact ⟨kn, nd, lo, n, x, r, dd, en, hh, hs⟩
    · exact ⟨kn, nd, lo, n, h, x, dd, en, hh, hs⟩
    · exact ⟨kn, nd, lo, n, h, r, dd, en, x, hs⟩
end
theorem d_bad (g : Nat) (nm : List UInt8) (l : List Open) (v : Value) (w : World) (F : Nat → Prop) (hb : (DdB g nm l v).holds w F) :
    Calls Tryz.prog 81 #[.pointer (some ⟨g, 0, none⟩)] w (Post (fun u B => u = .tuple #[] ∧ B = DdB g nm l v) F w) := by
  have hon := On.refl hb
  obtain ⟨⟨kn, nd, lo, n, h, r, dd, en, hh, hk⟩, -⟩ := hb
  have f1 := hk.frozen 1
  have c1 := hk.cell 1
  simp [ddC] at c1
  clear hk
  replace hon := Lib.hid hon
  go_enter Tryz.func81, Tryz.ntmps81
  go_wp2
  go_end0
  exact (DdB.set hon.out 1 _ (.b (by simp) _)).post ⟨rfl, rfl⟩
set_option maxHeartbeats 2000000 in
theorem d_takes (g : Nat) (nm : List UInt8) (l : List Open) (v : Value) (t u : Int) (w : World) (F : Nat → Prop) (hb : (DdB g nm l v).holds w F) :
    Calls Tryz.prog 83 #[.pointer (some ⟨g, 0, none⟩), .int .i64 t, .int .i64 u] w (Post (fun u B => u = .tuple #[] ∧ B = DdB g nm l v) F w) := by
  have hon := On.refl hb
  obtain ⟨⟨kn, nd, lo, n, h, r, dd, en, hh, hk⟩, -⟩ := hb
  have f4 := hk.frozen 4
  have f5 := hk.frozen 5
  have c4 := hk.cell 4
  have c5 := hk.cell 5
  have c7 := hk.cell 7
  simp [ddC] at c4 c5 c7
  clear hk
  replace hon := Lib.hid hon
  cases dd
  · by_cases hg : n < wrap64 (t - h)
    · have tg : decide (n < wrap64 (t - h)) = true := by rw [decide_eq_true_eq]; exact hg
      replace hg := Lib.hid hg
      go_enter Tryz.func83, Tryz.ntmps83
      go_wp2
      go_quiet (fail)
      go_wp2
      go_end0
      exact (DdB.set ((DdB.set (hon.out.drewN _) 4 _ (.n (by simp) _))) 5 _ (.n (by simp) _)).post ⟨rfl, rfl⟩
    · have tg : decide (n < wrap64 (t - h)) = false := by rw [decide_eq_false_iff_not]; exact hg
      replace hg := Lib.hid hg
      go_enter Tryz.func83, Tryz.ntmps83
      go_wp2
      go_quiet (fail)
      go_wp2
      go_end0
      exact (DdB.set (hon.out.drewN _) 5 _ (.n (by simp) _)).post ⟨rfl, rfl⟩
  · go_enter Tryz.func83, Tryz.ntmps83
    go_wp2
    go_end0
    exact hon.out.post ⟨rfl, rfl⟩
end Look
end Go.Proofs.YthejfkkmcbdlhaaGreatDoor
/- The document's joined and opens. No condition but that fewer things are open than a text has bytes. -/
namespace Go.Proofs.YthejfkkmcbdlhaaGreatDoor
set_option linter.unusedVariables false
open Go.RowKit Go.Lib
namespace Look
set_option maxHeartbeats 2000000 in
theorem d_joined (g : Nat) (nm : List UInt8) (l : List Open) (v : Value) (a b : St) (w : World) (F : Nat → Prop) (hb : (DdB g nm l v).holds w F) :
    Calls Tryz.prog 140 #[.pointer (some ⟨g, 0, none⟩), stV a, stV b] w (Post (fun u B => ∃ s, u = stV s ∧ B = DdB g nm l v) F w) := by
  have hon := On.refl hb
  have hbad := fun w1 F' hb' => d_bad g nm l v w1 F' hb'
  obtain ⟨ah, ar, ad⟩ := a
  obtain ⟨bh, br, bd⟩ := b
  unfold stV stC
  have o1 := On.boxA hon.one #[.int .i64 ah, .int .i64 ar, .bool ad] 98
  have o2 := On.boxA o1 #[.int .i64 bh, .int .i64 br, .bool bd] 98
  have hz1 : (w.alloc (.cells #[.int .i64 ah, .int .i64 ar, .bool ad] 98)).heap.size = w.heap.size + 1 := by simp
  have hz2 : ((w.alloc (.cells #[.int .i64 ah, .int .i64 ar, .bool ad] 98)).alloc (.cells #[.int .i64 bh, .int .i64 br, .bool bd] 98)).heap.size = w.heap.size + 1 + 1 := by simp
  have oa := On.boxA o2 #[.int .i64 ah, .int .i64 ar, .bool ad] 98
  have ob := On.boxA o2 #[.int .i64 bh, .int .i64 br, .bool bd] 98
  have oz := On.boxA o2 #[.int .i64 0, .int .i64 0, .bool false] 98
  rw [hz1, hz2] at oa ob oz
  have a0 := oa.blkA.cell 0
  have a1 := oa.blkA.cell 1
  have a2 := oa.blkA.cell 2
  have b0 := ob.blkA.cell 0
  have b1 := ob.blkA.cell 1
  have b2 := ob.blkA.cell 2
  simp at a0 a1 a2 b0 b1 b2
  clear o1 o2 hon hb hz1 hz2
  replace oa := Lib.hid oa
  replace ob := Lib.hid ob
  replace oz := Lib.hid oz
  replace hbad := Lib.hid hbad
  cases ad
  · cases bd
    · by_cases e : ah = bh ∧ ar = br
      · obtain ⟨rfl, rfl⟩ := e
        go_enter Tryz.func140, Tryz.ntmps140
        go_wp2
        refine bodyPost_ret (v := .agg #[Value.int IntKind.i64 ah, Value.int IntKind.i64 ar, Value.bool false]) (by simp [results, Tryz.results140, go_sem, a0, a1, a2]) rfl ?_
        exact (oa.out.tailA.tailA.tailA.headA).post ⟨⟨ah, ar, false⟩, rfl, rfl⟩
      · by_cases e1 : ¬ ah = bh
        · have t1 : (ah == bh) = false := by rw [beq_eq_false_iff_ne]; exact e1
          replace e1 := Lib.hid e1
          replace e := Lib.hid e
          clear a0 a1 a2 b0 b1 b2
          go_enter Tryz.func140, Tryz.ntmps140
          go_wp2_with fail
          refine ((On.pullA (A := DdB g nm l v) (L2 := []) [BlkA (w.heap.size + 1 + 1) 98 #[.int .i64 0, .int .i64 0, .bool false], BlkA (w.heap.size + 1) 98 #[.int .i64 bh, .int .i64 br, .bool false], BlkA w.heap.size 98 #[.int .i64 ah, .int .i64 ar, .bool false]] oz.out).callA fun F' hb' => hbad.out _ F' hb').mono ?_
          rintro e w1 ⟨v', A', ⟨rfl, rfl⟩, rfl, hon1⟩
          obtain ⟨_, hA⟩ := hon1.mem (A := BlkA w.heap.size 98 #[.int .i64 ah, .int .i64 ar, .bool false]) (by simp)
          obtain ⟨_, hC⟩ := hon1.mem (A := BlkA (w.heap.size + 1 + 1) 98 #[.int .i64 0, .int .i64 0, .bool false]) (by simp)
          have hA0 := hA.1.cell 0
          have hA1 := hA.1.cell 1
          have hA2 := hA.1.cell 2
          have fC0 := hC.1.frozen 0
          have fC1 := hC.1.frozen 1
          have fC2 := hC.1.frozen 2
          have hC0 := hC.1.cell 0
          have hC1 := hC.1.cell 1
          have hC2 := hC.1.cell 2
          simp at hA0 hA1 hA2 hC0 hC1 hC2
          have hon5 := ((hon1.swapA.setA 0 (.int .i64 ah)).setA 1 (.int .i64 ar)).setA 2 (.bool false)
          have hB := hon5.blkA
          have c0 := hB.cell 0
          have c1 := hB.cell 1
          have c2 := hB.cell 2
          simp at c0 c1 c2
          clear hA hC hB hon1
          replace hon5 := Lib.hid hon5
          go_wp2
          refine bodyPost_ret (v := .agg #[Value.int IntKind.i64 ah, Value.int IntKind.i64 ar, Value.bool false]) (by simp [results, Tryz.results140, go_sem, c0, c1, c2]) rfl ?_
          exact (hon5.out.tailA.headA).post ⟨⟨ah, ar, false⟩, rfl, rfl⟩
        · have e1 : ah = bh := Decidable.not_not.1 e1
          subst e1
          have t1 : (ar == br) = false := by rw [beq_eq_false_iff_ne]; exact fun h => e ⟨rfl, h⟩
          replace e := Lib.hid e
          clear a0 a1 a2 b0 b1 b2
          go_enter Tryz.func140, Tryz.ntmps140
          go_wp2_with fail
          refine ((On.pullA (A := DdB g nm l v) (L2 := []) [BlkA (w.heap.size + 1 + 1) 98 #[.int .i64 0, .int .i64 0, .bool false], BlkA (w.heap.size + 1) 98 #[.int .i64 ah, .int .i64 br, .bool false], BlkA w.heap.size 98 #[.int .i64 ah, .int .i64 ar, .bool false]] oz.out).callA fun F' hb' => hbad.out _ F' hb').mono ?_
          rintro e w1 ⟨v', A', ⟨rfl, rfl⟩, rfl, hon1⟩
          obtain ⟨_, hA⟩ := hon1.mem (A := BlkA w.heap.size 98 #[.int .i64 ah, .int .i64 ar, .bool false]) (by simp)
          obtain ⟨_, hC⟩ := hon1.mem (A := BlkA (w.heap.size + 1 + 1) 98 #[.int .i64 0, .int .i64 0, .bool false]) (by simp)
          have hA0 := hA.1.cell 0
          have hA1 := hA.1.cell 1
          have hA2 := hA.1.cell 2
          have fC0 := hC.1.frozen 0
          have fC1 := hC.1.frozen 1
          have fC2 := hC.1.frozen 2
          have hC0 := hC.1.cell 0
          have hC1 := hC.1.cell 1
          have hC2 := hC.1.cell 2
          simp at hA0 hA1 hA2 hC0 hC1 hC2
          have hon5 := ((hon1.swapA.setA 0 (.int .i64 ah)).setA 1 (.int .i64 ar)).setA 2 (.bool false)
          have hB := hon5.blkA
          have c0 := hB.cell 0
          have c1 := hB.cell 1
          have c2 := hB.cell 2
          simp at c0 c1 c2
          clear hA hC hB hon1
          replace hon5 := Lib.hid hon5
          go_wp2
          refine bodyPost_ret (v := .agg #[Value.int IntKind.i64 ah, Value.int IntKind.i64 ar, Value.bool false]) (by simp [results, Tryz.results140, go_sem, c0, c1, c2]) rfl ?_
          exact (hon5.out.tailA.headA).post ⟨⟨ah, ar, false⟩, rfl, rfl⟩
    · go_enter Tryz.func140, Tryz.ntmps140
      go_wp2
      refine bodyPost_ret (v := .agg #[Value.int IntKind.i64 ah, Value.int IntKind.i64 ar, Value.bool false]) (by simp [results, Tryz.results140, go_sem, a0, a1, a2]) rfl ?_
      exact (oa.out.tailA.tailA.tailA.headA).post ⟨⟨ah, ar, false⟩, rfl, rfl⟩
  · go_enter Tryz.func140, Tryz.ntmps140
    go_wp2
    refine bodyPost_ret (v := .agg #[Value.int IntKind.i64 bh, Value.int IntKind.i64 br, Value.bool bd]) (by simp [results, Tryz.results140, go_sem, b0, b1, b2]) rfl ?_
    exact (ob.out.tailA.tailA.tailA.headA).post ⟨⟨bh, br, bd⟩, rfl, rfl⟩
end Look
end Go.Proofs.YthejfkkmcbdlhaaGreatDoor
/- The document's opens and closes. Condition: fewer things are open than a text has bytes. -/
namespace Go.Proofs.YthejfkkmcbdlhaaGreatDoor
set_option linter.unusedVariables false
open Go.RowKit Go.Lib
namespace Look
theorem info_thing : (Tryz.prog.info? 167).map (fun i => (i.zero, i.size, i.bytes)) = some (some (.agg #[.int .i64 0, .int .i64 0, .int .i64 0, .bool false, .int .i64 0, .int .i64 0, .bool false, .bool false]), 8, 64) := by kernel_rfl
/-- the row has grown, or is less, and the field is set -/
theorem DdB.row {w w0 w1 : World} {F : Nat → Prop} {g : Nat} {nm : List UInt8} {l l' : List Open} {v v' : Value} (h : (DdB g nm l v).holds w F) (hk0 : Kept Nob w w0) (hg : w0.grownBy w1 v.ownBlock)
    (hown : w1.ownsRow 0 167 8 v' l'.length (stackC l')) (hat : ∀ k, v'.ownBlock = some k → v.ownBlock = some k ∨ w.heap.size ≤ k) :
    On F w (DdB g nm l' v') (w1.setCell ⟨g, 8, none⟩ v') := by
  obtain ⟨⟨kn, nd, lo, n, hh0, r, dd, en, hh, hb⟩, hr, hne, hF⟩ := h
  have hlt := hb.lt
  have B0 := hb.kept hk0 (fun h => h)
  have B1 := B0.grown hg (fun e => hne e.symm)
  have hne' : v'.ownBlock ≠ some g := fun e => by
    rcases hat g e with h1 | h1
    · exact hne h1
    · omega
  refine ⟨fun k => k = g ∨ v'.ownBlock = some k, ⟨⟨kn, nd, lo, n, hh0, r, dd, en, hh, B1.set_ 8 v'⟩, ?_, hne', fun k => Iff.rfl⟩, ?_, ?_⟩
  · exact ownsRow_of_block hown fun k hv => Below.heap_setCell _ _ _ _ (fun e => hne' (by subst e; exact hv))
  · exact kept_setAt (Kept.grown (hk0.mono (fun _ h => h.elim)) hg (fun k hv => .inl ((hF k).2 (.inr hv)))) ((hF g).2 (.inl rfl)) 8 v'
  · rintro k (h1 | h1)
    · exact .inl ((hF k).2 (.inl h1))
    · rcases hat k h1 with h2 | h2
      · exact .inl ((hF k).2 (.inr h2))
      · exact .inr h2
set_option maxHeartbeats 2000000 in
theorem d_opens (g : Nat) (nm : List UInt8) (l : List Open) (v : Value) (o : Open) (hn : l.length ≤ 100000) (w : World) (F : Nat → Prop) (hb : (DdB g nm l v).holds w F) :
    Calls Tryz.prog 138 #[.pointer (some ⟨g, 0, none⟩), openV o] w (Post (fun u B => u = .tuple #[] ∧ ∃ v', B = DdB g nm (l ++ [o]) v') F w) := by
  have h := hb
  obtain ⟨⟨kn, nd, lo, n, hh0, r, dd, en, hh, hk⟩, hr, hne, hF⟩ := hb
  have f8 := hk.frozen 8
  have c8 := hk.cell 8
  simp [ddC] at c8
  have hlt := hk.lt
  obtain ⟨k, ⟨ah, ar, ad⟩, ⟨bh, br, bd⟩, lf⟩ := o
  obtain ⟨i0, hi, hz0, hz1, hz2⟩ := info_parts info_thing
  replace hi := Lib.hid hi
  replace hz0 := Lib.hid hz0
  replace hz1 := Lib.hid hz1
  replace hz2 := Lib.hid hz2
  replace h := Lib.hid h
  replace hF := Lib.hid hF
  replace hn := Lib.hid hn
  replace hk := Lib.hid hk
  replace hr := Lib.hid hr
  replace hne := Lib.hid hne
  unfold openV openC stC
  simp only [List.cons_append, List.nil_append]
  go_enter Tryz.func138, Tryz.ntmps138
  go_wp2_with fail
  have hnlen : l.length + 1 ≤ maxLen ∧ (l.length + 1) * 64 ≤ 140737488355328 := by have := hn.out; unfold maxLen; omega
  replace hnlen := Lib.hid hnlen
  go_region_law ((refine step_append_lies _ rfl (.tmp 8) (.tmp 10) 99 rfl 0 167 i0 (.agg #[.int .i64 0, .int .i64 0, .int .i64 0, .bool false, .int .i64 0, .int .i64 0, .bool false, .bool false]) 8 64 ?_ ?_ ?_ ?_ ?_ ?_ ?_ v l.length (stackC l) ?_ ?_ ⟨w.heap.size + 1, 0, none⟩ 1 1 (openC ⟨k, ⟨ah, ar, ad⟩, ⟨bh, br, bd⟩, lf⟩) ?_ ?_ ?_ ?_ ?_ ?_ ?_ ?_ (w.heap.size + 1 + 1) ?_ ?_; exact Tryz.underlying99; exact hi.out; exact hz0.out; exact hz1.out; exact hz2.out; rfl; omega; rfl; exact ownsRow_drew ((hr.out.alloc _).alloc _); rfl; rfl; refine (open_news (o := ⟨k, ⟨ah, ar, ad⟩, ⟨bh, br, bd⟩, lf⟩) (t := 167) ?_); refine Blk.drew (Blk.new' ?_); simp; exact open_one _; omega; exact hnlen.out.1; exact hnlen.out.2; omega; simp; intro sg cap w1 hG hgrow hat hlt1; have hB1 := Blk.grown ((hk.out.alloc _).alloc _).drew hgrow (fun e => hne.out e.symm); have c8b := hB1.cell 8; have f8b := hB1.frozen 8; simp [ddC] at c8b))
  all_goals
    have hon := DdB.row (F := F) (l' := l ++ [⟨k, ⟨ah, ar, ad⟩, ⟨bh, br, bd⟩, lf⟩]) h.out ((((Kept.refl Nob w).alloc _).alloc _).drew) hgrow (v' := .slice (some ⟨sg, 0, none⟩) (l.length + 1) cap) (by
      have e1 : (l ++ [⟨k, ⟨ah, ar, ad⟩, ⟨bh, br, bd⟩, lf⟩] : List Open).length = l.length + 1 := by simp
      have e2 : stackC (l ++ [⟨k, ⟨ah, ar, ad⟩, ⟨bh, br, bd⟩, lf⟩]) = stackC l ++ openC ⟨k, ⟨ah, ar, ad⟩, ⟨bh, br, bd⟩, lf⟩ := by simp [stackC]
      rw [e1, e2]; exact hG) (fun k hk => by
        have hk : some sg = some k := hk
        cases hk
        rcases hat with h1 | h1
        · exact .inl h1
        · exact .inr (by omega))
    clear hG hgrow hat hlt1 hB1 c8b f8b c8 f8
    replace hon := Lib.hid hon
    go_wp2
    go_end0
    exact hon.out.post ⟨rfl, _, rfl⟩
set_option maxHeartbeats 2000000 in
theorem d_closes (g : Nat) (nm : List UInt8) (l : List Open) (v : Value) (hl : l ≠ []) (w : World) (F : Nat → Prop) (hb : (DdB g nm l v).holds w F) :
    Calls Tryz.prog 141 #[.pointer (some ⟨g, 0, none⟩)] w (Post (fun u B => u = .tuple #[] ∧ ∃ v', B = DdB g nm l.dropLast v') F w) := by
  have h := hb
  obtain ⟨⟨kn, nd, lo, n0, hh0, r, dd, en, hh, hk⟩, hr, hne, hF⟩ := hb
  obtain ⟨n, hn⟩ : ∃ n, l.length = n + 1 := ⟨l.length - 1, by have := List.length_pos_iff.2 hl; omega⟩
  have hst := hr
  rw [hn] at hst
  obtain ⟨sg, cap, rfl, hcap, hmax⟩ := stack_form hst
  have hless := ownsRow_less hst
  have e1 : (stackC l).take (n * 8) = stackC l.dropLast := by rw [← stackC_less, hn]; rfl
  have e2 : l.dropLast.length = n := by rw [List.length_dropLast, hn]; rfl
  rw [e1] at hless
  have hrow := DdB.row (l' := l.dropLast) (v' := .slice (some ⟨sg, 0, none⟩) n cap) (w0 := w) (w1 := w) h (Kept.refl Nob w) ⟨rfl, rfl, rfl, Nat.le_refl _, fun _ _ _ => rfl⟩ (by rw [e2]; exact hless) (fun k hk => .inl hk)
  have f8 := hk.frozen 8
  have c8 := hk.cell 8
  simp [ddC] at c8
  replace hrow := Lib.hid hrow
  have hnb : (n : Int) ≤ 9223372036854775807 := by unfold maxLen at hmax; omega
  have hw : wrap64 (n : Int) = (n : Int) := by unfold wrap64; omega
  have hnc : (n : Int) ≤ (cap : Int) := by omega
  clear hst hless e1 e2 h hk hr hne hF hl
  go_enter Tryz.func141, Tryz.ntmps141
  go_wp2
  go_region
  go_wp2
  go_end0
  first
    | exact (hrow.out.post ⟨rfl, _, rfl⟩)
    | exact ((hrow.out.drewN _).post ⟨rfl, _, rfl⟩)
end Look
end Go.Proofs.YthejfkkmcbdlhaaGreatDoor
/- The document's top and loop: places within the row of things. No condition. -/
namespace Go.Proofs.YthejfkkmcbdlhaaGreatDoor
set_option linter.unusedVariables false
set_option maxRecDepth 100000
open Go.RowKit Go.Lib
namespace Look
theorem thing_cell {w : World} {e : TypeId} {l : List Open} {sg n cap : Nat} (h : w.ownsRow 0 e 8 (.slice (some ⟨sg, 0, none⟩) n cap) l.length (stackC l)) (i j : Nat) (hi : i < l.length) (hj : j < 8) : w.cell? ⟨sg, i * 8 + j, none⟩ = (openC (l[i]))[j]? := by
  have he := stackC_at l i j hi hj
  have hl : j < (openC l[i]).length := by rw [openC_len]; exact hj
  rw [List.getElem?_eq_getElem hl] at he ⊢
  have := h.cells (g := sg) rfl (i * 8 + j) _ he
  rw [← this]
  unfold Addr.add
  split <;> simp_all
theorem thing_form {w : World} {e : TypeId} {l : List Open} {v : Value} (h : w.ownsRow 0 e 8 v l.length (stackC l)) (hne : l ≠ []) : ∃ sg cap, v = .slice (some ⟨sg, 0, none⟩) l.length cap ∧ l.length ≤ cap ∧ cap ≤ maxLen := by
  obtain ⟨n, hn⟩ : ∃ n, l.length = n + 1 := ⟨l.length - 1, by have := List.length_pos_iff.2 hne; omega⟩
  rw [hn] at h ⊢
  exact stack_form h
theorem DdB.open_ {w w' : World} {F : Nat → Prop} {g : Nat} {nm : List UInt8} {l : List Open} {v : Value} (h : On F w (DdB g nm l v) w') : ∃ kn nd lo n h0 r dd en hh, Blk w' g 101 (ddC nm kn nd lo n h0 r dd v en hh) := by
  obtain ⟨F', hd, _⟩ := h
  exact hd.1
/-- the topmost thing, if it is of that kind -/
def topIs (k : Nat) (l : List Open) : Bool := match l.getLast? with
  | some o => decide (o.kind = k)
  | none => false
set_option maxHeartbeats 2000000 in
theorem d_top_none (g : Nat) (nm : List UInt8) (l : List Open) (v : Value) (k : Nat) (ht : topIs k l = false) (w : World) (F : Nat → Prop) (hb : (DdB g nm l v).holds w F) :
    Calls Tryz.prog 139 #[.pointer (some ⟨g, 0, none⟩), .int .i64 (k : Int)] w (Post (fun u B => u = .tuple #[.pointer none, .bool false] ∧ B = DdB g nm l v) F w) := by
  have hon := On.refl hb
  have hbad := fun w1 F' hb' => d_bad g nm l v w1 F' hb'
  obtain ⟨⟨kn, nd, lo, n0, hh0, r, dd, en, hh, hk⟩, hr, hne, hF⟩ := hb
  have c8 := hk.cell 8
  simp [ddC] at c8
  replace hbad := Lib.hid hbad
  clear hk hF
  rcases List.eq_nil_or_concat l with rfl | ⟨l', o, rfl⟩
  · obtain ⟨p, c, rfl⟩ := ownsRow_slice hr
    have hp : (.slice p ([] : List Open).length c : Value) = .slice p 0 c := rfl
    rw [hp] at *
    clear hp hr
    replace hon := Lib.hid hon
    go_enter Tryz.func139, Tryz.ntmps139
    go_wp2_with fail
    refine (hon.out.call fun F' hb' => hbad.out _ F' hb').mono ?_
    rintro e w1 ⟨v', A', ⟨rfl, rfl⟩, rfl, hon1⟩
    replace hon1 := Lib.hid hon1
    clear c8
    go_wp2_with fail
    go_ret2
    exact hon1.out.post ⟨rfl, rfl⟩
  · have hlen : (l'.concat o).length = l'.length + 1 := by simp
    have hr2 := hr
    rw [hlen] at hr2
    obtain ⟨sg, cap, rfl, hcap, hmax⟩ := stack_form hr2
    have ck := thing_cell hr l'.length 0 (by omega) (by omega)
    have hko : (l'.concat o)[l'.length]'(by omega) = o := by simp
    rw [hko] at ck
    simp [openC] at ck
    have hkk : ¬ o.kind = k := by
      unfold topIs at ht
      simp at ht
      exact ht
    have t1 : ((o.kind : Int) == (k : Int)) = false := by rw [beq_eq_false_iff_ne]; omega
    have hmb : ((l'.length : Nat) : Int) + 1 ≤ 9223372036854775807 := by unfold maxLen at hmax; omega
    clear hr hr2 hko hkk ht hlen
    generalize l'.length = m at *
    obtain ⟨N, hN⟩ : ∃ N, m + 1 = N := ⟨_, rfl⟩
    have hbad := hbad.out
    rw [hN] at c8 hcap hon hbad ⊢
    have t0 : ((N : Int) == 0) = false := by rw [beq_eq_false_iff_ne]; omega
    have hw : wrap64 ((N : Int) - 1) = (m : Int) := by unfold wrap64; omega
    have hmN : m < N := by omega
    clear hne hmax hmb hN
    replace hon := Lib.hid hon
    replace hbad := Lib.hid hbad
    go_enter Tryz.func139, Tryz.ntmps139
    go_wp2_with fail
    refine (hon.out.call fun F' hb' => hbad.out _ F' hb').mono ?_
    rintro e w1 ⟨v', A', ⟨rfl, rfl⟩, rfl, hon1⟩
    replace hon1 := Lib.hid hon1
    clear c8 ck
    go_wp2_with fail
    go_ret2
    exact hon1.out.post ⟨rfl, rfl⟩
set_option maxHeartbeats 2000000 in
theorem d_top_some (g : Nat) (nm : List UInt8) (l' : List Open) (o : Open) (sg cap : Nat) (w : World) (F : Nat → Prop) (hb : (DdB g nm (l' ++ [o]) (.slice (some ⟨sg, 0, none⟩) (l'.length + 1) cap)).holds w F) :
    Calls Tryz.prog 139 #[.pointer (some ⟨g, 0, none⟩), .int .i64 (o.kind : Int)] w (Post (fun u B => u = .tuple #[.pointer (some ⟨sg, l'.length * 8, none⟩), .bool true] ∧ B = DdB g nm (l' ++ [o]) (.slice (some ⟨sg, 0, none⟩) (l'.length + 1) cap)) F w) := by
  have hon := On.refl hb
  obtain ⟨⟨kn, nd, lo, n0, hh0, r, dd, en, hh, hk⟩, hr, hne, hF⟩ := hb
  have c8 := hk.cell 8
  simp [ddC] at c8
  have hlen : (l' ++ [o]).length = l'.length + 1 := by simp
  have hr2 := hr
  rw [hlen] at hr2
  obtain ⟨sg', cap', he, hcap, hmax⟩ := stack_form hr2
  cases he
  have ck := thing_cell hr l'.length 0 (by omega) (by omega)
  have hko : (l' ++ [o])[l'.length]'(by omega) = o := by simp
  rw [hko] at ck
  simp [openC] at ck
  have hmb : ((l'.length : Nat) : Int) + 1 ≤ 9223372036854775807 := by unfold maxLen at hmax; omega
  clear hr hr2 hko hlen hk hF
  generalize l'.length = m at *
  obtain ⟨N, hN⟩ : ∃ N, m + 1 = N := ⟨_, rfl⟩
  rw [hN] at c8 hcap hon ⊢
  have t0 : ((N : Int) == 0) = false := by rw [beq_eq_false_iff_ne]; omega
  have hw : wrap64 ((N : Int) - 1) = (m : Int) := by unfold wrap64; omega
  have hmN : m < N := by omega
  clear hne hmax hmb hN
  replace hon := Lib.hid hon
  generalize (o.kind : Int) = kk at *
  go_enter Tryz.func139, Tryz.ntmps139
  go_wp2_with fail
  go_ret2
  exact hon.out.post ⟨rfl, rfl⟩
set_option maxHeartbeats 2000000 in
theorem d_loop (g : Nat) (nm : List UInt8) (l : List Open) (v : Value) (w : World) (F : Nat → Prop) (hb : (DdB g nm l v).holds w F) :
    Calls Tryz.prog 111 #[.pointer (some ⟨g, 0, none⟩)] w (Post (fun u B => u = placeV v (innerAt l) ∧ B = DdB g nm l v) F w) := by
  have hon := On.refl hb
  obtain ⟨⟨kn, nd, lo, n0, hh0, r, dd, en, hh, hk⟩, hr, hne, hF⟩ := hb
  have c8 := hk.cell 8
  simp [ddC] at c8
  rcases hs : l with _ | ⟨o0, l0⟩
  · have hst := hr
    rw [hs] at hst
    obtain ⟨p, c, rfl⟩ := ownsRow_slice hst
    have hp : (.slice p ([] : List Open).length c : Value) = .slice p 0 c := rfl
    subst hs
    rw [hp] at *
    clear hp hst hk hr hF hne
    replace hon := Lib.hid hon
    go_enter Tryz.func111, Tryz.ntmps111
    go_wp2
    go_loop [3] (fun i => i = .int .i64 (-1)) (fun _ => 0)
    case atStart => first | rfl | exact rfl
    case round =>
      subst hrel
      go_wp2
      go_ret
      exact hon.out.post ⟨rfl, rfl⟩
  · rw [← hs]
    obtain ⟨sg, cap, rfl, hcap, hmax⟩ := thing_form hr (by rw [hs]; simp)
    have ck : ∀ i (hi : i < l.length), w.cell? ⟨sg, i * 8, none⟩ = some (.int .i64 ((l[i]).kind : Int)) := fun i hi => by
      have := thing_cell hr i 0 hi (by omega)
      simpa [openC] using this
    obtain ⟨n, hn⟩ : ∃ n, l.length = n := ⟨_, rfl⟩
    have hnb : (n : Int) ≤ 9223372036854775807 := by unfold maxLen at hmax; omega
    rw [hn] at c8 hcap hon ⊢
    clear hk hr hF hne hs
    replace hon := Lib.hid hon
    replace ck := Lib.hid ck
    replace hn := Lib.hid hn
    clear l0 o0
    go_enter Tryz.func111, Tryz.ntmps111
    go_wp2
    go_loop [3] (fun i => ∃ j : Nat, j ≤ n ∧ i = .int .i64 ((j : Int) - 1) ∧ ∀ q o, j ≤ q → l[q]? = some o → o.kind ≠ 27) (fun i => (RowKit.intOf i + 1).toNat)
    case atStart => exact ⟨n, by omega, by go_num, fun q o hq ho => by have := (List.getElem?_eq_some_iff.1 ho).1; have := hn.out; omega⟩
    case round =>
      obtain ⟨j, hj, rfl, hno⟩ := hrel
      by_cases hlt : 0 < j
      · obtain ⟨j, rfl⟩ : ∃ q, j = q + 1 := ⟨j - 1, by omega⟩
        have hjl : j < l.length := by rw [hn.out]; omega
        have e1 : ((j + 1 : Nat) : Int) - 1 = j := by omega
        rw [e1]
        have hc := ck.out j hjl
        by_cases hk : l[j].kind = 27
        · have hres : innerAt l = some j := innerAt_is l j l[j] (List.getElem?_eq_getElem hjl) hk fun q o hq ho => hno q o (by omega) ho
          rw [hk] at hc
          replace hno := Lib.hid hno
          replace hres := Lib.hid hres
          clear hk hlt e1
          go_wp2
          go_ret
          exact hon.out.post ⟨by rw [hres.out]; rfl, rfl⟩
        · have hno2 : ∀ q o, j ≤ q → l[q]? = some o → o.kind ≠ 27 := fun q o hq ho => by
            rcases Nat.lt_or_ge j q with h1 | h1
            · exact hno q o (by omega) ho
            · have : q = j := by omega
              subst this
              rw [List.getElem?_eq_getElem hjl] at ho
              cases ho
              exact hk
          obtain ⟨kk, hkk⟩ : ∃ kk : Int, (l[j].kind : Int) = kk := ⟨_, rfl⟩
          rw [hkk] at hc
          have hkb : (kk == 27) = false := by rw [beq_eq_false_iff_ne]; omega
          replace hno := Lib.hid hno
          replace hno2 := Lib.hid hno2
          clear hkk hk hlt e1
          go_wp2
          go_round
          case rel => exact ⟨j, by omega, by go_num, hno2.out⟩
          case measure => simp [RowKit.intOf]
      · obtain rfl : j = 0 := by omega
        have hres : innerAt l = none := innerAt_no l fun o ho => by
          obtain ⟨q, hq⟩ := List.mem_iff_getElem?.1 ho
          exact hno q o (by omega) hq
        replace hres := Lib.hid hres
        clear hno
        go_wp2
        go_ret
        exact hon.out.post ⟨by rw [hres.out]; rfl, rfl⟩
end Look
end Go.Proofs.YthejfkkmcbdlhaaGreatDoor
/- The document's ends and end. No condition. -/
namespace Go.Proofs.YthejfkkmcbdlhaaGreatDoor
set_option linter.unusedVariables false
set_option maxRecDepth 100000
open Go.RowKit Go.Lib
namespace Look
set_option maxHeartbeats 4000000 in
theorem d_ends (g : Nat) (nm : List UInt8) (l : List Open) (v : Value) (w : World) (F : Nat → Prop) (hb : (DdB g nm l v).holds w F) :
    Calls Tryz.prog 82 #[.pointer (some ⟨g, 0, none⟩)] w (Post (fun u B => u = .tuple #[] ∧ B = DdB g nm l v) F w) := by
  have hon := On.refl hb
  have hbad := fun w1 F' hb' => d_bad g nm l v w1 F' hb'
  obtain ⟨⟨kn, nd, lo, n0, h0, r, dd, en, hh, hk⟩, -⟩ := hb
  have c5 := hk.cell 5
  have c6 := hk.cell 6
  have c7 := hk.cell 7
  have c9 := hk.cell 9
  have c10 := hk.cell 10
  have f9 := hk.frozen 9
  have f10 := hk.frozen 10
  simp [ddC] at c5 c6 c7 c9 c10
  clear hk
  replace hon := Lib.hid hon
  replace hbad := Lib.hid hbad
  cases dd
  · obtain ⟨t, ht⟩ : ∃ t, (!(r == 0) || (en && !(hh == h0))) = t := ⟨_, rfl⟩
    by_cases hr : r = 0
    · subst hr
      cases en
      · go_enter Tryz.func82, Tryz.ntmps82
        go_wp2_with fail
        go_quiet (fail)
        go_wp2_with fail
        go_end0
        exact (DdB.set ((DdB.set (hon.out.drewN _) 9 _ (.b (by simp) _))) 10 _ (.n (by simp) _)).post ⟨rfl, rfl⟩
      · by_cases hq : hh = h0
        · subst hq
          go_enter Tryz.func82, Tryz.ntmps82
          go_wp2_with fail
          go_quiet (fail)
          go_wp2_with fail
          go_end0
          exact (DdB.set ((DdB.set (hon.out.drewN _) 9 _ (.b (by simp) _))) 10 _ (.n (by simp) _)).post ⟨rfl, rfl⟩
        · have t1 : (hh == h0) = false := by rw [beq_eq_false_iff_ne]; exact hq
          replace hq := Lib.hid hq
          go_enter Tryz.func82, Tryz.ntmps82
          go_wp2_with fail
          go_quiet (fail)
          go_wp2_with fail
          refine ((hon.out.drewN _).call fun F' hb' => hbad.out _ F' hb').mono ?_
          rintro e w1 ⟨v', A', ⟨rfl, rfl⟩, rfl, hon1⟩
          obtain ⟨kn', nd', lo', n0', h0', r', dd', en', hh', hk'⟩ := DdB.open_ hon1
          have d5 := hk'.cell 5
          have d9 := hk'.cell 9
          have d10 := hk'.cell 10
          have e9 := hk'.frozen 9
          have e10 := hk'.frozen 10
          simp [ddC] at d5 d9 d10
          clear hk' c5 c6 c7 c9 c10 f9 f10 t1
          replace hon1 := Lib.hid hon1
          go_wp2_with fail
          go_end0
          exact (DdB.set ((DdB.set hon1.out 9 _ (.b (by simp) _))) 10 _ (.n (by simp) _)).post ⟨rfl, rfl⟩
    · have hz : (r != 0) = true := by simp [hr]
      replace hr := Lib.hid hr
      clear ht
      go_enter Tryz.func82, Tryz.ntmps82
      go_wp2_with fail
      go_quiet (fail)
      go_wp2_with fail
      refine ((hon.out.drewN _).call fun F' hb' => hbad.out _ F' hb').mono ?_
      rintro e w1 ⟨v', A', ⟨rfl, rfl⟩, rfl, hon1⟩
      obtain ⟨kn', nd', lo', n0', h0', r', dd', en', hh', hk'⟩ := DdB.open_ hon1
      have d5 := hk'.cell 5
      have d9 := hk'.cell 9
      have d10 := hk'.cell 10
      have e9 := hk'.frozen 9
      have e10 := hk'.frozen 10
      simp [ddC] at d5 d9 d10
      clear hk' c5 c6 c7 c9 c10 f9 f10 hz
      replace hon1 := Lib.hid hon1
      go_wp2_with fail
      go_end0
      exact (DdB.set ((DdB.set hon1.out 9 _ (.b (by simp) _))) 10 _ (.n (by simp) _)).post ⟨rfl, rfl⟩
  · go_enter Tryz.func82, Tryz.ntmps82
    go_wp2_with fail
    go_end0
    exact hon.out.post ⟨rfl, rfl⟩
end Look
end Go.Proofs.YthejfkkmcbdlhaaGreatDoor
