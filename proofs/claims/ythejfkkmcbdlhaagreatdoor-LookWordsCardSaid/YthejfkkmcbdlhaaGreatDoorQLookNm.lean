/- Chapter 6's names, as the document takes them: which texts are names, which are alike. Condition: the text is no longer than a machine's memory. -/
import Derived.Test.YthejfkkmcbdlhaaGreatDoorQRow
import Derived.Test.YthejfkkmcbdlhaaGreatDoorQScan
import Derived.Test.YthejfkkmcbdlhaaGreatDoorQNum
namespace Go.Proofs.YthejfkkmcbdlhaaGreatDoor
set_option linter.unusedVariables false
set_option maxRecDepth 100000
open Go.RowKit Go.Lib
namespace Look
def isNameB (l : List UInt8) : Bool := decide (1 ≤ l.length ∧ l.length ≤ 31) && l.all isHigh
def sameB (a b : List UInt8) : Bool := decide (lowS a = lowS b)
theorem low_walk (c : UInt8) (w : World) : Calls Tryz.prog 20 #[.int .u8 (c.toNat : Int)] w (Same (.int .u8 ((lowC c).toNat : Int)) w) := by
  have h1 := lowC_nat c
  have h2 : c.toNat < 256 := c.toNat_lt
  generalize c.toNat = n at *
  rw [h1]
  clear h1
  by_cases a : 65 ≤ (n : Int)
  · by_cases b : (n : Int) ≤ 90
    · rw [if_pos ⟨a, b⟩]
      have t1 : decide ((n : Int) ≥ 65) = true := by rw [decide_eq_true_eq]; omega
      have t2 : decide ((n : Int) ≤ 90) = true := by rw [decide_eq_true_eq]; omega
      go_enter Tryz.func20, Tryz.ntmps20
      go_wp2
      go_ret
      refine ⟨?_, rfl⟩
      first | rfl | (congr 1; omega)
    · rw [if_neg (by omega)]
      have t1 : decide ((n : Int) ≥ 65) = true := by rw [decide_eq_true_eq]; omega
      have t2 : decide ((n : Int) ≤ 90) = false := by rw [decide_eq_false_iff_not]; omega
      go_enter Tryz.func20, Tryz.ntmps20
      go_wp2
      go_ret
      exact ⟨rfl, rfl⟩
  · rw [if_neg (by omega)]
    have t1 : decide ((n : Int) ≥ 65) = false := by rw [decide_eq_false_iff_not]; omega
    go_enter Tryz.func20, Tryz.ntmps20
    go_wp2
    go_ret
    exact ⟨rfl, rfl⟩
theorem name_walk (s : ByteArray) (hs : s.size ≤ 9223372036854775807) (w : World) : Calls Tryz.prog 12 #[.string s] w (Same (.bool (isNameB s.data.toList)) w) := by
  have hl : s.data.toList.length = s.size := by rw [Lib.size_eq]
  have ia := fun (j : Nat) (h : j < s.size) => idx_str s j h
  obtain ⟨r, hr⟩ : ∃ r, isNameB s.data.toList = r := ⟨_, rfl⟩
  have hr' := hr
  rw [hr]
  unfold isNameB at hr'
  rw [hl] at hr'
  replace hr := Lib.hid hr
  replace ia := Lib.hid ia
  by_cases h1 : 1 ≤ s.size ∧ s.size ≤ 31
  · have t1 : decide ((s.size : Int) < 1) = false := by rw [decide_eq_false_iff_not]; omega
    have t2 : decide ((s.size : Int) > 31) = false := by rw [decide_eq_false_iff_not]; omega
    have hr2 : s.data.toList.all isHigh = r := by rw [← hr']; simp [h1]
    clear hr'
    replace hr2 := Lib.hid hr2
    replace hl := Lib.hid hl
    go_enter Tryz.func12, Tryz.ntmps12
    go_wp2
    go_loopw [3] (fun i wr => ∃ j : Nat, j ≤ s.size ∧ i = .int .i64 (j : Int) ∧ wr = w ∧ ∀ k, k < j → isHigh (s.data.toList.getD k 0) = true) (fun i _ => s.size - (RowKit.intOf i).toNat)
    case atStart => exact ⟨0, by omega, rfl, rfl, fun k hk => by omega⟩
    case round =>
      obtain ⟨j, hj, rfl, rfl, hno⟩ := hrel
      replace hno := Lib.hid hno
      by_cases hlt : j < s.size
      · have hx := ia.out j hlt wr
        obtain ⟨c, hc⟩ : ∃ c, s.data.toList.getD j 0 = c := ⟨_, rfl⟩
        rw [hc] at hx
        obtain ⟨n, hn⟩ : ∃ n, c.toNat = n := ⟨_, rfl⟩
        rw [hn] at hx
        replace hc := Lib.hid hc
        replace hn := Lib.hid hn
        by_cases c1 : n ≤ 32
        · have t3 : decide ((n : Int) ≤ 32) = true := by rw [decide_eq_true_eq]; omega
          go_wp2
          go_ret
          have : r = false := by
            rw [← hr2.out, List.all_eq_false]
            have hjl : j < s.data.toList.length := by rw [hl.out]; exact hlt
            refine ⟨s.data.toList[j], List.getElem_mem hjl, ?_⟩
            have e : s.data.toList[j] = c := by rw [← hc.out, List.getD_eq_getElem?_getD, List.getElem?_eq_getElem hjl]; rfl
            rw [e]
            unfold isHigh
            rw [hn.out]
            simp; omega
          rw [this]
          exact ⟨rfl, rfl⟩
        · have t3 : decide ((n : Int) ≤ 32) = false := by rw [decide_eq_false_iff_not]; omega
          replace c1 := Lib.hid c1
          go_wp2
          go_roundw
          case rel =>
            refine ⟨j + 1, by omega, by go_num, by first | rfl | trivial, fun k hk => ?_⟩
            by_cases hkj : k = j
            · subst hkj
              rw [hc.out]
              unfold isHigh
              rw [hn.out]
              have := c1.out
              simp; omega
            · exact hno.out k (by omega)
          case measure => simp [RowKit.intOf]; omega
      · have hjj : j = s.size := by omega
        subst hjj
        go_wp2
        go_ret
        have : r = true := by
          rw [← hr2.out, List.all_eq_true]
          intro x hx
          obtain ⟨k, hk, rfl⟩ := List.getElem_of_mem hx
          have := hno.out k (by rw [← hl.out]; exact hk)
          rw [List.getD_eq_getElem?_getD, List.getElem?_eq_getElem hk] at this
          exact this
        rw [this]
        exact ⟨rfl, rfl⟩
  · have : r = false := by rw [← hr']; simp [h1]
    subst this
    clear hr'
    by_cases h2 : s.size < 1
    · have t1 : decide ((s.size : Int) < 1) = true := by rw [decide_eq_true_eq]; omega
      go_enter Tryz.func12, Tryz.ntmps12
      go_wp2
      go_ret
      exact ⟨rfl, rfl⟩
    · have t1 : decide ((s.size : Int) < 1) = false := by rw [decide_eq_false_iff_not]; omega
      have t2 : decide ((s.size : Int) > 31) = true := by rw [decide_eq_true_eq]; omega
      go_enter Tryz.func12, Tryz.ntmps12
      go_wp2
      go_ret
      exact ⟨rfl, rfl⟩
theorem lows_eq {a b : List UInt8} (hl : a.length = b.length) (h : ∀ k, k < a.length → lowC (a.getD k 0) = lowC (b.getD k 0)) : lowS a = lowS b := by
  apply List.ext_getElem
  · simp [lowS, hl]
  · intro i h1 h2
    have h3 : i < a.length := by simpa [lowS] using h1
    have h4 : i < b.length := by simpa [lowS] using h2
    have := h i h3
    rw [List.getD_eq_getElem?_getD, List.getD_eq_getElem?_getD, List.getElem?_eq_getElem h3, List.getElem?_eq_getElem h4] at this
    simpa [lowS] using this
set_option maxHeartbeats 600000 in
theorem same_walk (a b : ByteArray) (ha : a.size ≤ 9223372036854775807) (hb : b.size ≤ 9223372036854775807) (w : World) : Calls Tryz.prog 13 #[.string a, .string b] w (fun e w' => e = .returned (.bool (sameB a.data.toList b.data.toList)) ∧ ∃ n, w' = w.drewN n) := by
  have hla : a.data.toList.length = a.size := by rw [Lib.size_eq]
  have hlb : b.data.toList.length = b.size := by rw [Lib.size_eq]
  have ia := fun (j : Nat) (h : j < a.size) => idx_str a j h
  have ib := fun (j : Nat) (h : j < b.size) => idx_str b j h
  have hlow : ∀ (x : UInt8) w, Calls Tryz.prog 20 #[.int .u8 (x.toNat : Int)] w (fun e w' => e = .returned (.int .u8 ((lowC x).toNat : Int)) ∧ w' = w) := fun x w => low_walk x w
  obtain ⟨r, hr⟩ : ∃ r, sameB a.data.toList b.data.toList = r := ⟨_, rfl⟩
  have hr' := hr
  rw [hr]
  unfold sameB at hr'
  replace hr := Lib.hid hr
  replace ia := Lib.hid ia
  replace ib := Lib.hid ib
  replace hlow := Lib.hid hlow
  by_cases h1 : a.size = b.size
  · have t1 : ((a.size : Int) == (b.size : Int)) = true := by rw [beq_iff_eq]; omega
    replace hr' := Lib.hid hr'
    replace hla := Lib.hid hla
    replace hlb := Lib.hid hlb
    replace h1 := Lib.hid h1
    go_enter Tryz.func13, Tryz.ntmps13
    go_wp2
    go_loopw [5] (fun i wr => ∃ j n : Nat, j ≤ a.size ∧ i = .int .i64 (j : Int) ∧ wr = w.drewN n ∧ ∀ k, k < j → lowC (a.data.toList.getD k 0) = lowC (b.data.toList.getD k 0)) (fun i _ => a.size - (RowKit.intOf i).toNat)
    case atStart => exact ⟨0, 0, by omega, rfl, rfl, fun k hk => by omega⟩
    case round =>
      obtain ⟨j, nd, hj, rfl, hwr, hno⟩ := hrel
      replace hno := Lib.hid hno
      replace hwr := Lib.hid hwr
      by_cases hlt : j < a.size
      · have hx := ia.out j hlt
        have hy := ib.out j (by have := h1.out; omega)
        obtain ⟨c, hc⟩ : ∃ c, a.data.toList.getD j 0 = c := ⟨_, rfl⟩
        obtain ⟨d, hd⟩ : ∃ d, b.data.toList.getD j 0 = d := ⟨_, rfl⟩
        rw [hc] at hx
        rw [hd] at hy
        replace hc := Lib.hid hc
        replace hd := Lib.hid hd
        by_cases e : lowC c = lowC d
        · have t3 : (((lowC c).toNat : Int) == ((lowC d).toNat : Int)) = true := by rw [beq_iff_eq, e]
          replace e := Lib.hid e
          go_wp2
          go_quiet ((go_at_call 20; exact Calls.quiet_of_same (hlow.out _ (World.drewN _ _))))
          go_wp2
          go_roundw
          case rel =>
            refine ⟨j + 1, nd + nq, by omega, by go_num, by rw [hwr.out, World.drewN_drewN], fun k hk => ?_⟩
            by_cases hkj : k = j
            · subst hkj
              rw [hc.out, hd.out, e.out]
            · exact hno.out k (by omega)
          case measure => simp [RowKit.intOf]; omega
        · have t3 : (((lowC c).toNat : Int) == ((lowC d).toNat : Int)) = false := by rw [beq_eq_false_iff_ne]; intro h; exact e (UInt8.toNat_inj.1 (by omega))
          replace e := Lib.hid e
          go_wp2
          go_quiet ((go_at_call 20; exact Calls.quiet_of_same (hlow.out _ (World.drewN _ _))))
          go_wp2
          go_ret
          have : r = false := by
            rw [← hr'.out, decide_eq_false_iff_not]
            intro h
            have h2 := congrArg (fun l : List UInt8 => l.getD j 0) h
            have hja : j < a.data.toList.length := by rw [hla.out]; exact hlt
            have hjb : j < b.data.toList.length := by rw [hlb.out]; have := h1.out; omega
            have e1 : a.data.toList[j] = c := by rw [← hc.out, List.getD_eq_getElem?_getD, List.getElem?_eq_getElem hja]; rfl
            have e2 : b.data.toList[j] = d := by rw [← hd.out, List.getD_eq_getElem?_getD, List.getElem?_eq_getElem hjb]; rfl
            simp only [lowS, List.getD_eq_getElem?_getD, List.getElem?_map, List.getElem?_eq_getElem hja, List.getElem?_eq_getElem hjb, Option.map_some, Option.getD_some, e1, e2] at h2
            exact e.out h2
          rw [this]
          exact ⟨rfl, nd + nq, by rw [hwr.out, World.drewN_drewN]⟩
      · have hjj : j = a.size := by omega
        subst hjj
        go_wp2
        go_ret
        have : r = true := by
          rw [← hr'.out, decide_eq_true_eq]
          exact lows_eq (by rw [hla.out, hlb.out, h1.out]) (fun k hk => hno.out k (by rw [← hla.out]; exact hk))
        rw [this]
        exact ⟨rfl, nd, hwr.out⟩
  · have t1 : ((a.size : Int) == (b.size : Int)) = false := by rw [beq_eq_false_iff_ne]; omega
    have : r = false := by
      rw [← hr', decide_eq_false_iff_not]
      intro h
      have := congrArg List.length h
      simp [lowS] at this
      apply h1
      rw [Lib.size_eq, Lib.size_eq]
      simpa using this
    subst this
    clear hr' hla hlb
    replace h1 := Lib.hid h1
    go_enter Tryz.func13, Tryz.ntmps13
    go_wp2
    go_ret
    exact ⟨rfl, 0, rfl⟩
end Look
end Go.Proofs.YthejfkkmcbdlhaaGreatDoor
