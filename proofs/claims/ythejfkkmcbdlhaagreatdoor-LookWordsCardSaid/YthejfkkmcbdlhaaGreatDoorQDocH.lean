/- What a word is, as the document reads it. Conditions: names and words are no longer than a text; the word is not empty. -/
import Derived.Test.YthejfkkmcbdlhaaGreatDoorQDocF
import Derived.Test.YthejfkkmcbdlhaaGreatDoorQLookNm
import Derived.Test.YthejfkkmcbdlhaaGreatDoorQNumb
import Derived.Test.YthejfkkmcbdlhaaGreatDoorQCode
import Derived.Test.YthejfkkmcbdlhaaGreatDoorQKern
import Derived.BigRegion
import Derived.Test.YthejfkkmcbdlhaaGreatDoorQAll
import Derived.Test.YthejfkkmcbdlhaaGreatDoorQInv
namespace Go.Proofs.YthejfkkmcbdlhaaGreatDoor
set_option linter.unusedVariables false
set_option maxRecDepth 100000
open Go.RowKit Go.Lib
namespace Look
theorem t_same (a b : List UInt8) (ha : a.length ≤ 100000) (hb : b.length ≤ 100000) (w : World) : Calls Tryz.prog 73 #[.string ⟨a.toArray⟩, .string ⟨b.toArray⟩] w (fun e w' => e = .returned (.bool (sameB a b)) ∧ ∃ n, w' = w.drewN n) := by
  have hs := fun w => same_walk ⟨a.toArray⟩ ⟨b.toArray⟩ (by show a.toArray.size ≤ _; rw [List.size_toArray]; omega) (by show b.toArray.size ≤ _; rw [List.size_toArray]; omega) w
  replace hs := Lib.hid hs
  go_enter Tryz.func73, Tryz.ntmps73
  go_wp2_with fail
  refine (hs.out _).mono ?_
  rintro e w1 ⟨rfl, n, rfl⟩
  go_wp2_with fail
  go_ret
  exact ⟨rfl, n, rfl⟩
set_option maxHeartbeats 4000000 in
theorem t_specials (w : World) : Calls Tryz.prog 74 #[] w (fun e w' => e = .returned (.slice (some ⟨w.heap.size, 0, none⟩) 36 36) ∧ w' = w.alloc (.cells (strsC specials).toArray 9)) := by
  unfold specials strsC
  go_enter Tryz.func74, Tryz.ntmps74
  go_wp2_with fail
  go_ret
  exact ⟨rfl, rfl⟩
theorem numP_le (s : List UInt8) : numP s ≤ 106 := by
  unfold numP Code.numberN
  rcases h : (List.range 106).find? (Code.hit ⟨s.toArray⟩) with _ | k
  · simp
  · have := List.mem_of_find?_eq_some h
    rw [List.mem_range] at this
    simp; omega
/-- what the document says a word is: kind, number, name -/
def DocW (own src : List (List UInt8)) (s : List UInt8) (k n : Nat) (nm : List UInt8) : Prop :=
  (k = 4 ∧ ∃ x ∈ own, sameB x s = true) ∨
  ((∀ x ∈ own, sameB x s = false) ∧
    ((k = 3 ∧ ∃ x ∈ src, sameB x s = true ∧ nm = x) ∨
     ((∀ x ∈ src, sameB x s = false) ∧
       ((k = 2 ∧ ∃ i, specials[i]? = some nm ∧ sameB nm s = true ∧ n = i + 1) ∨
        ((∀ x ∈ specials, sameB x s = false) ∧
          ((k = 1 ∧ 0 < numP s ∧ s.head? ≠ some 40 ∧ n = numP s ∧ nm = Code.names.getD (numP s - 1) []) ∨
           (¬ (0 < numP s ∧ s.head? ≠ some 40) ∧ ((k = 5 ∧ (parseN s 10).2 = true) ∨ (k = 0 ∧ (parseN s 10).2 = false)))))))))
def IsWhat (own src : List (List UInt8)) (s : List UInt8) (u : Value) : Prop := ∃ k n nm en i o kn nd lo, u = wdV k n nm en i o kn nd lo ∧ DocW own src s k n nm
theorem specs_len : specials.length = 36 := by decide +kernel
theorem specs_short : ∀ a ∈ specials, a.length ≤ 100000 := by decide +kernel
theorem idx_head (s : List UInt8) (h : s ≠ []) : ∃ c, s.head? = some c ∧ ∀ w, (Instr.index 9 (.string ⟨s.toArray⟩) (.int .i64 0)).run Tryz.prog w = .ok (.int .u8 (c.toNat : Int)) w := by
  rcases s with _ | ⟨c, l⟩
  · exact absurd rfl h
  · refine ⟨c, rfl, fun w => ?_⟩
    have := idx_lit0 ⟨(c :: l).toArray⟩ (by show 0 < (c :: l).toArray.size; simp) w
    rw [this]
    simp
theorem idx_head40 (s : List UInt8) (h : s.head? = some 40) (w : World) : (Instr.index 9 (.string ⟨s.toArray⟩) (.int .i64 0)).run Tryz.prog w = .ok (.int .u8 40) w := by
  obtain ⟨c, h1, h2⟩ := idx_head s (by rintro rfl; cases h)
  rw [h] at h1
  cases h1
  exact h2 w
theorem mem_none {l : List (List UInt8)} {s : List UInt8} (h : ∀ q (hq : q < l.length), sameB l[q] s = false) : ∀ x ∈ l, sameB x s = false := fun x hx => by
  obtain ⟨q, hq, rfl⟩ := List.mem_iff_getElem.1 hx
  exact h q hq
/-! ### the walk (printed by gen_doc_what.py) -/

set_option maxHeartbeats 8000000 in
theorem t_what (g : Nat) (T : ByteArray) (src : List (List UInt8)) (x : Tx) (hown : ∀ a ∈ x.own, a.length ≤ 100000) (hsrc : ∀ a ∈ src, a.length ≤ 100000) (s : List UInt8) (hs : s.length ≤ 100000) (hne : s ≠ []) (w : World) (F : Nat → Prop) (hb : (TextA g T src x).holds w F) :
    Calls Tryz.prog 49 #[.pointer (some ⟨g, 0, none⟩), .string ⟨s.toArray⟩] w (Post (fun u B => IsWhat x.own src s u ∧ B = TextA g T src x) F w) := by
  have hon1 := On.boxA (On.refl hb).one #[.int .i64 0, .int .i64 0, .string ⟨#[]⟩, .string ⟨#[]⟩, .int .i64 0, .int .i64 0, .bool false, .int .i64 0, .bool false] 89
  obtain ⟨w1, hw1⟩ : ∃ w1, w.alloc (.cells #[.int .i64 0, .int .i64 0, .string ⟨#[]⟩, .string ⟨#[]⟩, .int .i64 0, .int .i64 0, .bool false, .int .i64 0, .bool false] 89) = w1 := ⟨_, rfl⟩
  rw [hw1] at hon1
  obtain ⟨vo, vs, lo, nd, vr, vp, hop⟩ := TextA.opened hon1.tailA.headA
  have hB := hop.blkA
  have k2 := hB.cell 2
  have k6 := hB.cell 6
  simp [txC] at k2 k6
  obtain ⟨_, hO⟩ := hop.mem (A := EffsN vo x.own) (by simp [txL])
  obtain ⟨_, hR⟩ := hop.mem (A := EffsN vr src) (by simp [txL])
  obtain ⟨hmo, Ao, co, rfl, hO2⟩ := effsN_loop hO
  obtain ⟨hmr, Ar, cr, rfl, hR2⟩ := effsN_loop hR
  have hgl : g < w1.heap.size := hB.lt
  obtain ⟨R, hRw⟩ : ∃ R, w.heap.size = R := ⟨_, rfl⟩
  have hgR : g < R := by
    rw [← hRw]
    obtain ⟨vo2, vs2, lo2, nd2, vr2, vp2, hop2⟩ := TextA.opened (On.refl hb)
    exact hop2.blkA.lt
  rw [hRw] at hon1
  have hsm := fun (a : List UInt8) (ha : a.length ≤ 100000) (w : World) => t_same a s ha hs w
  have hsp := t_specials
  have hnum := fun w => Number_walk ⟨s.toArray⟩ (by show s.toArray.size < _; rw [List.size_toArray]; omega) w
  have hpar := fun w => rparse_walk ⟨s.toArray⟩ (by show s.toArray.size ≤ _; rw [List.size_toArray]; omega) 10 w
  have hnp := numP_le s
  clear hb hop hB hO hR hgl
  obtain ⟨No, hNo⟩ : ∃ n, x.own.length = n := ⟨_, rfl⟩
  obtain ⟨Nr, hNr⟩ : ∃ n, src.length = n := ⟨_, rfl⟩
  rw [hNo] at k2 hmo
  rw [hNr] at k6 hmr
  unfold maxLen at hmo hmr
  replace hon1 := Lib.hid hon1
  replace hown := Lib.hid hown
  replace hsrc := Lib.hid hsrc
  replace hs := Lib.hid hs
  replace hO2 := Lib.hid hO2
  replace hR2 := Lib.hid hR2
  replace k2 := Lib.hid k2
  replace k6 := Lib.hid k6
  replace hsm := Lib.hid hsm
  replace hsp := Lib.hid hsp
  replace hnum := Lib.hid hnum
  replace hpar := Lib.hid hpar
  replace hnp := Lib.hid hnp
  replace hNo := Lib.hid hNo
  replace hNr := Lib.hid hNr
  replace hne := Lib.hid hne
  have e2 : w1.cell? ⟨g, 2, none⟩ = some (.slice Ao No co) := k2.out
  go_enter Tryz.func49, Tryz.ntmps49
  go_wp2_with fail
  try simp only [hw1, hRw]
  clear e2
  replace hw1 := Lib.hid hw1
  replace hRw := Lib.hid hRw
  go_loopw [5] (fun i wr => ∃ j : Nat, j ≤ No ∧ i = .int .i64 ((j : Int) - 1) ∧ Kept Nob w1 wr ∧ ∀ q (hq : q < x.own.length), j ≤ q → sameB x.own[q] s = false) (fun i _ => (RowKit.intOf i + 1).toNat)
  case atStart => exact ⟨No, by omega, by go_num, Kept.refl _ _, fun q hq h => by have := hNo.out; omega⟩
  case round =>
    obtain ⟨j, hj, rfl, hk, hno⟩ := hrel
    have d2 := hk.cell k2.out id
    have d6 := hk.cell k6.out id
    by_cases hlt : 0 < j
    · obtain ⟨j, rfl⟩ : ∃ q, j = q + 1 := ⟨j - 1, by omega⟩
      have hjl : j < x.own.length := by rw [hNo.out]; omega
      have e1 : ((j + 1 : Nat) : Int) - 1 = j := by omega
      rw [e1]
      obtain ⟨sg, ei, eo, ek, ed, eb, rfl, hc0, hc1, hc2, hc3, hc4, hc5⟩ := hO2.out j hjl
      have p0 := hk.cell hc0 id
      have p1 := hk.cell hc1 id
      have p2 := hk.cell hc2 id
      have p3 := hk.cell hc3 id
      have p4 := hk.cell hc4 id
      have p5 := hk.cell hc5 id
      clear hc0 hc1 hc2 hc3 hc4 hc5 d6
      have hsm1 := fun w => hsm.out x.own[j] (hown.out _ (List.getElem_mem hjl)) w
      have onr := hon1.out.keptNob hk
      have hBr := onr.blkA
      have y0 := hBr.frozen 0
      have y1 := hBr.frozen 1
      have y2 := hBr.frozen 2
      have y3 := hBr.frozen 3
      have y4 := hBr.frozen 4
      have y5 := hBr.frozen 5
      have y6 := hBr.frozen 6
      have y7 := hBr.frozen 7
      have y8 := hBr.frozen 8
      have b0 := hBr.cell 0
      have b1 := hBr.cell 1
      have b2 := hBr.cell 2
      have b3 := hBr.cell 3
      have b4 := hBr.cell 4
      have b5 := hBr.cell 5
      have b6 := hBr.cell 6
      have b7 := hBr.cell 7
      have b8 := hBr.cell 8
      simp at b0 b1 b2 b3 b4 b5 b6 b7 b8
      clear hBr
      replace onr := Lib.hid onr
      obtain ⟨a, ha⟩ : ∃ a, x.own[j] = a := ⟨_, rfl⟩
      rw [ha] at hsm1 p0
      replace hsm1 := Lib.hid hsm1
      replace hk := Lib.hid hk
      have hltN : j < No := by omega
      clear e1 hlt
      by_cases hsame : sameB a s = true
      · rw [hsame] at hsm1
        replace hsame := Lib.hid hsame
        replace hno := Lib.hid hno
        replace ha := Lib.hid ha
        go_wp2_with fail
        refine (hsm1.out _).mono ?_
        rintro e w2 ⟨rfl, m, rfl⟩
        have hon6 := ((((((((((onr.out.drewN m).setA 0 (.int .i64 4)).setA 1 (.int .i64 0)).setA 2 (.string ⟨#[]⟩)).setA 3 (.string ⟨a.toArray⟩)).setA 4 (.int .i64 ei)).setA 5 (.int .i64 eo)).setA 6 (.bool ek)).setA 7 (.int .i64 ed)).setA 8 (.bool eb))
        have hB6 := hon6.blkA
        have q0 := hB6.cell 0
        have q1 := hB6.cell 1
        have q2 := hB6.cell 2
        have q3 := hB6.cell 3
        have q4 := hB6.cell 4
        have q5 := hB6.cell 5
        have q6 := hB6.cell 6
        have q7 := hB6.cell 7
        have q8 := hB6.cell 8
        simp at q0 q1 q2 q3 q4 q5 q6 q7 q8
        clear hB6
        replace hon6 := Lib.hid hon6
        go_wp2_with fail
        refine bodyPost_ret (v := .agg #[.int .i64 4, .int .i64 0, .string ⟨#[]⟩, .string ⟨a.toArray⟩, .int .i64 ei, .int .i64 eo, .bool ek, .int .i64 ed, .bool eb]) (by simp [results, Tryz.results49, go_sem, q0, q1, q2, q3, q4, q5, q6, q7, q8]) rfl ?_
        exact (hon6.out.tailA.headA).post ⟨⟨4, 0, [], a, ei, eo, ek, ed, eb, rfl, .inl ⟨rfl, a, by rw [← ha.out]; exact List.getElem_mem hjl, hsame.out⟩⟩, rfl⟩
      · have hsame : sameB a s = false := by simpa using hsame
        have hno2 : ∀ q (hq : q < x.own.length), j ≤ q → sameB x.own[q] s = false := fun q hq h => by
          rcases Nat.lt_or_ge j q with h1 | h1
          · exact hno q hq (by omega)
          · have : q = j := by omega
            subst this
            rw [ha]
            exact hsame
        rw [hsame] at hsm1
        replace hsame := Lib.hid hsame
        replace hno := Lib.hid hno
        replace hno2 := Lib.hid hno2
        replace ha := Lib.hid ha
        clear y0 b0 y1 b1 y2 b2 y3 b3 y4 b4 y5 b5 y6 b6 y7 b7 y8 b8
        clear p1 p2 p3 p4 p5
        go_wp2_with fail
        refine (hsm1.out _).mono ?_
        rintro e w2 ⟨rfl, m, rfl⟩
        go_wp2_with fail
        go_roundw
        case rel => exact ⟨j, by omega, by go_num, hk.out.drewN m, hno2.out⟩
        case measure => simp [RowKit.intOf]
    · obtain rfl : j = 0 := by omega
      have hno1 : ∀ y ∈ x.own, sameB y s = false := mem_none fun q hq => hno q hq (Nat.zero_le _)
      clear hno hlt
      replace hno1 := Lib.hid hno1
      replace hk := Lib.hid hk
      clear d2
      have e1 : ((0 : Nat) : Int) - 1 = -1 := rfl
      rw [e1]
      clear e1
      go_wp2_with fail
      go_loopw [6] (fun i wx => ∃ q : Nat, q ≤ Nr ∧ i = .int .i64 (q : Int) ∧ Kept Nob w1 wx ∧ ∀ p (hp : p < src.length), p < q → sameB src[p] s = false) (fun i _ => Nr - (RowKit.intOf i).toNat)
      case atStart => exact ⟨0, by omega, rfl, hk.out, fun p hp h => by omega⟩
      case round =>
        clear d6 hk hj
        obtain ⟨j, hj, rfl, hk, hno⟩ := hrel
        have d6 := hk.cell k6.out id
        by_cases hlt : j < Nr
        · have hjl : j < src.length := by rw [hNr.out]; exact hlt
          obtain ⟨sg, ei, eo, ek, ed, eb, rfl, hc0, hc1, hc2, hc3, hc4, hc5⟩ := hR2.out j hjl
          have p0 := hk.cell hc0 id
          have p1 := hk.cell hc1 id
          have p2 := hk.cell hc2 id
          have p3 := hk.cell hc3 id
          have p4 := hk.cell hc4 id
          have p5 := hk.cell hc5 id
          clear hc0 hc1 hc2 hc3 hc4 hc5
          have hsm1 := fun w => hsm.out src[j] (hsrc.out _ (List.getElem_mem hjl)) w
          have onr := hon1.out.keptNob hk
          have hBr := onr.blkA
          have y0 := hBr.frozen 0
          have y1 := hBr.frozen 1
          have y2 := hBr.frozen 2
          have y3 := hBr.frozen 3
          have y4 := hBr.frozen 4
          have y5 := hBr.frozen 5
          have y6 := hBr.frozen 6
          have y7 := hBr.frozen 7
          have y8 := hBr.frozen 8
          have b0 := hBr.cell 0
          have b1 := hBr.cell 1
          have b2 := hBr.cell 2
          have b3 := hBr.cell 3
          have b4 := hBr.cell 4
          have b5 := hBr.cell 5
          have b6 := hBr.cell 6
          have b7 := hBr.cell 7
          have b8 := hBr.cell 8
          simp at b0 b1 b2 b3 b4 b5 b6 b7 b8
          clear hBr
          replace onr := Lib.hid onr
          obtain ⟨a, ha⟩ : ∃ a, src[j] = a := ⟨_, rfl⟩
          rw [ha] at hsm1 p0
          replace hsm1 := Lib.hid hsm1
          replace hk := Lib.hid hk
          by_cases hsame : sameB a s = true
          · rw [hsame] at hsm1
            replace hsame := Lib.hid hsame
            replace hno := Lib.hid hno
            replace ha := Lib.hid ha
            go_wp2_with fail
            refine (hsm1.out _).mono ?_
            rintro e w2 ⟨rfl, m, rfl⟩
            go_wp2_with fail
            go_region
            all_goals
              have hon6 := (((((((((((onr.out.drewN m).drew).setA 0 (.int .i64 3)).setA 1 (.int .i64 0)).setA 2 (.string ⟨a.toArray⟩)).setA 3 (.string ⟨a.toArray⟩)).setA 4 (.int .i64 ei)).setA 5 (.int .i64 eo)).setA 6 (.bool ek)).setA 7 (.int .i64 ed)).setA 8 (.bool eb))
              have hB6 := hon6.blkA
              have q0 := hB6.cell 0
              have q1 := hB6.cell 1
              have q2 := hB6.cell 2
              have q3 := hB6.cell 3
              have q4 := hB6.cell 4
              have q5 := hB6.cell 5
              have q6 := hB6.cell 6
              have q7 := hB6.cell 7
              have q8 := hB6.cell 8
              simp at q0 q1 q2 q3 q4 q5 q6 q7 q8
              clear hB6
              replace hon6 := Lib.hid hon6
              go_wp2_with fail
              refine bodyPost_ret (v := .agg #[.int .i64 3, .int .i64 0, .string ⟨a.toArray⟩, .string ⟨a.toArray⟩, .int .i64 ei, .int .i64 eo, .bool ek, .int .i64 ed, .bool eb]) (by simp [results, Tryz.results49, go_sem, q0, q1, q2, q3, q4, q5, q6, q7, q8]) rfl ?_
              exact (hon6.out.tailA.headA).post ⟨⟨3, 0, a, a, ei, eo, ek, ed, eb, rfl, .inr ⟨hno1.out, .inl ⟨rfl, a, by rw [← ha.out]; exact List.getElem_mem hjl, hsame.out, rfl⟩⟩⟩, rfl⟩
          · have hsame : sameB a s = false := by simpa using hsame
            have hno2 : ∀ p (hp : p < src.length), p < j + 1 → sameB src[p] s = false := fun q hq h => by
              rcases Nat.lt_or_ge q j with h1 | h1
              · exact hno q hq h1
              · have : q = j := by omega
                subst this
                rw [ha]
                exact hsame
            rw [hsame] at hsm1
            replace hsame := Lib.hid hsame
            replace hno := Lib.hid hno
            replace hno2 := Lib.hid hno2
            replace ha := Lib.hid ha
            clear y0 b0 y1 b1 y2 b2 y3 b3 y4 b4 y5 b5 y6 b6 y7 b7 y8 b8
            clear p1 p2 p3 p4 p5
            go_wp2_with fail
            refine (hsm1.out _).mono ?_
            rintro e w2 ⟨rfl, m, rfl⟩
            go_wp2_with fail
            go_roundw
            case rel => exact ⟨j + 1, by omega, by go_num, hk.out.drewN m, hno2.out⟩
            case measure => simp [RowKit.intOf]; omega
        · obtain rfl : j = Nr := by omega
          have hno2 : ∀ y ∈ src, sameB y s = false := mem_none fun q hq => hno q hq (by have := hNr.out; omega)
          clear hno hlt
          replace hno2 := Lib.hid hno2
          replace hk := Lib.hid hk
          go_wp2_with fail
          refine (hsp.out _).mono ?_
          rintro e w2 ⟨rfl, hw2⟩
          obtain ⟨sb, hsb⟩ : ∃ sb, wr.heap.size = sb := ⟨_, rfl⟩
          rw [hsb]
          have hblk : Blk w2 sb 9 (strsC specials).toArray := by rw [hw2, ← hsb]; exact Blk.new _ _ _
          have hk2 : Kept Nob w1 w2 := by rw [hw2]; exact hk.out.alloc _
          clear hk d6 hw2 hsb
          replace hblk := Lib.hid hblk
          replace hk2 := Lib.hid hk2
          go_wp2_with fail
          go_loopw [8] (fun i wy => ∃ q : Nat, q ≤ 36 ∧ i = .int .i64 (q : Int) ∧ Kept Nob w2 wy ∧ ∀ p (hp : p < specials.length), p < q → sameB specials[p] s = false) (fun i _ => 36 - (RowKit.intOf i).toNat)
          case atStart => exact ⟨0, by omega, rfl, Kept.refl _ _, fun p hp h => by omega⟩
          case round =>
            obtain ⟨j, hj, rfl, hk3, hno⟩ := hrel
            have hk := hk2.out.trans hk3
            by_cases hlt : j < 36
            · have hjl : j < specials.length := by rw [specs_len]; exact hlt
              have p0 : wr.cell? ⟨sb, j, none⟩ = some (.string ⟨(specials[j]).toArray⟩) := by
                rw [(hblk.out.kept hk3 id).cell]
                simp [strsC, hjl]
              have hsm1 := fun w => hsm.out specials[j] (specs_short _ (List.getElem_mem hjl)) w
              have onr := hon1.out.keptNob hk
              have hBr := onr.blkA
              have y0 := hBr.frozen 0
              have y1 := hBr.frozen 1
              have y2 := hBr.frozen 2
              have y3 := hBr.frozen 3
              have y4 := hBr.frozen 4
              have y5 := hBr.frozen 5
              have y6 := hBr.frozen 6
              have y7 := hBr.frozen 7
              have y8 := hBr.frozen 8
              have b0 := hBr.cell 0
              have b1 := hBr.cell 1
              have b2 := hBr.cell 2
              have b3 := hBr.cell 3
              have b4 := hBr.cell 4
              have b5 := hBr.cell 5
              have b6 := hBr.cell 6
              have b7 := hBr.cell 7
              have b8 := hBr.cell 8
              simp at b0 b1 b2 b3 b4 b5 b6 b7 b8
              clear hBr
              replace onr := Lib.hid onr
              obtain ⟨a, ha⟩ : ∃ a, specials[j] = a := ⟨_, rfl⟩
              rw [ha] at hsm1 p0
              replace hsm1 := Lib.hid hsm1
              replace hk3 := Lib.hid hk3
              replace hk := Lib.hid hk
              by_cases hsame : sameB a s = true
              · rw [hsame] at hsm1
                obtain ⟨jn, hjn⟩ : ∃ jn : Nat, j + 1 = jn := ⟨_, rfl⟩
                have ejn : (j : Int) + 1 = (jn : Int) := by omega
                replace hjn := Lib.hid hjn
                replace hsame := Lib.hid hsame
                replace hno := Lib.hid hno
                replace ha := Lib.hid ha
                go_wp2_with fail
                refine (hsm1.out _).mono ?_
                rintro e w3 ⟨rfl, m, rfl⟩
                have hon6 := ((((((((((onr.out.drewN m).setA 0 (.int .i64 2)).setA 1 (.int .i64 (jn : Int))).setA 2 (.string ⟨a.toArray⟩)).setA 3 (.string ⟨#[]⟩)).setA 4 (.int .i64 0)).setA 5 (.int .i64 0)).setA 6 (.bool false)).setA 7 (.int .i64 0)).setA 8 (.bool false))
                have hB6 := hon6.blkA
                have q0 := hB6.cell 0
                have q1 := hB6.cell 1
                have q2 := hB6.cell 2
                have q3 := hB6.cell 3
                have q4 := hB6.cell 4
                have q5 := hB6.cell 5
                have q6 := hB6.cell 6
                have q7 := hB6.cell 7
                have q8 := hB6.cell 8
                simp at q0 q1 q2 q3 q4 q5 q6 q7 q8
                clear hB6
                replace hon6 := Lib.hid hon6
                go_wp2_with fail
                refine bodyPost_ret (v := .agg #[.int .i64 2, .int .i64 (jn : Int), .string ⟨a.toArray⟩, .string ⟨#[]⟩, .int .i64 0, .int .i64 0, .bool false, .int .i64 0, .bool false]) (by simp [results, Tryz.results49, go_sem, q0, q1, q2, q3, q4, q5, q6, q7, q8]) rfl ?_
                exact (hon6.out.tailA.headA).post ⟨⟨2, jn, a, [], 0, 0, false, 0, false, rfl, .inr ⟨hno1.out, .inr ⟨hno2.out, .inl ⟨rfl, j, by rw [List.getElem?_eq_getElem hjl, ha.out], hsame.out, hjn.out.symm⟩⟩⟩⟩, rfl⟩
              · have hsame : sameB a s = false := by simpa using hsame
                have hno3 : ∀ p (hp : p < specials.length), p < j + 1 → sameB specials[p] s = false := fun q hq h => by
                  rcases Nat.lt_or_ge q j with h1 | h1
                  · exact hno q hq h1
                  · have : q = j := by omega
                    subst this
                    rw [ha]
                    exact hsame
                rw [hsame] at hsm1
                replace hsame := Lib.hid hsame
                replace hno := Lib.hid hno
                replace hno3 := Lib.hid hno3
                replace ha := Lib.hid ha
                clear y0 b0 y1 b1 y2 b2 y3 b3 y4 b4 y5 b5 y6 b6 y7 b7 y8 b8
                go_wp2_with fail
                refine (hsm1.out _).mono ?_
                rintro e w3 ⟨rfl, m, rfl⟩
                go_wp2_with fail
                go_roundw
                case rel => exact ⟨j + 1, by omega, by go_num, hk3.out.drewN m, hno3.out⟩
                case measure => simp [RowKit.intOf]; omega
            · obtain rfl : j = 36 := by omega
              have hno3 : ∀ y ∈ specials, sameB y s = false := mem_none fun q hq => hno q hq (by have := specs_len; omega)
              clear hno hlt
              replace hno3 := Lib.hid hno3
              replace hk := Lib.hid hk
              clear hk3
              go_wp2_with fail
              refine (hnum.out _).mono ?_
              rintro e w4 ⟨rfl, hbel⟩
              have hk := hk.out.trans (Kept.ofBelow0 hbel)
              clear hbel
              have hnpe : (Code.numberN ⟨s.toArray⟩ : Int) = (numP s : Int) := rfl
              rw [hnpe]
              clear hnpe
              by_cases hop : 0 < numP s
              · by_cases hh : s.head? = some 40
                · have i0 := fun w => idx_head40 s hh w
                  have hnop : ¬ (0 < numP s ∧ s.head? ≠ some 40) := fun h => h.2 hh
                  obtain ⟨pn, hpn⟩ : ∃ pn, numP s = pn := ⟨_, rfl⟩
                  rw [hpn] at hop
                  rw [hpn]
                  replace hpn := Lib.hid hpn
                  replace hnop := Lib.hid hnop
                  replace hk := Lib.hid hk
                  rcases hpp : parseN s 10 with ⟨pv, pb⟩
                  have hpr := fun w => hpar.out w
                  have hpe : parseN (⟨s.toArray⟩ : ByteArray).data.toList 10 = (pv, pb) := hpp
                  rw [hpe] at hpr
                  clear hpe
                  replace hpp := Lib.hid hpp
                  replace hpr := Lib.hid hpr
                  rcases pb with _ | _
                  · go_wp2_with fail
                    refine (hpr.out _).mono ?_
                    rintro e w5 ⟨rfl, rfl⟩
                    have hk := hk.out
                    have onr := hon1.out.keptNob hk
                    have hBr := onr.blkA
                    have y0 := hBr.frozen 0
                    have y1 := hBr.frozen 1
                    have y2 := hBr.frozen 2
                    have y3 := hBr.frozen 3
                    have y4 := hBr.frozen 4
                    have y5 := hBr.frozen 5
                    have y6 := hBr.frozen 6
                    have y7 := hBr.frozen 7
                    have y8 := hBr.frozen 8
                    have b0 := hBr.cell 0
                    have b1 := hBr.cell 1
                    have b2 := hBr.cell 2
                    have b3 := hBr.cell 3
                    have b4 := hBr.cell 4
                    have b5 := hBr.cell 5
                    have b6 := hBr.cell 6
                    have b7 := hBr.cell 7
                    have b8 := hBr.cell 8
                    simp at b0 b1 b2 b3 b4 b5 b6 b7 b8
                    clear hBr
                    replace onr := Lib.hid onr
                    replace hk := Lib.hid hk
                    have hon6 := ((((((((((onr.out).setA 0 (.int .i64 0)).setA 1 (.int .i64 0)).setA 2 (.string ⟨#[]⟩)).setA 3 (.string ⟨#[]⟩)).setA 4 (.int .i64 0)).setA 5 (.int .i64 0)).setA 6 (.bool false)).setA 7 (.int .i64 0)).setA 8 (.bool false))
                    have hB6 := hon6.blkA
                    have q0 := hB6.cell 0
                    have q1 := hB6.cell 1
                    have q2 := hB6.cell 2
                    have q3 := hB6.cell 3
                    have q4 := hB6.cell 4
                    have q5 := hB6.cell 5
                    have q6 := hB6.cell 6
                    have q7 := hB6.cell 7
                    have q8 := hB6.cell 8
                    simp at q0 q1 q2 q3 q4 q5 q6 q7 q8
                    clear hB6
                    replace hon6 := Lib.hid hon6
                    go_wp2_with fail
                    refine bodyPost_ret (v := .agg #[.int .i64 0, .int .i64 0, .string ⟨#[]⟩, .string ⟨#[]⟩, .int .i64 0, .int .i64 0, .bool false, .int .i64 0, .bool false]) (by simp [results, Tryz.results49, go_sem, q0, q1, q2, q3, q4, q5, q6, q7, q8]) rfl ?_
                    exact (hon6.out.tailA.headA).post ⟨⟨0, 0, [], [], 0, 0, false, 0, false, rfl, .inr ⟨hno1.out, .inr ⟨hno2.out, .inr ⟨hno3.out, .inr ⟨hnop.out, .inr ⟨rfl, by rw [hpp.out]⟩⟩⟩⟩⟩⟩, rfl⟩
                  · go_wp2_with fail
                    refine (hpr.out _).mono ?_
                    rintro e w5 ⟨rfl, rfl⟩
                    have hk := hk.out
                    have onr := hon1.out.keptNob hk
                    have hBr := onr.blkA
                    have y0 := hBr.frozen 0
                    have y1 := hBr.frozen 1
                    have y2 := hBr.frozen 2
                    have y3 := hBr.frozen 3
                    have y4 := hBr.frozen 4
                    have y5 := hBr.frozen 5
                    have y6 := hBr.frozen 6
                    have y7 := hBr.frozen 7
                    have y8 := hBr.frozen 8
                    have b0 := hBr.cell 0
                    have b1 := hBr.cell 1
                    have b2 := hBr.cell 2
                    have b3 := hBr.cell 3
                    have b4 := hBr.cell 4
                    have b5 := hBr.cell 5
                    have b6 := hBr.cell 6
                    have b7 := hBr.cell 7
                    have b8 := hBr.cell 8
                    simp at b0 b1 b2 b3 b4 b5 b6 b7 b8
                    clear hBr
                    replace onr := Lib.hid onr
                    replace hk := Lib.hid hk
                    have hon6 := ((((((((((onr.out).setA 0 (.int .i64 5)).setA 1 (.int .i64 0)).setA 2 (.string ⟨#[]⟩)).setA 3 (.string ⟨#[]⟩)).setA 4 (.int .i64 0)).setA 5 (.int .i64 0)).setA 6 (.bool false)).setA 7 (.int .i64 0)).setA 8 (.bool false))
                    have hB6 := hon6.blkA
                    have q0 := hB6.cell 0
                    have q1 := hB6.cell 1
                    have q2 := hB6.cell 2
                    have q3 := hB6.cell 3
                    have q4 := hB6.cell 4
                    have q5 := hB6.cell 5
                    have q6 := hB6.cell 6
                    have q7 := hB6.cell 7
                    have q8 := hB6.cell 8
                    simp at q0 q1 q2 q3 q4 q5 q6 q7 q8
                    clear hB6
                    replace hon6 := Lib.hid hon6
                    go_wp2_with fail
                    refine bodyPost_ret (v := .agg #[.int .i64 5, .int .i64 0, .string ⟨#[]⟩, .string ⟨#[]⟩, .int .i64 0, .int .i64 0, .bool false, .int .i64 0, .bool false]) (by simp [results, Tryz.results49, go_sem, q0, q1, q2, q3, q4, q5, q6, q7, q8]) rfl ?_
                    exact (hon6.out.tailA.headA).post ⟨⟨5, 0, [], [], 0, 0, false, 0, false, rfl, .inr ⟨hno1.out, .inr ⟨hno2.out, .inr ⟨hno3.out, .inr ⟨hnop.out, .inl ⟨rfl, by rw [hpp.out]⟩⟩⟩⟩⟩⟩, rfl⟩
                · obtain ⟨c, hc, i0⟩ := idx_head s hne.out
                  have hc40 : ((c.toNat : Int) != 40) = true := by
                    rw [bne_iff_ne]
                    intro h
                    exact hh (by rw [hc]; congr 1; exact UInt8.toNat_inj.1 (show c.toNat = (40 : UInt8).toNat by have e : (40 : UInt8).toNat = 40 := rfl; omega))
                  obtain ⟨pnm, hpnm⟩ : ∃ pnm, Code.names.getD (numP s - 1) [] = pnm := ⟨_, rfl⟩
                  have hnm : ∀ w, Calls Tryz.prog 76 #[.int .i64 (numP s : Int)] w (Fresh (.string ⟨pnm.toArray⟩) w) := fun w => by
                    have h1 := Name_in (numP s - 1) (by have := hnp.out; omega) w
                    have e1 : ((numP s - 1 : Nat) : Int) + 1 = (numP s : Int) := by omega
                    rw [e1] at h1
                    have e2 : Code.name (numP s - 1) = ⟨pnm.toArray⟩ := by unfold Code.name; rw [hpnm]
                    rw [e2] at h1
                    exact h1
                  have hdw : DocW x.own src s 1 (numP s) pnm := .inr ⟨hno1.out, .inr ⟨hno2.out, .inr ⟨hno3.out, .inl ⟨rfl, hop, hh, rfl, hpnm.symm⟩⟩⟩⟩
                  obtain ⟨pn, hpn⟩ : ∃ pn, numP s = pn := ⟨_, rfl⟩
                  rw [hpn] at hnm hop hdw ⊢
                  clear hpn hh hpnm hc hnum
                  replace hnm := Lib.hid hnm
                  replace hdw := Lib.hid hdw
                  replace hk := Lib.hid hk
                  go_wp2_with fail
                  refine (hnm.out _).mono ?_
                  rintro e w5 ⟨rfl, hk5⟩
                  have hk := hk.out.trans hk5
                  clear hk5
                  have onr := hon1.out.keptNob hk
                  have hBr := onr.blkA
                  have y0 := hBr.frozen 0
                  have y1 := hBr.frozen 1
                  have y2 := hBr.frozen 2
                  have y3 := hBr.frozen 3
                  have y4 := hBr.frozen 4
                  have y5 := hBr.frozen 5
                  have y6 := hBr.frozen 6
                  have y7 := hBr.frozen 7
                  have y8 := hBr.frozen 8
                  have b0 := hBr.cell 0
                  have b1 := hBr.cell 1
                  have b2 := hBr.cell 2
                  have b3 := hBr.cell 3
                  have b4 := hBr.cell 4
                  have b5 := hBr.cell 5
                  have b6 := hBr.cell 6
                  have b7 := hBr.cell 7
                  have b8 := hBr.cell 8
                  simp at b0 b1 b2 b3 b4 b5 b6 b7 b8
                  clear hBr
                  replace onr := Lib.hid onr
                  replace hk := Lib.hid hk
                  have hon6 := ((((((((((onr.out).setA 0 (.int .i64 1)).setA 1 (.int .i64 (pn : Int))).setA 2 (.string ⟨pnm.toArray⟩)).setA 3 (.string ⟨#[]⟩)).setA 4 (.int .i64 0)).setA 5 (.int .i64 0)).setA 6 (.bool false)).setA 7 (.int .i64 0)).setA 8 (.bool false))
                  have hB6 := hon6.blkA
                  have q0 := hB6.cell 0
                  have q1 := hB6.cell 1
                  have q2 := hB6.cell 2
                  have q3 := hB6.cell 3
                  have q4 := hB6.cell 4
                  have q5 := hB6.cell 5
                  have q6 := hB6.cell 6
                  have q7 := hB6.cell 7
                  have q8 := hB6.cell 8
                  simp at q0 q1 q2 q3 q4 q5 q6 q7 q8
                  clear hB6
                  replace hon6 := Lib.hid hon6
                  go_wp2_with fail
                  refine bodyPost_ret (v := .agg #[.int .i64 1, .int .i64 (pn : Int), .string ⟨pnm.toArray⟩, .string ⟨#[]⟩, .int .i64 0, .int .i64 0, .bool false, .int .i64 0, .bool false]) (by simp [results, Tryz.results49, go_sem, q0, q1, q2, q3, q4, q5, q6, q7, q8]) rfl ?_
                  exact (hon6.out.tailA.headA).post ⟨⟨1, pn, pnm, [], 0, 0, false, 0, false, rfl, hdw.out⟩, rfl⟩
              · have hnop : ¬ (0 < numP s ∧ s.head? ≠ some 40) := fun h => hop h.1
                have hz : (numP s : Int) = 0 := by omega
                rw [hz]
                clear hz hop
                replace hnop := Lib.hid hnop
                replace hk := Lib.hid hk
                rcases hpp : parseN s 10 with ⟨pv, pb⟩
                have hpr := fun w => hpar.out w
                have hpe : parseN (⟨s.toArray⟩ : ByteArray).data.toList 10 = (pv, pb) := hpp
                rw [hpe] at hpr
                clear hpe
                replace hpp := Lib.hid hpp
                replace hpr := Lib.hid hpr
                rcases pb with _ | _
                · go_wp2_with fail
                  refine (hpr.out _).mono ?_
                  rintro e w5 ⟨rfl, rfl⟩
                  have hk := hk.out
                  have onr := hon1.out.keptNob hk
                  have hBr := onr.blkA
                  have y0 := hBr.frozen 0
                  have y1 := hBr.frozen 1
                  have y2 := hBr.frozen 2
                  have y3 := hBr.frozen 3
                  have y4 := hBr.frozen 4
                  have y5 := hBr.frozen 5
                  have y6 := hBr.frozen 6
                  have y7 := hBr.frozen 7
                  have y8 := hBr.frozen 8
                  have b0 := hBr.cell 0
                  have b1 := hBr.cell 1
                  have b2 := hBr.cell 2
                  have b3 := hBr.cell 3
                  have b4 := hBr.cell 4
                  have b5 := hBr.cell 5
                  have b6 := hBr.cell 6
                  have b7 := hBr.cell 7
                  have b8 := hBr.cell 8
                  simp at b0 b1 b2 b3 b4 b5 b6 b7 b8
                  clear hBr
                  replace onr := Lib.hid onr
                  replace hk := Lib.hid hk
                  have hon6 := ((((((((((onr.out).setA 0 (.int .i64 0)).setA 1 (.int .i64 0)).setA 2 (.string ⟨#[]⟩)).setA 3 (.string ⟨#[]⟩)).setA 4 (.int .i64 0)).setA 5 (.int .i64 0)).setA 6 (.bool false)).setA 7 (.int .i64 0)).setA 8 (.bool false))
                  have hB6 := hon6.blkA
                  have q0 := hB6.cell 0
                  have q1 := hB6.cell 1
                  have q2 := hB6.cell 2
                  have q3 := hB6.cell 3
                  have q4 := hB6.cell 4
                  have q5 := hB6.cell 5
                  have q6 := hB6.cell 6
                  have q7 := hB6.cell 7
                  have q8 := hB6.cell 8
                  simp at q0 q1 q2 q3 q4 q5 q6 q7 q8
                  clear hB6
                  replace hon6 := Lib.hid hon6
                  go_wp2_with fail
                  refine bodyPost_ret (v := .agg #[.int .i64 0, .int .i64 0, .string ⟨#[]⟩, .string ⟨#[]⟩, .int .i64 0, .int .i64 0, .bool false, .int .i64 0, .bool false]) (by simp [results, Tryz.results49, go_sem, q0, q1, q2, q3, q4, q5, q6, q7, q8]) rfl ?_
                  exact (hon6.out.tailA.headA).post ⟨⟨0, 0, [], [], 0, 0, false, 0, false, rfl, .inr ⟨hno1.out, .inr ⟨hno2.out, .inr ⟨hno3.out, .inr ⟨hnop.out, .inr ⟨rfl, by rw [hpp.out]⟩⟩⟩⟩⟩⟩, rfl⟩
                · go_wp2_with fail
                  refine (hpr.out _).mono ?_
                  rintro e w5 ⟨rfl, rfl⟩
                  have hk := hk.out
                  have onr := hon1.out.keptNob hk
                  have hBr := onr.blkA
                  have y0 := hBr.frozen 0
                  have y1 := hBr.frozen 1
                  have y2 := hBr.frozen 2
                  have y3 := hBr.frozen 3
                  have y4 := hBr.frozen 4
                  have y5 := hBr.frozen 5
                  have y6 := hBr.frozen 6
                  have y7 := hBr.frozen 7
                  have y8 := hBr.frozen 8
                  have b0 := hBr.cell 0
                  have b1 := hBr.cell 1
                  have b2 := hBr.cell 2
                  have b3 := hBr.cell 3
                  have b4 := hBr.cell 4
                  have b5 := hBr.cell 5
                  have b6 := hBr.cell 6
                  have b7 := hBr.cell 7
                  have b8 := hBr.cell 8
                  simp at b0 b1 b2 b3 b4 b5 b6 b7 b8
                  clear hBr
                  replace onr := Lib.hid onr
                  replace hk := Lib.hid hk
                  have hon6 := ((((((((((onr.out).setA 0 (.int .i64 5)).setA 1 (.int .i64 0)).setA 2 (.string ⟨#[]⟩)).setA 3 (.string ⟨#[]⟩)).setA 4 (.int .i64 0)).setA 5 (.int .i64 0)).setA 6 (.bool false)).setA 7 (.int .i64 0)).setA 8 (.bool false))
                  have hB6 := hon6.blkA
                  have q0 := hB6.cell 0
                  have q1 := hB6.cell 1
                  have q2 := hB6.cell 2
                  have q3 := hB6.cell 3
                  have q4 := hB6.cell 4
                  have q5 := hB6.cell 5
                  have q6 := hB6.cell 6
                  have q7 := hB6.cell 7
                  have q8 := hB6.cell 8
                  simp at q0 q1 q2 q3 q4 q5 q6 q7 q8
                  clear hB6
                  replace hon6 := Lib.hid hon6
                  go_wp2_with fail
                  refine bodyPost_ret (v := .agg #[.int .i64 5, .int .i64 0, .string ⟨#[]⟩, .string ⟨#[]⟩, .int .i64 0, .int .i64 0, .bool false, .int .i64 0, .bool false]) (by simp [results, Tryz.results49, go_sem, q0, q1, q2, q3, q4, q5, q6, q7, q8]) rfl ?_
                  exact (hon6.out.tailA.headA).post ⟨⟨5, 0, [], [], 0, 0, false, 0, false, rfl, .inr ⟨hno1.out, .inr ⟨hno2.out, .inr ⟨hno3.out, .inr ⟨hnop.out, .inl ⟨rfl, by rw [hpp.out]⟩⟩⟩⟩⟩⟩, rfl⟩
end Look
end Go.Proofs.YthejfkkmcbdlhaaGreatDoor
/- What the document says a word is, and what the program's reader says of it: the same. Plain lemmas. -/
namespace Go.Proofs.YthejfkkmcbdlhaaGreatDoor
set_option linter.unusedVariables false
set_option maxRecDepth 100000
open Go.RowKit Go.Lib
namespace Look
theorem low_up_n : ∀ n : Fin 256, lowC (Code.upB (UInt8.ofNat n.val)) = lowC (UInt8.ofNat n.val) ∧ Code.upB (lowC (UInt8.ofNat n.val)) = Code.upB (UInt8.ofNat n.val) := by decide +kernel
theorem low_up (c : UInt8) : lowC (Code.upB c) = lowC c ∧ Code.upB (lowC c) = Code.upB c := by
  have h := low_up_n ⟨c.toNat, UInt8.toNat_lt c⟩
  simpa using h
theorem up_low (a b : List UInt8) : a.map Code.upB = b.map Code.upB ↔ lowS a = lowS b := by
  have h1 : ∀ l : List UInt8, (l.map Code.upB).map lowC = lowS l := fun l => by
    unfold lowS; rw [List.map_map]; exact List.map_congr_left fun c _ => (low_up c).1
  have h2 : ∀ l : List UInt8, (lowS l).map Code.upB = l.map Code.upB := fun l => by
    unfold lowS; rw [List.map_map]; exact List.map_congr_left fun c _ => (low_up c).2
  constructor
  · intro h
    rw [← h1 a, ← h1 b, h]
  · intro h
    rw [← h2 a, ← h2 b, h]
/-- a name is an operation's, but for its letters' size -/
theorem hit_low (s : List UInt8) (i : Nat) : Code.hit ⟨s.toArray⟩ i = true ↔ lowS (Code.names.getD i []) = lowS s := by
  unfold Code.hit Code.large Code.name
  rw [decide_eq_true_eq, ← up_low]
  constructor
  · intro h
    have := congrArg (fun b : ByteArray => b.data.toList) h
    simpa using this
  · intro h
    simp only
    rw [h]
theorem numP_none {s : List UInt8} (h : numP s = 0) : ∀ i, i < 106 → lowS (Code.names.getD i []) ≠ lowS s := by
  intro i hi he
  unfold numP Code.numberN at h
  rcases hf : (List.range 106).find? (Code.hit ⟨s.toArray⟩) with _ | k
  · rw [List.find?_eq_none] at hf
    exact hf i (by simpa using hi) ((hit_low s i).2 he)
  · rw [hf] at h
    simp at h
theorem numP_some {s : List UInt8} (h : 0 < numP s) : numP s - 1 < 106 ∧ lowS (Code.names.getD (numP s - 1) []) = lowS s := by
  unfold numP Code.numberN at *
  rcases hf : (List.range 106).find? (Code.hit ⟨s.toArray⟩) with _ | k
  · rw [hf] at h; simp at h
  · have h1 := List.find?_some hf
    have h2 := List.mem_of_find?_eq_some hf
    simp only [Option.map_some, Option.getD_some]
    exact ⟨by simpa using h2, (hit_low s k).1 h1⟩
theorem docW_kind {own src : List (List UInt8)} {s : List UInt8} {k n : Nat} {nm : List UInt8} (h : DocW own src s k n nm) : k ≤ 5 := by
  rcases h with ⟨rfl, _⟩ | ⟨_, ⟨rfl, _⟩ | ⟨_, ⟨rfl, _⟩ | ⟨_, ⟨rfl, _⟩ | ⟨_, ⟨rfl, _⟩ | ⟨rfl, _⟩⟩⟩⟩⟩ <;> omega
theorem docW_two {own src : List (List UInt8)} {s : List UInt8} {n : Nat} {nm : List UInt8} (h : DocW own src s 2 n nm) : 1 ≤ n ∧ n ≤ 36 := by
  rcases h with ⟨h, _⟩ | ⟨_, ⟨h, _⟩ | ⟨_, ⟨_, i, hi, _, rfl⟩ | ⟨_, ⟨h, _⟩ | ⟨_, ⟨h, _⟩ | ⟨h, _⟩⟩⟩⟩⟩
  · omega
  · omega
  · obtain ⟨hi', _⟩ := List.getElem?_eq_some_iff.1 hi
    rw [specs_len] at hi'
    omega
  · omega
  · omega
  · omega
theorem names_ne : ∀ i : Fin 106, Code.names.getD i.val [] ≠ [] := by decide +kernel
theorem specs_ne : ∀ a ∈ specials, a ≠ [] := by decide +kernel
theorem tab_ops : ∀ i : Fin 106, (Code.names.getD i.val []).head? ≠ some 40 → tab.lookup (lowS (Code.names.getD i.val [])) = some ⟨1, i.val + 1, Code.names.getD i.val []⟩ := by decide +kernel
theorem tab_specs : ∀ i : Fin 36, tab.lookup (lowS (specials.getD i.val [])) = some ⟨2, i.val + 1, specials.getD i.val []⟩ := by decide +kernel
theorem tab_from : ∀ p ∈ tab, (∃ i : Fin 106, p.1 = lowS (Code.names.getD i.val []) ∧ (Code.names.getD i.val []).head? ≠ some 40) ∨ (∃ i : Fin 36, p.1 = lowS (specials.getD i.val [])) := by decide +kernel
theorem low_head40 (a : List UInt8) : (lowS a).head? = some 40 ↔ a.head? = some 40 := by
  rcases a with _ | ⟨c, a⟩
  · simp [lowS]
  · show (some (lowC c) = some 40) ↔ (some c = some 40)
    have : ∀ n : Fin 256, lowC (UInt8.ofNat n.val) = 40 ↔ UInt8.ofNat n.val = 40 := by decide +kernel
    have h := this ⟨c.toNat, UInt8.toNat_lt c⟩
    simp at h
    rw [Option.some_inj, Option.some_inj]
    exact h
theorem head40_low {a b : List UInt8} (h : lowS a = lowS b) : a.head? = some 40 ↔ b.head? = some 40 := by rw [← low_head40, ← low_head40 b, h]
/-- the kernel's words that a reader knows: the document's list of them -/
structure EnvD (E : Env) (src : List (List UInt8)) : Prop where
  tab : E.tab = tab
  names : E.klist.map (·.name) = src
  keys : distinctB (src.map lowS) = true
  ne : ∀ a ∈ src, a ≠ []
theorem distinct_nodup : ∀ l : List (List UInt8), distinctB l = true → l.Nodup
  | [], _ => List.nodup_nil
  | x :: l, h => by
    unfold distinctB at h
    rw [Bool.and_eq_true] at h
    refine List.nodup_cons.2 ⟨?_, distinct_nodup l h.2⟩
    have := h.1
    simpa using this
theorem latest_find : ∀ {l : List Eff} {k : List UInt8} {i : Nat}, latest l k = some i → ∃ e, l[i]? = some e ∧ lowS e.name = k
  | [], _, _, h => by cases h
  | e :: l, k, i, h => by
    unfold latest at h
    rcases hl : latest l k with _ | j
    · rw [hl] at h
      simp only at h
      split at h
      · cases h
        exact ⟨e, rfl, by assumption⟩
      · cases h
    · rw [hl] at h
      cases h
      obtain ⟨e', h1, h2⟩ := latest_find hl
      exact ⟨e', by simpa using h1, h2⟩
theorem latest_no {l : List Eff} {k : List UInt8} (h : ∀ e ∈ l, lowS e.name ≠ k) : latest l k = none := by
  rcases hl : latest l k with _ | i
  · rfl
  · obtain ⟨e, h1, h2⟩ := latest_find hl
    exact absurd h2 (h e (List.mem_of_getElem? h1))
theorem latest_yes : ∀ {l : List Eff} {k : List UInt8} {e : Eff}, e ∈ l → lowS e.name = k → ∃ i, latest l k = some i
  | x :: l, k, e, he, h => by
    unfold latest
    rcases hl : latest l k with _ | i
    · rcases List.mem_cons.1 he with rfl | he
      · exact ⟨0, by rw [if_pos h]⟩
      · obtain ⟨i, hi⟩ := latest_yes he h
        rw [hl] at hi; cases hi
    · exact ⟨i + 1, rfl⟩
theorem sameB_iff (a b : List UInt8) : sameB a b = true ↔ lowS a = lowS b := by unfold sameB; rw [decide_eq_true_eq]
theorem sameB_not (a b : List UInt8) : sameB a b = false ↔ lowS a ≠ lowS b := by unfold sameB; rw [decide_eq_false_iff_not]
theorem what_ne {E : Env} {own src : List (List UInt8)} (hE : EnvD E src) {s : List UInt8} {k n : Nat} {nm : List UInt8} (h : DocW own src s k n nm) (hk : k = 1 ∨ k = 2 ∨ k = 3) : nm ≠ [] := by
  rcases h with ⟨h, _⟩ | ⟨_, ⟨_, y, hy, _, rfl⟩ | ⟨_, ⟨_, i, hi, _⟩ | ⟨_, ⟨_, hp, _, _, rfl⟩ | ⟨_, ⟨h, _⟩ | ⟨h, _⟩⟩⟩⟩⟩
  · omega
  · exact hE.ne _ hy
  · exact specs_ne _ (List.mem_of_getElem? hi)
  · exact names_ne ⟨numP s - 1, (numP_some hp).1⟩
  · omega
  · omega
theorem what_ext {w : W} {k n : Nat} {nm : List UInt8} (h : w = ⟨k, n, nm⟩) : w.kind = k ∧ w.n = n ∧ w.name = nm := by subst h; exact ⟨rfl, rfl, rfl⟩
/-- THE TWO AGREE -/
theorem what_doc {E : Env} {src : List (List UInt8)} (hE : EnvD E src) {l : List Eff} {s : List UInt8} {k n : Nat} {nm : List UInt8} (h : DocW (l.map (·.name)) src s k n nm) :
    (what E l s).kind = k ∧ (k = 1 ∨ k = 2 → (what E l s).n = n) ∧ (k = 1 ∨ k = 2 ∨ k = 3 → (what E l s).name = nm) ∧ (k = 0 ∨ k = 4 ∨ k = 5 → (what E l s).name = []) := by
  rcases h with ⟨rfl, x, hx, hs⟩ | ⟨hno, h⟩
  · obtain ⟨e, he, rfl⟩ := List.mem_map.1 hx
    obtain ⟨i, hi⟩ := latest_yes he ((sameB_iff _ _).1 hs)
    unfold what
    rw [hi]
    exact ⟨rfl, fun h => by omega, fun h => by omega, fun _ => rfl⟩
  · have hl : latest l (lowS s) = none := latest_no fun e he => (sameB_not _ _).1 (hno _ (List.mem_map.2 ⟨e, he, rfl⟩))
    rcases h with ⟨rfl, x, hx, hs, rfl⟩ | ⟨hno2, h⟩
    · rw [← hE.names] at hx
      obtain ⟨e, he, rfl⟩ := List.mem_map.1 hx
      obtain ⟨i, hi⟩ := latest_yes he ((sameB_iff _ _).1 hs)
      obtain ⟨e', h1, h2⟩ := latest_find hi
      have hee : e'.name = e.name := by
        have hd := distinct_nodup _ hE.keys
        rw [← hE.names, List.map_map] at hd
        obtain ⟨j, hj, rfl⟩ := List.mem_iff_getElem.1 he
        obtain ⟨hi', rfl⟩ := List.getElem?_eq_some_iff.1 h1
        have hpw := List.pairwise_iff_getElem.1 hd
        have e1 : ∀ q (hq : q < E.klist.length), (E.klist.map (lowS ∘ (·.name)))[q]'(by simpa using hq) = lowS (E.klist[q]).name := fun q hq => by simp
        have hij : i = j := by
          rcases Nat.lt_trichotomy i j with h3 | h3 | h3
          · exact absurd (by rw [e1 i hi', e1 j hj, h2, (sameB_iff _ _).1 hs]) (hpw i j (by simpa using hi') (by simpa using hj) h3)
          · exact h3
          · exact absurd (by rw [e1 i hi', e1 j hj, h2, (sameB_iff _ _).1 hs]) (hpw j i (by simpa using hj) (by simpa using hi') h3)
        subst hij
        rfl
      have hwt : what E l s = ⟨3, i, (E.klist.getD i default).name⟩ := by
        unfold what
        rw [hl]
        simp only
        rw [hi]
      rw [hwt]
      refine ⟨rfl, fun h => by omega, fun _ => ?_, fun h => by omega⟩
      show (E.klist.getD i default).name = e.name
      rw [List.getD_eq_getElem?_getD, h1]
      exact hee
    · have hl2 : latest E.klist (lowS s) = none := latest_no fun e he => (sameB_not _ _).1 (hno2 _ (by rw [← hE.names]; exact List.mem_map.2 ⟨e, he, rfl⟩))
      have hwh : what E l s = match tab.lookup (lowS s) with
          | some w => w
          | none => if (parseN s 10).2 then ⟨5, 0, []⟩ else ⟨0, 0, []⟩ := by
        unfold what
        rw [hl]
        simp only
        rw [hl2, hE.tab]
        rfl
      rw [hwh]
      rcases h with ⟨rfl, i, hi, hs, rfl⟩ | ⟨hno3, h⟩
      · obtain ⟨hi', rfl⟩ := List.getElem?_eq_some_iff.1 hi
        have ht := tab_specs ⟨i, by rw [← specs_len]; exact hi'⟩
        have he : specials.getD i [] = specials[i] := by rw [List.getD_eq_getElem?_getD, hi]; rfl
        simp only [he] at ht
        rw [(sameB_iff _ _).1 hs] at ht
        rw [ht]
        exact ⟨rfl, fun _ => rfl, fun _ => rfl, fun h => by omega⟩
      · rcases h with ⟨rfl, hp, hh, rfl, rfl⟩ | ⟨hnp, h⟩
        · obtain ⟨h1, h2⟩ := numP_some hp
          have ht := tab_ops ⟨numP s - 1, h1⟩ (fun h => hh ((head40_low h2).1 h))
          simp only at ht
          rw [h2] at ht
          rw [ht]
          refine ⟨rfl, fun _ => ?_, fun _ => rfl, fun h => by omega⟩
          show numP s - 1 + 1 = numP s
          omega
        · have ht : tab.lookup (lowS s) = none := by
            rcases ht : tab.lookup (lowS s) with _ | w
            · rfl
            · exfalso
              rcases tab_from _ (lookup_mem2 _ _ _ ht) with ⟨i, h1, h2⟩ | ⟨i, h1⟩
              · simp only at h1
                rcases Nat.eq_zero_or_pos (numP s) with h0 | h0
                · exact numP_none h0 i.val i.isLt h1.symm
                · exact hnp ⟨h0, fun h => h2 ((head40_low h1).1 h)⟩
              · simp only at h1
                have hi : i.val < specials.length := by rw [specs_len]; exact i.isLt
                have he : specials.getD i.val [] = specials[i.val] := by rw [List.getD_eq_getElem?_getD, List.getElem?_eq_getElem hi]; rfl
                exact (sameB_not _ _).1 (hno3 _ (List.getElem_mem hi)) (by rw [← he]; exact h1.symm)
          rw [ht]
          simp only
          rcases h with ⟨rfl, hpa⟩ | ⟨rfl, hpa⟩
          · rw [hpa]
            exact ⟨rfl, fun h => by omega, fun h => by omega, fun _ => rfl⟩
          · rw [hpa]
            exact ⟨rfl, fun h => by omega, fun h => by omega, fun _ => rfl⟩
end Look
end Go.Proofs.YthejfkkmcbdlhaaGreatDoor
/- A round of the document's reader and a round of the program's: they agree. Plain lemmas. -/
namespace Go.Proofs.YthejfkkmcbdlhaaGreatDoor
set_option linter.unusedVariables false
set_option maxRecDepth 100000
open Go.RowKit Go.Lib
namespace Look
/-- two readers that have read alike -/
structure Rel (r : Rd) (x : Tx) : Prop where
  at_ : x.at_ = r.at_
  own : x.own = r.list.map (·.name)
  mem : ∀ m, m ∈ x.sp ↔ m ∈ r.spoken
  nd : x.sp.Nodup
  op : x.op.map Prod.fst = r.open_.map (·.e.name)
  ok : ∀ nm l, x.op = some (nm, l) → OkD l ∧ l.length ≤ x.at_
  ownl : x.own.length ≤ x.at_
  spl : x.sp.length ≤ 2 * x.at_
theorem Rel.isSome {r : Rd} {x : Tx} (h : Rel r x) : x.op.isSome = r.open_.isSome := by
  have := h.op
  rcases hx : x.op with _ | ⟨a, b⟩ <;> rcases hr : r.open_ with _ | d <;> rw [hx, hr] at this <;> simp at this ⊢
theorem passes_eq {T : List UInt8} {a : Nat} {w : W} {k n : Nat} (h1 : w.kind = k) (h2 : k = 1 ∨ k = 2 → w.n = n) : passes T a w = passes T a ⟨k, n, []⟩ := by
  subst h1
  by_cases hk : w.kind = 2
  · rw [← h2 (.inr hk)]
    unfold passes
    rfl
  · unfold passes
    rw [if_pos hk, if_pos hk]
theorem named_other {o : Bool} {w : W} (h : ¬ (w.kind = 1 ∨ w.kind = 2)) : named o w = false := by
  unfold named
  rw [if_neg (by omega), if_pos (by omega)]
theorem named_eq {o : Bool} {w : W} {k n : Nat} (h1 : w.kind = k) (h2 : k = 1 ∨ k = 2 → w.n = n) : named o w = named o ⟨k, n, []⟩ := by
  subst h1
  by_cases hk : w.kind = 1 ∨ w.kind = 2
  · rw [← h2 hk]
    unfold named
    rfl
  · rw [named_other hk, named_other (w := ⟨w.kind, n, []⟩) hk]
theorem named_k2 (o : Bool) (n : Nat) : named o ⟨2, n, []⟩ = if n = 8 ∨ n = 10 then o else !o && decide (n = 1 ∨ n = 7 ∨ n = 9 ∨ n = 13 ∨ n = 14) := rfl
theorem two_yes {o : Bool} {k n : Nat} (h : named o ⟨k, n, []⟩ = true) : two o k n = true ↔ k = 2 ∧ (n = 7 ∨ n = 8) := by
  unfold two
  by_cases hk : k = 2
  · subst hk
    rw [named_k2] at h
    cases o
    · by_cases h8 : n = 8 ∨ n = 10
      · rw [if_pos h8] at h; cases h
      · rw [if_neg h8] at h
        simp at h ⊢
        omega
    · by_cases h8 : n = 8 ∨ n = 10
      · simp; omega
      · rw [if_neg h8] at h
        simp at h
  · simp [hk]
theorem two_no {o : Bool} {k n : Nat} (h : named o ⟨k, n, []⟩ = false) : two o k n = false := by
  unfold two
  by_cases hk : k = 2
  · subst hk
    rw [named_k2] at h
    cases o
    · by_cases h8 : n = 8 ∨ n = 10
      · simp; omega
      · rw [if_neg h8] at h
        simp at h ⊢
        omega
    · by_cases h8 : n = 8 ∨ n = 10
      · rw [if_pos h8] at h; cases h
      · simp; omega
  · simp [hk]
theorem speaks_open_name (E : Env) (r : Rd) (w : W) : (speaks E r w).open_.map (·.e.name) = r.open_.map (·.e.name) := by
  unfold speaks
  simp only
  split <;> split <;> simp [Option.map_map, Function.comp_def]
theorem speaks_spoken_eq (E : Env) (r : Rd) (w : W) : (speaks E r w).spoken = if w.name = [] then r.spoken else r.spoken ++ [w.name] := by
  unfold speaks
  simp only
  split <;> split <;> simp_all
theorem spk_mem {sp spoken : List (List UInt8)} {k : Nat} {nm : List UInt8} (hm : ∀ m, m ∈ sp ↔ m ∈ spoken) {w : W} (h1 : k = 1 ∨ k = 2 ∨ k = 3 → w.name = nm ∧ nm ≠ []) (h2 : ¬ (k = 1 ∨ k = 2 ∨ k = 3) → w.name = []) :
    ∀ m, m ∈ spk sp k nm ↔ m ∈ (if w.name = [] then spoken else spoken ++ [w.name]) := by
  intro m
  unfold spk
  by_cases hk : k = 1 ∨ k = 2 ∨ k = 3
  · obtain ⟨h3, h4⟩ := h1 hk
    rw [h3, if_neg h4]
    by_cases hs : nm ∈ sp
    · rw [if_neg (fun h => h.2 hs), hm, List.mem_append, List.mem_singleton]
      constructor
      · exact .inl
      · rintro (h | rfl)
        · exact h
        · exact (hm _).1 hs
    · rw [if_pos ⟨hk, hs⟩, List.mem_append, List.mem_append, hm]
  · rw [if_neg (fun h => hk h.1), h2 hk, if_pos rfl, hm]
theorem spk_nodup {sp : List (List UInt8)} {k : Nat} {nm : List UInt8} (h : sp.Nodup) : (spk sp k nm).Nodup := by
  unfold spk
  split
  · next hc =>
    rw [List.nodup_append]
    refine ⟨h, by simp, fun a ha b hb => ?_⟩
    rw [List.mem_singleton] at hb
    subst hb
    rintro rfl
    exact hc.2 ha
  · exact h
theorem spk_len (sp : List (List UInt8)) (k : Nat) (nm : List UInt8) : (spk sp k nm).length ≤ sp.length + 1 := by
  unfold spk
  split <;> simp
theorem item_name (E : Env) (l : List Eff) (d : Def) (w : W) : (item E l d w).e.name = d.e.name := (item_tame E l d w).name
section
variable {E : Env} {src : List (List UInt8)} {T : List UInt8} {r : Rd} {x : Tx} {k n : Nat} {nm : List UInt8}
theorem rel_word (h : Rel r x) (hT : r.at_ ≤ T.length) (hw : wordAt T x.at_ = []) : readAll E T r = rd1 T r ∧ Rel (rd1 T r) { x with at_ := wordEnd T x.at_ } := by
  have ha := h.at_
  refine ⟨readAll_off (by rw [round_eq, if_pos (by rw [← ha]; exact hw)]), ?_⟩
  have hle : x.at_ ≤ wordEnd T x.at_ := by
    have h5 : x.at_ ≤ wordFrom T x.at_ := le_goesTo isLow T x.at_
    have h6 : wordFrom T x.at_ ≤ wordTo T x.at_ := le_goesTo isHigh T (wordFrom T x.at_)
    have h7 : wordTo T x.at_ ≤ wordEnd T x.at_ := le_stepTo T (wordTo T x.at_)
    omega
  exact ⟨by show wordEnd T x.at_ = wordEnd T r.at_; rw [ha], h.own, h.mem, h.nd, h.op, fun a b hh => ⟨(h.ok a b hh).1, Nat.le_trans (h.ok a b hh).2 hle⟩, Nat.le_trans h.ownl hle, Nat.le_trans h.spl (by show 2 * x.at_ ≤ 2 * wordEnd T x.at_; omega)⟩
theorem word_le (T : List UInt8) (i : Nat) : i ≤ wordEnd T i := by
  have h5 : i ≤ wordFrom T i := le_goesTo isLow T i
  have h6 : wordFrom T i ≤ wordTo T i := le_goesTo isHigh T (wordFrom T i)
  have h7 : wordTo T i ≤ wordEnd T i := le_stepTo T (wordTo T i)
  omega
/-- the state behind the first word -/
theorem rel_first (hE : EnvD E src) (h : Rel r x) (hT : r.at_ ≤ T.length) (hne : wordAt T x.at_ ≠ []) (hw : DocW x.own src (wordAt T x.at_) k n nm) :
    (rdW E T r).kind = k ∧ (k = 1 ∨ k = 2 → (rdW E T r).n = n) ∧ x.at_ + 1 ≤ wordEnd T x.at_ ∧ Rel (rd3 E T r) { x with at_ := wordEnd T x.at_, sp := spk x.sp k nm } ∧ (rd3 E T r).open_.isSome = x.op.isSome ∧ (spk x.sp k nm).length ≤ x.sp.length + 1 := by
  have ha := h.at_
  rw [h.own] at hw
  have hd := what_doc hE hw
  have hn := what_ne hE hw
  have hk : rdW E T r = what E r.list (wordAt T x.at_) := by unfold rdW; rw [ha]
  rw [← hk] at hd
  have hle := wordEnd_lt (by rw [ha]; exact hT) hne
  have hsp3 : (rd3 E T r).spoken = if (rdW E T r).name = [] then r.spoken else r.spoken ++ [(rdW E T r).name] := by
    show (speaks E (rd1 T r) (rdW E T r)).spoken = _
    rw [speaks_spoken_eq]
    rfl
  have hmem := spk_mem h.mem (k := k) (nm := nm) (w := rdW E T r) (fun h => ⟨hd.2.2.1 h, hn h⟩) (fun h => hd.2.2.2 (by have := docW_kind hw; omega))
  have hopn : (rd3 E T r).open_.map (·.e.name) = r.open_.map (·.e.name) := speaks_open_name E (rd1 T r) (rdW E T r)
  have hlen := spk_len x.sp k nm
  refine ⟨hd.1, hd.2.1, hle, ⟨?_, ?_, ?_, spk_nodup h.nd, ?_, fun a b hh => ⟨(h.ok a b hh).1, Nat.le_trans (h.ok a b hh).2 (by show x.at_ ≤ wordEnd T x.at_; omega)⟩, Nat.le_trans h.ownl (by show x.at_ ≤ wordEnd T x.at_; omega), ?_⟩, ?_, hlen⟩
  · rw [rd3_at, ← ha]
  · rw [rd3_list]; exact h.own
  · rw [hsp3]; exact hmem
  · rw [hopn]; exact h.op
  · have := h.spl
    show (spk x.sp k nm).length ≤ 2 * wordEnd T x.at_
    omega
  · rw [h.isSome]
    exact (speaks_keeps E (rd1 T r) (rdW E T r)).2.2.2.2
theorem Rel.moved {r : Rd} {x : Tx} (h : Rel r x) (i : Nat) (hi : x.at_ ≤ i) : Rel { r with at_ := i } { x with at_ := i } :=
  ⟨rfl, h.own, h.mem, h.nd, h.op, fun a b hh => ⟨(h.ok a b hh).1, Nat.le_trans (h.ok a b hh).2 hi⟩, Nat.le_trans h.ownl hi, Nat.le_trans h.spl (by show 2 * x.at_ ≤ 2 * i; omega)⟩
/-- the text ends behind a word -/
theorem rel_stop (hE : EnvD E src) (h : Rel r x) (hT : r.at_ ≤ T.length) (hne : wordAt T x.at_ ≠ []) (hw : DocW x.own src (wordAt T x.at_) k n nm) {a : Nat} {name : List UInt8} (ho : onAt T (wordEnd T x.at_) x.op.isSome k n = (a, false, name)) :
    Rel (readAll E T r) { x with at_ := a, sp := spk x.sp k nm } := by
  obtain ⟨h1, h2, h3, h4, h5, -⟩ := rel_first hE h hT hne hw
  have ha := h.at_
  have hne2 : ¬ wordAt T r.at_ = [] := by rw [← ha]; exact hne
  unfold onAt at ho
  rcases hp : passes T (wordEnd T x.at_) ⟨k, n, []⟩ with _ | i
  · rw [hp] at ho
    simp only at ho
    cases ho
    rw [readAll_off (by rw [round_eq, if_neg hne2, rd3_at, ← ha, passes_eq h1 h2, hp])]
    exact h4
  · rw [hp] at ho
    simp only at ho
    rw [← h5] at ho
    split at ho
    · next hn =>
      simp at ho
      obtain ⟨rfl, hwe, rfl⟩ := ho
      rw [readAll_off (r' := rd5 E T r i) (by rw [round_eq, if_neg hne2, rd3_at, ← ha, passes_eq h1 h2, hp]; simp only; rw [named_eq h1 h2, if_pos hn, if_pos hwe])]
      have hpa := passes_at (wordEnd_le (by rw [ha]; exact hT)) hp
      exact h4.moved _ (Nat.le_trans hpa.1 (word_le T i))
    · simp at ho
/-- a second word is spoken of, or none -/
def sp2 (x : Tx) (k n : Nat) (nm : List UInt8) (k' : Nat) (nm' : List UInt8) : List (List UInt8) := if two x.op.isSome k n then spk (spk x.sp k nm) k' nm' else spk x.sp k nm
/-- the text goes on: the state ahead of what the word does -/
theorem rel_on (hE : EnvD E src) (h : Rel r x) (hT : r.at_ ≤ T.length) (hne : wordAt T x.at_ ≠ []) (hw : DocW x.own src (wordAt T x.at_) k n nm) {a : Nat} {name : List UInt8} (ho : onAt T (wordEnd T x.at_) x.op.isSome k n = (a, true, name))
    {k' n' : Nat} {nm' : List UInt8} (hw' : two x.op.isSome k n = true → DocW x.own src name k' n' nm') :
    ∃ (r3 : Rd) (w : W), w.kind = k ∧ (k = 1 ∨ k = 2 → w.n = n) ∧ round E T r = (does E r3 w name, true) ∧ Rel r3 { x with at_ := a, sp := sp2 x k n nm k' nm' } ∧ a ≤ T.length ∧ x.at_ + 1 ≤ a ∧ (sp2 x k n nm k' nm').length ≤ x.sp.length + 2 := by
  obtain ⟨h1, h2, h3, h4, h5, h6⟩ := rel_first hE h hT hne hw
  have ha := h.at_
  have hne2 : ¬ wordAt T r.at_ = [] := by rw [← ha]; exact hne
  unfold onAt at ho
  rcases hp : passes T (wordEnd T x.at_) ⟨k, n, []⟩ with _ | i
  · rw [hp] at ho; simp at ho
  · rw [hp] at ho
    simp only at ho
    rw [← h5] at ho
    have hpa := passes_at (wordEnd_le (by rw [ha]; exact hT)) hp
    refine ⟨if named (rd3 E T r).open_.isSome ⟨k, n, []⟩ then rd6 E T r i else rd4 E T r i, rdW E T r, h1, h2, ?_⟩
    split at ho
    · next hn =>
      simp at ho
      obtain ⟨rfl, hwe, rfl⟩ := ho
      rw [if_pos hn]
      refine ⟨by rw [round_eq, if_neg hne2, rd3_at, ← ha, passes_eq h1 h2, hp]; simp only; rw [named_eq h1 h2, if_pos hn, if_neg hwe], ?_, wordEnd_le hpa.2, Nat.le_trans h3 (Nat.le_trans hpa.1 (word_le T i)), ?_⟩
      · have h7 := h4.moved (wordEnd T i) (Nat.le_trans hpa.1 (word_le T i))
        have htw : two x.op.isSome k n = true ↔ ((rdW E T r).kind = 2 ∧ ((rdW E T r).n = 7 ∨ (rdW E T r).n = 8)) := by
          rw [h5] at hn
          rw [two_yes hn, h1]
          constructor
          · rintro ⟨h, h'⟩
            rw [h2 (.inr h)]
            exact ⟨h, h'⟩
          · rintro ⟨h, h'⟩
            rw [h2 (.inr h)] at h'
            exact ⟨h, h'⟩
        unfold sp2 rd6
        by_cases ht : two x.op.isSome k n = true
        · rw [if_pos ht, if_pos (htw.1 ht)]
          have hw2 := hw' ht
          rw [h.own] at hw2
          have hl5 : (rd5 E T r i).list = r.list := rd3_list E T r
          have hd := what_doc hE hw2
          have hnn := what_ne hE hw2
          rw [hl5]
          have hmem := spk_mem h7.mem (k := k') (nm := nm') (w := what E r.list (wordAt T i)) (fun h => ⟨hd.2.2.1 h, hnn h⟩) (fun h => hd.2.2.2 (by have := docW_kind hw2; omega))
          have hsk := speaks_keeps E (rd5 E T r i) (what E r.list (wordAt T i))
          have hlen := spk_len (spk x.sp k nm) k' nm'
          refine ⟨?_, ?_, ?_, spk_nodup h7.nd, ?_, h7.ok, h7.ownl, ?_⟩
          · rw [hsk.1]; rfl
          · rw [hsk.2.1]; exact h7.own
          · rw [speaks_spoken_eq]; exact hmem
          · rw [speaks_open_name]; exact h7.op
          · have := h.spl
            have := word_le T i
            show (spk (spk x.sp k nm) k' nm').length ≤ 2 * wordEnd T i
            omega
        · rw [if_neg ht, if_neg (fun h => ht (htw.2 h))]
          exact h7
      · unfold sp2
        have := spk_len (spk x.sp k nm) k' nm'
        split <;> omega
    · next hn =>
      simp at ho
      obtain ⟨rfl, rfl⟩ := ho
      rw [if_neg hn]
      refine ⟨by rw [round_eq, if_neg hne2, rd3_at, ← ha, passes_eq h1 h2, hp]; simp only; rw [named_eq h1 h2, if_neg hn], ?_, hpa.2, Nat.le_trans h3 hpa.1, ?_⟩
      · have htw : two x.op.isSome k n = false := by
          rw [h5] at hn
          exact two_no (by simpa using hn)
        unfold sp2
        rw [htw]
        exact h4.moved i hpa.1
      · unfold sp2
        have := spk_len (spk x.sp k nm) k' nm'
        split <;> omega
theorem kn_eq {w : W} (h1 : w.kind = k) (h2 : k = 1 ∨ k = 2 → w.n = n) : (w.kind = 1 ∧ w.n = 85 ∨ w.kind = 2 ∧ (w.n = 13 ∨ w.n = 14) ↔ k = 1 ∧ n = 85 ∨ k = 2 ∧ (n = 13 ∨ n = 14)) ∧ (w.kind = 2 ∧ w.n = 1 ↔ k = 2 ∧ n = 1) ∧ (w.kind = 2 ∧ w.n = 2 ↔ k = 2 ∧ n = 2) := by
  subst h1
  by_cases hk : w.kind = 1 ∨ w.kind = 2
  · rw [h2 hk]; exact ⟨Iff.rfl, Iff.rfl, Iff.rfl⟩
  · refine ⟨?_, ?_, ?_⟩ <;> constructor <;> intro h <;> omega
/-- nothing is open -/
theorem rel_out {r3 : Rd} {w : W} {name : List UInt8} {y : Tx} (h1 : w.kind = k) (h2 : k = 1 ∨ k = 2 → w.n = n) (h : Rel r3 y) (hop : y.op = none) {a0 : Nat} (ha : a0 + 1 ≤ y.at_) (hown : y.own.length ≤ a0) : Rel (does E r3 w name) (outX y k n name) := by
  obtain ⟨e1, e2, e3⟩ := kn_eq h1 h2
  have hn : r3.open_ = none := by have := h.isSome; rw [hop] at this; simpa using this.symm
  unfold does outX
  rw [hn]
  simp only
  by_cases c1 : k = 1 ∧ n = 85 ∨ k = 2 ∧ (n = 13 ∨ n = 14)
  · rw [if_pos c1, if_pos (e1.2 c1)]
    refine ⟨h.at_, by show _ = (r3.list ++ [_]).map _; rw [List.map_append, ← h.own]; rfl, h.mem, h.nd, by show y.op.map _ = _; rw [hop]; show none = (owns r3 _ _).open_.map _; unfold owns; simp only; rw [hn]; rfl, h.ok, ?_, h.spl⟩
    show (y.own ++ [name]).length ≤ y.at_
    simp
    omega
  · rw [if_neg c1, if_neg (fun h => c1 (e1.1 h))]
    by_cases c2 : k = 2 ∧ n = 1
    · rw [if_pos c2, if_pos (e2.2 c2)]
      refine ⟨h.at_, h.own, h.mem, h.nd, rfl, fun a b hh => ?_, h.ownl, h.spl⟩
      cases hh
      exact ⟨fun o ho => by simp at ho, by simp⟩
    · rw [if_neg c2, if_neg (fun h => c2 (e2.1 h))]
      split
      · rcases hg : r3.list.getLast? with _ | e
        · exact h
        · simp only
          refine ⟨h.at_, ?_, h.mem, h.nd, by show y.op.map _ = (none : Option Def).map _; rw [hop]; rfl, h.ok, h.ownl, h.spl⟩
          show y.own = (r3.list.dropLast ++ [_]).map _
          have hne : r3.list ≠ [] := by rintro h0; rw [h0] at hg; cases hg
          have hl := List.dropLast_concat_getLast hne
          rw [List.getLast?_eq_some_getLast hne] at hg
          cases hg
          rw [h.own, List.map_append]
          have hm := congrArg (List.map (·.name)) hl
          rw [List.map_append] at hm
          rw [← hm]
          rfl
      · exact h
/-- a definition ends -/
theorem rel_semi {r3 : Rd} {w : W} {name : List UInt8} {y : Tx} (h1 : w.kind = k) (h2 : k = 1 ∨ k = 2 → w.n = n) (h : Rel r3 y) {nm0 : List UInt8} {l : List Open} (hop : y.op = some (nm0, l)) (hc : k = 2 ∧ n = 2) {a0 : Nat} (ha : a0 + 1 ≤ y.at_) (hown : y.own.length ≤ a0) : Rel (does E r3 w name) { y with own := y.own ++ [nm0], op := none } := by
  obtain ⟨e1, e2, e3⟩ := kn_eq h1 h2
  have hs := h.op
  rw [hop] at hs
  rcases hr : r3.open_ with _ | d
  · rw [hr] at hs; cases hs
  · rw [hr] at hs
    have hnm : nm0 = d.e.name := by simpa using hs
    unfold does
    rw [hr]
    simp only
    rw [if_pos (e3.2 hc)]
    refine ⟨h.at_, ?_, h.mem, h.nd, rfl, fun a b hh => (by cases hh), ?_, h.spl⟩
    · show y.own ++ [nm0] = (r3.list ++ [d.closed]).map (·.name)
      rw [List.map_append, ← h.own, hnm]
      simp [closed_name]
    · show (y.own ++ [nm0]).length ≤ y.at_
      simp
      omega
/-- within a definition -/
theorem rel_in {r3 : Rd} {w : W} {name : List UInt8} {y : Tx} (h1 : w.kind = k) (h2 : k = 1 ∨ k = 2 → w.n = n) (h : Rel r3 y) {nm0 : List UInt8} {l l' : List Open} (hop : y.op = some (nm0, l)) (hc : ¬ (k = 2 ∧ n = 2)) (hwt : Went l l') {a0 : Nat} (ha : a0 + 1 ≤ y.at_) (hl : l.length ≤ a0) : Rel (does E r3 w name) { y with op := some (nm0, l') } := by
  obtain ⟨e1, e2, e3⟩ := kn_eq h1 h2
  have hs := h.op
  rw [hop] at hs
  rcases hr : r3.open_ with _ | d
  · rw [hr] at hs; cases hs
  · rw [hr] at hs
    have hnm : nm0 = d.e.name := by simpa using hs
    unfold does
    rw [hr]
    simp only
    rw [if_neg (fun h => hc (e3.1 h))]
    refine ⟨h.at_, h.own, h.mem, h.nd, ?_, fun a b hh => ?_, h.ownl, h.spl⟩
    · show some nm0 = some (item E r3.list d w).e.name
      rw [item_name, hnm]
    · cases hh
      exact ⟨hwt.1 (h.ok _ _ hop).1, Nat.le_trans hwt.2 (by show l.length + 1 ≤ y.at_; omega)⟩
end
end Look
end Go.Proofs.YthejfkkmcbdlhaaGreatDoor
