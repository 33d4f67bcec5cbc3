/- What a word of the document's text reads on: a name, up to a byte, to the line's end. Conditions: the text is no longer than a source may be. -/
import Derived.Test.YthejfkkmcbdlhaaGreatDoorQDocF
import Derived.BigRegion
import Derived.Deep.RegionWith
namespace Go.Proofs.YthejfkkmcbdlhaaGreatDoor
set_option linter.unusedVariables false
set_option maxRecDepth 100000
open Go.RowKit Go.Lib
namespace Look
theorem onAt_none {T : List UInt8} {a k n : Nat} {o : Bool} (h1 : ¬ (k = 2 ∧ (n = 15 ∨ n = 16 ∨ n = 17 ∨ n = 18))) (h2 : named o ⟨k, n, []⟩ = false) : onAt T a o k n = (a, true, []) := by
  have hp : passes T a ⟨k, n, []⟩ = some a := by
    unfold passes
    simp only
    split
    · rfl
    · next hk =>
      have hk : k = 2 := by simpa using hk
      rw [if_neg (fun h => h1 ⟨hk, by omega⟩), if_neg (fun h => h1 ⟨hk, by omega⟩), if_neg (fun h => h1 ⟨hk, by omega⟩)]
  unfold onAt
  rw [hp]
  simp only
  rw [h2]
  rfl
theorem onAt_named {T : List UInt8} {a k n : Nat} {o : Bool} (h1 : ¬ (k = 2 ∧ (n = 15 ∨ n = 16 ∨ n = 17 ∨ n = 18))) (h2 : named o ⟨k, n, []⟩ = true) : onAt T a o k n = (wordEnd T a, decide (wordAt T a ≠ []), wordAt T a) := by
  have hp : passes T a ⟨k, n, []⟩ = some a := by
    unfold passes
    simp only
    split
    · rfl
    · next hk =>
      have hk : k = 2 := by simpa using hk
      rw [if_neg (fun h => h1 ⟨hk, by omega⟩), if_neg (fun h => h1 ⟨hk, by omega⟩), if_neg (fun h => h1 ⟨hk, by omega⟩)]
  unfold onAt
  rw [hp]
  simp only
  rw [h2]
  rfl
theorem onAt_rest {T : List UInt8} {a : Nat} {o : Bool} : onAt T a o 2 16 = (restEnd T a, true, []) := by
  have hp : passes T a ⟨2, 16, []⟩ = some (restEnd T a) := rfl
  unfold onAt
  rw [hp]
  cases o <;> rfl
theorem onAt_until {T : List UInt8} {a n : Nat} {b : UInt8} {o : Bool} (h : n = 15 ∧ b = 41 ∨ (n = 17 ∨ n = 18) ∧ b = 34) : onAt T a o 2 n = match untilEnd b T a with | none => (a, false, []) | some i => (i, true, []) := by
  have hp : passes T a ⟨2, n, []⟩ = untilEnd b T a := by
    rcases h with ⟨rfl, rfl⟩ | ⟨rfl | rfl, rfl⟩ <;> rfl
  have hn : named o ⟨2, n, []⟩ = false := by
    rcases h with ⟨rfl, rfl⟩ | ⟨rfl | rfl, rfl⟩ <;> cases o <;> rfl
  unfold onAt
  rw [hp, hn]
  rcases untilEnd b T a with _ | i <;> rfl
theorem untilEnd_le {T : List UInt8} {i j : Nat} {b : UInt8} (h : untilEnd b T i = some j) : i ≤ j ∧ j ≤ T.length := by
  unfold untilEnd at h
  split at h
  · cases h
    have := le_goesTo (notB b) T i
    omega
  · cases h
theorem named_two {o : Bool} {n : Nat} (h : named o ⟨2, n, []⟩ = true) : (o = false ∧ (n = 1 ∨ n = 7 ∨ n = 9 ∨ n = 13 ∨ n = 14)) ∨ (o = true ∧ (n = 8 ∨ n = 10)) := by
  unfold named at h
  simp only [show ¬ (2 : Nat) = 1 by decide, if_false, ne_eq, not_true_eq_false] at h
  by_cases h8 : n = 8 ∨ n = 10
  · rw [if_pos h8] at h
    exact .inr ⟨h, h8⟩
  · rw [if_neg h8] at h
    simp at h
    exact .inl h
/-- what is open, as a pointer -/
theorem openD_ptr {w : World} {F : Nat → Prop} {vp : Value} {op : Option (List UInt8 × List Open)} (h : (OpenD vp op).holds w F) : (op.isSome = false ∧ vp = .pointer none) ∨ (op.isSome = true ∧ ∃ gd, vp = .pointer (some ⟨gd, 0, none⟩)) := by
  rcases op with _ | ⟨nm, l⟩
  · exact .inl ⟨rfl, h.1⟩
  · obtain ⟨gd, vs, h1, _⟩ := h
    exact .inr ⟨rfl, gd, h1⟩
set_option maxHeartbeats 8000000 in
/-- a word that reads nothing on -/
theorem t_on_none (g : Nat) (T : ByteArray) (hT : T.size ≤ 60000) (src : List (List UInt8)) (x : Tx) (hx : x.at_ ≤ T.size) (k n : Nat) (hk : k ≤ 5) (h1 : ¬ (k = 2 ∧ (n = 15 ∨ n = 16 ∨ n = 17 ∨ n = 18))) (h2 : named x.op.isSome ⟨k, n, []⟩ = false) (nm en : List UInt8) (i o : Int) (kn : Bool) (nd : Int) (lo : Bool) (w : World) (F : Nat → Prop) (hb : (TextA g T src x).holds w F) :
    Calls Tryz.prog 53 #[.pointer (some ⟨g, 0, none⟩), wdV k n nm en i o kn nd lo] w (Post (fun u B => u = .tuple #[.string ⟨(onAt T.data.toList x.at_ x.op.isSome k n).2.2.toArray⟩, .bool (onAt T.data.toList x.at_ x.op.isSome k n).2.1] ∧ B = TextA g T src { x with at_ := (onAt T.data.toList x.at_ x.op.isSome k n).1 }) F w) := by
  rw [onAt_none h1 h2]
  obtain ⟨vo, vs, loo, ndd, vr, vp, hon0⟩ := TextA.opened (On.refl hb)
  obtain ⟨_, hO⟩ := hon0.mem (A := OpenD vp x.op) (by simp [txL])
  obtain ⟨_, hB⟩ := hon0.mem (A := BlkA g 55 (txC T x.at_ vo vs loo ndd vr vp)) (by simp [txL])
  have hon2 := hon0.boxA (wdC k n nm en i o kn nd lo) 89
  have hon1 := TextA.closeL [BlkA w.heap.size 89 (wdC k n nm en i o kn nd lo)] hon2
  have k0 := hB.1.cell 0
  have k1 := hB.1.cell 1
  have k7 := hB.1.cell 7
  have f1 := hB.1.frozen 1
  have hgl := hB.1.lt
  simp [txC] at k0 k1 k7
  have hpv := openD_ptr hO
  obtain ⟨ob, hob⟩ : ∃ ob, x.op.isSome = ob := ⟨_, rfl⟩
  rw [hob] at hpv
  rw [hob] at h2
  clear hB hO hb hon2 hon0
  replace hon1 := Lib.hid hon1
  unfold wdV wdC at *
  have hfin : On F w (TextA g T src x) (w.alloc (.cells #[.int .i64 (k : Int), .int .i64 (n : Int), .string ⟨nm.toArray⟩, .string ⟨en.toArray⟩, .int .i64 i, .int .i64 o, .bool kn, .int .i64 nd, .bool lo] 89)) := hon1.out.tailA.headA
  replace hfin := Lib.hid hfin
  clear hon1
  replace hob := Lib.hid hob
  rcases hpv with ⟨rfl, rfl⟩ | ⟨rfl, gd, rfl⟩
  · have hcases : k = 1 ∨ k = 2 ∨ k = 0 ∨ k = 3 ∨ k = 4 ∨ k = 5 := by omega
    rcases hcases with rfl | rfl | rfl | rfl | rfl | rfl
    · by_cases h85 : n = 85
      · subst h85
        simp [named] at h2
      · have t1 : ((n : Int) == 85) = false := by rw [beq_eq_false_iff_ne]; omega
        clear h85 h1 h2
        go_enter Tryz.func53, Tryz.ntmps53
        go_wp2_with fail
        go_ret2
        exact hfin.out.post ⟨rfl, rfl⟩
    · have hc : (n = 1 ∨ n = 7 ∨ n = 9 ∨ n = 13 ∨ n = 14) ∨ (n = 8 ∨ n = 10) ∨ ¬ (n = 1 ∨ n = 7 ∨ n = 9 ∨ n = 13 ∨ n = 14 ∨ n = 8 ∨ n = 10) := by omega
      rcases hc with hc | hc | hc
      · rcases hc with rfl | rfl | rfl | rfl | rfl <;> simp [named] at h2
      · clear h1 h2
        rcases hc with rfl | rfl
        all_goals
          go_enter Tryz.func53, Tryz.ntmps53
          go_wp2_with fail
          go_ret2
          exact hfin.out.post ⟨rfl, rfl⟩
      · have h15 : ¬ (n = 15 ∨ n = 16 ∨ n = 17 ∨ n = 18) := fun h => h1 ⟨rfl, h⟩
        have t1 : ((n : Int) == 1) = false := by rw [beq_eq_false_iff_ne]; omega
        have t7 : ((n : Int) == 7) = false := by rw [beq_eq_false_iff_ne]; omega
        have t9 : ((n : Int) == 9) = false := by rw [beq_eq_false_iff_ne]; omega
        have t13 : ((n : Int) == 13) = false := by rw [beq_eq_false_iff_ne]; omega
        have t14 : ((n : Int) == 14) = false := by rw [beq_eq_false_iff_ne]; omega
        have t8 : ((n : Int) == 8) = false := by rw [beq_eq_false_iff_ne]; omega
        have t10 : ((n : Int) == 10) = false := by rw [beq_eq_false_iff_ne]; omega
        have t16 : ((n : Int) == 16) = false := by rw [beq_eq_false_iff_ne]; omega
        have t15 : ((n : Int) == 15) = false := by rw [beq_eq_false_iff_ne]; omega
        have t17 : ((n : Int) == 17) = false := by rw [beq_eq_false_iff_ne]; omega
        have t18 : ((n : Int) == 18) = false := by rw [beq_eq_false_iff_ne]; omega
        clear hc h15 h1 h2
        go_enter Tryz.func53, Tryz.ntmps53
        go_wp2_with fail
        go_ret2
        exact hfin.out.post ⟨rfl, rfl⟩
    · clear h1 h2
      go_enter Tryz.func53, Tryz.ntmps53
      go_wp2_with fail
      go_ret2
      exact hfin.out.post ⟨rfl, rfl⟩
    · clear h1 h2
      go_enter Tryz.func53, Tryz.ntmps53
      go_wp2_with fail
      go_ret2
      exact hfin.out.post ⟨rfl, rfl⟩
    · clear h1 h2
      go_enter Tryz.func53, Tryz.ntmps53
      go_wp2_with fail
      go_ret2
      exact hfin.out.post ⟨rfl, rfl⟩
    · clear h1 h2
      go_enter Tryz.func53, Tryz.ntmps53
      go_wp2_with fail
      go_ret2
      exact hfin.out.post ⟨rfl, rfl⟩
  · have hcases : k = 1 ∨ k = 2 ∨ k = 0 ∨ k = 3 ∨ k = 4 ∨ k = 5 := by omega
    rcases hcases with rfl | rfl | rfl | rfl | rfl | rfl
    · by_cases h85 : n = 85
      · subst h85
        clear h1 h2
        go_enter Tryz.func53, Tryz.ntmps53
        go_wp2_with fail
        go_ret2
        exact hfin.out.post ⟨rfl, rfl⟩
      · have t1 : ((n : Int) == 85) = false := by rw [beq_eq_false_iff_ne]; omega
        clear h85 h1 h2
        go_enter Tryz.func53, Tryz.ntmps53
        go_wp2_with fail
        go_ret2
        exact hfin.out.post ⟨rfl, rfl⟩
    · have hc : (n = 1 ∨ n = 7 ∨ n = 9 ∨ n = 13 ∨ n = 14) ∨ (n = 8 ∨ n = 10) ∨ ¬ (n = 1 ∨ n = 7 ∨ n = 9 ∨ n = 13 ∨ n = 14 ∨ n = 8 ∨ n = 10) := by omega
      rcases hc with hc | hc | hc
      · clear h1 h2
        rcases hc with rfl | rfl | rfl | rfl | rfl
        all_goals
          go_enter Tryz.func53, Tryz.ntmps53
          go_wp2_with fail
          go_ret2
          exact hfin.out.post ⟨rfl, rfl⟩
      · rcases hc with rfl | rfl <;> simp [named] at h2
      · have h15 : ¬ (n = 15 ∨ n = 16 ∨ n = 17 ∨ n = 18) := fun h => h1 ⟨rfl, h⟩
        have t1 : ((n : Int) == 1) = false := by rw [beq_eq_false_iff_ne]; omega
        have t7 : ((n : Int) == 7) = false := by rw [beq_eq_false_iff_ne]; omega
        have t9 : ((n : Int) == 9) = false := by rw [beq_eq_false_iff_ne]; omega
        have t13 : ((n : Int) == 13) = false := by rw [beq_eq_false_iff_ne]; omega
        have t14 : ((n : Int) == 14) = false := by rw [beq_eq_false_iff_ne]; omega
        have t8 : ((n : Int) == 8) = false := by rw [beq_eq_false_iff_ne]; omega
        have t10 : ((n : Int) == 10) = false := by rw [beq_eq_false_iff_ne]; omega
        have t16 : ((n : Int) == 16) = false := by rw [beq_eq_false_iff_ne]; omega
        have t15 : ((n : Int) == 15) = false := by rw [beq_eq_false_iff_ne]; omega
        have t17 : ((n : Int) == 17) = false := by rw [beq_eq_false_iff_ne]; omega
        have t18 : ((n : Int) == 18) = false := by rw [beq_eq_false_iff_ne]; omega
        clear hc h15 h1 h2
        go_enter Tryz.func53, Tryz.ntmps53
        go_wp2_with fail
        go_ret2
        exact hfin.out.post ⟨rfl, rfl⟩
    · clear h1 h2
      go_enter Tryz.func53, Tryz.ntmps53
      go_wp2_with fail
      go_ret2
      exact hfin.out.post ⟨rfl, rfl⟩
    · clear h1 h2
      go_enter Tryz.func53, Tryz.ntmps53
      go_wp2_with fail
      go_ret2
      exact hfin.out.post ⟨rfl, rfl⟩
    · clear h1 h2
      go_enter Tryz.func53, Tryz.ntmps53
      go_wp2_with fail
      go_ret2
      exact hfin.out.post ⟨rfl, rfl⟩
    · clear h1 h2
      go_enter Tryz.func53, Tryz.ntmps53
      go_wp2_with fail
      go_ret2
      exact hfin.out.post ⟨rfl, rfl⟩
set_option maxHeartbeats 8000000 in
/-- a word that reads a name on -/
theorem t_on_named (g : Nat) (T : ByteArray) (hT : T.size ≤ 60000) (src : List (List UInt8)) (x : Tx) (hx : x.at_ ≤ T.size) (k n : Nat) (h0 : k = 1 ∧ n = 85 ∨ k = 2) (h1 : ¬ (k = 2 ∧ (n = 15 ∨ n = 16 ∨ n = 17 ∨ n = 18))) (h2 : named x.op.isSome ⟨k, n, []⟩ = true) (nm en : List UInt8) (i o : Int) (kn : Bool) (nd : Int) (lo : Bool) (w : World) (F : Nat → Prop) (hb : (TextA g T src x).holds w F) :
    Calls Tryz.prog 53 #[.pointer (some ⟨g, 0, none⟩), wdV k n nm en i o kn nd lo] w (Post (fun u B => u = .tuple #[.string ⟨(onAt T.data.toList x.at_ x.op.isSome k n).2.2.toArray⟩, .bool (onAt T.data.toList x.at_ x.op.isSome k n).2.1] ∧ B = TextA g T src { x with at_ := (onAt T.data.toList x.at_ x.op.isSome k n).1 }) F w) := by
  rw [onAt_named h1 h2]
  have hwd := fun w F hb => t_word g T hT src x hx w F hb
  obtain ⟨vo, vs, loo, ndd, vr, vp, hon0⟩ := TextA.opened (On.refl hb)
  obtain ⟨_, hO⟩ := hon0.mem (A := OpenD vp x.op) (by simp [txL])
  obtain ⟨_, hB⟩ := hon0.mem (A := BlkA g 55 (txC T x.at_ vo vs loo ndd vr vp)) (by simp [txL])
  have hon2 := hon0.boxA (wdC k n nm en i o kn nd lo) 89
  have hon1 := TextA.closeL [BlkA w.heap.size 89 (wdC k n nm en i o kn nd lo)] hon2
  have k0 := hB.1.cell 0
  have k1 := hB.1.cell 1
  have k7 := hB.1.cell 7
  have f1 := hB.1.frozen 1
  have hgl := hB.1.lt
  simp [txC] at k0 k1 k7
  have hpv := openD_ptr hO
  obtain ⟨ob, hob⟩ : ∃ ob, x.op.isSome = ob := ⟨_, rfl⟩
  rw [hob] at hpv
  rw [hob] at h2
  clear hB hO hb hon2 hon0
  replace hon1 := Lib.hid hon1
  replace hwd := Lib.hid hwd
  unfold wdV wdC at *
  replace hob := Lib.hid hob
  simp only
  obtain ⟨S, hS⟩ : ∃ S, wordAt T.data.toList x.at_ = S := ⟨_, rfl⟩
  rw [hS] at hwd ⊢
  clear hS
  rcases hpv with ⟨rfl, rfl⟩ | ⟨rfl, gd, rfl⟩
  · have hc : (k = 1 ∧ n = 85) ∨ (k = 2 ∧ (n = 1 ∨ n = 7 ∨ n = 9 ∨ n = 13 ∨ n = 14)) := by
      rcases h0 with h0 | rfl
      · exact .inl h0
      · rcases named_two h2 with h | h
        · exact .inr ⟨rfl, h.2⟩
        · cases h.1
    clear h0 h1 h2
    rcases hc with ⟨rfl, rfl⟩ | ⟨rfl, rfl | rfl | rfl | rfl | rfl⟩
    all_goals
      go_enter Tryz.func53, Tryz.ntmps53
      go_wp2_with fail
      refine (hon1.out.swapA.callA fun F' hb' => hwd.out _ F' hb').mono ?_
      rintro e w2 ⟨v', A', ⟨rfl, rfl⟩, rfl, hon3⟩
      have hfin := hon3.headA
      clear hon3
      replace hfin := Lib.hid hfin
      rcases hsn : S with _ | ⟨c, S'⟩
      · subst hsn
        go_wp2_with fail
        go_ret2
        exact hfin.out.post ⟨rfl, rfl⟩
      · rw [← hsn]
        have hne : S.isEmpty = false := by rw [hsn]; rfl
        have hdec : decide (S ≠ []) = true := by rw [hsn]; rfl
        clear hsn
        replace hdec := Lib.hid hdec
        go_wp2_with fail
        go_ret2
        exact hfin.out.post ⟨by rw [hdec.out]; rfl, rfl⟩
  · have hc : k = 2 ∧ (n = 8 ∨ n = 10) := by
      rcases h0 with ⟨rfl, rfl⟩ | rfl
      · simp [named] at h2
      · rcases named_two h2 with h | h
        · cases h.1
        · exact ⟨rfl, h.2⟩
    clear h0 h1 h2
    rcases hc with ⟨rfl, rfl | rfl⟩
    all_goals
      go_enter Tryz.func53, Tryz.ntmps53
      go_wp2_with fail
      refine (hon1.out.swapA.callA fun F' hb' => hwd.out _ F' hb').mono ?_
      rintro e w2 ⟨v', A', ⟨rfl, rfl⟩, rfl, hon3⟩
      have hfin := hon3.headA
      clear hon3
      replace hfin := Lib.hid hfin
      rcases hsn : S with _ | ⟨c, S'⟩
      · subst hsn
        go_wp2_with fail
        go_ret2
        exact hfin.out.post ⟨rfl, rfl⟩
      · rw [← hsn]
        have hne : S.isEmpty = false := by rw [hsn]; rfl
        have hdec : decide (S ≠ []) = true := by rw [hsn]; rfl
        clear hsn
        replace hdec := Lib.hid hdec
        go_wp2_with fail
        go_ret2
        exact hfin.out.post ⟨by rw [hdec.out]; rfl, rfl⟩
set_option maxHeartbeats 8000000 in
/-- up to the line's end -/
theorem t_on_rest (g : Nat) (T : ByteArray) (hT : T.size ≤ 60000) (src : List (List UInt8)) (x : Tx) (hx : x.at_ ≤ T.size) (k n : Nat) (h0 : k = 2 ∧ n = 16) (nm en : List UInt8) (i o : Int) (kn : Bool) (nd : Int) (lo : Bool) (w : World) (F : Nat → Prop) (hb : (TextA g T src x).holds w F) :
    Calls Tryz.prog 53 #[.pointer (some ⟨g, 0, none⟩), wdV k n nm en i o kn nd lo] w (Post (fun u B => u = .tuple #[.string ⟨(onAt T.data.toList x.at_ x.op.isSome k n).2.2.toArray⟩, .bool (onAt T.data.toList x.at_ x.op.isSome k n).2.1] ∧ B = TextA g T src { x with at_ := (onAt T.data.toList x.at_ x.op.isSome k n).1 }) F w) := by
  obtain ⟨rfl, rfl⟩ := h0
  rw [onAt_rest]
  have hrs := fun w => d_rest T (by omega) x.at_ hx w
  have hE := restEnd_le (T := T.data.toList) (i := x.at_) (by rw [← Lib.size_eq]; exact hx)
  have hE2 := le_restEnd T.data.toList x.at_
  rw [← Lib.size_eq] at hE
  obtain ⟨vo, vs, loo, ndd, vr, vp, hon0⟩ := TextA.opened (On.refl hb)
  obtain ⟨_, hO⟩ := hon0.mem (A := OpenD vp x.op) (by simp [txL])
  obtain ⟨_, hB⟩ := hon0.mem (A := BlkA g 55 (txC T x.at_ vo vs loo ndd vr vp)) (by simp [txL])
  have hon2 := hon0.boxA (wdC 2 16 nm en i o kn nd lo) 89
  have hon1 := TextA.closeL [BlkA w.heap.size 89 (wdC 2 16 nm en i o kn nd lo)] hon2
  have k0 := hB.1.cell 0
  have k1 := hB.1.cell 1
  have k7 := hB.1.cell 7
  have f1 := hB.1.frozen 1
  have hgl := hB.1.lt
  simp [txC] at k0 k1 k7
  have hpv := openD_ptr hO
  obtain ⟨ob, hob⟩ : ∃ ob, x.op.isSome = ob := ⟨_, rfl⟩
  rw [hob] at hpv
  have hfin : On F w (TextA g T src { x with at_ := restEnd T.data.toList x.at_ }) (w.setCell ⟨g, 1, none⟩ (.int .i64 (restEnd T.data.toList x.at_ : Int))) := TextA.close (x := { x with at_ := restEnd T.data.toList x.at_ }) (hon0.setA 1 (.int .i64 (restEnd T.data.toList x.at_ : Int)))
  clear hB hO hb hon2 hon1 hon0
  unfold wdV wdC at *
  obtain ⟨at0, hat0⟩ : ∃ a, x.at_ = a := ⟨_, rfl⟩
  rw [hat0] at hrs k1 hE2 hx
  simp only [hat0] at hfin hE ⊢
  obtain ⟨E, hEE⟩ : ∃ E, restEnd T.data.toList at0 = E := ⟨_, rfl⟩
  rw [hEE] at hrs hfin hE hE2 ⊢
  have hw : wrap64 ((at0 : Int) + ((E : Int) - (at0 : Int))) = (E : Int) := by unfold wrap64; omega
  clear hEE hE hE2 hat0 hx hT
  replace hob := Lib.hid hob
  replace hfin := Lib.hid hfin
  replace hrs := Lib.hid hrs
  rcases hpv with ⟨rfl, rfl⟩ | ⟨rfl, gd, rfl⟩
  all_goals
    go_enter Tryz.func53, Tryz.ntmps53
    go_wp2_with fail
    go_region_with ((go_at_call 79; refine (hrs.out _).mono ?_; rintro e w2 ⟨rfl, rfl⟩))
    all_goals
      go_wp2_with fail
      go_ret2
      try rw [hw]
      refine On.post (hfin.out.alloc _).drew ?_
      exact ⟨rfl, rfl⟩
set_option maxHeartbeats 8000000 in
/-- up to a byte -/
theorem t_on_until (g : Nat) (T : ByteArray) (hT : T.size ≤ 60000) (src : List (List UInt8)) (x : Tx) (hx : x.at_ ≤ T.size) (k n : Nat) (h0 : k = 2 ∧ (n = 15 ∨ n = 17 ∨ n = 18)) (nm en : List UInt8) (i o : Int) (kn : Bool) (nd : Int) (lo : Bool) (w : World) (F : Nat → Prop) (hb : (TextA g T src x).holds w F) :
    Calls Tryz.prog 53 #[.pointer (some ⟨g, 0, none⟩), wdV k n nm en i o kn nd lo] w (Post (fun u B => u = .tuple #[.string ⟨(onAt T.data.toList x.at_ x.op.isSome k n).2.2.toArray⟩, .bool (onAt T.data.toList x.at_ x.op.isSome k n).2.1] ∧ B = TextA g T src { x with at_ := (onAt T.data.toList x.at_ x.op.isSome k n).1 }) F w) := by
  obtain ⟨rfl, h0⟩ := h0
  obtain ⟨b, hbb⟩ : ∃ b : UInt8, n = 15 ∧ b = 41 ∨ (n = 17 ∨ n = 18) ∧ b = 34 := by
    rcases h0 with rfl | h0
    · exact ⟨41, .inl ⟨rfl, rfl⟩⟩
    · exact ⟨34, .inr ⟨h0, rfl⟩⟩
  rw [onAt_until hbb]
  have hun := fun w => d_until T (by omega) x.at_ hx b w
  obtain ⟨vo, vs, loo, ndd, vr, vp, hon0⟩ := TextA.opened (On.refl hb)
  obtain ⟨_, hO⟩ := hon0.mem (A := OpenD vp x.op) (by simp [txL])
  obtain ⟨_, hB⟩ := hon0.mem (A := BlkA g 55 (txC T x.at_ vo vs loo ndd vr vp)) (by simp [txL])
  have hon2 := hon0.boxA (wdC 2 n nm en i o kn nd lo) 89
  have hon1 := TextA.closeL [BlkA w.heap.size 89 (wdC 2 n nm en i o kn nd lo)] hon2
  have k0 := hB.1.cell 0
  have k1 := hB.1.cell 1
  have k7 := hB.1.cell 7
  have f1 := hB.1.frozen 1
  have hgl := hB.1.lt
  simp [txC] at k0 k1 k7
  have hpv := openD_ptr hO
  obtain ⟨ob, hob⟩ : ∃ ob, x.op.isSome = ob := ⟨_, rfl⟩
  rw [hob] at hpv
  obtain ⟨at0, hat0⟩ : ∃ a, x.at_ = a := ⟨_, rfl⟩
  have hsm : ∀ j, untilEnd b T.data.toList at0 = some j → at0 ≤ j ∧ j ≤ T.size := fun j hj => by have := untilEnd_le hj; rw [← Lib.size_eq] at this; exact this
  have hfin : ∀ (E m : Nat), On F w (TextA g T src { x with at_ := E }) (((w.alloc (.cells (wdC 2 n nm en i o kn nd lo) 89)).drewN m).setCell ⟨g, 1, none⟩ (.int .i64 (E : Int))) := fun E m => TextA.close (x := { x with at_ := E }) ((hon2.tailA.drewN m).setA 1 (.int .i64 (E : Int)))
  clear hB hO hb hon2 hon1 hon0
  unfold wdV wdC at *
  rw [hat0] at hun k1 hx ⊢
  replace hob := Lib.hid hob
  replace hfin := Lib.hid hfin
  rcases hU : untilEnd b T.data.toList at0 with _ | j
  all_goals
    rw [hU] at hun
    simp only [untilV, howFar, Option.isSome] at hun
    replace hun := Lib.hid hun
  · have hw : wrap64 (at0 : Int) = (at0 : Int) := by unfold wrap64; omega
    simp only
    clear hU hsm hx hT
    rcases hbb with ⟨rfl, rfl⟩ | ⟨rfl | rfl, rfl⟩
    all_goals
      have hun := hun.out
      simp only [show (41 : UInt8).toNat = 41 from rfl, show (34 : UInt8).toNat = 34 from rfl] at hun
      replace hun := Lib.hid hun
      rcases hpv with ⟨rfl, rfl⟩ | ⟨rfl, gd, rfl⟩
      all_goals
        go_enter Tryz.func53, Tryz.ntmps53
        go_wp2_with fail
        go_quiet ((go_at_call 80; exact Calls.quiet_of_same (hun.out _)))
        go_wp2_with fail
        go_ret2
        try rw [hw]
        refine On.post (hfin.out at0 _) ?_
        exact ⟨rfl, rfl⟩
  · obtain ⟨hj1, hj2⟩ := hsm j hU
    have hw : wrap64 ((at0 : Int) + ((j : Int) - (at0 : Int))) = (j : Int) := by unfold wrap64; omega
    simp only
    clear hU hsm hx hT hj1 hj2
    rcases hbb with ⟨rfl, rfl⟩ | ⟨rfl | rfl, rfl⟩
    all_goals
      have hun := hun.out
      simp only [show (41 : UInt8).toNat = 41 from rfl, show (34 : UInt8).toNat = 34 from rfl] at hun
      replace hun := Lib.hid hun
      rcases hpv with ⟨rfl, rfl⟩ | ⟨rfl, gd, rfl⟩
      all_goals
        go_enter Tryz.func53, Tryz.ntmps53
        go_wp2_with fail
        go_quiet ((go_at_call 80; exact Calls.quiet_of_same (hun.out _)))
        go_wp2_with fail
        go_ret2
        try rw [hw]
        refine On.post (hfin.out j _) ?_
        exact ⟨rfl, rfl⟩
theorem t_on (g : Nat) (T : ByteArray) (hT : T.size ≤ 60000) (src : List (List UInt8)) (x : Tx) (hx : x.at_ ≤ T.size) (k n : Nat) (hk : k ≤ 5) (nm en : List UInt8) (i o : Int) (kn : Bool) (nd : Int) (lo : Bool) (w : World) (F : Nat → Prop) (hb : (TextA g T src x).holds w F) :
    Calls Tryz.prog 53 #[.pointer (some ⟨g, 0, none⟩), wdV k n nm en i o kn nd lo] w (Post (fun u B => u = .tuple #[.string ⟨(onAt T.data.toList x.at_ x.op.isSome k n).2.2.toArray⟩, .bool (onAt T.data.toList x.at_ x.op.isSome k n).2.1] ∧ B = TextA g T src { x with at_ := (onAt T.data.toList x.at_ x.op.isSome k n).1 }) F w) := by
  by_cases h1 : k = 2 ∧ (n = 15 ∨ n = 16 ∨ n = 17 ∨ n = 18)
  · by_cases h16 : n = 16
    · exact t_on_rest g T hT src x hx k n ⟨h1.1, h16⟩ nm en i o kn nd lo w F hb
    · exact t_on_until g T hT src x hx k n ⟨h1.1, by omega⟩ nm en i o kn nd lo w F hb
  · rcases h2 : named x.op.isSome ⟨k, n, []⟩ with _ | _
    · exact t_on_none g T hT src x hx k n hk h1 h2 nm en i o kn nd lo w F hb
    · exact t_on_named g T hT src x hx k n (by unfold named at h2; simp at h2; split at h2 <;> simp_all) h1 h2 nm en i o kn nd lo w F hb
end Look
end Go.Proofs.YthejfkkmcbdlhaaGreatDoor
