/- The document's item: something within a definition. Conditions: fewer things are open than a text has bytes; no OF lies at the bottom. -/
import Derived.Test.YthejfkkmcbdlhaaGreatDoorQDocC
namespace Go.Proofs.YthejfkkmcbdlhaaGreatDoor
set_option linter.unusedVariables false
set_option maxRecDepth 100000
open Go.RowKit Go.Lib
namespace Look
theorem DdB.setL {w w' : World} {F : Nat → Prop} {g : Nat} {nm : List UInt8} {l : List Open} {v : Value} {L : List Asr} (h : On F w (AllA (DdB g nm l v :: L)) w') (i : Nat) (u : Value) (hu : Fits i u) : On F w (AllA (DdB g nm l v :: L)) (w'.setCell ⟨g, i, none⟩ u) := h.stepA fun F' hd => DdB.set (On.refl hd) i u hu
set_option maxHeartbeats 4000000 in
theorem d_item_5 (g : Nat) (nm0 : List UInt8) (l : List Open) (v : Value) (hn : l.length + 1 ≤ 100000) (hok : OkD l) (n : Nat) (nm en : List UInt8) (i o : Int) (kn : Bool) (nd : Int) (lo : Bool) (w : World) (F : Nat → Prop) (hb : (DdB g nm0 l v).holds w F) :
    Calls Tryz.prog 56 #[.pointer (some ⟨g, 0, none⟩), wdV 5 n nm en i o kn nd lo] w (Post (fun u B => u = .tuple #[] ∧ ∃ l' v', Went l l' ∧ B = DdB g nm0 l' v') F w) := by
  have hnd := fun w => d_needs 5 n (by omega) nm en i o kn nd lo w
  have hon := On.refl hb
  have o1 := (On.boxA hon.one (wdC 5 n nm en i o kn nd lo) 89).swapA
  have hbd := fun w1 F' hb' => d_bad g nm0 l v w1 F' hb'
  have htk := fun t u w1 F' hb' => d_takes g nm0 l v t u w1 F' hb'
  clear hb
  obtain ⟨kn0, nd0, lo0, n0, h0, r0, dd0, en0, hh0, hkb0⟩ := DdB.open_ hon
  have c2 := hkb0.cell 2
  simp only [ddC] at c2
  simp at c2
  have hgl := hkb0.lt
  clear hkb0 hon
  unfold wdV wdC at *
  replace o1 := Lib.hid o1
  replace hnd := Lib.hid hnd
  replace hbd := Lib.hid hbd
  replace htk := Lib.hid htk
  replace hok := Lib.hid hok
  go_enter Tryz.func56, Tryz.ntmps56
  go_wp2_with fail
  go_region_with ((go_at_call 52; refine (hnd.out _).mono ?_; rintro e w1 ⟨⟨x, rfl⟩, hk1⟩; have hon1 := o1.out.drew.keptNob hk1; obtain ⟨kn2, nd2, lo2, n2, h2, r2, dd2, en2, hh2, hkb2⟩ := DdB.open_ hon1.headA; have d2 := hkb2.cell 2; have f2 := hkb2.frozen 2; simp only [ddC] at d2; simp at d2; clear hkb2; replace hk1 := Lib.hid hk1; replace hon1 := Lib.hid hon1))
  all_goals
    have hon2 := fun u => DdB.setL hon1.out 2 (.int .i64 u) (.n (by simp) _)
    have hB := hon1.out.swapA.blkA
    have b0 := hB.cell 0
    have b1 := hB.cell 1
    have b4 := hB.cell 4
    have b5 := hB.cell 5
    have b6 := hB.cell 6
    simp at b0 b1 b4 b5 b6
    have hgR : g ≠ w.heap.size := by omega
    clear hB c2 d2
    replace hon2 := Lib.hid hon2
    go_wp2_with fail
    refine ((hon2.out _).callA fun F' hb' => htk.out _ _ _ F' hb').mono ?_
    rintro e w3 ⟨v', A', ⟨rfl, rfl⟩, rfl, honw3⟩
    replace honw3 := Lib.hid honw3
    go_wp2_with fail
    go_end0
    exact honw3.out.headA.post ⟨rfl, l, v, Went.same l, rfl⟩
set_option maxHeartbeats 4000000 in
theorem d_item_3t (g : Nat) (nm0 : List UInt8) (l : List Open) (v : Value) (hn : l.length + 1 ≤ 100000) (hok : OkD l) (n : Nat) (nm en : List UInt8) (i o : Int) (nd : Int) (lo : Bool) (w : World) (F : Nat → Prop) (hb : (DdB g nm0 l v).holds w F) :
    Calls Tryz.prog 56 #[.pointer (some ⟨g, 0, none⟩), wdV 3 n nm en i o true nd lo] w (Post (fun u B => u = .tuple #[] ∧ ∃ l' v', Went l l' ∧ B = DdB g nm0 l' v') F w) := by
  have hnd := fun w => d_needs 3 n (by omega) nm en i o true nd lo w
  have hon := On.refl hb
  have o1 := (On.boxA hon.one (wdC 3 n nm en i o true nd lo) 89).swapA
  have hbd := fun w1 F' hb' => d_bad g nm0 l v w1 F' hb'
  have htk := fun t u w1 F' hb' => d_takes g nm0 l v t u w1 F' hb'
  clear hb
  obtain ⟨kn0, nd0, lo0, n0, h0, r0, dd0, en0, hh0, hkb0⟩ := DdB.open_ hon
  have c2 := hkb0.cell 2
  simp only [ddC] at c2
  simp at c2
  have hgl := hkb0.lt
  clear hkb0 hon
  unfold wdV wdC at *
  replace o1 := Lib.hid o1
  replace hnd := Lib.hid hnd
  replace hbd := Lib.hid hbd
  replace htk := Lib.hid htk
  replace hok := Lib.hid hok
  go_enter Tryz.func56, Tryz.ntmps56
  go_wp2_with fail
  go_region_with ((go_at_call 52; refine (hnd.out _).mono ?_; rintro e w1 ⟨⟨x, rfl⟩, hk1⟩; have hon1 := o1.out.drew.keptNob hk1; obtain ⟨kn2, nd2, lo2, n2, h2, r2, dd2, en2, hh2, hkb2⟩ := DdB.open_ hon1.headA; have d2 := hkb2.cell 2; have f2 := hkb2.frozen 2; simp only [ddC] at d2; simp at d2; clear hkb2; replace hk1 := Lib.hid hk1; replace hon1 := Lib.hid hon1))
  all_goals
    have hon2 := fun u => DdB.setL hon1.out 2 (.int .i64 u) (.n (by simp) _)
    have hB := hon1.out.swapA.blkA
    have b0 := hB.cell 0
    have b1 := hB.cell 1
    have b4 := hB.cell 4
    have b5 := hB.cell 5
    have b6 := hB.cell 6
    simp at b0 b1 b4 b5 b6
    have hgR : g ≠ w.heap.size := by omega
    clear hB c2 d2
    replace hon2 := Lib.hid hon2
    go_wp2_with fail
    refine ((hon2.out _).callA fun F' hb' => htk.out _ _ _ F' hb').mono ?_
    rintro e w3 ⟨v', A', ⟨rfl, rfl⟩, rfl, honw3⟩
    replace honw3 := Lib.hid honw3
    go_wp2_with fail
    go_end0
    exact honw3.out.headA.post ⟨rfl, l, v, Went.same l, rfl⟩
set_option maxHeartbeats 4000000 in
theorem d_item_3f (g : Nat) (nm0 : List UInt8) (l : List Open) (v : Value) (hn : l.length + 1 ≤ 100000) (hok : OkD l) (n : Nat) (nm en : List UInt8) (i o : Int) (nd : Int) (lo : Bool) (w : World) (F : Nat → Prop) (hb : (DdB g nm0 l v).holds w F) :
    Calls Tryz.prog 56 #[.pointer (some ⟨g, 0, none⟩), wdV 3 n nm en i o false nd lo] w (Post (fun u B => u = .tuple #[] ∧ ∃ l' v', Went l l' ∧ B = DdB g nm0 l' v') F w) := by
  have hnd := fun w => d_needs 3 n (by omega) nm en i o false nd lo w
  have hon := On.refl hb
  have o1 := (On.boxA hon.one (wdC 3 n nm en i o false nd lo) 89).swapA
  have hbd := fun w1 F' hb' => d_bad g nm0 l v w1 F' hb'
  have htk := fun t u w1 F' hb' => d_takes g nm0 l v t u w1 F' hb'
  clear hb
  obtain ⟨kn0, nd0, lo0, n0, h0, r0, dd0, en0, hh0, hkb0⟩ := DdB.open_ hon
  have c2 := hkb0.cell 2
  simp only [ddC] at c2
  simp at c2
  have hgl := hkb0.lt
  clear hkb0 hon
  unfold wdV wdC at *
  replace o1 := Lib.hid o1
  replace hnd := Lib.hid hnd
  replace hbd := Lib.hid hbd
  replace htk := Lib.hid htk
  replace hok := Lib.hid hok
  go_enter Tryz.func56, Tryz.ntmps56
  go_wp2_with fail
  go_region_with ((go_at_call 52; refine (hnd.out _).mono ?_; rintro e w1 ⟨⟨x, rfl⟩, hk1⟩; have hon1 := o1.out.drew.keptNob hk1; obtain ⟨kn2, nd2, lo2, n2, h2, r2, dd2, en2, hh2, hkb2⟩ := DdB.open_ hon1.headA; have d2 := hkb2.cell 2; have f2 := hkb2.frozen 2; simp only [ddC] at d2; simp at d2; clear hkb2; replace hk1 := Lib.hid hk1; replace hon1 := Lib.hid hon1))
  all_goals
    have hon2 := fun u => DdB.setL hon1.out 2 (.int .i64 u) (.n (by simp) _)
    have hB := hon1.out.swapA.blkA
    have b0 := hB.cell 0
    have b1 := hB.cell 1
    have b4 := hB.cell 4
    have b5 := hB.cell 5
    have b6 := hB.cell 6
    simp at b0 b1 b4 b5 b6
    have hgR : g ≠ w.heap.size := by omega
    clear hB c2 d2
    replace hon2 := Lib.hid hon2
    go_wp2_with fail
    refine ((hon2.out _).callA fun F' hb' => hbd.out _ F' hb').mono ?_
    rintro e w3 ⟨v', A', ⟨rfl, rfl⟩, rfl, honw3⟩
    replace honw3 := Lib.hid honw3
    have hB := honw3.out.swapA.blkA
    have e4 := hB.cell 4
    have e5 := hB.cell 5
    simp at e4 e5
    clear hB b0 b1 b4 b5 b6
    go_wp2_with fail
    refine (honw3.out.callA fun F' hb' => htk.out _ _ _ F' hb').mono ?_
    rintro e w4 ⟨v', A', ⟨rfl, rfl⟩, rfl, honw4⟩
    replace honw4 := Lib.hid honw4
    go_wp2_with fail
    go_end0
    exact honw4.out.headA.post ⟨rfl, l, v, Went.same l, rfl⟩
set_option maxHeartbeats 4000000 in
theorem d_item_4t (g : Nat) (nm0 : List UInt8) (l : List Open) (v : Value) (hn : l.length + 1 ≤ 100000) (hok : OkD l) (n : Nat) (nm en : List UInt8) (i o : Int) (nd : Int) (lo : Bool) (w : World) (F : Nat → Prop) (hb : (DdB g nm0 l v).holds w F) :
    Calls Tryz.prog 56 #[.pointer (some ⟨g, 0, none⟩), wdV 4 n nm en i o true nd lo] w (Post (fun u B => u = .tuple #[] ∧ ∃ l' v', Went l l' ∧ B = DdB g nm0 l' v') F w) := by
  have hnd := fun w => d_needs 4 n (by omega) nm en i o true nd lo w
  have hon := On.refl hb
  have o1 := (On.boxA hon.one (wdC 4 n nm en i o true nd lo) 89).swapA
  have hbd := fun w1 F' hb' => d_bad g nm0 l v w1 F' hb'
  have htk := fun t u w1 F' hb' => d_takes g nm0 l v t u w1 F' hb'
  clear hb
  obtain ⟨kn0, nd0, lo0, n0, h0, r0, dd0, en0, hh0, hkb0⟩ := DdB.open_ hon
  have c2 := hkb0.cell 2
  simp only [ddC] at c2
  simp at c2
  have hgl := hkb0.lt
  clear hkb0 hon
  unfold wdV wdC at *
  replace o1 := Lib.hid o1
  replace hnd := Lib.hid hnd
  replace hbd := Lib.hid hbd
  replace htk := Lib.hid htk
  replace hok := Lib.hid hok
  go_enter Tryz.func56, Tryz.ntmps56
  go_wp2_with fail
  go_region_with ((go_at_call 52; refine (hnd.out _).mono ?_; rintro e w1 ⟨⟨x, rfl⟩, hk1⟩; have hon1 := o1.out.drew.keptNob hk1; obtain ⟨kn2, nd2, lo2, n2, h2, r2, dd2, en2, hh2, hkb2⟩ := DdB.open_ hon1.headA; have d2 := hkb2.cell 2; have f2 := hkb2.frozen 2; simp only [ddC] at d2; simp at d2; clear hkb2; replace hk1 := Lib.hid hk1; replace hon1 := Lib.hid hon1))
  all_goals
    have hon2 := fun u => DdB.setL hon1.out 2 (.int .i64 u) (.n (by simp) _)
    have hB := hon1.out.swapA.blkA
    have b0 := hB.cell 0
    have b1 := hB.cell 1
    have b4 := hB.cell 4
    have b5 := hB.cell 5
    have b6 := hB.cell 6
    simp at b0 b1 b4 b5 b6
    have hgR : g ≠ w.heap.size := by omega
    clear hB c2 d2
    replace hon2 := Lib.hid hon2
    go_wp2_with fail
    refine ((hon2.out _).callA fun F' hb' => htk.out _ _ _ F' hb').mono ?_
    rintro e w3 ⟨v', A', ⟨rfl, rfl⟩, rfl, honw3⟩
    replace honw3 := Lib.hid honw3
    go_wp2_with fail
    go_end0
    exact honw3.out.headA.post ⟨rfl, l, v, Went.same l, rfl⟩
set_option maxHeartbeats 4000000 in
theorem d_item_4f (g : Nat) (nm0 : List UInt8) (l : List Open) (v : Value) (hn : l.length + 1 ≤ 100000) (hok : OkD l) (n : Nat) (nm en : List UInt8) (i o : Int) (nd : Int) (lo : Bool) (w : World) (F : Nat → Prop) (hb : (DdB g nm0 l v).holds w F) :
    Calls Tryz.prog 56 #[.pointer (some ⟨g, 0, none⟩), wdV 4 n nm en i o false nd lo] w (Post (fun u B => u = .tuple #[] ∧ ∃ l' v', Went l l' ∧ B = DdB g nm0 l' v') F w) := by
  have hnd := fun w => d_needs 4 n (by omega) nm en i o false nd lo w
  have hon := On.refl hb
  have o1 := (On.boxA hon.one (wdC 4 n nm en i o false nd lo) 89).swapA
  have hbd := fun w1 F' hb' => d_bad g nm0 l v w1 F' hb'
  have htk := fun t u w1 F' hb' => d_takes g nm0 l v t u w1 F' hb'
  clear hb
  obtain ⟨kn0, nd0, lo0, n0, h0, r0, dd0, en0, hh0, hkb0⟩ := DdB.open_ hon
  have c2 := hkb0.cell 2
  simp only [ddC] at c2
  simp at c2
  have hgl := hkb0.lt
  clear hkb0 hon
  unfold wdV wdC at *
  replace o1 := Lib.hid o1
  replace hnd := Lib.hid hnd
  replace hbd := Lib.hid hbd
  replace htk := Lib.hid htk
  replace hok := Lib.hid hok
  go_enter Tryz.func56, Tryz.ntmps56
  go_wp2_with fail
  go_region_with ((go_at_call 52; refine (hnd.out _).mono ?_; rintro e w1 ⟨⟨x, rfl⟩, hk1⟩; have hon1 := o1.out.drew.keptNob hk1; obtain ⟨kn2, nd2, lo2, n2, h2, r2, dd2, en2, hh2, hkb2⟩ := DdB.open_ hon1.headA; have d2 := hkb2.cell 2; have f2 := hkb2.frozen 2; simp only [ddC] at d2; simp at d2; clear hkb2; replace hk1 := Lib.hid hk1; replace hon1 := Lib.hid hon1))
  all_goals
    have hon2 := fun u => DdB.setL hon1.out 2 (.int .i64 u) (.n (by simp) _)
    have hB := hon1.out.swapA.blkA
    have b0 := hB.cell 0
    have b1 := hB.cell 1
    have b4 := hB.cell 4
    have b5 := hB.cell 5
    have b6 := hB.cell 6
    simp at b0 b1 b4 b5 b6
    have hgR : g ≠ w.heap.size := by omega
    clear hB c2 d2
    replace hon2 := Lib.hid hon2
    go_wp2_with fail
    refine ((hon2.out _).callA fun F' hb' => hbd.out _ F' hb').mono ?_
    rintro e w3 ⟨v', A', ⟨rfl, rfl⟩, rfl, honw3⟩
    replace honw3 := Lib.hid honw3
    have hB := honw3.out.swapA.blkA
    have e4 := hB.cell 4
    have e5 := hB.cell 5
    simp at e4 e5
    clear hB b0 b1 b4 b5 b6
    go_wp2_with fail
    refine (honw3.out.callA fun F' hb' => htk.out _ _ _ F' hb').mono ?_
    rintro e w4 ⟨v', A', ⟨rfl, rfl⟩, rfl, honw4⟩
    replace honw4 := Lib.hid honw4
    go_wp2_with fail
    go_end0
    exact honw4.out.headA.post ⟨rfl, l, v, Went.same l, rfl⟩
set_option maxHeartbeats 4000000 in
theorem d_item_0 (g : Nat) (nm0 : List UInt8) (l : List Open) (v : Value) (hn : l.length + 1 ≤ 100000) (hok : OkD l) (n : Nat) (nm en : List UInt8) (i o : Int) (kn : Bool) (nd : Int) (lo : Bool) (w : World) (F : Nat → Prop) (hb : (DdB g nm0 l v).holds w F) :
    Calls Tryz.prog 56 #[.pointer (some ⟨g, 0, none⟩), wdV 0 n nm en i o kn nd lo] w (Post (fun u B => u = .tuple #[] ∧ ∃ l' v', Went l l' ∧ B = DdB g nm0 l' v') F w) := by
  have hnd := fun w => d_needs 0 n (by omega) nm en i o kn nd lo w
  have hon := On.refl hb
  have o1 := (On.boxA hon.one (wdC 0 n nm en i o kn nd lo) 89).swapA
  have hbd := fun w1 F' hb' => d_bad g nm0 l v w1 F' hb'
  have htk := fun t u w1 F' hb' => d_takes g nm0 l v t u w1 F' hb'
  clear hb
  obtain ⟨kn0, nd0, lo0, n0, h0, r0, dd0, en0, hh0, hkb0⟩ := DdB.open_ hon
  have c2 := hkb0.cell 2
  simp only [ddC] at c2
  simp at c2
  have hgl := hkb0.lt
  clear hkb0 hon
  unfold wdV wdC at *
  replace o1 := Lib.hid o1
  replace hnd := Lib.hid hnd
  replace hbd := Lib.hid hbd
  replace htk := Lib.hid htk
  replace hok := Lib.hid hok
  go_enter Tryz.func56, Tryz.ntmps56
  go_wp2_with fail
  go_region_with ((go_at_call 52; refine (hnd.out _).mono ?_; rintro e w1 ⟨⟨x, rfl⟩, hk1⟩; have hon1 := o1.out.drew.keptNob hk1; obtain ⟨kn2, nd2, lo2, n2, h2, r2, dd2, en2, hh2, hkb2⟩ := DdB.open_ hon1.headA; have d2 := hkb2.cell 2; have f2 := hkb2.frozen 2; simp only [ddC] at d2; simp at d2; clear hkb2; replace hk1 := Lib.hid hk1; replace hon1 := Lib.hid hon1))
  all_goals
    have hon2 := fun u => DdB.setL hon1.out 2 (.int .i64 u) (.n (by simp) _)
    have hB := hon1.out.swapA.blkA
    have b0 := hB.cell 0
    have b1 := hB.cell 1
    have b4 := hB.cell 4
    have b5 := hB.cell 5
    have b6 := hB.cell 6
    simp at b0 b1 b4 b5 b6
    have hgR : g ≠ w.heap.size := by omega
    clear hB c2 d2
    replace hon2 := Lib.hid hon2
    go_wp2_with fail
    refine ((hon2.out _).callA fun F' hb' => hbd.out _ F' hb').mono ?_
    rintro e w3 ⟨v', A', ⟨rfl, rfl⟩, rfl, honw3⟩
    replace honw3 := Lib.hid honw3
    go_wp2_with fail
    go_end0
    exact honw3.out.headA.post ⟨rfl, l, v, Went.same l, rfl⟩
set_option maxHeartbeats 4000000 in
theorem d_item_1 (g : Nat) (nm0 : List UInt8) (l : List Open) (v : Value) (hn : l.length + 1 ≤ 100000) (hok : OkD l) (n : Nat) (nm en : List UInt8) (i o : Int) (kn : Bool) (nd : Int) (lo : Bool) (w : World) (F : Nat → Prop) (hb : (DdB g nm0 l v).holds w F) :
    Calls Tryz.prog 56 #[.pointer (some ⟨g, 0, none⟩), wdV 1 n nm en i o kn nd lo] w (Post (fun u B => u = .tuple #[] ∧ ∃ l' v', Went l l' ∧ B = DdB g nm0 l' v') F w) := by
  have hnd := fun w => d_needs 1 n (by omega) nm en i o kn nd lo w
  have hon := On.refl hb
  have o1 := (On.boxA hon.one (wdC 1 n nm en i o kn nd lo) 89).swapA
  have hbd := fun w1 F' hb' => d_bad g nm0 l v w1 F' hb'
  have htk := fun t u w1 F' hb' => d_takes g nm0 l v t u w1 F' hb'
  have hop := fun w1 F' hb' => d_operation (n : Int) g nm0 l v w1 F' hb'
  replace hop := Lib.hid hop
  clear hb
  obtain ⟨kn0, nd0, lo0, n0, h0, r0, dd0, en0, hh0, hkb0⟩ := DdB.open_ hon
  have c2 := hkb0.cell 2
  simp only [ddC] at c2
  simp at c2
  have hgl := hkb0.lt
  clear hkb0 hon
  unfold wdV wdC at *
  replace o1 := Lib.hid o1
  replace hnd := Lib.hid hnd
  replace hbd := Lib.hid hbd
  replace htk := Lib.hid htk
  replace hok := Lib.hid hok
  go_enter Tryz.func56, Tryz.ntmps56
  go_wp2_with fail
  go_region_with ((go_at_call 52; refine (hnd.out _).mono ?_; rintro e w1 ⟨⟨x, rfl⟩, hk1⟩; have hon1 := o1.out.drew.keptNob hk1; obtain ⟨kn2, nd2, lo2, n2, h2, r2, dd2, en2, hh2, hkb2⟩ := DdB.open_ hon1.headA; have d2 := hkb2.cell 2; have f2 := hkb2.frozen 2; simp only [ddC] at d2; simp at d2; clear hkb2; replace hk1 := Lib.hid hk1; replace hon1 := Lib.hid hon1))
  all_goals
    have hon2 := fun u => DdB.setL hon1.out 2 (.int .i64 u) (.n (by simp) _)
    have hB := hon1.out.swapA.blkA
    have b0 := hB.cell 0
    have b1 := hB.cell 1
    have b4 := hB.cell 4
    have b5 := hB.cell 5
    have b6 := hB.cell 6
    simp at b0 b1 b4 b5 b6
    have hgR : g ≠ w.heap.size := by omega
    clear hB c2 d2
    replace hon2 := Lib.hid hon2
    go_wp2_with fail
    refine ((hon2.out _).callA fun F' hb' => hop.out _ F' hb').mono ?_
    rintro e w3 ⟨v', A', ⟨rfl, rfl⟩, rfl, honw3⟩
    replace honw3 := Lib.hid honw3
    go_wp2_with fail
    go_end0
    exact honw3.out.headA.post ⟨rfl, l, v, Went.same l, rfl⟩
set_option maxHeartbeats 4000000 in
theorem d_item_2 (g : Nat) (nm0 : List UInt8) (l : List Open) (v : Value) (hn : l.length + 1 ≤ 100000) (hok : OkD l) (n : Nat) (hn1 : 1 ≤ n ∧ n ≤ 36) (nm en : List UInt8) (i o : Int) (kn : Bool) (nd : Int) (lo : Bool) (w : World) (F : Nat → Prop) (hb : (DdB g nm0 l v).holds w F) :
    Calls Tryz.prog 56 #[.pointer (some ⟨g, 0, none⟩), wdV 2 n nm en i o kn nd lo] w (Post (fun u B => u = .tuple #[] ∧ ∃ l' v', Went l l' ∧ B = DdB g nm0 l' v') F w) := by
  have hnd := fun w => d_needs 2 n (by omega) nm en i o kn nd lo w
  have hon := On.refl hb
  have o1 := (On.boxA hon.one (wdC 2 n nm en i o kn nd lo) 89).swapA
  have hbd := fun w1 F' hb' => d_bad g nm0 l v w1 F' hb'
  have htk := fun t u w1 F' hb' => d_takes g nm0 l v t u w1 F' hb'
  have hsp := fun w1 F' hb' => d_special n hn1.1 hn1.2 g nm0 l v hn hok w1 F' hb'
  replace hsp := Lib.hid hsp
  replace hn1 := Lib.hid hn1
  clear hb
  obtain ⟨kn0, nd0, lo0, n0, h0, r0, dd0, en0, hh0, hkb0⟩ := DdB.open_ hon
  have c2 := hkb0.cell 2
  simp only [ddC] at c2
  simp at c2
  have hgl := hkb0.lt
  clear hkb0 hon
  unfold wdV wdC at *
  replace o1 := Lib.hid o1
  replace hnd := Lib.hid hnd
  replace hbd := Lib.hid hbd
  replace htk := Lib.hid htk
  replace hok := Lib.hid hok
  go_enter Tryz.func56, Tryz.ntmps56
  go_wp2_with fail
  go_region_with ((go_at_call 52; refine (hnd.out _).mono ?_; rintro e w1 ⟨⟨x, rfl⟩, hk1⟩; have hon1 := o1.out.drew.keptNob hk1; obtain ⟨kn2, nd2, lo2, n2, h2, r2, dd2, en2, hh2, hkb2⟩ := DdB.open_ hon1.headA; have d2 := hkb2.cell 2; have f2 := hkb2.frozen 2; simp only [ddC] at d2; simp at d2; clear hkb2; replace hk1 := Lib.hid hk1; replace hon1 := Lib.hid hon1))
  all_goals
    have hon2 := fun u => DdB.setL hon1.out 2 (.int .i64 u) (.n (by simp) _)
    have hB := hon1.out.swapA.blkA
    have b0 := hB.cell 0
    have b1 := hB.cell 1
    have b4 := hB.cell 4
    have b5 := hB.cell 5
    have b6 := hB.cell 6
    simp at b0 b1 b4 b5 b6
    have hgR : g ≠ w.heap.size := by omega
    clear hB c2 d2
    replace hon2 := Lib.hid hon2
    go_wp2_with fail
    refine ((hon2.out _).callA fun F' hb' => hsp.out _ F' hb').mono ?_
    rintro e w3 ⟨v', A', ⟨rfl, l2, v2, hwt, rfl⟩, rfl, honw3⟩
    replace honw3 := Lib.hid honw3
    replace hwt := Lib.hid hwt
    go_wp2_with fail
    go_end0
    exact honw3.out.headA.post ⟨rfl, l2, v2, hwt.out, rfl⟩
theorem d_item (g : Nat) (nm0 : List UInt8) (l : List Open) (v : Value) (hn : l.length + 1 ≤ 100000) (hok : OkD l) (k n : Nat) (hk : k ≤ 5) (hn1 : k = 2 → 1 ≤ n ∧ n ≤ 36) (nm en : List UInt8) (i o : Int) (kn : Bool) (nd : Int) (lo : Bool) (w : World) (F : Nat → Prop) (hb : (DdB g nm0 l v).holds w F) :
    Calls Tryz.prog 56 #[.pointer (some ⟨g, 0, none⟩), wdV k n nm en i o kn nd lo] w (Post (fun u B => u = .tuple #[] ∧ ∃ l' v', Went l l' ∧ B = DdB g nm0 l' v') F w) := by
  have hcases : k = 0 ∨ k = 1 ∨ k = 2 ∨ k = 3 ∨ k = 4 ∨ k = 5 := by omega
  rcases hcases with rfl | rfl | rfl | rfl | rfl | rfl
  · exact d_item_0 g nm0 l v hn hok n nm en i o kn nd lo w F hb
  · exact d_item_1 g nm0 l v hn hok n nm en i o kn nd lo w F hb
  · exact d_item_2 g nm0 l v hn hok n (hn1 rfl) nm en i o kn nd lo w F hb
  · cases kn
    · exact d_item_3f g nm0 l v hn hok n nm en i o nd lo w F hb
    · exact d_item_3t g nm0 l v hn hok n nm en i o nd lo w F hb
  · cases kn
    · exact d_item_4f g nm0 l v hn hok n nm en i o nd lo w F hb
    · exact d_item_4t g nm0 l v hn hok n nm en i o nd lo w F hb
  · exact d_item_5 g nm0 l v hn hok n nm en i o kn nd lo w F hb
end Look
end Go.Proofs.YthejfkkmcbdlhaaGreatDoor
