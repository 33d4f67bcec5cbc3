/- The document's special words in a definition. Conditions: fewer things are open than a text has bytes; no OF lies at the bottom. -/
import Derived.Test.YthejfkkmcbdlhaaGreatDoorQDocB
import Derived.Test.YthejfkkmcbdlhaaGreatDoorQScan
import Derived.Test.YthejfkkmcbdlhaaGreatDoorQNum
namespace Go.Proofs.YthejfkkmcbdlhaaGreatDoor
set_option linter.unusedVariables false
set_option maxRecDepth 100000
open Go.RowKit Go.Lib
namespace Look
theorem top_split {k : Nat} {l : List Open} (h : topIs k l = true) : ∃ l' o, l = l' ++ [o] ∧ o.kind = k := by
  rcases List.eq_nil_or_concat l with rfl | ⟨l', o, rfl⟩
  · cases h
  · refine ⟨l', o, by simp, ?_⟩
    unfold topIs at h
    simp at h
    exact h
theorem DdB.form {w : World} {F : Nat → Prop} {g : Nat} {nm : List UInt8} {l' : List Open} {o : Open} {v : Value} (h : (DdB g nm (l' ++ [o]) v).holds w F) : ∃ sg cap, v = .slice (some ⟨sg, 0, none⟩) (l'.length + 1) cap := by
  obtain ⟨sg, cap, hv, _⟩ := thing_form h.2.1 (by simp)
  have e : (l' ++ [o]).length = l'.length + 1 := by simp
  rw [e] at hv
  exact ⟨sg, cap, hv⟩
/-- what each of the four does -/
def Does (f : FuncId) (k : Nat) : Prop := ∀ (g : Nat) (nm : List UInt8) (l : List Open) (v : Value), l.length + 1 ≤ 100000 → OkD l → ∀ (w : World) (F : Nat → Prop), (DdB g nm l v).holds w F →
    Calls Tryz.prog f #[.pointer (some ⟨g, 0, none⟩), .int .i64 (k : Int)] w (Post (fun u B => u = .tuple #[] ∧ ∃ l' v', Went l l' ∧ B = DdB g nm l' v') F w)
theorem d_ifs (k : Nat) (hk : k = 19 ∨ k = 20 ∨ k = 21) : Does 112 k := by
  intro g nm l v hn hok w F hb
  rcases hk with rfl | hk
  · exact d_ifs_if g nm l v (by omega) w F hb
  · rcases ht : topIs 19 l with _ | _
    · exact d_ifs_none g nm l v k hk ht w F hb
    · obtain ⟨l', o, rfl, ho⟩ := top_split ht
      obtain ⟨sg, cap, rfl⟩ := DdB.form hb
      rcases hk with rfl | rfl
      · exact d_ifs_else g nm l' o ho sg cap w F hb
      · exact d_ifs_then g nm l' o ho sg cap w F hb
theorem d_begins (k : Nat) (hk : k = 22 ∨ k = 23 ∨ k = 24 ∨ k = 25 ∨ k = 26) : Does 113 k := by
  intro g nm l v hn hok w F hb
  rcases hk with rfl | hk
  · exact d_begins_begin g nm l v (by omega) w F hb
  · rcases ht : topIs (if k = 26 then 25 else 22) l with _ | _
    · exact d_begins_none g nm l v k hk ht w F hb
    · obtain ⟨l', o, rfl, ho⟩ := top_split ht
      obtain ⟨sg, cap, rfl⟩ := DdB.form hb
      rcases hk with rfl | rfl | rfl | rfl
      · exact d_begins_again g nm l' o ho sg cap w F hb
      · exact d_begins_until g nm l' o ho sg cap w F hb
      · exact d_begins_while g nm l' o ho sg cap w F hb
      · exact d_begins_repeat g nm l' o ho sg cap w F hb
theorem d_dos (k : Nat) (hk : k = 27 ∨ k = 28 ∨ k = 31 ∨ k = 29 ∨ k = 30) : Does 114 k := by
  intro g nm l v hn hok w F hb
  rcases hk with rfl | rfl | rfl | hk
  · exact d_dos_do g nm l v (by omega) w F hb
  · exact d_dos_qdo g nm l v (by omega) w F hb
  · rcases hi : innerAt l with _ | i
    · exact d_dos_leave_none g nm l v hi w F hb
    · obtain ⟨o, ho, _⟩ := innerAt_some l i hi
      have hil : i < l.length := (List.getElem?_eq_some_iff.1 ho).1
      obtain ⟨sg, cap, hv, _⟩ := thing_form hb.2.1 (by intro h; rw [h] at hil; simp at hil)
      subst hv
      exact d_dos_leave g nm l i hi hil sg _ cap w F hb
  · rcases ht : topIs 27 l with _ | _
    · exact d_dos_none g nm l v k hk ht w F hb
    · obtain ⟨l', o, rfl, ho⟩ := top_split ht
      obtain ⟨sg, cap, rfl⟩ := DdB.form hb
      rcases hk with rfl | rfl
      · exact d_dos_loop g nm l' o ho sg cap w F hb
      · exact d_dos_ploop g nm l' o ho sg cap w F hb
theorem d_cases (k : Nat) (hk : k = 32 ∨ k = 33 ∨ k = 34 ∨ k = 35) : Does 115 k := by
  intro g nm l v hn hok w F hb
  rcases hk with rfl | hk
  · exact d_cases_case g nm l v (by omega) w F hb
  · rcases ht : topIs (if k = 34 then 33 else 32) l with _ | _
    · exact d_cases_none g nm l v k hk ht w F hb
    · obtain ⟨l', o, rfl, ho⟩ := top_split ht
      obtain ⟨sg, cap, rfl⟩ := DdB.form hb
      rcases hk with rfl | rfl | rfl
      · exact d_cases_of g nm l' o ho (by simp at hn; omega) sg cap w F hb
      · rcases List.eq_nil_or_concat l' with rfl | ⟨l2, c, rfl⟩
        · exact absurd ho (hok o rfl)
        · rw [List.concat_eq_append] at hb hok hn ⊢
          exact d_cases_endof g nm l2 c o ho sg cap w F hb
      · exact d_cases_endcase g nm l' o ho sg cap w F hb
set_option maxHeartbeats 2000000 in
theorem d_special_1 : Does 85 1 := by
  intro g nm l v hn hok w F hb
  have hon := On.refl hb
  have hc := fun w1 F' hb' => d_bad g nm l v w1 F' hb'
  clear hb
  replace hon := Lib.hid hon
  replace hc := Lib.hid hc
  go_enter Tryz.func85, Tryz.ntmps85
  go_wp2_with fail
  refine (hon.out.call fun F' hb' => hc.out _ F' hb').mono ?_
  rintro e w1 ⟨v', A', ⟨rfl, rfl⟩, rfl, hon1⟩
  replace hon1 := Lib.hid hon1
  go_wp2_with fail
  go_end0
  exact hon1.out.post ⟨rfl, l, v, Went.same l, rfl⟩
set_option maxHeartbeats 2000000 in
theorem d_special_2 : Does 85 2 := by
  intro g nm l v hn hok w F hb
  have hon := On.refl hb
  have hc := fun w1 F' hb' => d_bad g nm l v w1 F' hb'
  clear hb
  replace hon := Lib.hid hon
  replace hc := Lib.hid hc
  go_enter Tryz.func85, Tryz.ntmps85
  go_wp2_with fail
  refine (hon.out.call fun F' hb' => hc.out _ F' hb').mono ?_
  rintro e w1 ⟨v', A', ⟨rfl, rfl⟩, rfl, hon1⟩
  replace hon1 := Lib.hid hon1
  go_wp2_with fail
  go_end0
  exact hon1.out.post ⟨rfl, l, v, Went.same l, rfl⟩
set_option maxHeartbeats 2000000 in
theorem d_special_3 : Does 85 3 := by
  intro g nm l v hn hok w F hb
  have hon := On.refl hb
  have hc := fun w1 F' hb' => d_bad g nm l v w1 F' hb'
  clear hb
  replace hon := Lib.hid hon
  replace hc := Lib.hid hc
  go_enter Tryz.func85, Tryz.ntmps85
  go_wp2_with fail
  refine (hon.out.call fun F' hb' => hc.out _ F' hb').mono ?_
  rintro e w1 ⟨v', A', ⟨rfl, rfl⟩, rfl, hon1⟩
  replace hon1 := Lib.hid hon1
  go_wp2_with fail
  go_end0
  exact hon1.out.post ⟨rfl, l, v, Went.same l, rfl⟩
set_option maxHeartbeats 2000000 in
theorem d_special_4 : Does 85 4 := by
  intro g nm l v hn hok w F hb
  have hon := On.refl hb
  have hc := fun w1 F' hb' => d_bad g nm l v w1 F' hb'
  clear hb
  replace hon := Lib.hid hon
  replace hc := Lib.hid hc
  go_enter Tryz.func85, Tryz.ntmps85
  go_wp2_with fail
  refine (hon.out.call fun F' hb' => hc.out _ F' hb').mono ?_
  rintro e w1 ⟨v', A', ⟨rfl, rfl⟩, rfl, hon1⟩
  replace hon1 := Lib.hid hon1
  go_wp2_with fail
  go_end0
  exact hon1.out.post ⟨rfl, l, v, Went.same l, rfl⟩
set_option maxHeartbeats 2000000 in
theorem d_special_5 : Does 85 5 := by
  intro g nm l v hn hok w F hb
  have hon := On.refl hb
  have hc := fun w1 F' hb' => d_bad g nm l v w1 F' hb'
  clear hb
  replace hon := Lib.hid hon
  replace hc := Lib.hid hc
  go_enter Tryz.func85, Tryz.ntmps85
  go_wp2_with fail
  refine (hon.out.call fun F' hb' => hc.out _ F' hb').mono ?_
  rintro e w1 ⟨v', A', ⟨rfl, rfl⟩, rfl, hon1⟩
  replace hon1 := Lib.hid hon1
  go_wp2_with fail
  go_end0
  exact hon1.out.post ⟨rfl, l, v, Went.same l, rfl⟩
set_option maxHeartbeats 2000000 in
theorem d_special_6 : Does 85 6 := by
  intro g nm l v hn hok w F hb
  have hon := On.refl hb
  have hc := fun w1 F' hb' => d_bad g nm l v w1 F' hb'
  clear hb
  replace hon := Lib.hid hon
  replace hc := Lib.hid hc
  go_enter Tryz.func85, Tryz.ntmps85
  go_wp2_with fail
  refine (hon.out.call fun F' hb' => hc.out _ F' hb').mono ?_
  rintro e w1 ⟨v', A', ⟨rfl, rfl⟩, rfl, hon1⟩
  replace hon1 := Lib.hid hon1
  go_wp2_with fail
  go_end0
  exact hon1.out.post ⟨rfl, l, v, Went.same l, rfl⟩
set_option maxHeartbeats 2000000 in
theorem d_special_7 : Does 85 7 := by
  intro g nm l v hn hok w F hb
  have hon := On.refl hb
  have hc := fun w1 F' hb' => d_bad g nm l v w1 F' hb'
  clear hb
  replace hon := Lib.hid hon
  replace hc := Lib.hid hc
  go_enter Tryz.func85, Tryz.ntmps85
  go_wp2_with fail
  refine (hon.out.call fun F' hb' => hc.out _ F' hb').mono ?_
  rintro e w1 ⟨v', A', ⟨rfl, rfl⟩, rfl, hon1⟩
  replace hon1 := Lib.hid hon1
  go_wp2_with fail
  go_end0
  exact hon1.out.post ⟨rfl, l, v, Went.same l, rfl⟩
set_option maxHeartbeats 2000000 in
theorem d_special_8 : Does 85 8 := by
  intro g nm l v hn hok w F hb
  have hon := On.refl hb
  have hc := fun w1 F' hb' => d_takes g nm l v 0 1 w1 F' hb'
  clear hb
  replace hon := Lib.hid hon
  replace hc := Lib.hid hc
  go_enter Tryz.func85, Tryz.ntmps85
  go_wp2_with fail
  refine (hon.out.call fun F' hb' => hc.out _ F' hb').mono ?_
  rintro e w1 ⟨v', A', ⟨rfl, rfl⟩, rfl, hon1⟩
  replace hon1 := Lib.hid hon1
  go_wp2_with fail
  go_end0
  exact hon1.out.post ⟨rfl, l, v, Went.same l, rfl⟩
set_option maxHeartbeats 2000000 in
theorem d_special_9 : Does 85 9 := by
  intro g nm l v hn hok w F hb
  have hon := On.refl hb
  have hc := fun w1 F' hb' => d_bad g nm l v w1 F' hb'
  clear hb
  replace hon := Lib.hid hon
  replace hc := Lib.hid hc
  go_enter Tryz.func85, Tryz.ntmps85
  go_wp2_with fail
  refine (hon.out.call fun F' hb' => hc.out _ F' hb').mono ?_
  rintro e w1 ⟨v', A', ⟨rfl, rfl⟩, rfl, hon1⟩
  replace hon1 := Lib.hid hon1
  go_wp2_with fail
  go_end0
  exact hon1.out.post ⟨rfl, l, v, Went.same l, rfl⟩
set_option maxHeartbeats 2000000 in
theorem d_special_10 : Does 85 10 := by
  intro g nm l v hn hok w F hb
  have hon := On.refl hb
  have hc := fun w1 F' hb' => d_takes g nm l v 0 1 w1 F' hb'
  clear hb
  replace hon := Lib.hid hon
  replace hc := Lib.hid hc
  go_enter Tryz.func85, Tryz.ntmps85
  go_wp2_with fail
  refine (hon.out.call fun F' hb' => hc.out _ F' hb').mono ?_
  rintro e w1 ⟨v', A', ⟨rfl, rfl⟩, rfl, hon1⟩
  replace hon1 := Lib.hid hon1
  go_wp2_with fail
  go_end0
  exact hon1.out.post ⟨rfl, l, v, Went.same l, rfl⟩
set_option maxHeartbeats 2000000 in
theorem d_special_11 : Does 85 11 := by
  intro g nm l v hn hok w F hb
  have hon := On.refl hb
  have hc := fun w1 F' hb' => d_bad g nm l v w1 F' hb'
  clear hb
  replace hon := Lib.hid hon
  replace hc := Lib.hid hc
  go_enter Tryz.func85, Tryz.ntmps85
  go_wp2_with fail
  refine (hon.out.call fun F' hb' => hc.out _ F' hb').mono ?_
  rintro e w1 ⟨v', A', ⟨rfl, rfl⟩, rfl, hon1⟩
  replace hon1 := Lib.hid hon1
  go_wp2_with fail
  go_end0
  exact hon1.out.post ⟨rfl, l, v, Went.same l, rfl⟩
set_option maxHeartbeats 2000000 in
theorem d_special_12 : Does 85 12 := by
  intro g nm l v hn hok w F hb
  have hon := On.refl hb
  have hc := fun w1 F' hb' => d_bad g nm l v w1 F' hb'
  clear hb
  replace hon := Lib.hid hon
  replace hc := Lib.hid hc
  go_enter Tryz.func85, Tryz.ntmps85
  go_wp2_with fail
  refine (hon.out.call fun F' hb' => hc.out _ F' hb').mono ?_
  rintro e w1 ⟨v', A', ⟨rfl, rfl⟩, rfl, hon1⟩
  replace hon1 := Lib.hid hon1
  go_wp2_with fail
  go_end0
  exact hon1.out.post ⟨rfl, l, v, Went.same l, rfl⟩
set_option maxHeartbeats 2000000 in
theorem d_special_13 : Does 85 13 := by
  intro g nm l v hn hok w F hb
  have hon := On.refl hb
  have hc := fun w1 F' hb' => d_bad g nm l v w1 F' hb'
  clear hb
  replace hon := Lib.hid hon
  replace hc := Lib.hid hc
  go_enter Tryz.func85, Tryz.ntmps85
  go_wp2_with fail
  refine (hon.out.call fun F' hb' => hc.out _ F' hb').mono ?_
  rintro e w1 ⟨v', A', ⟨rfl, rfl⟩, rfl, hon1⟩
  replace hon1 := Lib.hid hon1
  go_wp2_with fail
  go_end0
  exact hon1.out.post ⟨rfl, l, v, Went.same l, rfl⟩
set_option maxHeartbeats 2000000 in
theorem d_special_14 : Does 85 14 := by
  intro g nm l v hn hok w F hb
  have hon := On.refl hb
  have hc := fun w1 F' hb' => d_bad g nm l v w1 F' hb'
  clear hb
  replace hon := Lib.hid hon
  replace hc := Lib.hid hc
  go_enter Tryz.func85, Tryz.ntmps85
  go_wp2_with fail
  refine (hon.out.call fun F' hb' => hc.out _ F' hb').mono ?_
  rintro e w1 ⟨v', A', ⟨rfl, rfl⟩, rfl, hon1⟩
  replace hon1 := Lib.hid hon1
  go_wp2_with fail
  go_end0
  exact hon1.out.post ⟨rfl, l, v, Went.same l, rfl⟩
set_option maxHeartbeats 2000000 in
theorem d_special_15 : Does 85 15 := by
  intro g nm l v hn hok w F hb
  have hon := On.refl hb
  clear hb
  replace hon := Lib.hid hon
  go_enter Tryz.func85, Tryz.ntmps85
  go_wp2_with fail
  go_end0
  exact hon.out.post ⟨rfl, l, v, Went.same l, rfl⟩
set_option maxHeartbeats 2000000 in
theorem d_special_16 : Does 85 16 := by
  intro g nm l v hn hok w F hb
  have hon := On.refl hb
  clear hb
  replace hon := Lib.hid hon
  go_enter Tryz.func85, Tryz.ntmps85
  go_wp2_with fail
  go_end0
  exact hon.out.post ⟨rfl, l, v, Went.same l, rfl⟩
set_option maxHeartbeats 2000000 in
theorem d_special_17 : Does 85 17 := by
  intro g nm l v hn hok w F hb
  have hon := On.refl hb
  have hc := fun w1 F' hb' => d_takes g nm l v 0 2 w1 F' hb'
  clear hb
  replace hon := Lib.hid hon
  replace hc := Lib.hid hc
  go_enter Tryz.func85, Tryz.ntmps85
  go_wp2_with fail
  refine (hon.out.call fun F' hb' => hc.out _ F' hb').mono ?_
  rintro e w1 ⟨v', A', ⟨rfl, rfl⟩, rfl, hon1⟩
  replace hon1 := Lib.hid hon1
  go_wp2_with fail
  go_end0
  exact hon1.out.post ⟨rfl, l, v, Went.same l, rfl⟩
set_option maxHeartbeats 2000000 in
theorem d_special_18 : Does 85 18 := by
  intro g nm l v hn hok w F hb
  have hon := On.refl hb
  clear hb
  replace hon := Lib.hid hon
  go_enter Tryz.func85, Tryz.ntmps85
  go_wp2_with fail
  go_end0
  exact hon.out.post ⟨rfl, l, v, Went.same l, rfl⟩
set_option maxHeartbeats 2000000 in
theorem d_special_19 : Does 85 19 := by
  intro g nm l v hn hok w F hb
  have hon := On.refl hb
  have hc := fun w1 F' hb' => d_ifs 19 (by decide) g nm l v hn hok w1 F' hb'
  clear hb
  replace hon := Lib.hid hon
  replace hc := Lib.hid hc
  go_enter Tryz.func85, Tryz.ntmps85
  go_wp2_with fail
  refine (hon.out.call fun F' hb' => hc.out _ F' hb').mono ?_
  rintro e w1 ⟨v', A', ⟨rfl, l', v2, hw, rfl⟩, rfl, hon1⟩
  replace hw := Lib.hid hw
  replace hon1 := Lib.hid hon1
  go_wp2_with fail
  go_end0
  exact hon1.out.post ⟨rfl, l', v2, hw.out, rfl⟩
set_option maxHeartbeats 2000000 in
theorem d_special_20 : Does 85 20 := by
  intro g nm l v hn hok w F hb
  have hon := On.refl hb
  have hc := fun w1 F' hb' => d_ifs 20 (by decide) g nm l v hn hok w1 F' hb'
  clear hb
  replace hon := Lib.hid hon
  replace hc := Lib.hid hc
  go_enter Tryz.func85, Tryz.ntmps85
  go_wp2_with fail
  refine (hon.out.call fun F' hb' => hc.out _ F' hb').mono ?_
  rintro e w1 ⟨v', A', ⟨rfl, l', v2, hw, rfl⟩, rfl, hon1⟩
  replace hw := Lib.hid hw
  replace hon1 := Lib.hid hon1
  go_wp2_with fail
  go_end0
  exact hon1.out.post ⟨rfl, l', v2, hw.out, rfl⟩
set_option maxHeartbeats 2000000 in
theorem d_special_21 : Does 85 21 := by
  intro g nm l v hn hok w F hb
  have hon := On.refl hb
  have hc := fun w1 F' hb' => d_ifs 21 (by decide) g nm l v hn hok w1 F' hb'
  clear hb
  replace hon := Lib.hid hon
  replace hc := Lib.hid hc
  go_enter Tryz.func85, Tryz.ntmps85
  go_wp2_with fail
  refine (hon.out.call fun F' hb' => hc.out _ F' hb').mono ?_
  rintro e w1 ⟨v', A', ⟨rfl, l', v2, hw, rfl⟩, rfl, hon1⟩
  replace hw := Lib.hid hw
  replace hon1 := Lib.hid hon1
  go_wp2_with fail
  go_end0
  exact hon1.out.post ⟨rfl, l', v2, hw.out, rfl⟩
set_option maxHeartbeats 2000000 in
theorem d_special_22 : Does 85 22 := by
  intro g nm l v hn hok w F hb
  have hon := On.refl hb
  have hc := fun w1 F' hb' => d_begins 22 (by decide) g nm l v hn hok w1 F' hb'
  clear hb
  replace hon := Lib.hid hon
  replace hc := Lib.hid hc
  go_enter Tryz.func85, Tryz.ntmps85
  go_wp2_with fail
  refine (hon.out.call fun F' hb' => hc.out _ F' hb').mono ?_
  rintro e w1 ⟨v', A', ⟨rfl, l', v2, hw, rfl⟩, rfl, hon1⟩
  replace hw := Lib.hid hw
  replace hon1 := Lib.hid hon1
  go_wp2_with fail
  go_end0
  exact hon1.out.post ⟨rfl, l', v2, hw.out, rfl⟩
set_option maxHeartbeats 2000000 in
theorem d_special_23 : Does 85 23 := by
  intro g nm l v hn hok w F hb
  have hon := On.refl hb
  have hc := fun w1 F' hb' => d_begins 23 (by decide) g nm l v hn hok w1 F' hb'
  clear hb
  replace hon := Lib.hid hon
  replace hc := Lib.hid hc
  go_enter Tryz.func85, Tryz.ntmps85
  go_wp2_with fail
  refine (hon.out.call fun F' hb' => hc.out _ F' hb').mono ?_
  rintro e w1 ⟨v', A', ⟨rfl, l', v2, hw, rfl⟩, rfl, hon1⟩
  replace hw := Lib.hid hw
  replace hon1 := Lib.hid hon1
  go_wp2_with fail
  go_end0
  exact hon1.out.post ⟨rfl, l', v2, hw.out, rfl⟩
set_option maxHeartbeats 2000000 in
theorem d_special_24 : Does 85 24 := by
  intro g nm l v hn hok w F hb
  have hon := On.refl hb
  have hc := fun w1 F' hb' => d_begins 24 (by decide) g nm l v hn hok w1 F' hb'
  clear hb
  replace hon := Lib.hid hon
  replace hc := Lib.hid hc
  go_enter Tryz.func85, Tryz.ntmps85
  go_wp2_with fail
  refine (hon.out.call fun F' hb' => hc.out _ F' hb').mono ?_
  rintro e w1 ⟨v', A', ⟨rfl, l', v2, hw, rfl⟩, rfl, hon1⟩
  replace hw := Lib.hid hw
  replace hon1 := Lib.hid hon1
  go_wp2_with fail
  go_end0
  exact hon1.out.post ⟨rfl, l', v2, hw.out, rfl⟩
set_option maxHeartbeats 2000000 in
theorem d_special_25 : Does 85 25 := by
  intro g nm l v hn hok w F hb
  have hon := On.refl hb
  have hc := fun w1 F' hb' => d_begins 25 (by decide) g nm l v hn hok w1 F' hb'
  clear hb
  replace hon := Lib.hid hon
  replace hc := Lib.hid hc
  go_enter Tryz.func85, Tryz.ntmps85
  go_wp2_with fail
  refine (hon.out.call fun F' hb' => hc.out _ F' hb').mono ?_
  rintro e w1 ⟨v', A', ⟨rfl, l', v2, hw, rfl⟩, rfl, hon1⟩
  replace hw := Lib.hid hw
  replace hon1 := Lib.hid hon1
  go_wp2_with fail
  go_end0
  exact hon1.out.post ⟨rfl, l', v2, hw.out, rfl⟩
set_option maxHeartbeats 2000000 in
theorem d_special_26 : Does 85 26 := by
  intro g nm l v hn hok w F hb
  have hon := On.refl hb
  have hc := fun w1 F' hb' => d_begins 26 (by decide) g nm l v hn hok w1 F' hb'
  clear hb
  replace hon := Lib.hid hon
  replace hc := Lib.hid hc
  go_enter Tryz.func85, Tryz.ntmps85
  go_wp2_with fail
  refine (hon.out.call fun F' hb' => hc.out _ F' hb').mono ?_
  rintro e w1 ⟨v', A', ⟨rfl, l', v2, hw, rfl⟩, rfl, hon1⟩
  replace hw := Lib.hid hw
  replace hon1 := Lib.hid hon1
  go_wp2_with fail
  go_end0
  exact hon1.out.post ⟨rfl, l', v2, hw.out, rfl⟩
set_option maxHeartbeats 2000000 in
theorem d_special_27 : Does 85 27 := by
  intro g nm l v hn hok w F hb
  have hon := On.refl hb
  have hc := fun w1 F' hb' => d_dos 27 (by decide) g nm l v hn hok w1 F' hb'
  clear hb
  replace hon := Lib.hid hon
  replace hc := Lib.hid hc
  go_enter Tryz.func85, Tryz.ntmps85
  go_wp2_with fail
  refine (hon.out.call fun F' hb' => hc.out _ F' hb').mono ?_
  rintro e w1 ⟨v', A', ⟨rfl, l', v2, hw, rfl⟩, rfl, hon1⟩
  replace hw := Lib.hid hw
  replace hon1 := Lib.hid hon1
  go_wp2_with fail
  go_end0
  exact hon1.out.post ⟨rfl, l', v2, hw.out, rfl⟩
set_option maxHeartbeats 2000000 in
theorem d_special_28 : Does 85 28 := by
  intro g nm l v hn hok w F hb
  have hon := On.refl hb
  have hc := fun w1 F' hb' => d_dos 28 (by decide) g nm l v hn hok w1 F' hb'
  clear hb
  replace hon := Lib.hid hon
  replace hc := Lib.hid hc
  go_enter Tryz.func85, Tryz.ntmps85
  go_wp2_with fail
  refine (hon.out.call fun F' hb' => hc.out _ F' hb').mono ?_
  rintro e w1 ⟨v', A', ⟨rfl, l', v2, hw, rfl⟩, rfl, hon1⟩
  replace hw := Lib.hid hw
  replace hon1 := Lib.hid hon1
  go_wp2_with fail
  go_end0
  exact hon1.out.post ⟨rfl, l', v2, hw.out, rfl⟩
set_option maxHeartbeats 2000000 in
theorem d_special_29 : Does 85 29 := by
  intro g nm l v hn hok w F hb
  have hon := On.refl hb
  have hc := fun w1 F' hb' => d_dos 29 (by decide) g nm l v hn hok w1 F' hb'
  clear hb
  replace hon := Lib.hid hon
  replace hc := Lib.hid hc
  go_enter Tryz.func85, Tryz.ntmps85
  go_wp2_with fail
  refine (hon.out.call fun F' hb' => hc.out _ F' hb').mono ?_
  rintro e w1 ⟨v', A', ⟨rfl, l', v2, hw, rfl⟩, rfl, hon1⟩
  replace hw := Lib.hid hw
  replace hon1 := Lib.hid hon1
  go_wp2_with fail
  go_end0
  exact hon1.out.post ⟨rfl, l', v2, hw.out, rfl⟩
set_option maxHeartbeats 2000000 in
theorem d_special_30 : Does 85 30 := by
  intro g nm l v hn hok w F hb
  have hon := On.refl hb
  have hc := fun w1 F' hb' => d_dos 30 (by decide) g nm l v hn hok w1 F' hb'
  clear hb
  replace hon := Lib.hid hon
  replace hc := Lib.hid hc
  go_enter Tryz.func85, Tryz.ntmps85
  go_wp2_with fail
  refine (hon.out.call fun F' hb' => hc.out _ F' hb').mono ?_
  rintro e w1 ⟨v', A', ⟨rfl, l', v2, hw, rfl⟩, rfl, hon1⟩
  replace hw := Lib.hid hw
  replace hon1 := Lib.hid hon1
  go_wp2_with fail
  go_end0
  exact hon1.out.post ⟨rfl, l', v2, hw.out, rfl⟩
set_option maxHeartbeats 2000000 in
theorem d_special_31 : Does 85 31 := by
  intro g nm l v hn hok w F hb
  have hon := On.refl hb
  have hc := fun w1 F' hb' => d_dos 31 (by decide) g nm l v hn hok w1 F' hb'
  clear hb
  replace hon := Lib.hid hon
  replace hc := Lib.hid hc
  go_enter Tryz.func85, Tryz.ntmps85
  go_wp2_with fail
  refine (hon.out.call fun F' hb' => hc.out _ F' hb').mono ?_
  rintro e w1 ⟨v', A', ⟨rfl, l', v2, hw, rfl⟩, rfl, hon1⟩
  replace hw := Lib.hid hw
  replace hon1 := Lib.hid hon1
  go_wp2_with fail
  go_end0
  exact hon1.out.post ⟨rfl, l', v2, hw.out, rfl⟩
set_option maxHeartbeats 2000000 in
theorem d_special_32 : Does 85 32 := by
  intro g nm l v hn hok w F hb
  have hon := On.refl hb
  have hc := fun w1 F' hb' => d_cases 32 (by decide) g nm l v hn hok w1 F' hb'
  clear hb
  replace hon := Lib.hid hon
  replace hc := Lib.hid hc
  go_enter Tryz.func85, Tryz.ntmps85
  go_wp2_with fail
  refine (hon.out.call fun F' hb' => hc.out _ F' hb').mono ?_
  rintro e w1 ⟨v', A', ⟨rfl, l', v2, hw, rfl⟩, rfl, hon1⟩
  replace hw := Lib.hid hw
  replace hon1 := Lib.hid hon1
  go_wp2_with fail
  go_end0
  exact hon1.out.post ⟨rfl, l', v2, hw.out, rfl⟩
set_option maxHeartbeats 2000000 in
theorem d_special_33 : Does 85 33 := by
  intro g nm l v hn hok w F hb
  have hon := On.refl hb
  have hc := fun w1 F' hb' => d_cases 33 (by decide) g nm l v hn hok w1 F' hb'
  clear hb
  replace hon := Lib.hid hon
  replace hc := Lib.hid hc
  go_enter Tryz.func85, Tryz.ntmps85
  go_wp2_with fail
  refine (hon.out.call fun F' hb' => hc.out _ F' hb').mono ?_
  rintro e w1 ⟨v', A', ⟨rfl, l', v2, hw, rfl⟩, rfl, hon1⟩
  replace hw := Lib.hid hw
  replace hon1 := Lib.hid hon1
  go_wp2_with fail
  go_end0
  exact hon1.out.post ⟨rfl, l', v2, hw.out, rfl⟩
set_option maxHeartbeats 2000000 in
theorem d_special_34 : Does 85 34 := by
  intro g nm l v hn hok w F hb
  have hon := On.refl hb
  have hc := fun w1 F' hb' => d_cases 34 (by decide) g nm l v hn hok w1 F' hb'
  clear hb
  replace hon := Lib.hid hon
  replace hc := Lib.hid hc
  go_enter Tryz.func85, Tryz.ntmps85
  go_wp2_with fail
  refine (hon.out.call fun F' hb' => hc.out _ F' hb').mono ?_
  rintro e w1 ⟨v', A', ⟨rfl, l', v2, hw, rfl⟩, rfl, hon1⟩
  replace hw := Lib.hid hw
  replace hon1 := Lib.hid hon1
  go_wp2_with fail
  go_end0
  exact hon1.out.post ⟨rfl, l', v2, hw.out, rfl⟩
set_option maxHeartbeats 2000000 in
theorem d_special_35 : Does 85 35 := by
  intro g nm l v hn hok w F hb
  have hon := On.refl hb
  have hc := fun w1 F' hb' => d_cases 35 (by decide) g nm l v hn hok w1 F' hb'
  clear hb
  replace hon := Lib.hid hon
  replace hc := Lib.hid hc
  go_enter Tryz.func85, Tryz.ntmps85
  go_wp2_with fail
  refine (hon.out.call fun F' hb' => hc.out _ F' hb').mono ?_
  rintro e w1 ⟨v', A', ⟨rfl, l', v2, hw, rfl⟩, rfl, hon1⟩
  replace hw := Lib.hid hw
  replace hon1 := Lib.hid hon1
  go_wp2_with fail
  go_end0
  exact hon1.out.post ⟨rfl, l', v2, hw.out, rfl⟩
set_option maxHeartbeats 2000000 in
theorem d_special_36 : Does 85 36 := by
  intro g nm l v hn hok w F hb
  have hon := On.refl hb
  have hlp := fun w1 F' hb' => d_loop g nm l v w1 F' hb'
  have hbd := fun w1 F' hb' => d_bad g nm l v w1 F' hb'
  have hen := fun w1 F' hb' => d_ends g nm l v w1 F' hb'
  have hpl : placeV v (innerAt l) = .pointer none ∨ ∃ p, placeV v (innerAt l) = .pointer (some p) := by
    rcases hi : innerAt l with _ | i
    · exact .inl rfl
    · obtain ⟨o, ho, _⟩ := innerAt_some l i hi
      have hil : i < l.length := (List.getElem?_eq_some_iff.1 ho).1
      obtain ⟨sg, cap, hv, _⟩ := thing_form hb.2.1 (by intro h; rw [h] at hil; simp at hil)
      subst hv
      exact .inr ⟨_, rfl⟩
  generalize placeV v (innerAt l) = P at *
  clear hb
  replace hon := Lib.hid hon
  replace hbd := Lib.hid hbd
  replace hen := Lib.hid hen
  replace hlp := Lib.hid hlp
  rcases hpl with rfl | ⟨p, rfl⟩
  · go_enter Tryz.func85, Tryz.ntmps85
    go_wp2_with fail
    refine (hon.out.call fun F' hb' => hlp.out _ F' hb').mono ?_
    rintro e w1 ⟨v', A', ⟨rfl, rfl⟩, rfl, hon1⟩
    replace hon1 := Lib.hid hon1
    go_wp2_with fail
    refine (hon1.out.call fun F' hb' => hen.out _ F' hb').mono ?_
    rintro e w3 ⟨v', A', ⟨rfl, rfl⟩, rfl, hon3⟩
    obtain ⟨kn, nd, lo, n0, h0, r, dd, en, hh, hkb⟩ := DdB.open_ hon3
    have c5 := hkb.cell 5
    have c6 := hkb.cell 6
    have c7 := hkb.cell 7
    have f5 := hkb.frozen 5
    have f6 := hkb.frozen 6
    have f7 := hkb.frozen 7
    simp only [ddC] at c5 c6 c7
    simp at c5 c6 c7
    have hon4 := DdB.setSt hon3 ⟨0, 0, true⟩
    clear hkb hon3
    replace hon4 := Lib.hid hon4
    go_wp2_with fail
    go_end0
    exact hon4.out.post ⟨rfl, l, v, Went.same l, rfl⟩
  · go_enter Tryz.func85, Tryz.ntmps85
    go_wp2_with fail
    refine (hon.out.call fun F' hb' => hlp.out _ F' hb').mono ?_
    rintro e w1 ⟨v', A', ⟨rfl, rfl⟩, rfl, hon1⟩
    replace hon1 := Lib.hid hon1
    go_wp2_with fail
    refine (hon1.out.call fun F' hb' => hbd.out _ F' hb').mono ?_
    rintro e w2 ⟨v', A', ⟨rfl, rfl⟩, rfl, hon2⟩
    replace hon2 := Lib.hid hon2
    go_wp2_with fail
    refine (hon2.out.call fun F' hb' => hen.out _ F' hb').mono ?_
    rintro e w3 ⟨v', A', ⟨rfl, rfl⟩, rfl, hon3⟩
    obtain ⟨kn, nd, lo, n0, h0, r, dd, en, hh, hkb⟩ := DdB.open_ hon3
    have c5 := hkb.cell 5
    have c6 := hkb.cell 6
    have c7 := hkb.cell 7
    have f5 := hkb.frozen 5
    have f6 := hkb.frozen 6
    have f7 := hkb.frozen 7
    simp only [ddC] at c5 c6 c7
    simp at c5 c6 c7
    have hon4 := DdB.setSt hon3 ⟨0, 0, true⟩
    clear hkb hon3
    replace hon4 := Lib.hid hon4
    go_wp2_with fail
    go_end0
    exact hon4.out.post ⟨rfl, l, v, Went.same l, rfl⟩
theorem d_special (k : Nat) (h1 : 1 ≤ k) (h2 : k ≤ 36) : Does 85 k := by
  have h : k = 1 ∨ k = 2 ∨ k = 3 ∨ k = 4 ∨ k = 5 ∨ k = 6 ∨ k = 7 ∨ k = 8 ∨ k = 9 ∨ k = 10 ∨ k = 11 ∨ k = 12 ∨ k = 13 ∨ k = 14 ∨ k = 15 ∨ k = 16 ∨ k = 17 ∨ k = 18 ∨ k = 19 ∨ k = 20 ∨ k = 21 ∨ k = 22 ∨ k = 23 ∨ k = 24 ∨ k = 25 ∨ k = 26 ∨ k = 27 ∨ k = 28 ∨ k = 29 ∨ k = 30 ∨ k = 31 ∨ k = 32 ∨ k = 33 ∨ k = 34 ∨ k = 35 ∨ k = 36 := by omega
  rcases h with rfl | rfl | rfl | rfl | rfl | rfl | rfl | rfl | rfl | rfl | rfl | rfl | rfl | rfl | rfl | rfl | rfl | rfl | rfl | rfl | rfl | rfl | rfl | rfl | rfl | rfl | rfl | rfl | rfl | rfl | rfl | rfl | rfl | rfl | rfl | rfl
  · exact d_special_1
  · exact d_special_2
  · exact d_special_3
  · exact d_special_4
  · exact d_special_5
  · exact d_special_6
  · exact d_special_7
  · exact d_special_8
  · exact d_special_9
  · exact d_special_10
  · exact d_special_11
  · exact d_special_12
  · exact d_special_13
  · exact d_special_14
  · exact d_special_15
  · exact d_special_16
  · exact d_special_17
  · exact d_special_18
  · exact d_special_19
  · exact d_special_20
  · exact d_special_21
  · exact d_special_22
  · exact d_special_23
  · exact d_special_24
  · exact d_special_25
  · exact d_special_26
  · exact d_special_27
  · exact d_special_28
  · exact d_special_29
  · exact d_special_30
  · exact d_special_31
  · exact d_special_32
  · exact d_special_33
  · exact d_special_34
  · exact d_special_35
  · exact d_special_36
end Look
end Go.Proofs.YthejfkkmcbdlhaaGreatDoor
/- The document's operations in a definition. No condition. -/
namespace Go.Proofs.YthejfkkmcbdlhaaGreatDoor
set_option linter.unusedVariables false
set_option maxRecDepth 100000
open Go.RowKit Go.Lib
namespace Look
/-- what an operation does: cells of the definition's state -/
def Opers (K : Int) : Prop := ∀ (g : Nat) (nm : List UInt8) (l : List Open) (v : Value) (w : World) (F : Nat → Prop), (DdB g nm l v).holds w F →
    Calls Tryz.prog 84 #[.pointer (some ⟨g, 0, none⟩), .int .i64 K] w (Post (fun u B => u = .tuple #[] ∧ B = DdB g nm l v) F w)
theorem d_oper_bad (op : Int) (ho : op = 29 ∨ op = 26 ∨ op = 16 ∨ op = 85 ∨ op = 10 ∨ op = 93) : Opers op := by
  intro g nm l v w F hb
  have hon := On.refl hb
  have hbd := fun w1 F' hb' => d_bad g nm l v w1 F' hb'
  clear hb
  replace hon := Lib.hid hon
  replace hbd := Lib.hid hbd
  rcases ho with rfl | rfl | rfl | rfl | rfl | rfl
  all_goals
    go_enter Tryz.func84, Tryz.ntmps84
    go_wp2_with fail
    refine (hon.out.call fun F' hb' => hbd.out _ F' hb').mono ?_
    rintro e w1 ⟨v', A', ⟨rfl, rfl⟩, rfl, hon1⟩
    replace hon1 := Lib.hid hon1
    go_wp2_with fail
    go_end0
    exact hon1.out.post ⟨rfl, rfl⟩
set_option maxHeartbeats 4000000 in
theorem d_oper_105 : Opers 105 := by
  intro g nm l v w F hb
  have hon := On.refl hb
  have hbd := fun w1 F' hb' => d_bad g nm l v w1 F' hb'
  have htk := fun t u w1 F' hb' => d_takes g nm l v t u w1 F' hb'
  have hlp := fun w1 F' hb' => d_loop g nm l v w1 F' hb'
  have hwt := fun w => Wants_walk 105 w
  obtain ⟨t, ht⟩ : ∃ t, (Code.wants 105).1 = t := ⟨_, rfl⟩
  obtain ⟨u, hu⟩ : ∃ u, (Code.wants 105).2 = u := ⟨_, rfl⟩
  rw [ht, hu] at hwt
  clear ht hu hb
  replace hon := Lib.hid hon
  replace hbd := Lib.hid hbd
  replace htk := Lib.hid htk
  replace hlp := Lib.hid hlp
  replace hwt := Lib.hid hwt
  go_enter Tryz.func84, Tryz.ntmps84
  go_wp2_with fail
  refine (hwt.out _).mono ?_
  rintro e w0 ⟨rfl, hw0⟩
  subst hw0
  go_wp2_with fail
  refine (hon.out.call fun F' hb' => htk.out t u _ F' hb').mono ?_
  rintro e w1 ⟨v', A', ⟨rfl, rfl⟩, rfl, hon1⟩
  obtain ⟨kn, nd, lo, n0, h0, r, dd, en, hh, hk⟩ := DdB.open_ hon1
  have c7 := hk.cell 7
  simp only [ddC] at c7
  simp at c7
  clear hk
  replace hon1 := Lib.hid hon1
  cases dd
  rotate_left
  · go_wp2_with fail
    go_end0
    exact hon1.out.post ⟨rfl, rfl⟩
  go_wp2_with fail
  refine (hon1.out.call fun F' hb' => hlp.out _ F' hb').mono ?_
  rintro e w2 ⟨v', A', ⟨rfl, rfl⟩, rfl, hon2⟩
  clear c7 r h0 n0 nd lo kn en hh
  rcases hi : innerAt l with _ | i
  · simp only [placeV]
    obtain ⟨kn, nd, lo, n0, h0, r, dd, en, hh, hk⟩ := DdB.open_ hon2
    have c5 := hk.cell 5
    have c6 := hk.cell 6
    have c7 := hk.cell 7
    have f5 := hk.frozen 5
    have f6 := hk.frozen 6
    have f7 := hk.frozen 7
    simp only [ddC] at c5 c6 c7
    simp at c5 c6 c7
    clear hk
    replace hon2 := Lib.hid hon2
    clear hi
    go_wp2_with fail
    go_end0
    exact (DdB.setSt hon2.out ⟨0, 0, true⟩).post ⟨rfl, rfl⟩
  · obtain ⟨hrow, hne0⟩ := DdB.row_ hon2
    have hil : i < l.length := by
      obtain ⟨o, ho, _⟩ := innerAt_some l i hi
      exact (List.getElem?_eq_some_iff.1 ho).1
    obtain ⟨sg, cap, hv, _⟩ := thing_form hrow (by intro h; rw [h] at hil; simp at hil)
    subst hv
    simp only [placeV]
    have hne : g ≠ sg := fun e => hne0 (by rw [e]; rfl)
    obtain ⟨kn, nd, lo, n0, h0, r, dd, en, hh, hk⟩ := DdB.open_ hon2
    have c5 := hk.cell 5
    have c6 := hk.cell 6
    have c7 := hk.cell 7
    have f5 := hk.frozen 5
    have f6 := hk.frozen 6
    have f7 := hk.frozen 7
    simp only [ddC] at c5 c6 c7
    simp at c5 c6 c7
    clear hk
    have x2 := thing_cell hrow i 2 hil (by omega)
    simp [openC, stC] at x2
    obtain ⟨b0, hb0⟩ : ∃ b0 : Int, (l[i].a.r : Int) = b0 := ⟨_, rfl⟩
    rw [hb0] at x2
    replace hon2 := Lib.hid hon2
    clear hi hrow hne0 hb0 hil
    go_wp2_with fail
    go_end0
    exact (DdB.setSt hon2.out ⟨0, 0, true⟩).post ⟨rfl, rfl⟩
set_option maxHeartbeats 4000000 in
theorem d_oper_13 : Opers 13 := by
  intro g nm l v w F hb
  have hon := On.refl hb
  have hbd := fun w1 F' hb' => d_bad g nm l v w1 F' hb'
  have htk := fun t u w1 F' hb' => d_takes g nm l v t u w1 F' hb'
  have hlp := fun w1 F' hb' => d_loop g nm l v w1 F' hb'
  have hwt := fun w => Wants_walk 13 w
  obtain ⟨t, ht⟩ : ∃ t, (Code.wants 13).1 = t := ⟨_, rfl⟩
  obtain ⟨u, hu⟩ : ∃ u, (Code.wants 13).2 = u := ⟨_, rfl⟩
  rw [ht, hu] at hwt
  clear ht hu hb
  replace hon := Lib.hid hon
  replace hbd := Lib.hid hbd
  replace htk := Lib.hid htk
  replace hlp := Lib.hid hlp
  replace hwt := Lib.hid hwt
  go_enter Tryz.func84, Tryz.ntmps84
  go_wp2_with fail
  refine (hwt.out _).mono ?_
  rintro e w0 ⟨rfl, hw0⟩
  subst hw0
  go_wp2_with fail
  refine (hon.out.call fun F' hb' => htk.out t u _ F' hb').mono ?_
  rintro e w1 ⟨v', A', ⟨rfl, rfl⟩, rfl, hon1⟩
  obtain ⟨kn, nd, lo, n0, h0, r, dd, en, hh, hk⟩ := DdB.open_ hon1
  have c7 := hk.cell 7
  simp only [ddC] at c7
  simp at c7
  clear hk
  replace hon1 := Lib.hid hon1
  cases dd
  rotate_left
  · go_wp2_with fail
    go_end0
    exact hon1.out.post ⟨rfl, rfl⟩
  go_wp2_with fail
  refine (hon1.out.call fun F' hb' => hlp.out _ F' hb').mono ?_
  rintro e w2 ⟨v', A', ⟨rfl, rfl⟩, rfl, hon2⟩
  clear c7 r h0 n0 nd lo kn en hh
  rcases hi : innerAt l with _ | i
  · simp only [placeV]
    obtain ⟨kn, nd, lo, n0, h0, r, dd, en, hh, hk⟩ := DdB.open_ hon2
    have c5 := hk.cell 5
    have c6 := hk.cell 6
    have c7 := hk.cell 7
    have f5 := hk.frozen 5
    have f6 := hk.frozen 6
    have f7 := hk.frozen 7
    simp only [ddC] at c5 c6 c7
    simp at c5 c6 c7
    clear hk
    replace hon2 := Lib.hid hon2
    clear hi
    go_wp2_with fail
    go_end0
    exact (DdB.set hon2.out 6 _ (.n (by simp) _)).post ⟨rfl, rfl⟩
  · obtain ⟨hrow, hne0⟩ := DdB.row_ hon2
    have hil : i < l.length := by
      obtain ⟨o, ho, _⟩ := innerAt_some l i hi
      exact (List.getElem?_eq_some_iff.1 ho).1
    obtain ⟨sg, cap, hv, _⟩ := thing_form hrow (by intro h; rw [h] at hil; simp at hil)
    subst hv
    simp only [placeV]
    have hne : g ≠ sg := fun e => hne0 (by rw [e]; rfl)
    obtain ⟨kn, nd, lo, n0, h0, r, dd, en, hh, hk⟩ := DdB.open_ hon2
    have c5 := hk.cell 5
    have c6 := hk.cell 6
    have c7 := hk.cell 7
    have f5 := hk.frozen 5
    have f6 := hk.frozen 6
    have f7 := hk.frozen 7
    simp only [ddC] at c5 c6 c7
    simp at c5 c6 c7
    clear hk
    have x2 := thing_cell hrow i 2 hil (by omega)
    simp [openC, stC] at x2
    obtain ⟨b0, hb0⟩ : ∃ b0 : Int, (l[i].a.r : Int) = b0 := ⟨_, rfl⟩
    rw [hb0] at x2
    replace hon2 := Lib.hid hon2
    clear hi hrow hne0 hb0 hil
    go_wp2_with fail
    go_end0
    exact (DdB.set hon2.out 6 _ (.n (by simp) _)).post ⟨rfl, rfl⟩
set_option maxHeartbeats 4000000 in
theorem d_oper_14 : Opers 14 := by
  intro g nm l v w F hb
  have hon := On.refl hb
  have hbd := fun w1 F' hb' => d_bad g nm l v w1 F' hb'
  have htk := fun t u w1 F' hb' => d_takes g nm l v t u w1 F' hb'
  have hlp := fun w1 F' hb' => d_loop g nm l v w1 F' hb'
  have hwt := fun w => Wants_walk 14 w
  obtain ⟨t, ht⟩ : ∃ t, (Code.wants 14).1 = t := ⟨_, rfl⟩
  obtain ⟨u, hu⟩ : ∃ u, (Code.wants 14).2 = u := ⟨_, rfl⟩
  rw [ht, hu] at hwt
  clear ht hu hb
  replace hon := Lib.hid hon
  replace hbd := Lib.hid hbd
  replace htk := Lib.hid htk
  replace hlp := Lib.hid hlp
  replace hwt := Lib.hid hwt
  go_enter Tryz.func84, Tryz.ntmps84
  go_wp2_with fail
  refine (hwt.out _).mono ?_
  rintro e w0 ⟨rfl, hw0⟩
  subst hw0
  go_wp2_with fail
  refine (hon.out.call fun F' hb' => htk.out t u _ F' hb').mono ?_
  rintro e w1 ⟨v', A', ⟨rfl, rfl⟩, rfl, hon1⟩
  obtain ⟨kn, nd, lo, n0, h0, r, dd, en, hh, hk⟩ := DdB.open_ hon1
  have c7 := hk.cell 7
  simp only [ddC] at c7
  simp at c7
  clear hk
  replace hon1 := Lib.hid hon1
  cases dd
  rotate_left
  · go_wp2_with fail
    go_end0
    exact hon1.out.post ⟨rfl, rfl⟩
  go_wp2_with fail
  refine (hon1.out.call fun F' hb' => hlp.out _ F' hb').mono ?_
  rintro e w2 ⟨v', A', ⟨rfl, rfl⟩, rfl, hon2⟩
  clear c7 r h0 n0 nd lo kn en hh
  rcases hi : innerAt l with _ | i
  · simp only [placeV]
    obtain ⟨kn, nd, lo, n0, h0, r, dd, en, hh, hk⟩ := DdB.open_ hon2
    have c5 := hk.cell 5
    have c6 := hk.cell 6
    have c7 := hk.cell 7
    have f5 := hk.frozen 5
    have f6 := hk.frozen 6
    have f7 := hk.frozen 7
    simp only [ddC] at c5 c6 c7
    simp at c5 c6 c7
    clear hk
    replace hon2 := Lib.hid hon2
    clear hi
    by_cases hle : r ≤ 0
    · have tg : decide (r ≤ 0) = true := by rw [decide_eq_true_eq]; exact hle
      replace hle := Lib.hid hle
      go_wp2_with fail
      refine (hon2.out.call fun F' hb' => hbd.out _ F' hb').mono ?_
      rintro e w3 ⟨v', A', ⟨rfl, rfl⟩, rfl, hon3⟩
      obtain ⟨kn3, nd3, lo3, n3, h3, r3, dd3, en3, hh3, hk3⟩ := DdB.open_ hon3
      have g6 := hk3.frozen 6
      have d6 := hk3.cell 6
      simp only [ddC] at d6
      simp at d6
      clear hk3 c5 c6 c7 f6 f5 f7 tg
      replace hon3 := Lib.hid hon3
      go_wp2_with fail
      go_end0
      exact (DdB.set hon3.out 6 _ (.n (by simp) _)).post ⟨rfl, rfl⟩
    · have tg : decide (r ≤ 0) = false := by rw [decide_eq_false_iff_not]; exact hle
      replace hle := Lib.hid hle
      go_wp2_with fail
      go_end0
      exact (DdB.set hon2.out 6 _ (.n (by simp) _)).post ⟨rfl, rfl⟩
  · obtain ⟨hrow, hne0⟩ := DdB.row_ hon2
    have hil : i < l.length := by
      obtain ⟨o, ho, _⟩ := innerAt_some l i hi
      exact (List.getElem?_eq_some_iff.1 ho).1
    obtain ⟨sg, cap, hv, _⟩ := thing_form hrow (by intro h; rw [h] at hil; simp at hil)
    subst hv
    simp only [placeV]
    have hne : g ≠ sg := fun e => hne0 (by rw [e]; rfl)
    obtain ⟨kn, nd, lo, n0, h0, r, dd, en, hh, hk⟩ := DdB.open_ hon2
    have c5 := hk.cell 5
    have c6 := hk.cell 6
    have c7 := hk.cell 7
    have f5 := hk.frozen 5
    have f6 := hk.frozen 6
    have f7 := hk.frozen 7
    simp only [ddC] at c5 c6 c7
    simp at c5 c6 c7
    clear hk
    have x2 := thing_cell hrow i 2 hil (by omega)
    simp [openC, stC] at x2
    obtain ⟨b0, hb0⟩ : ∃ b0 : Int, (l[i].a.r : Int) = b0 := ⟨_, rfl⟩
    rw [hb0] at x2
    replace hon2 := Lib.hid hon2
    clear hi hrow hne0 hb0 hil
    by_cases hle : r ≤ b0
    · have tg : decide (r ≤ b0) = true := by rw [decide_eq_true_eq]; exact hle
      replace hle := Lib.hid hle
      go_wp2_with fail
      refine (hon2.out.call fun F' hb' => hbd.out _ F' hb').mono ?_
      rintro e w3 ⟨v', A', ⟨rfl, rfl⟩, rfl, hon3⟩
      obtain ⟨kn3, nd3, lo3, n3, h3, r3, dd3, en3, hh3, hk3⟩ := DdB.open_ hon3
      have g6 := hk3.frozen 6
      have d6 := hk3.cell 6
      simp only [ddC] at d6
      simp at d6
      clear hk3 c5 c6 c7 f6 f5 f7 tg
      replace hon3 := Lib.hid hon3
      go_wp2_with fail
      go_end0
      exact (DdB.set hon3.out 6 _ (.n (by simp) _)).post ⟨rfl, rfl⟩
    · have tg : decide (r ≤ b0) = false := by rw [decide_eq_false_iff_not]; exact hle
      replace hle := Lib.hid hle
      go_wp2_with fail
      go_end0
      exact (DdB.set hon2.out 6 _ (.n (by simp) _)).post ⟨rfl, rfl⟩
set_option maxHeartbeats 4000000 in
theorem d_oper_15 : Opers 15 := by
  intro g nm l v w F hb
  have hon := On.refl hb
  have hbd := fun w1 F' hb' => d_bad g nm l v w1 F' hb'
  have htk := fun t u w1 F' hb' => d_takes g nm l v t u w1 F' hb'
  have hlp := fun w1 F' hb' => d_loop g nm l v w1 F' hb'
  have hwt := fun w => Wants_walk 15 w
  obtain ⟨t, ht⟩ : ∃ t, (Code.wants 15).1 = t := ⟨_, rfl⟩
  obtain ⟨u, hu⟩ : ∃ u, (Code.wants 15).2 = u := ⟨_, rfl⟩
  rw [ht, hu] at hwt
  clear ht hu hb
  replace hon := Lib.hid hon
  replace hbd := Lib.hid hbd
  replace htk := Lib.hid htk
  replace hlp := Lib.hid hlp
  replace hwt := Lib.hid hwt
  go_enter Tryz.func84, Tryz.ntmps84
  go_wp2_with fail
  refine (hwt.out _).mono ?_
  rintro e w0 ⟨rfl, hw0⟩
  subst hw0
  go_wp2_with fail
  refine (hon.out.call fun F' hb' => htk.out t u _ F' hb').mono ?_
  rintro e w1 ⟨v', A', ⟨rfl, rfl⟩, rfl, hon1⟩
  obtain ⟨kn, nd, lo, n0, h0, r, dd, en, hh, hk⟩ := DdB.open_ hon1
  have c7 := hk.cell 7
  simp only [ddC] at c7
  simp at c7
  clear hk
  replace hon1 := Lib.hid hon1
  cases dd
  rotate_left
  · go_wp2_with fail
    go_end0
    exact hon1.out.post ⟨rfl, rfl⟩
  go_wp2_with fail
  refine (hon1.out.call fun F' hb' => hlp.out _ F' hb').mono ?_
  rintro e w2 ⟨v', A', ⟨rfl, rfl⟩, rfl, hon2⟩
  clear c7 r h0 n0 nd lo kn en hh
  rcases hi : innerAt l with _ | i
  · simp only [placeV]
    obtain ⟨kn, nd, lo, n0, h0, r, dd, en, hh, hk⟩ := DdB.open_ hon2
    have c5 := hk.cell 5
    have c6 := hk.cell 6
    have c7 := hk.cell 7
    have f5 := hk.frozen 5
    have f6 := hk.frozen 6
    have f7 := hk.frozen 7
    simp only [ddC] at c5 c6 c7
    simp at c5 c6 c7
    clear hk
    replace hon2 := Lib.hid hon2
    clear hi
    by_cases hle : r ≤ 0
    · have tg : decide (r ≤ 0) = true := by rw [decide_eq_true_eq]; exact hle
      replace hle := Lib.hid hle
      go_wp2_with fail
      refine (hon2.out.call fun F' hb' => hbd.out _ F' hb').mono ?_
      rintro e w3 ⟨v', A', ⟨rfl, rfl⟩, rfl, hon3⟩
      obtain ⟨kn3, nd3, lo3, n3, h3, r3, dd3, en3, hh3, hk3⟩ := DdB.open_ hon3
      have g6 := hk3.frozen 6
      have d6 := hk3.cell 6
      simp only [ddC] at d6
      simp at d6
      clear hk3 c5 c6 c7 f6 f5 f7 tg
      replace hon3 := Lib.hid hon3
      go_wp2_with fail
      go_end0
      exact hon3.out.post ⟨rfl, rfl⟩
    · have tg : decide (r ≤ 0) = false := by rw [decide_eq_false_iff_not]; exact hle
      replace hle := Lib.hid hle
      go_wp2_with fail
      go_end0
      exact hon2.out.post ⟨rfl, rfl⟩
  · obtain ⟨hrow, hne0⟩ := DdB.row_ hon2
    have hil : i < l.length := by
      obtain ⟨o, ho, _⟩ := innerAt_some l i hi
      exact (List.getElem?_eq_some_iff.1 ho).1
    obtain ⟨sg, cap, hv, _⟩ := thing_form hrow (by intro h; rw [h] at hil; simp at hil)
    subst hv
    simp only [placeV]
    have hne : g ≠ sg := fun e => hne0 (by rw [e]; rfl)
    obtain ⟨kn, nd, lo, n0, h0, r, dd, en, hh, hk⟩ := DdB.open_ hon2
    have c5 := hk.cell 5
    have c6 := hk.cell 6
    have c7 := hk.cell 7
    have f5 := hk.frozen 5
    have f6 := hk.frozen 6
    have f7 := hk.frozen 7
    simp only [ddC] at c5 c6 c7
    simp at c5 c6 c7
    clear hk
    have x2 := thing_cell hrow i 2 hil (by omega)
    simp [openC, stC] at x2
    obtain ⟨b0, hb0⟩ : ∃ b0 : Int, (l[i].a.r : Int) = b0 := ⟨_, rfl⟩
    rw [hb0] at x2
    replace hon2 := Lib.hid hon2
    clear hi hrow hne0 hb0 hil
    by_cases hle : r ≤ b0
    · have tg : decide (r ≤ b0) = true := by rw [decide_eq_true_eq]; exact hle
      replace hle := Lib.hid hle
      go_wp2_with fail
      refine (hon2.out.call fun F' hb' => hbd.out _ F' hb').mono ?_
      rintro e w3 ⟨v', A', ⟨rfl, rfl⟩, rfl, hon3⟩
      obtain ⟨kn3, nd3, lo3, n3, h3, r3, dd3, en3, hh3, hk3⟩ := DdB.open_ hon3
      have g6 := hk3.frozen 6
      have d6 := hk3.cell 6
      simp only [ddC] at d6
      simp at d6
      clear hk3 c5 c6 c7 f6 f5 f7 tg
      replace hon3 := Lib.hid hon3
      go_wp2_with fail
      go_end0
      exact hon3.out.post ⟨rfl, rfl⟩
    · have tg : decide (r ≤ b0) = false := by rw [decide_eq_false_iff_not]; exact hle
      replace hle := Lib.hid hle
      go_wp2_with fail
      go_end0
      exact hon2.out.post ⟨rfl, rfl⟩
set_option maxHeartbeats 4000000 in
theorem d_oper_x (op : Int) (ho : ¬ (op = 29 ∨ op = 26 ∨ op = 16 ∨ op = 85 ∨ op = 10 ∨ op = 93)) (ho2 : ¬ (op = 105 ∨ op = 13 ∨ op = 14 ∨ op = 15)) : Opers op := by
  intro g nm l v w F hb
  have hon := On.refl hb
  have hbd := fun w1 F' hb' => d_bad g nm l v w1 F' hb'
  have htk := fun t u w1 F' hb' => d_takes g nm l v t u w1 F' hb'
  have hlp := fun w1 F' hb' => d_loop g nm l v w1 F' hb'
  have hwt := fun w => Wants_walk op w
  obtain ⟨t, ht⟩ : ∃ t, (Code.wants op).1 = t := ⟨_, rfl⟩
  obtain ⟨u, hu⟩ : ∃ u, (Code.wants op).2 = u := ⟨_, rfl⟩
  rw [ht, hu] at hwt
  clear ht hu hb
  have q29 : (op == 29) = false := by rw [beq_eq_false_iff_ne]; omega
  have q26 : (op == 26) = false := by rw [beq_eq_false_iff_ne]; omega
  have q16 : (op == 16) = false := by rw [beq_eq_false_iff_ne]; omega
  have q85 : (op == 85) = false := by rw [beq_eq_false_iff_ne]; omega
  have q10 : (op == 10) = false := by rw [beq_eq_false_iff_ne]; omega
  have q93 : (op == 93) = false := by rw [beq_eq_false_iff_ne]; omega
  have q105 : (op == 105) = false := by rw [beq_eq_false_iff_ne]; omega
  have q13 : (op == 13) = false := by rw [beq_eq_false_iff_ne]; omega
  have q14 : (op == 14) = false := by rw [beq_eq_false_iff_ne]; omega
  have q15 : (op == 15) = false := by rw [beq_eq_false_iff_ne]; omega
  clear ho ho2
  replace hon := Lib.hid hon
  replace hbd := Lib.hid hbd
  replace htk := Lib.hid htk
  replace hlp := Lib.hid hlp
  replace hwt := Lib.hid hwt
  go_enter Tryz.func84, Tryz.ntmps84
  go_wp2_with fail
  refine (hwt.out _).mono ?_
  rintro e w0 ⟨rfl, hw0⟩
  subst hw0
  go_wp2_with fail
  refine (hon.out.call fun F' hb' => htk.out t u _ F' hb').mono ?_
  rintro e w1 ⟨v', A', ⟨rfl, rfl⟩, rfl, hon1⟩
  obtain ⟨kn, nd, lo, n0, h0, r, dd, en, hh, hk⟩ := DdB.open_ hon1
  have c7 := hk.cell 7
  simp only [ddC] at c7
  simp at c7
  clear hk
  replace hon1 := Lib.hid hon1
  cases dd
  rotate_left
  · go_wp2_with fail
    go_end0
    exact hon1.out.post ⟨rfl, rfl⟩
  go_wp2_with fail
  refine (hon1.out.call fun F' hb' => hlp.out _ F' hb').mono ?_
  rintro e w2 ⟨v', A', ⟨rfl, rfl⟩, rfl, hon2⟩
  clear c7 r h0 n0 nd lo kn en hh
  rcases hi : innerAt l with _ | i
  · simp only [placeV]
    obtain ⟨kn, nd, lo, n0, h0, r, dd, en, hh, hk⟩ := DdB.open_ hon2
    have c5 := hk.cell 5
    have c6 := hk.cell 6
    have c7 := hk.cell 7
    have f5 := hk.frozen 5
    have f6 := hk.frozen 6
    have f7 := hk.frozen 7
    simp only [ddC] at c5 c6 c7
    simp at c5 c6 c7
    clear hk
    replace hon2 := Lib.hid hon2
    clear hi
    go_wp2_with fail
    go_end0
    exact hon2.out.post ⟨rfl, rfl⟩
  · obtain ⟨hrow, hne0⟩ := DdB.row_ hon2
    have hil : i < l.length := by
      obtain ⟨o, ho, _⟩ := innerAt_some l i hi
      exact (List.getElem?_eq_some_iff.1 ho).1
    obtain ⟨sg, cap, hv, _⟩ := thing_form hrow (by intro h; rw [h] at hil; simp at hil)
    subst hv
    simp only [placeV]
    have hne : g ≠ sg := fun e => hne0 (by rw [e]; rfl)
    obtain ⟨kn, nd, lo, n0, h0, r, dd, en, hh, hk⟩ := DdB.open_ hon2
    have c5 := hk.cell 5
    have c6 := hk.cell 6
    have c7 := hk.cell 7
    have f5 := hk.frozen 5
    have f6 := hk.frozen 6
    have f7 := hk.frozen 7
    simp only [ddC] at c5 c6 c7
    simp at c5 c6 c7
    clear hk
    have x2 := thing_cell hrow i 2 hil (by omega)
    simp [openC, stC] at x2
    obtain ⟨b0, hb0⟩ : ∃ b0 : Int, (l[i].a.r : Int) = b0 := ⟨_, rfl⟩
    rw [hb0] at x2
    replace hon2 := Lib.hid hon2
    clear hi hrow hne0 hb0 hil
    go_wp2_with fail
    go_end0
    exact hon2.out.post ⟨rfl, rfl⟩
theorem d_operation (op : Int) : Opers op := by
  by_cases h1 : op = 29 ∨ op = 26 ∨ op = 16 ∨ op = 85 ∨ op = 10 ∨ op = 93
  · exact d_oper_bad op h1
  by_cases h2 : op = 105 ∨ op = 13 ∨ op = 14 ∨ op = 15
  · rcases h2 with rfl | rfl | rfl | rfl
    · exact d_oper_105
    · exact d_oper_13
    · exact d_oper_14
    · exact d_oper_15
  · exact d_oper_x op h1 h2
end Look
end Go.Proofs.YthejfkkmcbdlhaaGreatDoor
/- The document's words as values: what they need, are they loose (both: some answer). No condition. -/
namespace Go.Proofs.YthejfkkmcbdlhaaGreatDoor
set_option linter.unusedVariables false
set_option maxRecDepth 100000
open Go.RowKit Go.Lib
namespace Look
def wdC (k n : Nat) (nm en : List UInt8) (i o : Int) (kn : Bool) (nd : Int) (lo : Bool) : Array Value := #[.int .i64 (k : Int), .int .i64 (n : Int), .string ⟨nm.toArray⟩, .string ⟨en.toArray⟩, .int .i64 i, .int .i64 o, .bool kn, .int .i64 nd, .bool lo]
def wdV (k n : Nat) (nm en : List UInt8) (i o : Int) (kn : Bool) (nd : Int) (lo : Bool) : Value := .agg (wdC k n nm en i o kn nd lo)
/-- some answer of that kind, and nothing that was there is turned -/
def SomeI (w : World) (e : Ending) (w' : World) : Prop := (∃ x, e = .returned (.int .i64 x)) ∧ Kept Nob w w'
def SomeB (w : World) (e : Ending) (w' : World) : Prop := (∃ b, e = .returned (.bool b)) ∧ Kept Nob w w'
set_option maxHeartbeats 2000000 in
theorem rcap_walk (op : Int) (w : World) : Calls Tryz.prog 78 #[.int .i64 op] w (SomeI w) := by
  go_enter Tryz.func78, Tryz.ntmps78
  go_wp2
  all_goals go_ret
  all_goals exact ⟨⟨_, rfl⟩, Kept.refl _ _⟩
set_option maxHeartbeats 2000000 in
theorem d_needs (k n : Nat) (hk : k ≤ 5) (nm en : List UInt8) (i o : Int) (kn : Bool) (nd : Int) (lo : Bool) (w : World) : Calls Tryz.prog 52 #[wdV k n nm en i o kn nd lo] w (SomeI w) := by
  have hc := fun w => rcap_walk (n : Int) w
  replace hc := Lib.hid hc
  unfold wdV wdC
  have hcases : k = 4 ∨ k = 3 ∨ k = 1 ∨ k = 2 ∨ k = 0 ∨ k = 5 := by omega
  rcases hcases with rfl | rfl | rfl | rfl | rfl | rfl
  · go_enter Tryz.func52, Tryz.ntmps52
    go_wp2_with fail
    go_ret
    exact ⟨⟨_, rfl⟩, (Kept.refl Nob w).alloc _⟩
  · go_enter Tryz.func52, Tryz.ntmps52
    go_wp2_with fail
    go_ret
    exact ⟨⟨_, rfl⟩, (Kept.refl Nob w).alloc _⟩
  · go_enter Tryz.func52, Tryz.ntmps52
    go_wp2_with fail
    refine (hc.out _).mono ?_
    rintro e w1 ⟨⟨x, rfl⟩, hk1⟩
    replace hk1 := Lib.hid hk1
    go_wp2_with fail
    go_ret
    exact ⟨⟨_, rfl⟩, ((Kept.refl Nob w).alloc _).trans hk1.out⟩
  · go_enter Tryz.func52, Tryz.ntmps52
    go_wp2_with fail
    all_goals go_ret
    all_goals exact ⟨⟨_, rfl⟩, (Kept.refl Nob w).alloc _⟩
  · go_enter Tryz.func52, Tryz.ntmps52
    go_wp2_with fail
    go_ret
    exact ⟨⟨_, rfl⟩, (Kept.refl Nob w).alloc _⟩
  · go_enter Tryz.func52, Tryz.ntmps52
    go_wp2_with fail
    go_ret
    exact ⟨⟨_, rfl⟩, (Kept.refl Nob w).alloc _⟩
set_option maxHeartbeats 4000000 in
theorem d_loose (k n : Nat) (hk : k ≤ 5) (nm en : List UInt8) (i o : Int) (kn : Bool) (nd : Int) (lo wi : Bool) (w : World) : Calls Tryz.prog 51 #[wdV k n nm en i o kn nd lo, .bool wi] w (SomeB w) := by
  unfold wdV wdC
  have hcases : k = 4 ∨ k = 3 ∨ k = 1 ∨ k = 2 ∨ k = 0 ∨ k = 5 := by omega
  obtain ⟨m, hm⟩ : ∃ m : Int, (n : Int) = m := ⟨_, rfl⟩
  rw [hm]
  clear hm
  rcases hcases with rfl | rfl | rfl | rfl | rfl | rfl
  all_goals
    go_enter Tryz.func51, Tryz.ntmps51
    go_wp2_with fail
    all_goals go_ret
    all_goals exact ⟨⟨_, rfl⟩, (Kept.refl Nob w).alloc _⟩
end Look
end Go.Proofs.YthejfkkmcbdlhaaGreatDoor
