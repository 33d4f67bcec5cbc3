/- Chapter 19: is a word loose? does it read a name? -/
import Derived.Test.YthejfkkmcbdlhaaGreatDoorQRd
namespace Go.Proofs.YthejfkkmcbdlhaaGreatDoor
set_option linter.unusedVariables false
set_option maxRecDepth 100000
open Go.RowKit Go.Lib
namespace Look
/-- what is open, as a cell -/
theorem open_cell {w : World} {F : Nat → Prop} {vo : Value} {o : Option Def} (h : (OpenA vo o).holds w F) : (o = none ∧ vo = .pointer none) ∨ ∃ d gd, o = some d ∧ vo = .pointer (some ⟨gd, 0, none⟩) ∧ (DefA gd d).holds w F := by
  rcases o with _ | d
  · exact .inl ⟨rfl, h.1⟩
  · obtain ⟨gd, h1, h2⟩ := h; exact .inr ⟨d, gd, rfl, h1, h2⟩
theorem wild_look (ws : List Bool) (n : Nat) : wildF ws (.int .i64 (n : Int)) = if ws.getD n false = true then some (.lit (.int .i64 1)) else none := by
  show (if 0 ≤ (n : Int) ∧ ws.getD (n : Int).toNat false = true then some (DataW.lit (.int .i64 1) : Dt) else none) = _
  have : (0 : Int) ≤ (n : Int) := by omega
  simp [this]
set_option maxHeartbeats 2000000 in
theorem loose2 (g : Nat) (E : Env) (kk : Option Nat) (T : ByteArray) (r : Rd) (bt : Nat) (n : Nat) (nm : List UInt8) (w : World) (F : Nat → Prop) (hb : (RdA g E kk T r bt).holds w F) :
    Calls Tryz.prog 97 #[.pointer (some ⟨g, 0, none⟩), wordV ⟨2, n, nm⟩] w (Post (fun u B => u = .bool (decide (3 ≤ n ∧ n ≤ 6 ∨ n = 12)) ∧ B = RdA g E kk T r bt) F w) := by
  have hon := On.refl hb
  clear hb
  by_cases h1 : n = 3 ∨ n = 4 ∨ n = 5 ∨ n = 6 ∨ n = 12
  · rcases h1 with rfl | rfl | rfl | rfl | rfl
    all_goals
      unfold wordV wordC
      replace hon := Lib.hid hon
      go_enter Tryz.func97, Tryz.ntmps97
      go_wp2_with fail
      go_ret
      exact ((hon.out.alloc _)).post ⟨rfl, rfl⟩
  · have e : decide (3 ≤ n ∧ n ≤ 6 ∨ n = 12) = false := by rw [decide_eq_false_iff_not]; omega
    rw [e]
    obtain ⟨x, hx⟩ : ∃ x : Int, (n : Int) = x := ⟨_, rfl⟩
    have q : (x == 12) = false := by rw [beq_eq_false_iff_ne]; omega
    unfold wordV wordC
    rw [hx]
    by_cases h3 : 3 ≤ x
    · have h6 : ¬ x ≤ 6 := by omega
      clear h1 e hx
      replace hon := Lib.hid hon
      go_enter Tryz.func97, Tryz.ntmps97
      go_wp2_with fail
      go_ret
      exact ((hon.out.alloc _)).post ⟨rfl, rfl⟩
    · clear h1 e hx
      replace hon := Lib.hid hon
      go_enter Tryz.func97, Tryz.ntmps97
      go_wp2_with fail
      go_ret
      exact ((hon.out.alloc _)).post ⟨rfl, rfl⟩
set_option maxHeartbeats 2000000 in
theorem loose1 (g : Nat) (E : Env) (kk : Option Nat) (T : ByteArray) (r : Rd) (bt : Nat) (n : Nat) (nm : List UInt8) (hn : n = 16 ∨ n = 66 ∨ n = 68 ∨ n = 69 ∨ n = 70 ∨ n = 71 ∨ n = 74 ∨ n = 75 ∨ n = 73 ∨ n = 84 ∨ n = 86 ∨ n = 93 ∨ n = 10) (w : World) (F : Nat → Prop) (hb : (RdA g E kk T r bt).holds w F) :
    Calls Tryz.prog 97 #[.pointer (some ⟨g, 0, none⟩), wordV ⟨1, n, nm⟩] w (Post (fun u B => u = .bool true ∧ B = RdA g E kk T r bt) F w) := by
  have hon := On.refl hb
  clear hb
  rcases hn with rfl | rfl | rfl | rfl | rfl | rfl | rfl | rfl | rfl | rfl | rfl | rfl | rfl
  all_goals
    unfold wordV wordC
    replace hon := Lib.hid hon
    go_enter Tryz.func97, Tryz.ntmps97
    go_wp2_with fail
    go_ret
    exact ((hon.out.alloc _)).post ⟨rfl, rfl⟩
set_option maxHeartbeats 2000000 in
theorem loose13 (g : Nat) (E : Env) (kk : Option Nat) (T : ByteArray) (r : Rd) (bt : Nat) (nm : List UInt8) (w : World) (F : Nat → Prop) (hb : (RdA g E kk T r bt).holds w F) :
    Calls Tryz.prog 97 #[.pointer (some ⟨g, 0, none⟩), wordV ⟨1, 13, nm⟩] w (Post (fun u B => u = .bool (!r.open_.isSome) ∧ B = RdA g E kk T r bt) F w) := by
  have hon := On.refl hb
  obtain ⟨gs, vl, bl, bsp, bw, vo, hon0⟩ := RdA.open_ hb
  obtain ⟨_, hB⟩ := hon0.mem (A := BlkA g 46 (rdC kk r bt gs vl bl bsp bw vo)) (by simp [rdL])
  obtain ⟨_, hO⟩ := hon0.mem (A := OpenA vo r.open_) (by simp [rdL])
  have c9 := hB.1.cell 9
  have hlt := hB.1.lt
  simp [rdC] at c9
  rcases open_cell hO with ⟨h1, rfl⟩ | ⟨d, gd, h1, rfl, h2⟩
  · rw [h1]
    clear hO h1 hB hon0 hb
    unfold wordV wordC
    replace hon := Lib.hid hon
    go_enter Tryz.func97, Tryz.ntmps97
    go_wp2_with fail
    go_ret
    exact ((hon.out.alloc _)).post ⟨rfl, rfl⟩
  · rw [h1]
    clear hO h1 h2 hB hon0 hb
    unfold wordV wordC
    replace hon := Lib.hid hon
    go_enter Tryz.func97, Tryz.ntmps97
    go_wp2_with fail
    go_ret
    exact ((hon.out.alloc _)).post ⟨rfl, rfl⟩
set_option maxHeartbeats 2000000 in
theorem loose85 (g : Nat) (E : Env) (kk : Option Nat) (T : ByteArray) (r : Rd) (bt : Nat) (nm : List UInt8) (w : World) (F : Nat → Prop) (hb : (RdA g E kk T r bt).holds w F) :
    Calls Tryz.prog 97 #[.pointer (some ⟨g, 0, none⟩), wordV ⟨1, 85, nm⟩] w (Post (fun u B => u = .bool r.open_.isSome ∧ B = RdA g E kk T r bt) F w) := by
  have hon := On.refl hb
  obtain ⟨gs, vl, bl, bsp, bw, vo, hon0⟩ := RdA.open_ hb
  obtain ⟨_, hB⟩ := hon0.mem (A := BlkA g 46 (rdC kk r bt gs vl bl bsp bw vo)) (by simp [rdL])
  obtain ⟨_, hO⟩ := hon0.mem (A := OpenA vo r.open_) (by simp [rdL])
  have c9 := hB.1.cell 9
  have hlt := hB.1.lt
  simp [rdC] at c9
  rcases open_cell hO with ⟨h1, rfl⟩ | ⟨d, gd, h1, rfl, h2⟩
  · rw [h1]
    clear hO h1 hB hon0 hb
    unfold wordV wordC
    replace hon := Lib.hid hon
    go_enter Tryz.func97, Tryz.ntmps97
    go_wp2_with fail
    go_ret
    exact ((hon.out.alloc _)).post ⟨rfl, rfl⟩
  · rw [h1]
    clear hO h1 h2 hB hon0 hb
    unfold wordV wordC
    replace hon := Lib.hid hon
    go_enter Tryz.func97, Tryz.ntmps97
    go_wp2_with fail
    go_ret
    exact ((hon.out.alloc _)).post ⟨rfl, rfl⟩
set_option maxHeartbeats 2000000 in
theorem loose1e (g : Nat) (E : Env) (kk : Option Nat) (T : ByteArray) (r : Rd) (bt : Nat) (n : Nat) (nm : List UInt8) (hn : ¬ (n = 16 ∨ n = 66 ∨ n = 68 ∨ n = 69 ∨ n = 70 ∨ n = 71 ∨ n = 74 ∨ n = 75 ∨ n = 73 ∨ n = 84 ∨ n = 86 ∨ n = 93 ∨ n = 10 ∨ n = 13 ∨ n = 85)) (w : World) (F : Nat → Prop) (hb : (RdA g E kk T r bt).holds w F) :
    Calls Tryz.prog 97 #[.pointer (some ⟨g, 0, none⟩), wordV ⟨1, n, nm⟩] w (Post (fun u B => u = .bool false ∧ B = RdA g E kk T r bt) F w) := by
  have hon := On.refl hb
  clear hb
  obtain ⟨x, hx⟩ : ∃ x : Int, (n : Int) = x := ⟨_, rfl⟩
  have q16 : (x == 16) = false := by rw [beq_eq_false_iff_ne]; omega
  have q66 : (x == 66) = false := by rw [beq_eq_false_iff_ne]; omega
  have q68 : (x == 68) = false := by rw [beq_eq_false_iff_ne]; omega
  have q69 : (x == 69) = false := by rw [beq_eq_false_iff_ne]; omega
  have q70 : (x == 70) = false := by rw [beq_eq_false_iff_ne]; omega
  have q71 : (x == 71) = false := by rw [beq_eq_false_iff_ne]; omega
  have q74 : (x == 74) = false := by rw [beq_eq_false_iff_ne]; omega
  have q75 : (x == 75) = false := by rw [beq_eq_false_iff_ne]; omega
  have q73 : (x == 73) = false := by rw [beq_eq_false_iff_ne]; omega
  have q84 : (x == 84) = false := by rw [beq_eq_false_iff_ne]; omega
  have q86 : (x == 86) = false := by rw [beq_eq_false_iff_ne]; omega
  have q93 : (x == 93) = false := by rw [beq_eq_false_iff_ne]; omega
  have q10 : (x == 10) = false := by rw [beq_eq_false_iff_ne]; omega
  have q13 : (x == 13) = false := by rw [beq_eq_false_iff_ne]; omega
  have q85 : (x == 85) = false := by rw [beq_eq_false_iff_ne]; omega
  unfold wordV wordC
  rw [hx]
  clear hn hx
  replace hon := Lib.hid hon
  go_enter Tryz.func97, Tryz.ntmps97
  go_wp2_with fail
  go_ret
  exact ((hon.out.alloc _)).post ⟨rfl, rfl⟩
set_option maxHeartbeats 2000000 in
theorem loose0 (g : Nat) (E : Env) (kk : Option Nat) (T : ByteArray) (r : Rd) (bt : Nat) (kd n : Nat) (nm : List UInt8) (hk : kd = 0 ∨ kd = 4 ∨ kd = 5) (w : World) (F : Nat → Prop) (hb : (RdA g E kk T r bt).holds w F) :
    Calls Tryz.prog 97 #[.pointer (some ⟨g, 0, none⟩), wordV ⟨kd, n, nm⟩] w (Post (fun u B => u = .bool false ∧ B = RdA g E kk T r bt) F w) := by
  have hon := On.refl hb
  clear hb
  rcases hk with rfl | rfl | rfl
  all_goals
    unfold wordV wordC
    replace hon := Lib.hid hon
    go_enter Tryz.func97, Tryz.ntmps97
    go_wp2_with fail
    go_ret
    exact ((hon.out.alloc _)).post ⟨rfl, rfl⟩
set_option maxHeartbeats 2000000 in
theorem loose3 (g : Nat) (E : Env) (kk : Option Nat) (T : ByteArray) (r : Rd) (bt : Nat) (n : Nat) (nm : List UInt8) (hn : n < E.klist.length) (hn2 : n ≤ 1000000) (w : World) (F : Nat → Prop) (hb : (RdA g E kk T r bt).holds w F) :
    Calls Tryz.prog 97 #[.pointer (some ⟨g, 0, none⟩), wordV ⟨3, n, nm⟩] w (Post (fun u B => u = .bool (E.kwild.getD n false) ∧ B = RdA g E kk T r bt) F w) := by
  have hon := On.refl hb
  obtain ⟨gs, vl, bl, bsp, bw, vo, hon0⟩ := RdA.open_ hb
  obtain ⟨_, hB⟩ := hon0.mem (A := BlkA g 46 (rdC kk r bt gs vl bl bsp bw vo)) (by simp [rdL])
  obtain ⟨FK, hK⟩ := hon0.mem (A := KerA kk E) (by simp [rdL])
  obtain ⟨gk, v0, v3, v4, v5, v6, v7, v9, vkl, kbl, kbw, rfl, honk⟩ := ker_facts hK hn
  obtain ⟨_, hBk⟩ := honk.mem (A := BlkA gk 46 #[v0, vkl, .map (some kbl), v3, v4, v5, v6, v7, .map (some kbw), v9]) (by simp [kerL])
  have c7 := hB.1.cell 7
  have k8 := hBk.1.cell 8
  have l1 := hB.1.lt
  have l2 := hBk.1.lt
  simp [rdC, ptrV] at c7 k8
  have hlk : ∀ w2, Kept Nob w w2 → (Instr.lookup 43 (.map (some kbw)) (.int .i64 (n : Int)) true).run Tryz.prog w2 = .ok (.tuple #[.int .i64 (if E.kwild.getD n false then 1 else 0), .bool (E.kwild.getD n false)]) w2 := by
    intro w2 h2
    obtain ⟨_, hM⟩ := (honk.keptNob h2).mem (A := MapG 3 intE kbw E.kwild.length (wildF E.kwild)) (by simp [kerL])
    obtain ⟨v, ps, h3, h4⟩ := MapG.look hM intK Tryz.underlying43 (zeroInt w2) (zd := .lit (.int .i64 0)) rfl (key := .int .i64 (n : Int)) (Go.Maps.keyOf_int_mk Tryz.underlying3 (WalkArith.wf_i64 (by constructor <;> omega)))
    rw [wild_look] at h3 h4
    rcases hw : E.kwild.getD n false with _ | _
    · rw [hw] at h3 h4
      simp at h3 h4
      rw [intE_inv h4] at h3
      exact h3
    · rw [hw] at h3 h4
      simp at h3 h4
      rw [intE_inv h4] at h3
      exact h3
  have hk2 : ∀ q, Kept Nob w ((w.alloc (.cells #[.int .i64 3, .int .i64 (n : Int), .string ⟨nm.toArray⟩] 70)).drewN q) := fun q => ((Kept.refl Nob w).alloc _).drewN q
  have hlk2 := fun q => hlk _ (hk2 q)
  generalize E.kwild.getD n false = ans at *
  generalize (if ans = true then (1 : Int) else 0) = av at *
  clear hb hon0 hB FK hK honk hBk hlk hk2
  unfold wordV wordC
  replace hon := Lib.hid hon
  go_enter Tryz.func97, Tryz.ntmps97
  go_wp2_with fail
  go_quiet (fail)
  go_wp2_with fail
  go_ret
  exact ((hon.out.alloc _).drewN _).post ⟨rfl, rfl⟩
theorem loose_walk (g : Nat) (E : Env) (kk : Option Nat) (T : ByteArray) (r : Rd) (bt : Nat) (wd : W) (hw : WOk E kk r.list wd) (w : World) (F : Nat → Prop) (hb : (RdA g E kk T r bt).holds w F) :
    Calls Tryz.prog 97 #[.pointer (some ⟨g, 0, none⟩), wordV wd] w (Post (fun u B => u = .bool (isLoose E r.open_.isSome wd) ∧ B = RdA g E kk T r bt) F w) := by
  have h5 := hw.five
  obtain ⟨kd, n, nm⟩ := wd
  simp only at h5
  have hc : kd = 3 ∨ kd = 2 ∨ kd = 1 ∨ (kd = 0 ∨ kd = 4 ∨ kd = 5) := by omega
  rcases hc with rfl | rfl | rfl | hc
  · exact loose3 g E kk T r bt n nm (hw.ker rfl) hw.small w F hb
  · exact loose2 g E kk T r bt n nm w F hb
  · by_cases h1 : n = 16 ∨ n = 66 ∨ n = 68 ∨ n = 69 ∨ n = 70 ∨ n = 71 ∨ n = 74 ∨ n = 75 ∨ n = 73 ∨ n = 84 ∨ n = 86 ∨ n = 93 ∨ n = 10
    · have e : isLoose E r.open_.isSome ⟨1, n, nm⟩ = true := by
        unfold isLoose
        simp only
        rw [if_neg (by omega), if_neg (by omega), if_pos trivial, if_neg (by omega), if_neg (by omega)]
        rw [decide_eq_true_iff]
        omega
      rw [e]
      exact loose1 g E kk T r bt n nm h1 w F hb
    · by_cases h2 : n = 13
      · subst h2; exact loose13 g E kk T r bt nm w F hb
      · by_cases h3 : n = 85
        · subst h3; exact loose85 g E kk T r bt nm w F hb
        · have e : isLoose E r.open_.isSome ⟨1, n, nm⟩ = false := by
            unfold isLoose
            simp only
            rw [if_neg (by omega), if_neg (by omega), if_pos trivial, if_neg h2, if_neg h3]
            rw [decide_eq_false_iff_not]
            omega
          rw [e]
          exact loose1e g E kk T r bt n nm (by omega) w F hb
  · have e : isLoose E r.open_.isSome ⟨kd, n, nm⟩ = false := by
      unfold isLoose
      simp only
      rw [if_neg (by omega), if_neg (by omega), if_neg (by omega)]
    rw [e]
    exact loose0 g E kk T r bt kd n nm hc w F hb
set_option maxHeartbeats 2000000 in
theorem named85 (g : Nat) (E : Env) (kk : Option Nat) (T : ByteArray) (r : Rd) (bt : Nat) (nm : List UInt8) (w : World) (F : Nat → Prop) (hb : (RdA g E kk T r bt).holds w F) :
    Calls Tryz.prog 65 #[.pointer (some ⟨g, 0, none⟩), wordV ⟨1, 85, nm⟩] w (Post (fun u B => u = .bool (!r.open_.isSome) ∧ B = RdA g E kk T r bt) F w) := by
  have hon := On.refl hb
  obtain ⟨gs, vl, bl, bsp, bw, vo, hon0⟩ := RdA.open_ hb
  obtain ⟨_, hB⟩ := hon0.mem (A := BlkA g 46 (rdC kk r bt gs vl bl bsp bw vo)) (by simp [rdL])
  obtain ⟨_, hO⟩ := hon0.mem (A := OpenA vo r.open_) (by simp [rdL])
  have c9 := hB.1.cell 9
  have hlt := hB.1.lt
  simp [rdC] at c9
  rcases open_cell hO with ⟨h1, rfl⟩ | ⟨d, gd, h1, rfl, h2⟩
  · rw [h1]
    clear hO h1 hB hon0 hb
    unfold wordV wordC
    replace hon := Lib.hid hon
    go_enter Tryz.func65, Tryz.ntmps65
    go_wp2_with fail
    go_ret
    exact ((hon.out.alloc _)).post ⟨rfl, rfl⟩
  · rw [h1]
    clear hO h1 h2 hB hon0 hb
    unfold wordV wordC
    replace hon := Lib.hid hon
    go_enter Tryz.func65, Tryz.ntmps65
    go_wp2_with fail
    go_ret
    exact ((hon.out.alloc _)).post ⟨rfl, rfl⟩
set_option maxHeartbeats 2000000 in
theorem named1 (g : Nat) (E : Env) (kk : Option Nat) (T : ByteArray) (r : Rd) (bt : Nat) (n : Nat) (nm : List UInt8) (hn : n ≠ 85) (w : World) (F : Nat → Prop) (hb : (RdA g E kk T r bt).holds w F) :
    Calls Tryz.prog 65 #[.pointer (some ⟨g, 0, none⟩), wordV ⟨1, n, nm⟩] w (Post (fun u B => u = .bool false ∧ B = RdA g E kk T r bt) F w) := by
  have hon := On.refl hb
  clear hb
  obtain ⟨x, hx⟩ : ∃ x : Int, (n : Int) = x := ⟨_, rfl⟩
  have q85 : (x == 85) = false := by rw [beq_eq_false_iff_ne]; omega
  unfold wordV wordC
  rw [hx]
  clear hn hx
  replace hon := Lib.hid hon
  go_enter Tryz.func65, Tryz.ntmps65
  go_wp2_with fail
  go_ret
  exact ((hon.out.alloc _)).post ⟨rfl, rfl⟩
set_option maxHeartbeats 2000000 in
theorem named0 (g : Nat) (E : Env) (kk : Option Nat) (T : ByteArray) (r : Rd) (bt : Nat) (kd n : Nat) (nm : List UInt8) (hk : kd = 0 ∨ kd = 3 ∨ kd = 4 ∨ kd = 5) (w : World) (F : Nat → Prop) (hb : (RdA g E kk T r bt).holds w F) :
    Calls Tryz.prog 65 #[.pointer (some ⟨g, 0, none⟩), wordV ⟨kd, n, nm⟩] w (Post (fun u B => u = .bool false ∧ B = RdA g E kk T r bt) F w) := by
  have hon := On.refl hb
  clear hb
  rcases hk with rfl | rfl | rfl | rfl
  all_goals
    unfold wordV wordC
    replace hon := Lib.hid hon
    go_enter Tryz.func65, Tryz.ntmps65
    go_wp2_with fail
    go_ret
    exact ((hon.out.alloc _)).post ⟨rfl, rfl⟩
set_option maxHeartbeats 2000000 in
theorem named8 (g : Nat) (E : Env) (kk : Option Nat) (T : ByteArray) (r : Rd) (bt : Nat) (n : Nat) (nm : List UInt8) (hn : n = 8 ∨ n = 10) (w : World) (F : Nat → Prop) (hb : (RdA g E kk T r bt).holds w F) :
    Calls Tryz.prog 65 #[.pointer (some ⟨g, 0, none⟩), wordV ⟨2, n, nm⟩] w (Post (fun u B => u = .bool r.open_.isSome ∧ B = RdA g E kk T r bt) F w) := by
  have hon := On.refl hb
  obtain ⟨gs, vl, bl, bsp, bw, vo, hon0⟩ := RdA.open_ hb
  obtain ⟨_, hB⟩ := hon0.mem (A := BlkA g 46 (rdC kk r bt gs vl bl bsp bw vo)) (by simp [rdL])
  obtain ⟨_, hO⟩ := hon0.mem (A := OpenA vo r.open_) (by simp [rdL])
  have c9 := hB.1.cell 9
  have hlt := hB.1.lt
  simp [rdC] at c9
  rcases hn with rfl | rfl
  all_goals
    rcases open_cell hO with ⟨h1, rfl⟩ | ⟨d, gd, h1, rfl, h2⟩
    · rw [h1]
      clear hO h1 hB hon0 hb
      unfold wordV wordC
      replace hon := Lib.hid hon
      go_enter Tryz.func65, Tryz.ntmps65
      go_wp2_with fail
      go_ret
      exact ((hon.out.alloc _)).post ⟨rfl, rfl⟩
    · rw [h1]
      clear hO h1 h2 hB hon0 hb
      unfold wordV wordC
      replace hon := Lib.hid hon
      go_enter Tryz.func65, Tryz.ntmps65
      go_wp2_with fail
      go_ret
      exact ((hon.out.alloc _)).post ⟨rfl, rfl⟩
set_option maxHeartbeats 2000000 in
theorem namedY (g : Nat) (E : Env) (kk : Option Nat) (T : ByteArray) (r : Rd) (bt : Nat) (n : Nat) (nm : List UInt8) (hn : n = 1 ∨ n = 7 ∨ n = 9 ∨ n = 13 ∨ n = 14) (w : World) (F : Nat → Prop) (hb : (RdA g E kk T r bt).holds w F) :
    Calls Tryz.prog 65 #[.pointer (some ⟨g, 0, none⟩), wordV ⟨2, n, nm⟩] w (Post (fun u B => u = .bool (!r.open_.isSome) ∧ B = RdA g E kk T r bt) F w) := by
  have hon := On.refl hb
  obtain ⟨gs, vl, bl, bsp, bw, vo, hon0⟩ := RdA.open_ hb
  obtain ⟨_, hB⟩ := hon0.mem (A := BlkA g 46 (rdC kk r bt gs vl bl bsp bw vo)) (by simp [rdL])
  obtain ⟨_, hO⟩ := hon0.mem (A := OpenA vo r.open_) (by simp [rdL])
  have c9 := hB.1.cell 9
  have hlt := hB.1.lt
  simp [rdC] at c9
  rcases hn with rfl | rfl | rfl | rfl | rfl
  all_goals
    rcases open_cell hO with ⟨h1, rfl⟩ | ⟨d, gd, h1, rfl, h2⟩
    · rw [h1]
      clear hO h1 hB hon0 hb
      unfold wordV wordC
      replace hon := Lib.hid hon
      go_enter Tryz.func65, Tryz.ntmps65
      go_wp2_with fail
      go_ret
      exact ((hon.out.alloc _)).post ⟨rfl, rfl⟩
    · rw [h1]
      clear hO h1 h2 hB hon0 hb
      unfold wordV wordC
      replace hon := Lib.hid hon
      go_enter Tryz.func65, Tryz.ntmps65
      go_wp2_with fail
      go_ret
      exact ((hon.out.alloc _)).post ⟨rfl, rfl⟩
set_option maxHeartbeats 2000000 in
theorem namedN (g : Nat) (E : Env) (kk : Option Nat) (T : ByteArray) (r : Rd) (bt : Nat) (n : Nat) (nm : List UInt8) (hn : ¬ (n = 8 ∨ n = 10 ∨ n = 1 ∨ n = 7 ∨ n = 9 ∨ n = 13 ∨ n = 14)) (w : World) (F : Nat → Prop) (hb : (RdA g E kk T r bt).holds w F) :
    Calls Tryz.prog 65 #[.pointer (some ⟨g, 0, none⟩), wordV ⟨2, n, nm⟩] w (Post (fun u B => u = .bool false ∧ B = RdA g E kk T r bt) F w) := by
  have hon := On.refl hb
  obtain ⟨gs, vl, bl, bsp, bw, vo, hon0⟩ := RdA.open_ hb
  obtain ⟨_, hB⟩ := hon0.mem (A := BlkA g 46 (rdC kk r bt gs vl bl bsp bw vo)) (by simp [rdL])
  obtain ⟨_, hO⟩ := hon0.mem (A := OpenA vo r.open_) (by simp [rdL])
  have c9 := hB.1.cell 9
  have hlt := hB.1.lt
  simp [rdC] at c9
  obtain ⟨x, hx⟩ : ∃ x : Int, (n : Int) = x := ⟨_, rfl⟩
  have q8 : (x == 8) = false := by rw [beq_eq_false_iff_ne]; omega
  have q10 : (x == 10) = false := by rw [beq_eq_false_iff_ne]; omega
  have q1 : (x == 1) = false := by rw [beq_eq_false_iff_ne]; omega
  have q7 : (x == 7) = false := by rw [beq_eq_false_iff_ne]; omega
  have q9 : (x == 9) = false := by rw [beq_eq_false_iff_ne]; omega
  have q13 : (x == 13) = false := by rw [beq_eq_false_iff_ne]; omega
  have q14 : (x == 14) = false := by rw [beq_eq_false_iff_ne]; omega
  unfold wordV wordC
  rw [hx]
  clear hn hx
  rcases open_cell hO with ⟨h1, rfl⟩ | ⟨d, gd, h1, rfl, h2⟩
  · clear hO h1 hB hon0 hb
    replace hon := Lib.hid hon
    go_enter Tryz.func65, Tryz.ntmps65
    go_wp2_with fail
    go_ret
    exact ((hon.out.alloc _)).post ⟨rfl, rfl⟩
  · clear hO h1 h2 hB hon0 hb
    replace hon := Lib.hid hon
    go_enter Tryz.func65, Tryz.ntmps65
    go_wp2_with fail
    go_ret
    exact ((hon.out.alloc _)).post ⟨rfl, rfl⟩
theorem named_walk (g : Nat) (E : Env) (kk : Option Nat) (T : ByteArray) (r : Rd) (bt : Nat) (wd : W) (hw : WOk E kk r.list wd) (w : World) (F : Nat → Prop) (hb : (RdA g E kk T r bt).holds w F) :
    Calls Tryz.prog 65 #[.pointer (some ⟨g, 0, none⟩), wordV wd] w (Post (fun u B => u = .bool (named r.open_.isSome wd) ∧ B = RdA g E kk T r bt) F w) := by
  have h5 := hw.five
  obtain ⟨kd, n, nm⟩ := wd
  simp only at h5
  have hc : kd = 2 ∨ kd = 1 ∨ (kd = 0 ∨ kd = 3 ∨ kd = 4 ∨ kd = 5) := by omega
  rcases hc with rfl | rfl | hc
  · by_cases h1 : n = 8 ∨ n = 10
    · have e : named r.open_.isSome ⟨2, n, nm⟩ = r.open_.isSome := by unfold named; simp only; rw [if_neg (by omega), if_neg (by simp), if_pos h1]
      rw [e]
      exact named8 g E kk T r bt n nm h1 w F hb
    · by_cases h2 : n = 1 ∨ n = 7 ∨ n = 9 ∨ n = 13 ∨ n = 14
      · have e : named r.open_.isSome ⟨2, n, nm⟩ = !r.open_.isSome := by unfold named; simp only; rw [if_neg (by omega), if_neg (by simp), if_neg h1, decide_eq_true h2, Bool.and_true]
        rw [e]
        exact namedY g E kk T r bt n nm h2 w F hb
      · have e : named r.open_.isSome ⟨2, n, nm⟩ = false := by unfold named; simp only; rw [if_neg (by omega), if_neg (by simp), if_neg h1, decide_eq_false h2, Bool.and_false]
        rw [e]
        exact namedN g E kk T r bt n nm (by omega) w F hb
  · by_cases h1 : n = 85
    · subst h1; exact named85 g E kk T r bt nm w F hb
    · have e : named r.open_.isSome ⟨1, n, nm⟩ = false := by unfold named; simp [h1]
      rw [e]
      exact named1 g E kk T r bt n nm h1 w F hb
  · have e : named r.open_.isSome ⟨kd, n, nm⟩ = false := by unfold named; simp only; rw [if_neg (by omega), if_pos (by omega)]
    rw [e]
    exact named0 g E kk T r bt kd n nm hc w F hb
end Look
end Go.Proofs.YthejfkkmcbdlhaaGreatDoor
/- Chapter 19: passes: what a word reads that is no name. -/
namespace Go.Proofs.YthejfkkmcbdlhaaGreatDoor
set_option linter.unusedVariables false
set_option maxRecDepth 100000
open Go.RowKit Go.Lib
namespace Look
theorem RdA.moved {g : Nat} {E : Env} {kk : Option Nat} {T : ByteArray} {r : Rd} {bt i : Nat} {w w' : World} {F : Nat → Prop} {gs : Nat} {vl : Value} {bl bsp bw : Nat} {vo : Value} (h : On F w (AllA (SrcA gs T i :: (rdL g E kk T r bt gs vl bl bsp bw vo).eraseIdx 1)) w') : On F w (RdA g E kk T { r with at_ := i } bt) w' :=
  h.mono fun F' h => ⟨gs, vl, bl, bsp, bw, vo, All.swap h⟩
set_option maxHeartbeats 2000000 in
theorem passes_until (b : UInt8) (n : Nat) (nm : List UInt8) (hb8 : b = 41 ∧ n = 15 ∨ b = 34 ∧ n = 17 ∨ b = 34 ∧ n = 18) (g : Nat) (E : Env) (kk : Option Nat) (T : ByteArray) (hT : T.size ≤ 100000) (r : Rd) (hat : r.at_ ≤ T.size) (bt : Nat) (w : World) (F : Nat → Prop) (hb : (RdA g E kk T r bt).holds w F) :
    Calls Tryz.prog 64 #[.pointer (some ⟨g, 0, none⟩), wordV ⟨2, n, nm⟩] w (Post (fun u B => u = .bool (untilEnd b T.data.toList r.at_).isSome ∧ B = RdA g E kk T { r with at_ := (untilEnd b T.data.toList r.at_).getD r.at_ } bt) F w) := by
  obtain ⟨gs, vl, bl, bsp, bw, vo, hon⟩ := RdA.open_ hb
  obtain ⟨_, hB⟩ := hon.mem (A := BlkA g 46 (rdC kk r bt gs vl bl bsp bw vo)) (by simp [rdL])
  have c0 := hB.1.cell 0
  have hlt := hB.1.lt
  simp [rdC] at c0
  have hl : T.data.toList.length = T.size := by rw [Lib.size_eq]
  have hsw : On F w (AllA (SrcA gs T r.at_ :: (rdL g E kk T r bt gs vl bl bsp bw vo).eraseIdx 1)) w := hon.swapA
  clear hb hon hB
  by_cases hfound : goesTo (notB b) T.data.toList r.at_ < T.size
  · have hun := fun w1 F' hb' => until_found b gs T (by omega) r.at_ hat w1 F' hb' hfound
    have e : untilEnd b T.data.toList r.at_ = some (goesTo (notB b) T.data.toList r.at_ + 1) := by unfold untilEnd; rw [hl, if_pos hfound]
    rw [e]
    generalize goesTo (notB b) T.data.toList r.at_ = j at *
    replace hun := Lib.hid hun
    replace hsw := Lib.hid hsw
    unfold wordV wordC
    rcases hb8 with ⟨rfl, rfl⟩ | ⟨rfl, rfl⟩ | ⟨rfl, rfl⟩
    all_goals
      clear hl hfound e
      go_enter Tryz.func64, Tryz.ntmps64
      go_wp2_with fail
      refine ((hsw.out.alloc _).callA fun F' hb' => hun.out _ F' hb').mono ?_
      rintro e w1 ⟨v, A', ⟨rfl, rfl⟩, rfl, hon1⟩
      replace hon1 := Lib.hid hon1
      go_wp2_with fail
      go_ret
      exact (RdA.moved hon1.out).post ⟨rfl, rfl⟩
  · have hun := fun w1 F' hb' => until_none b gs T (by omega) r.at_ hat w1 F' hb' (by omega)
    have e : untilEnd b T.data.toList r.at_ = none := by unfold untilEnd; rw [hl, if_neg hfound]
    rw [e]
    replace hun := Lib.hid hun
    replace hsw := Lib.hid hsw
    unfold wordV wordC
    rcases hb8 with ⟨rfl, rfl⟩ | ⟨rfl, rfl⟩ | ⟨rfl, rfl⟩
    all_goals
      clear hl hfound e
      go_enter Tryz.func64, Tryz.ntmps64
      go_wp2_with fail
      refine ((hsw.out.alloc _).callA fun F' hb' => hun.out _ F' hb').mono ?_
      rintro e w1 ⟨v, A', ⟨rfl, rfl⟩, rfl, hon1⟩
      replace hon1 := Lib.hid hon1
      go_wp2_with fail
      go_ret
      exact (RdA.moved hon1.out).post ⟨rfl, rfl⟩
set_option maxHeartbeats 2000000 in
theorem passes_rest (nm : List UInt8) (g : Nat) (E : Env) (kk : Option Nat) (T : ByteArray) (hT : T.size ≤ 100000) (r : Rd) (hat : r.at_ ≤ T.size) (bt : Nat) (w : World) (F : Nat → Prop) (hb : (RdA g E kk T r bt).holds w F) :
    Calls Tryz.prog 64 #[.pointer (some ⟨g, 0, none⟩), wordV ⟨2, 16, nm⟩] w (Post (fun u B => u = .bool true ∧ B = RdA g E kk T { r with at_ := restEnd T.data.toList r.at_ } bt) F w) := by
  obtain ⟨gs, vl, bl, bsp, bw, vo, hon⟩ := RdA.open_ hb
  obtain ⟨_, hB⟩ := hon.mem (A := BlkA g 46 (rdC kk r bt gs vl bl bsp bw vo)) (by simp [rdL])
  have c0 := hB.1.cell 0
  have hlt := hB.1.lt
  simp [rdC] at c0
  have hsw : On F w (AllA (SrcA gs T r.at_ :: (rdL g E kk T r bt gs vl bl bsp bw vo).eraseIdx 1)) w := hon.swapA
  clear hb hon hB
  have hun := fun w1 F' hb' => rest_walk gs T (by omega) r.at_ hat w1 F' hb'
  replace hun := Lib.hid hun
  replace hsw := Lib.hid hsw
  unfold wordV wordC
  go_enter Tryz.func64, Tryz.ntmps64
  go_wp2_with fail
  refine ((hsw.out.alloc _).callA fun F' hb' => hun.out _ F' hb').mono ?_
  rintro e w1 ⟨v, A', ⟨rfl, rfl⟩, rfl, hon1⟩
  replace hon1 := Lib.hid hon1
  go_wp2_with fail
  go_ret
  exact (RdA.moved hon1.out).post ⟨rfl, rfl⟩
set_option maxHeartbeats 2000000 in
theorem passes_still (kd n : Nat) (nm : List UInt8) (hk : kd = 0 ∨ kd = 1 ∨ kd = 3 ∨ kd = 4 ∨ kd = 5) (g : Nat) (E : Env) (kk : Option Nat) (T : ByteArray) (r : Rd) (bt : Nat) (w : World) (F : Nat → Prop) (hb : (RdA g E kk T r bt).holds w F) :
    Calls Tryz.prog 64 #[.pointer (some ⟨g, 0, none⟩), wordV ⟨kd, n, nm⟩] w (Post (fun u B => u = .bool true ∧ B = RdA g E kk T r bt) F w) := by
  have hon := On.refl hb
  clear hb
  rcases hk with rfl | rfl | rfl | rfl | rfl
  all_goals
    unfold wordV wordC
    replace hon := Lib.hid hon
    go_enter Tryz.func64, Tryz.ntmps64
    go_wp2_with fail
    go_ret
    exact ((hon.out.alloc _)).post ⟨rfl, rfl⟩
set_option maxHeartbeats 2000000 in
theorem passes_else (n : Nat) (nm : List UInt8) (hn : ¬ (n = 15 ∨ n = 16 ∨ n = 17 ∨ n = 18)) (g : Nat) (E : Env) (kk : Option Nat) (T : ByteArray) (r : Rd) (bt : Nat) (w : World) (F : Nat → Prop) (hb : (RdA g E kk T r bt).holds w F) :
    Calls Tryz.prog 64 #[.pointer (some ⟨g, 0, none⟩), wordV ⟨2, n, nm⟩] w (Post (fun u B => u = .bool true ∧ B = RdA g E kk T r bt) F w) := by
  have hon := On.refl hb
  clear hb
  obtain ⟨x, hx⟩ : ∃ x : Int, (n : Int) = x := ⟨_, rfl⟩
  have q1 : (x == 15) = false := by rw [beq_eq_false_iff_ne]; omega
  have q2 : (x == 16) = false := by rw [beq_eq_false_iff_ne]; omega
  have q3 : (x == 17) = false := by rw [beq_eq_false_iff_ne]; omega
  have q4 : (x == 18) = false := by rw [beq_eq_false_iff_ne]; omega
  unfold wordV wordC
  rw [hx]
  clear hn hx
  replace hon := Lib.hid hon
  go_enter Tryz.func64, Tryz.ntmps64
  go_wp2_with fail
  go_ret
  exact ((hon.out.alloc _)).post ⟨rfl, rfl⟩
theorem passes_walk (wd : W) (g : Nat) (E : Env) (kk : Option Nat) (T : ByteArray) (hT : T.size ≤ 100000) (r : Rd) (hat : r.at_ ≤ T.size) (hw : WOk E kk r.list wd) (bt : Nat) (w : World) (F : Nat → Prop) (hb : (RdA g E kk T r bt).holds w F) :
    Calls Tryz.prog 64 #[.pointer (some ⟨g, 0, none⟩), wordV wd] w (Post (fun u B => u = .bool (passes T.data.toList r.at_ wd).isSome ∧ B = RdA g E kk T { r with at_ := (passes T.data.toList r.at_ wd).getD r.at_ } bt) F w) := by
  have h5 := hw.five
  obtain ⟨kd, n, nm⟩ := wd
  simp only at h5
  by_cases hk : kd = 2
  · subst hk
    by_cases h1 : n = 15
    · subst h1
      have e : passes T.data.toList r.at_ ⟨2, 15, nm⟩ = untilEnd 41 T.data.toList r.at_ := by simp [passes]
      rw [e]
      exact passes_until 41 15 nm (.inl ⟨rfl, rfl⟩) g E kk T hT r hat bt w F hb
    · by_cases h2 : n = 17 ∨ n = 18
      · have e : passes T.data.toList r.at_ ⟨2, n, nm⟩ = untilEnd 34 T.data.toList r.at_ := by simp [passes, h1, h2]
        rw [e]
        exact passes_until 34 n nm (h2.elim (fun h => .inr (.inl ⟨rfl, h⟩)) (fun h => .inr (.inr ⟨rfl, h⟩))) g E kk T hT r hat bt w F hb
      · by_cases h3 : n = 16
        · subst h3
          have e : passes T.data.toList r.at_ ⟨2, 16, nm⟩ = some (restEnd T.data.toList r.at_) := by simp [passes]
          rw [e]
          exact passes_rest nm g E kk T hT r hat bt w F hb
        · have e : passes T.data.toList r.at_ ⟨2, n, nm⟩ = some r.at_ := by simp [passes, h1, h2, h3]
          rw [e]
          exact passes_else n nm (by omega) g E kk T r bt w F hb
  · have e : passes T.data.toList r.at_ ⟨kd, n, nm⟩ = some r.at_ := by simp [passes, hk]
    rw [e]
    exact passes_still kd n nm (by omega) g E kk T r bt w F hb
end Look
end Go.Proofs.YthejfkkmcbdlhaaGreatDoor
/- Chapter 19: speaks: a mention of a word is taken down. -/
namespace Go.Proofs.YthejfkkmcbdlhaaGreatDoor
set_option linter.unusedVariables false
set_option maxRecDepth 100000
open Go.RowKit Go.Lib
namespace Look
theorem RdA.opened {g : Nat} {E : Env} {kk : Option Nat} {T : ByteArray} {r : Rd} {bt : Nat} {w w' : World} {F : Nat → Prop} (h : On F w (RdA g E kk T r bt) w') : ∃ gs vl bl bsp bw vo, On F w (AllA (rdL g E kk T r bt gs vl bl bsp bw vo)) w' := by
  obtain ⟨F', ⟨gs, vl, bl, bsp, bw, vo, h⟩, hk, hF⟩ := h
  exact ⟨gs, vl, bl, bsp, bw, vo, F', h, hk, hF⟩
/-- one mention more -/
theorem spoke {w : World} {F : Nat → Prop} {b : Nat} {names : List (List UInt8)} (h : (SpkA b names).holds w F) (nm : List UInt8) (hl : nm.length ≤ 100000) (hn : names.length < 100000000) : ∃ c w', (Instr.lookup 41 (.map (some b)) (.string ⟨nm.toArray⟩) false).run Tryz.prog w = .ok (.int .i64 c) w ∧
    (Instr.mapUpdate 41 (.map (some b)) (.string ⟨nm.toArray⟩) (.int .i64 (wrap64 (c + 1)))).run Tryz.prog w = .ok () w' ∧ ∀ F', (SpkA b names).holds w F' → (SpkA b (names ++ [nm])).holds w' F' ∧ Kept F' w w' := by
  obtain ⟨f, h1, h2⟩ := h
  have hkey : keyOf Tryz.prog 9 (.string ⟨nm.toArray⟩) = some (.string nm) := WideMaps.keyOf_string_mk Tryz.underlying9 (by
    show nm.toArray.size ≤ maxLen
    rw [List.size_toArray]
    unfold maxLen
    omega)
  obtain ⟨v, ps, h3, h4⟩ := MapG.look1 h1 strK Tryz.underlying41 (zeroInt w) (zd := .lit (.int .i64 0)) rfl hkey
  obtain ⟨c, rfl⟩ := intE_any h4
  have hu : Upd f (fun k => match k with | .string l => if l = nm then some (.lit (.int .i64 (wrap64 (c + 1)))) else f (.string l) | k => f k) (.string nm) (.lit (.int .i64 (wrap64 (c + 1)))) := by
    refine ⟨by simp, fun k' hk' => ?_⟩
    split
    · next l =>
      rw [if_neg]
      intro e
      exact hk' (by rw [e])
    · rfl
  obtain ⟨w', h5, h6, h7⟩ := MapG.store h1 strK Tryz.underlying41 (by unfold maxLen; omega) hkey (val := .int .i64 (wrap64 (c + 1))) (d := .lit (.int .i64 (wrap64 (c + 1)))) rfl hu
  refine ⟨c, w', h3, h5, fun F' hF' => ?_⟩
  obtain ⟨_, hF', _⟩ := hF'
  refine ⟨⟨_, by rw [List.length_append]; exact ⟨h6.1, hF'.2⟩, fun k => ?_⟩, h7.mono fun k hk => (hF'.2 k).2 ((h6.2 k).1 hk)⟩
  have h8 := h2 k
  cases k <;> simp at h8 ⊢ <;> try exact h8
  next l =>
    by_cases e : l = nm
    · simp [e]
    · simp [e, h8]
set_option maxHeartbeats 2000000 in
theorem speaks_walk (g : Nat) (E : Env) (kk : Option Nat) (T : ByteArray) (r : Rd) (bt : Nat) (wd : W) (hw : WOk E kk r.list wd) (hl : wd.name.length ≤ 100000) (hn : r.spoken.length < 100000000) (w : World) (F : Nat → Prop) (hb : (RdA g E kk T r bt).holds w F) :
    Calls Tryz.prog 62 #[.pointer (some ⟨g, 0, none⟩), wordV wd] w (Post (fun u B => u = .tuple #[] ∧ B = RdA g E kk T (speaks E r wd) bt) F w) := by
  obtain ⟨r1, hr1⟩ : ∃ r1, (if wd.name = [] then r else { r with spoken := r.spoken ++ [wd.name] }) = r1 := ⟨_, rfl⟩
  have hr1l : r1.list = r.list := by rw [← hr1]; split <;> rfl
  have hr1o : r1.open_ = r.open_ := by rw [← hr1]; split <;> rfl
  have hlo := fun w1 F' hb' => loose_walk g E kk T r1 bt wd (by rw [hr1l]; exact hw) w1 F' hb'
  obtain ⟨R, hR⟩ : ∃ R, speaks E r wd = R := ⟨_, rfl⟩
  have hR1 : R = if isLoose E r1.open_.isSome wd then { r1 with loose := true, open_ := r1.open_.map fun d => { d with wild := true } } else r1 := by rw [← hR, ← hr1]; unfold speaks; simp only; rw [hr1, hr1o]
  rw [hR]
  generalize isLoose E r1.open_.isSome wd = lo at *
  replace hlo := Lib.hid hlo
  obtain ⟨gs, vl, bl, bsp, bw, vo, hon⟩ := RdA.open_ hb
  obtain ⟨_, hB⟩ := hon.mem (A := BlkA g 46 (rdC kk r bt gs vl bl bsp bw vo)) (by simp [rdL])
  have c3 := hB.1.cell 3
  have hlt := hB.1.lt
  simp [rdC] at c3
  obtain ⟨kd, n, nm⟩ := wd
  simp only at hr1 hl
  clear hb hB hw hR
  rcases hnm : nm with _ | ⟨x, nm'⟩
  · subst hnm
    have hr1' : r = r1 := by rw [← hr1]; rfl
    have hon1 : On F w (RdA g E kk T r1 bt) w := hr1' ▸ RdA.close hon
    clear hon hr1 hr1'
    replace hon1 := Lib.hid hon1
    replace hR1 := Lib.hid hR1
    unfold wordV wordC at *
    go_enter Tryz.func62, Tryz.ntmps62
    go_wp2_with fail
    refine ((hon1.out.alloc _).call fun F' hb' => hlo.out _ F' hb').mono ?_
    rintro e w1 ⟨v, A', ⟨rfl, rfl⟩, rfl, hon2⟩
    rcases lo with _ | _
    · replace hon2 := Lib.hid hon2
      go_wp2_with fail
      go_end0
      exact hon2.out.post ⟨rfl, by rw [hR1.out]; rfl⟩
    · obtain ⟨gs, vl, bl, bsp, bw, vo, hon3⟩ := RdA.opened hon2
      obtain ⟨F1, F2, hB, hO, hdis⟩ := hon3.apart (B := OpenA vo r1.open_) (by simp)
      have c4 := hB.1.cell 4
      have f4 := hB.1.frozen 4
      have c9 := hB.1.cell 9
      simp [rdC] at c4 c9
      have hon4 := hon3.setA 4 (.bool true)
      rcases open_cell hO with ⟨h1, rfl⟩ | ⟨d, gd, h1, rfl, h2⟩
      · have hfin : On F w (RdA g E kk T R bt) (w1.setCell ⟨g, 4, none⟩ (.bool true)) := by
          rw [hR1.out]
          refine RdA.close (gs := gs) (vl := vl) (bl := bl) (bsp := bsp) (bw := bw) (vo := .pointer none) ?_
          have e : rdL g E kk T (if true = true then { r1 with loose := true, open_ := r1.open_.map fun d => { d with wild := true } } else r1) bt gs vl bl bsp bw (.pointer none) = (BlkA g 46 ((rdC kk r1 bt gs vl bl bsp bw (.pointer none)).setIfInBounds 4 (.bool true)) :: (rdL g E kk T r1 bt gs vl bl bsp bw (.pointer none)).tail) := by
            rw [if_pos rfl]
            unfold rdL
            simp only [h1, Option.map]
            rfl
          rw [e]
          exact hon4
        clear hon4 hon3 hon2 hB hO hdis h1
        replace hfin := Lib.hid hfin
        go_wp2_with fail
        go_end0
        exact hfin.out.post ⟨rfl, rfl⟩
      · have hne : g ≠ gd := by
          obtain ⟨vs, ve, hd1, hd2⟩ := h2
          intro e
          exact hdis g ((hB.2 g).2 rfl) ((hd2 g).2 (.inl e))
        obtain ⟨vs, ve, hd1, hd2⟩ := h2
        have d5 := hd1.blk.cell 5
        have e5 := hd1.blk.frozen 5
        simp [defC] at d5
        have hfin : On F w (RdA g E kk T R bt) ((w1.setCell ⟨g, 4, none⟩ (.bool true)).setCell ⟨gd, 5, none⟩ (.bool true)) := by
          rw [hR1.out]
          refine RdA.close (gs := gs) (vl := vl) (bl := bl) (bsp := bsp) (bw := bw) (vo := .pointer (some ⟨gd, 0, none⟩)) ?_
          have h5 := On.pullA [BlkA g 46 ((rdC kk r1 bt gs vl bl bsp bw (.pointer (some ⟨gd, 0, none⟩))).setIfInBounds 4 (.bool true)), SrcA gs T r1.at_, RowK 34 5 vl r1.list.length (effsC r1.list), MapG 9 intE bl r1.list.length (latF r1.list), SpkA bsp r1.spoken, MapG 3 intE bw r1.wild.length (wildF r1.wild)] hon4
          have h6 := h5.stepA (A' := OpenA (.pointer (some ⟨gd, 0, none⟩)) (some { d with wild := true })) (w'' := (w1.setCell ⟨g, 4, none⟩ (.bool true)).setCell ⟨gd, 5, none⟩ (.bool true)) (by
            intro F' hO'
            rw [h1] at hO'
            obtain ⟨gd', h7, vs', ve', h8, h9⟩ := hO'
            cases h7
            exact ⟨F', ⟨gd, rfl, vs', ve', h8.setOwn 5 _ rfl rfl rfl, h9⟩, kept_setAt (Kept.refl F' _) ((h9 gd).2 (.inl rfl)) 5 _, fun k h => .inl h⟩)
          have h7 := On.pushA [BlkA g 46 ((rdC kk r1 bt gs vl bl bsp bw (.pointer (some ⟨gd, 0, none⟩))).setIfInBounds 4 (.bool true)), SrcA gs T r1.at_, RowK 34 5 vl r1.list.length (effsC r1.list), MapG 9 intE bl r1.list.length (latF r1.list), SpkA bsp r1.spoken, MapG 3 intE bw r1.wild.length (wildF r1.wild)] h6
          have e : rdL g E kk T (if true = true then { r1 with loose := true, open_ := r1.open_.map fun d => { d with wild := true } } else r1) bt gs vl bl bsp bw (.pointer (some ⟨gd, 0, none⟩)) = [BlkA g 46 ((rdC kk r1 bt gs vl bl bsp bw (.pointer (some ⟨gd, 0, none⟩))).setIfInBounds 4 (.bool true)), SrcA gs T r1.at_, RowK 34 5 vl r1.list.length (effsC r1.list), MapG 9 intE bl r1.list.length (latF r1.list), SpkA bsp r1.spoken, MapG 3 intE bw r1.wild.length (wildF r1.wild)] ++ OpenA (.pointer (some ⟨gd, 0, none⟩)) (some { d with wild := true }) :: [TabA bt E.tab, KerA kk E] := by
            rw [if_pos rfl]
            unfold rdL
            simp only [h1, Option.map]
            rfl
          rw [e]
          exact h7
        clear hon4 hon3 hon2 hB hO hdis h1 hd1 hd2
        replace hfin := Lib.hid hfin
        go_wp2_with fail
        go_end0
        exact hfin.out.post ⟨rfl, rfl⟩
  · rw [← hnm]
    have hne : (!nm.isEmpty) = true := by rw [hnm]; rfl
    have hne2 : ¬ nm = [] := by rw [hnm]; simp
    rw [if_neg hne2] at hr1
    clear hnm
    unfold wordV wordC at *
    have hon5 := On.pullA (L2 := [MapG 3 intE bw r.wild.length (wildF r.wild), OpenA vo r.open_, TabA bt E.tab, KerA kk E]) [BlkA w.heap.size 70 #[.int .i64 (kd : Int), .int .i64 (n : Int), .string ⟨nm.toArray⟩], BlkA g 46 (rdC kk r bt gs vl bl bsp bw vo), SrcA gs T r.at_, RowK 34 5 vl r.list.length (effsC r.list), MapG 9 intE bl r.list.length (latF r.list)] ((hon.boxA #[.int .i64 (kd : Int), .int .i64 (n : Int), .string ⟨nm.toArray⟩] 70).drew)
    obtain ⟨F5, F6, hS, _, _⟩ := hon5.apart (B := KerA kk E) (by simp)
    obtain ⟨c, w5, hlk, hup, hS2⟩ := spoke hS nm hl hn
    have hon6 := hon5.stepA (A' := SpkA bsp (r.spoken ++ [nm])) (w'' := w5) (fun F' h' => ⟨F', (hS2 F' h').1, (hS2 F' h').2, fun _ h => .inl h⟩)
    have hon7 := On.pushA [BlkA w.heap.size 70 #[.int .i64 (kd : Int), .int .i64 (n : Int), .string ⟨nm.toArray⟩], BlkA g 46 (rdC kk r bt gs vl bl bsp bw vo), SrcA gs T r.at_, RowK 34 5 vl r.list.length (effsC r.list), MapG 9 intE bl r.list.length (latF r.list)] hon6
    have hbx := On.blkA hon7
    have x0 := hbx.cell 0
    have x1 := hbx.cell 1
    have x2 := hbx.cell 2
    simp at x0 x1 x2
    clear hbx
    have hon1 : On F w (RdA g E kk T r1 bt) w5 := by
      rw [← hr1]
      exact RdA.close (gs := gs) (vl := vl) (bl := bl) (bsp := bsp) (bw := bw) (vo := vo) hon7.tailA
    clear hon5 hon6 hon7 hS hS2 hon hr1 hne2
    replace hon1 := Lib.hid hon1
    replace hR1 := Lib.hid hR1
    go_enter Tryz.func62, Tryz.ntmps62
    go_wp2_with fail
    go_region
    go_wp2_with fail
    refine (hon1.out.call fun F' hb' => hlo.out _ F' hb').mono ?_
    rintro e w1 ⟨v, A', ⟨rfl, rfl⟩, rfl, hon2⟩
    rcases lo with _ | _
    · replace hon2 := Lib.hid hon2
      go_wp2_with fail
      go_end0
      exact hon2.out.post ⟨rfl, by rw [hR1.out]; rfl⟩
    · obtain ⟨gs, vl, bl, bsp, bw, vo, hon3⟩ := RdA.opened hon2
      obtain ⟨F1, F2, hB, hO, hdis⟩ := hon3.apart (B := OpenA vo r1.open_) (by simp)
      have c4 := hB.1.cell 4
      have f4 := hB.1.frozen 4
      have c9 := hB.1.cell 9
      simp [rdC] at c4 c9
      have hon4 := hon3.setA 4 (.bool true)
      rcases open_cell hO with ⟨h1, rfl⟩ | ⟨d, gd, h1, rfl, h2⟩
      · have hfin : On F w (RdA g E kk T R bt) (w1.setCell ⟨g, 4, none⟩ (.bool true)) := by
          rw [hR1.out]
          refine RdA.close (gs := gs) (vl := vl) (bl := bl) (bsp := bsp) (bw := bw) (vo := .pointer none) ?_
          have e : rdL g E kk T (if true = true then { r1 with loose := true, open_ := r1.open_.map fun d => { d with wild := true } } else r1) bt gs vl bl bsp bw (.pointer none) = (BlkA g 46 ((rdC kk r1 bt gs vl bl bsp bw (.pointer none)).setIfInBounds 4 (.bool true)) :: (rdL g E kk T r1 bt gs vl bl bsp bw (.pointer none)).tail) := by
            rw [if_pos rfl]
            unfold rdL
            simp only [h1, Option.map]
            rfl
          rw [e]
          exact hon4
        clear hon4 hon3 hon2 hB hO hdis h1
        replace hfin := Lib.hid hfin
        go_wp2_with fail
        go_end0
        exact hfin.out.post ⟨rfl, rfl⟩
      · have hne : g ≠ gd := by
          obtain ⟨vs, ve, hd1, hd2⟩ := h2
          intro e
          exact hdis g ((hB.2 g).2 rfl) ((hd2 g).2 (.inl e))
        obtain ⟨vs, ve, hd1, hd2⟩ := h2
        have d5 := hd1.blk.cell 5
        have e5 := hd1.blk.frozen 5
        simp [defC] at d5
        have hfin : On F w (RdA g E kk T R bt) ((w1.setCell ⟨g, 4, none⟩ (.bool true)).setCell ⟨gd, 5, none⟩ (.bool true)) := by
          rw [hR1.out]
          refine RdA.close (gs := gs) (vl := vl) (bl := bl) (bsp := bsp) (bw := bw) (vo := .pointer (some ⟨gd, 0, none⟩)) ?_
          have h5 := On.pullA [BlkA g 46 ((rdC kk r1 bt gs vl bl bsp bw (.pointer (some ⟨gd, 0, none⟩))).setIfInBounds 4 (.bool true)), SrcA gs T r1.at_, RowK 34 5 vl r1.list.length (effsC r1.list), MapG 9 intE bl r1.list.length (latF r1.list), SpkA bsp r1.spoken, MapG 3 intE bw r1.wild.length (wildF r1.wild)] hon4
          have h6 := h5.stepA (A' := OpenA (.pointer (some ⟨gd, 0, none⟩)) (some { d with wild := true })) (w'' := (w1.setCell ⟨g, 4, none⟩ (.bool true)).setCell ⟨gd, 5, none⟩ (.bool true)) (by
            intro F' hO'
            rw [h1] at hO'
            obtain ⟨gd', h7, vs', ve', h8, h9⟩ := hO'
            cases h7
            exact ⟨F', ⟨gd, rfl, vs', ve', h8.setOwn 5 _ rfl rfl rfl, h9⟩, kept_setAt (Kept.refl F' _) ((h9 gd).2 (.inl rfl)) 5 _, fun k h => .inl h⟩)
          have h7 := On.pushA [BlkA g 46 ((rdC kk r1 bt gs vl bl bsp bw (.pointer (some ⟨gd, 0, none⟩))).setIfInBounds 4 (.bool true)), SrcA gs T r1.at_, RowK 34 5 vl r1.list.length (effsC r1.list), MapG 9 intE bl r1.list.length (latF r1.list), SpkA bsp r1.spoken, MapG 3 intE bw r1.wild.length (wildF r1.wild)] h6
          have e : rdL g E kk T (if true = true then { r1 with loose := true, open_ := r1.open_.map fun d => { d with wild := true } } else r1) bt gs vl bl bsp bw (.pointer (some ⟨gd, 0, none⟩)) = [BlkA g 46 ((rdC kk r1 bt gs vl bl bsp bw (.pointer (some ⟨gd, 0, none⟩))).setIfInBounds 4 (.bool true)), SrcA gs T r1.at_, RowK 34 5 vl r1.list.length (effsC r1.list), MapG 9 intE bl r1.list.length (latF r1.list), SpkA bsp r1.spoken, MapG 3 intE bw r1.wild.length (wildF r1.wild)] ++ OpenA (.pointer (some ⟨gd, 0, none⟩)) (some { d with wild := true }) :: [TabA bt E.tab, KerA kk E] := by
            rw [if_pos rfl]
            unfold rdL
            simp only [h1, Option.map]
            rfl
          rw [e]
          exact h7
        clear hon4 hon3 hon2 hB hO hdis h1 hd1 hd2
        replace hfin := Lib.hid hfin
        go_wp2_with fail
        go_end0
        exact hfin.out.post ⟨rfl, rfl⟩
end Look
end Go.Proofs.YthejfkkmcbdlhaaGreatDoor
