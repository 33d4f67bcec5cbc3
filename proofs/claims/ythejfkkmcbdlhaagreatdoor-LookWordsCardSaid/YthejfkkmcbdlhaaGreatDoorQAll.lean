/- Chapter 19: table: the kernel's operations and special words by their names. Conditions: the program's tables lie as their initialisers lay them. -/
import Derived.Test.YthejfkkmcbdlhaaGreatDoorQFresh
import Derived.Test.YthejfkkmcbdlhaaGreatDoorQCode
import Derived.Test.YthejfkkmcbdlhaaGreatDoorQPlain
namespace Go.Proofs.YthejfkkmcbdlhaaGreatDoor
set_option linter.unusedVariables false
set_option maxRecDepth 100000
open Go.RowKit Go.Lib
namespace Look
theorem TabIs_kept {w w' : World} {name : String} {k : IntKind} {zs : List Int} (h : Lib.TabIs Tryz.prog w name k zs) (hk : Kept Nob w w') : Lib.TabIs Tryz.prog w' name k zs := by
  unfold Lib.TabIs World.var? at *
  rcases hg : Tryz.prog.globalNamed name with _ | g
  · rw [hg] at h; cases h
  · rw [hg] at h
    simp only [Option.bind] at h ⊢
    rcases hb : w.heap[g]? with _ | o
    · rw [hb] at h; cases h
    · have hlt : g < w.heap.size := by
        rcases Nat.lt_or_ge g w.heap.size with h1 | h1
        · exact h1
        · rw [Array.getElem?_eq_none h1] at hb; cases hb
      have he := hk.block g hlt id
      rw [he]
      exact h
theorem Tabs_kept {w w' : World} (h : Tabs w) (hk : Kept Nob w w') : Tabs w' := h.of_cells fun p v hp => hk.cell hp id
def entryOf (s : List UInt8) (k : Nat) : List UInt8 × W := if 0 < numP s then (lowS s, ⟨1, numP s, s⟩) else (lowS s, ⟨2, k + 1, s⟩)
def kNext (s : List UInt8) (k : Nat) : Nat := if 0 < numP s then k else k + 1
def mkTab : List (List UInt8) → Nat → List (List UInt8 × W)
  | [], _ => []
  | s :: l, k => entryOf s k :: mkTab l (kNext s k)
theorem tab_mk : mkTab prims 0 = tab := by decide +kernel
theorem prims_len : prims.length = 129 := by decide +kernel
theorem prims_short : ∀ s ∈ prims, s.length ≤ 100 := by decide +kernel
def distinctB : List (List UInt8) → Bool
  | [] => true
  | x :: l => !l.contains x && distinctB l
theorem tab_keys : distinctB (tab.map (·.1)) = true := by decide +kernel
theorem distinct_none : ∀ (l1 : List (List UInt8)) (x : List UInt8) (l2 : List (List UInt8)), distinctB (l1 ++ x :: l2) = true → x ∉ l1
  | [], _, _, _ => by simp
  | y :: l1, x, l2, h => by
    unfold distinctB at h
    simp only [List.cons_append] at h
    rw [Bool.and_eq_true] at h
    have ih := distinct_none l1 x l2 h.2
    intro hx
    rcases List.mem_cons.1 hx with rfl | hx
    · have h1 := h.1
      simp at h1
    · exact ih hx
theorem lookup_none {α : Type} {l : List (List UInt8 × α)} {k : List UInt8} (h : k ∉ l.map (·.1)) : l.lookup k = none := by
  induction l with
  | nil => rfl
  | cons p l ih =>
    rw [List.map_cons, List.mem_cons, not_or] at h
    obtain ⟨k0, a⟩ := p
    rw [List.lookup_cons]
    have : (k == k0) = false := by rw [beq_eq_false_iff_ne]; exact h.1
    rw [this]
    exact ih h.2
theorem lookup_snoc {α : Type} (l : List (List UInt8 × α)) (k0 : List UInt8) (a : α) (k : List UInt8) : (l ++ [(k0, a)]).lookup k = match l.lookup k with | some x => some x | none => if k = k0 then some a else none := by
  induction l with
  | nil =>
    rw [List.nil_append, List.lookup_cons]
    by_cases h : k = k0
    · rw [if_pos h]; simp [h]
    · rw [if_neg h]
      have : (k == k0) = false := by rw [beq_eq_false_iff_ne]; exact h
      rw [this]
      rfl
  | cons p l ih =>
    obtain ⟨k1, b⟩ := p
    rw [List.cons_append, List.lookup_cons, List.lookup_cons]
    split
    · rfl
    · exact ih
/-- the table's j-th word, and what the map reads as with it -/
theorem tab_step {j k : Nat} {s : List UInt8} (hk : mkTab (prims.drop j) k = tab.drop j) (hs : prims[j]? = some s) :
    tab.take (j + 1) = tab.take j ++ [entryOf s k] ∧ mkTab (prims.drop (j + 1)) (kNext s k) = tab.drop (j + 1) ∧ Upd (tabF (tab.take j)) (tabF (tab.take (j + 1))) (.string (lowS s)) (wordD (entryOf s k).2.kind (entryOf s k).2.n (entryOf s k).2.name) := by
  have hlt : j < prims.length := by
    rcases Nat.lt_or_ge j prims.length with h | h
    · exact h
    · rw [List.getElem?_eq_none h] at hs; cases hs
  have hp : prims.drop j = s :: prims.drop (j + 1) := by
    rw [List.drop_eq_getElem_cons hlt]
    rw [List.getElem?_eq_getElem hlt] at hs
    cases hs
    rfl
  rw [hp] at hk
  have hk2 : entryOf s k :: mkTab (prims.drop (j + 1)) (kNext s k) = tab.drop j := hk
  have hlt2 : j < tab.length := by
    rcases Nat.lt_or_ge j tab.length with h | h
    · exact h
    · rw [List.drop_eq_nil_of_le h] at hk2; cases hk2
  have ht : tab.drop j = tab[j] :: tab.drop (j + 1) := List.drop_eq_getElem_cons hlt2
  rw [ht] at hk2
  obtain ⟨he, hr⟩ := List.cons.inj hk2
  have h1 : tab.take (j + 1) = tab.take j ++ [entryOf s k] := by rw [List.take_succ_eq_append_getElem hlt2, he]
  refine ⟨h1, hr, ?_⟩
  have hkey : (entryOf s k).1 = lowS s := by unfold entryOf; split <;> rfl
  have hno : lowS s ∉ (tab.take j).map (·.1) := by
    have h2 : tab.map (·.1) = (tab.take j).map (·.1) ++ (lowS s) :: (tab.drop (j + 1)).map (·.1) := by
      have h3 : tab = tab.take j ++ (tab[j] :: tab.drop (j + 1)) := by rw [← ht, List.take_append_drop]
      calc tab.map (·.1) = (tab.take j ++ (tab[j] :: tab.drop (j + 1))).map (·.1) := by rw [← h3]
        _ = _ := by rw [List.map_append, List.map_cons, ← he, hkey]
    have h4 := tab_keys
    rw [h2] at h4
    exact distinct_none _ _ _ h4
  rw [h1]
  generalize hL : tab.take j = L at *
  obtain ⟨k0, e⟩ : ∃ k0, entryOf s k = (k0, (entryOf s k).2) := ⟨_, rfl⟩
  have hk0 : k0 = lowS s := by rw [← hkey, e]
  subst hk0
  refine ⟨?_, fun k' hk' => ?_⟩
  · show ((L ++ [entryOf s k]).lookup (lowS s)).map _ = _
    rw [e, lookup_snoc, lookup_none hno]
    simp
  · cases k' <;> try rfl
    next key =>
    show ((L ++ [entryOf s k]).lookup key).map _ = (L.lookup key).map _
    rw [e, lookup_snoc]
    rcases L.lookup key with _ | x
    · simp only
      rw [if_neg (by rintro rfl; exact hk' rfl)]
    · rfl
theorem tabF_nil : tabF [] = fun _ => none := by funext k; cases k <;> rfl
theorem mkTab_len : ∀ (l : List (List UInt8)) (k : Nat), (mkTab l k).length = l.length
  | [], _ => rfl
  | s :: l, k => by unfold mkTab; rw [List.length_cons, mkTab_len l, List.length_cons]
theorem tab_len : tab.length = 129 := by rw [← tab_mk, mkTab_len, prims_len]
set_option maxHeartbeats 4000000 in
theorem table_walk (w : World) (hT : Tabs w) (hA : Lib.TabIs Tryz.prog w "strings.asciiSpace" .u8 Lib.asciiSpaceTab) : Calls Tryz.prog 21 #[] w (Post (fun u B => ∃ bt, u = .map (some bt) ∧ B = TabA bt tab) Nob w) := by
  have hpr := fun w1 (h : Kept Nob w w1) => prims_walk w1 (Tabs_kept hT h).1 (fun w' h' => TabIs_kept hA (h.trans h'))
  have hnum : ∀ (s : List UInt8), s.length < 35184372088832 → ∀ w1, Kept Nob w w1 → Calls Tryz.prog 32 #[.string ⟨s.toArray⟩] w1 (fun e w' => e = .returned (.int .i64 (numP s : Int)) ∧ Below w1.heap.size w1 w') := fun s hs w1 h => number_walk ⟨s.toArray⟩ (by show s.toArray.size < _; simpa using hs) w1 (Tabs_kept hT h)
  have hsm : ∀ (s : List UInt8), s.length ≤ 140737488355327 → ∀ w1, Calls Tryz.prog 33 #[.string ⟨s.toArray⟩] w1 (fun e w' => e = .returned (.string ⟨(lowS s).toArray⟩) ∧ Below w1.heap.size w1 w') := fun s hs w1 => small_walk ⟨s.toArray⟩ (by show s.toArray.size ≤ _; simpa using hs) w1
  have hon0 : On Nob w (AllA []) w := ⟨Nob, fun _ h => h, Kept.refl Nob w, fun _ h => h.elim⟩
  have hm := hon0.mapA 9 wordE
  have hmm := @run_makeMap Tryz.prog
  have hst := tab_mk
  replace hpr := Lib.hid hpr
  replace hnum := Lib.hid hnum
  replace hsm := Lib.hid hsm
  replace hst := Lib.hid hst
  replace hm := Lib.hid hm
  clear hT hA hon0
  go_enter Tryz.func21, Tryz.ntmps21
  go_wp2_with fail
  have hkw : Kept Nob w (w.alloc (.map #[] 0)) := (Kept.refl Nob w).alloc _
  refine (hm.out.makeA (hpr.out _ hkw)).mono ?_
  rintro e w1 ⟨v, A', ⟨v', rfl, rfl⟩, rfl, hon1⟩
  clear hkw
  obtain ⟨_, hr1⟩ := hon1.firstA
  obtain ⟨sg, cap, rfl, hcap1, hcap2⟩ : ∃ sg cap, v = .slice (some ⟨sg, 0, none⟩) 129 cap ∧ 129 ≤ cap ∧ cap ≤ maxLen := by
    have h1 := hr1.1
    rw [prims_len] at h1
    exact stack_form (n := 128) h1
  clear hr1 hcap1 hcap2
  have hon2 := hon1.swapA
  clear hon1
  replace hon2 := Lib.hid hon2
  generalize w.heap.size = bt at *
  go_wp2_with fail
  go_loopw [2, 9] (fun kv i wr => ∃ j k : Nat, j ≤ 129 ∧ k ≤ j ∧ i = .int .i64 (j : Int) ∧ kv = .int .i64 (k : Int) ∧ mkTab (prims.drop j) k = tab.drop j ∧ On Nob w (AllA [MapG 9 wordE bt j (tabF (tab.take j)), RowS (.slice (some ⟨sg, 0, none⟩) 129 cap) prims]) wr) (fun _ i _ => 129 - (RowKit.intOf i).toNat)
  case atStart => exact ⟨0, 0, by omega, by omega, rfl, rfl, hst.out, by have := hon2.out; rw [List.take_zero, tabF_nil]; exact this⟩
  case round =>
    obtain ⟨j, k, hj, hkj, rfl, rfl, hkt, hon⟩ := hrel
    by_cases hlt : j < 129
    · obtain ⟨s, hs⟩ : ∃ s, prims[j]? = some s := ⟨prims[j]'(by rw [prims_len]; exact hlt), List.getElem?_eq_getElem _⟩
      have hsl := prims_short s (List.mem_of_getElem? hs)
      obtain ⟨hst1, hst2, hst3⟩ := tab_step hkt hs
      obtain ⟨_, hr⟩ := hon.swapA.firstA
      have hcell := strs_at hr hs
      have hkw : Kept Nob w wr := by obtain ⟨F', _, hk, _⟩ := hon; exact hk
      have hnm := hnum.out s (by omega) wr hkw
      have hsm1 := hsm.out s (by omega)
      have hkey : keyOf Tryz.prog 9 (.string ⟨(lowS s).toArray⟩) = some (.string (lowS s)) := keyS ⟨s.toArray⟩ (by show s.toArray.size ≤ _; simp; omega)
      clear hr hkw hkt hst hon2 hnum hsm hpr hm
      replace hon := Lib.hid hon
      replace hnm := Lib.hid hnm
      replace hsm1 := Lib.hid hsm1
      replace hst1 := Lib.hid hst1
      replace hst2 := Lib.hid hst2
      replace hst3 := Lib.hid hst3
      replace hs := Lib.hid hs
      replace hsl := Lib.hid hsl
      replace hkey := Lib.hid hkey
      by_cases h0 : 0 < numP s
      · have e0 : entryOf s k = (lowS s, ⟨1, numP s, s⟩) := by unfold entryOf; rw [if_pos h0]
        have e1 : kNext s k = k := by unfold kNext; rw [if_pos h0]
        rw [e0] at hst1 hst3
        rw [e1] at hst2
        have hd : decide ((numP s : Int) > 0) = true := by rw [decide_eq_true_eq]; omega
        replace e0 := Lib.hid e0
        replace e1 := Lib.hid e1
        replace h0 := Lib.hid h0
        go_wp2_with fail
        refine hnm.out.mono ?_
        rintro e w1 ⟨rfl, hbel⟩
        have hon3 := hon.out.keptNob (Kept.ofBelow0 hbel)
        clear hbel hcell
        replace hon3 := Lib.hid hon3
        generalize numP s = N at *
        go_wp2_with fail
        refine (hsm1.out _).mono ?_
        rintro e w3 ⟨rfl, hbel⟩
        have hon4 := hon3.out.keptNob (Kept.ofBelow0 hbel)
        obtain ⟨_, hM⟩ := hon4.firstA
        obtain ⟨w4, hup4, hS4⟩ := MapG.storeA hM strK Tryz.underlying42 (by unfold maxLen; omega) hkey.out (val := .agg #[.int .i64 1, .int .i64 (N : Int), .string ⟨s.toArray⟩]) (d := wordD 1 (N : Nat) s) rfl hst3.out
        have hon6 := hon4.stepA hS4
        clear hon4 hM hS4 hbel
        replace hon6 := Lib.hid hon6
        go_wp2_with fail
        go_roundw
        case rel => exact ⟨j + 1, k, by omega, by omega, by go_num, rfl, hst2.out, hon6.out⟩
        case measure => simp [RowKit.intOf]; omega
      · have e0 : entryOf s k = (lowS s, ⟨2, k + 1, s⟩) := by unfold entryOf; rw [if_neg h0]
        have e1 : kNext s k = k + 1 := by unfold kNext; rw [if_neg h0]
        rw [e0] at hst1 hst3
        rw [e1] at hst2
        have hd : decide ((numP s : Int) > 0) = false := by rw [decide_eq_false_iff_not]; omega
        replace e0 := Lib.hid e0
        replace e1 := Lib.hid e1
        replace h0 := Lib.hid h0
        go_wp2_with fail
        refine hnm.out.mono ?_
        rintro e w1 ⟨rfl, hbel⟩
        have hon3 := hon.out.keptNob (Kept.ofBelow0 hbel)
        clear hbel hcell
        replace hon3 := Lib.hid hon3
        generalize numP s = N at *
        go_wp2_with fail
        refine (hsm1.out _).mono ?_
        rintro e w3 ⟨rfl, hbel⟩
        have hon4 := hon3.out.keptNob (Kept.ofBelow0 hbel)
        obtain ⟨_, hM⟩ := hon4.firstA
        obtain ⟨w4, hup4, hS4⟩ := MapG.storeA hM strK Tryz.underlying42 (by unfold maxLen; omega) hkey.out (val := .agg #[.int .i64 2, .int .i64 ((k : Int) + 1), .string ⟨s.toArray⟩]) (d := wordD 2 (k + 1 : Nat) s) rfl hst3.out
        have hon6 := hon4.stepA hS4
        clear hon4 hM hS4 hbel
        replace hon6 := Lib.hid hon6
        go_wp2_with fail
        go_roundw
        case rel => exact ⟨j + 1, k + 1, by omega, by omega, by go_num, by go_num, hst2.out, hon6.out⟩
        case measure => simp [RowKit.intOf]; omega
    · have hjj : j = 129 := by omega
      subst hjj
      clear hon2 hst hnum hsm hpr hm
      replace hkt := Lib.hid hkt
      have hfull : tab.take 129 = tab := by rw [← tab_len, List.take_length]
      rw [hfull] at hon
      replace hon := Lib.hid hon
      replace hfull := Lib.hid hfull
      go_wp2_with fail
      go_ret
      exact (On.post (A := TabA bt tab) (hon.out.headA.mono fun F' h => ⟨129, h⟩) ⟨bt, rfl, rfl⟩)
end Look
end Go.Proofs.YthejfkkmcbdlhaaGreatDoor
/- Chapter 19: the kernel's words, as the laws ask of them. No condition. -/
namespace Go.Proofs.YthejfkkmcbdlhaaGreatDoor
set_option linter.unusedVariables false
set_option maxRecDepth 100000
open Go.RowKit Go.Lib
namespace Look
theorem env_klist : env.klist = kern.list := by unfold env; rfl
theorem env_kwild : env.kwild = kern.wild := by unfold env; rfl
theorem env_tab : env.tab = tab := by unfold env; rfl
theorem lookup_mem2 {α : Type} : ∀ (l : List (List UInt8 × α)) (k : List UInt8) (w : α), l.lookup k = some w → (k, w) ∈ l
  | [], _, _, h => by simp at h
  | (k0, w0) :: l, k, w, h => by
    rw [List.lookup_cons] at h
    split at h
    · next he =>
      cases h
      have : k = k0 := by simpa using he
      subst this
      simp
    · exact List.mem_cons_of_mem _ (lookup_mem2 l k w h)
theorem kern_w : latest kern.list [58] = none ∧ latest kern.list [59] = none ∧ latest kern.list [53] = none := by decide +kernel
theorem tab_w : tab.lookup [58] = some ⟨2, 1, [58]⟩ ∧ tab.lookup [59] = some ⟨2, 2, [59]⟩ ∧ tab.lookup [53] = none := by decide +kernel
theorem tab_semi : ∀ p ∈ tab, p.2.kind = 2 → p.2.n = 2 → p.1 = [59] := by decide +kernel
theorem envW : EnvW env where
  k58 := by rw [env_klist]; exact kern_w.1
  k59 := by rw [env_klist]; exact kern_w.2.1
  k53 := by rw [env_klist]; exact kern_w.2.2
  t58 := by rw [env_tab]; exact tab_w.1
  t59 := by rw [env_tab]; exact tab_w.2.1
  t53 := by rw [env_tab]; exact tab_w.2.2
  semi := by
    intro k w h a b
    rw [env_tab] at h
    exact tab_semi _ (lookup_mem2 _ _ _ h) a b
theorem kern_eb : ∀ e ∈ kern.list, ((0 ≤ e.inn ∧ e.inn ≤ 100) ∧ (-100 ≤ e.out ∧ e.out ≤ 100)) := by decide +kernel
theorem envB : EnvB env where
  kl := by rw [env_klist]; exact kern_eb
  tab := by
    intro k w h a
    rw [env_tab] at h
    rcases (tab_look k w h).1 with ⟨_, h1, h2⟩ | ⟨h1, _⟩
    · exact ⟨h1, h2⟩
    · omega
theorem env_ok : EnvOk env where
  kl := by rw [env_klist]; exact kern_ok
  klen := by rw [env_klist]; exact kern_len
  tab := by rw [env_tab]; exact tab_look
/-! what is needed stays small -/
structure Nb (r : Rd) : Prop where
  needs : r.needs < 32
theorem what_needed_lt {E : Env} (hE : EnvOk E) {r : Rd} (hr : r.needs < 32) (ho : Own r) (s : List UInt8) : needed E r.list (what E r.list s) < 32 := by
  have hsub : ∀ e ∈ r.list, e.needs < 32 := by
    intro e he
    have h1 := ho.list e he
    unfold Sub at h1
    have h2 : e.needs ≤ r.needs := by rw [← h1]; exact Nat.left_le_or
    omega
  have hget : ∀ (l : List Eff) (n : Nat), (∀ e ∈ l, e.needs < 32) → (l.getD n default).needs < 32 := by
    intro l n hl
    rw [List.getD_eq_getElem?_getD]
    rcases h : l[n]? with _ | e
    · show (default : Eff).needs < 32
      have : (default : Eff).needs = 0 := rfl
      omega
    · exact hl e (List.mem_of_getElem? h)
  generalize what E r.list s = w
  unfold needed
  split
  · unfold effect
    split
    · exact hget _ _ fun e he => (hE.kl e he).1
    · exact hget _ _ hsub
  · split
    · have := cap_le w.n; omega
    · split <;> omega
theorem round_lt {E : Env} (hE : EnvOk E) (S : List UInt8) {r : Rd} (hr : r.needs < 32) (ho : Own r) : (roundS E S r).1.needs < 32 := by
  have hh : (heard E r (what E r.list (nextW S).1)).needs < 32 := by
    rw [heard_needs]
    exact or_lt hr (what_needed_lt hE hr ho _)
  unfold roundS
  split
  · exact hr
  · split
    · exact hh
    · split
      · split
        · exact hh
        · rw [does_needs]
          split
          · rw [(speaks_keeps E _ _).2.2.2.1]; exact hh
          · exact hh
      · rw [does_needs]; exact hh
theorem Rds.lt {E : Env} (hE : EnvOk E) {S : List UInt8} {r R : Rd} (h : Rds E S r R) : r.needs < 32 → Own r → R.needs < 32 := by
  induction h with
  | @off S S' r R h => intro hr ho; have := round_lt hE S hr ho; rw [h] at this; exact this
  | @on S S' r r' R h _ ih =>
    intro hr ho
    have h1 := round_lt hE S hr ho
    have h2 := ho.round E S
    rw [h] at h1 h2
    exact ih h1 h2
theorem needs_lt {E : Env} (hE : EnvOk E) (a : List UInt8) : (readAll E a rd0).needs < 32 :=
  (Rds.all E a).lt hE (by simp [rd0]) ⟨by simp [rd0], by simp [rd0]⟩
end Look
end Go.Proofs.YthejfkkmcbdlhaaGreatDoor
/- Chapter 19: all: the kernel's source is read, then the text; Effects. Conditions: the program's tables lie as their initialisers lay them. -/
namespace Go.Proofs.YthejfkkmcbdlhaaGreatDoor
set_option linter.unusedVariables false
set_option maxRecDepth 100000
open Go.RowKit Go.Lib
namespace Look
/-- the tables that are read -/
structure Ground (w : World) : Prop where
  tabs : Tabs w
  ascii : Lib.TabIs Tryz.prog w "strings.asciiSpace" .u8 Lib.asciiSpaceTab
theorem Ground.kept {w w' : World} (h : Ground w) (hk : Kept Nob w w') : Ground w' := ⟨Tabs_kept h.tabs hk, TabIs_kept h.ascii hk⟩
theorem On.nob (w : World) : On Nob w (AllA []) w := ⟨Nob, fun _ h => h, Kept.refl Nob w, fun _ h => h.elim⟩
theorem On.keptW {w w' : World} {A : Asr} (h : On Nob w A w') : Kept Nob w w' := by obtain ⟨F', _, hk, _⟩ := h; exact hk
/-- the kernel's reader has become the kernel -/
theorem ker_of {g bt : Nat} {E : Env} {T : ByteArray} {r : Rd} {w w' : World} {F : Nat → Prop} (h : On F w (RdA g E none T r bt) w') : On F w (AllA [TabA bt E.tab, KerA (some g) ⟨E.tab, r.list, r.wild⟩]) w' := by
  obtain ⟨gs, vl, bl, bsp, bw, vo, hon⟩ := RdA.opened h
  unfold rdL at hon
  have h1 := On.pullA (A := TabA bt E.tab) (L2 := [KerA none E]) [BlkA g 46 (rdC none r bt gs vl bl bsp bw vo), SrcA gs T r.at_, RowK 34 5 vl r.list.length (effsC r.list), MapG 9 intE bl r.list.length (latF r.list), SpkA bsp r.spoken, MapG 3 intE bw r.wild.length (wildF r.wild), OpenA vo r.open_] hon
  have h2 := On.tailA (On.pullA (A := SrcA gs T r.at_) (L2 := [RowK 34 5 vl r.list.length (effsC r.list), MapG 9 intE bl r.list.length (latF r.list), SpkA bsp r.spoken, MapG 3 intE bw r.wild.length (wildF r.wild), OpenA vo r.open_, KerA none E]) [TabA bt E.tab, BlkA g 46 (rdC none r bt gs vl bl bsp bw vo)] h1)
  have h3 := On.tailA (On.pullA (A := SpkA bsp r.spoken) (L2 := [MapG 3 intE bw r.wild.length (wildF r.wild), OpenA vo r.open_, KerA none E]) [TabA bt E.tab, BlkA g 46 (rdC none r bt gs vl bl bsp bw vo), RowK 34 5 vl r.list.length (effsC r.list), MapG 9 intE bl r.list.length (latF r.list)] h2)
  have h4 := On.tailA (On.pullA (A := OpenA vo r.open_) (L2 := [KerA none E]) [TabA bt E.tab, BlkA g 46 (rdC none r bt gs vl bl bsp bw vo), RowK 34 5 vl r.list.length (effsC r.list), MapG 9 intE bl r.list.length (latF r.list), MapG 3 intE bw r.wild.length (wildF r.wild)] h3)
  have h5 := On.tailA (On.pullA (A := KerA none E) (L2 := []) [TabA bt E.tab, BlkA g 46 (rdC none r bt gs vl bl bsp bw vo), RowK 34 5 vl r.list.length (effsC r.list), MapG 9 intE bl r.list.length (latF r.list), MapG 3 intE bw r.wild.length (wildF r.wild)] h4)
  refine h5.mono fun F' ⟨F1, F2, a, b, c, d⟩ => ⟨F1, F2, a, All.one ?_, c, d⟩
  exact ⟨_, _, _, _, _, _, _, vl, bl, bw, b⟩
set_option maxHeartbeats 4000000 in
theorem all_walk (T : ByteArray) (hT : T.size ≤ 60000) (w : World) (hG : Ground w) : Calls Tryz.prog 14 #[.string T] w (Post (fun u B => ∃ g gk bt, u = .tuple #[.pointer (some ⟨g, 0, none⟩), .int .i64 0] ∧ B = RdA g env (some gk) T (readAll env T.data.toList rd0) bt) Nob w) := by
  have htw := table_walk w hG.tabs hG.ascii
  obtain ⟨S, hS⟩ : ∃ S : ByteArray, S = ⟨source.toArray⟩ := ⟨_, rfl⟩
  have hsl : S.data.toList = source := by rw [hS]
  have hss : S.size ≤ 60000 := by
    have : S.size = source.length := by rw [hS]; show source.toArray.size = _; simp
    rw [this]; decide +kernel
  have hsw := fun w => source_walk w
  rw [← hS] at hsw
  have hf0 := fun bt w F' hb => fresh_walk env0 env0_ok none S hss bt w F' hb
  rw [hsl, kern_read] at hf0
  have hf1 := fun gk bt w F' hb => fresh_walk env env_ok (some gk) T hT bt w F' hb
  have hker : ∀ (g bt : Nat) (w' : World), On Nob w (RdA g env0 none S kern bt) w' → On Nob w (AllA [TabA bt env.tab, KerA (some g) env]) w' := by
    intro g bt w' h
    have h1 := ker_of h
    have e : (⟨env0.tab, kern.list, kern.wild⟩ : Env) = env := by unfold env env0; rfl
    have e2 : env0.tab = env.tab := by rw [← e]
    rw [e, e2] at h1
    exact h1
  have htab : env0.tab = tab := by unfold env0; rfl
  have hk0 : env0.klist = [] ∧ env0.kwild = [] := by unfold env0; exact ⟨rfl, rfl⟩
  obtain ⟨R, hR⟩ : ∃ R, readAll env T.data.toList rd0 = R := ⟨_, rfl⟩
  rw [hR]
  simp only [hR] at hf1
  clear hR hS hsl hss hG
  generalize kern = K0 at hf0 hker
  simp only [ptrV, Option.map] at hf0 hf1
  have hon0 := On.nob w
  replace htw := Lib.hid htw
  replace hsw := Lib.hid hsw
  replace hf0 := Lib.hid hf0
  replace hf1 := Lib.hid hf1
  replace hker := Lib.hid hker
  replace htab := Lib.hid htab
  replace hk0 := Lib.hid hk0
  replace hon0 := Lib.hid hon0
  go_enter Tryz.func14, Tryz.ntmps14
  go_wp2_with fail
  refine (hon0.out.makeA htw.out).mono ?_
  rintro e w1 ⟨v, A', ⟨bt, rfl, rfl⟩, rfl, hon1⟩
  have hon2 : On Nob w (AllA [TabA bt env0.tab, KerA none env0]) w1 := by
    rw [htab.out]
    exact On.pullA (A := TabA bt tab) (L2 := []) [KerA none env0] (On.addA hon1 (A := KerA none env0) ⟨hk0.out.1, hk0.out.2, fun _ h => h⟩) |> fun h => h
  clear hon1
  replace hon2 := Lib.hid hon2
  go_wp2_with fail
  refine (hsw.out w1).mono ?_
  rintro e w2 ⟨rfl, rfl⟩
  go_wp2_with fail
  refine (hon2.out.call fun F' hb' => hf0.out _ _ F' hb').mono ?_
  rintro e w3 ⟨v, A', ⟨gk, rfl, rfl⟩, rfl, hon3⟩
  have hon4 := hker.out _ _ _ hon3
  clear hon3
  replace hon4 := Lib.hid hon4
  go_wp2_with fail
  refine (hon4.out.call fun F' hb' => hf1.out _ _ _ F' hb').mono ?_
  rintro e w5 ⟨v, A', ⟨g, rfl, rfl⟩, rfl, hon5⟩
  replace hon5 := Lib.hid hon5
  go_wp2_with fail
  go_ret2
  exact hon5.out.post ⟨g, gk, bt, rfl, rfl⟩
set_option maxHeartbeats 4000000 in
theorem all_long (T : ByteArray) (hT : 60000 < T.size) (w : World) (hG : Ground w) : Calls Tryz.prog 14 #[.string T] w (fun e w' => e = .returned (.tuple #[.pointer none, .int .i64 2]) ∧ Kept Nob w w') := by
  have htw := table_walk w hG.tabs hG.ascii
  obtain ⟨S, hS⟩ : ∃ S : ByteArray, S = ⟨source.toArray⟩ := ⟨_, rfl⟩
  have hsl : S.data.toList = source := by rw [hS]
  have hss : S.size ≤ 60000 := by
    have : S.size = source.length := by rw [hS]; show source.toArray.size = _; simp
    rw [this]; decide +kernel
  have hsw := fun w => source_walk w
  rw [← hS] at hsw
  have hf0 := fun bt w F' hb => fresh_walk env0 env0_ok none S hss bt w F' hb
  rw [hsl, kern_read] at hf0
  have hf1 := fun gk bt w => fresh_long (ptrV (some gk)) ⟨_, rfl⟩ T hT bt w
  have htab : env0.tab = tab := by unfold env0; rfl
  have hk0 : env0.klist = [] ∧ env0.kwild = [] := by unfold env0; exact ⟨rfl, rfl⟩
  clear hS hsl hss hG
  generalize kern = K0 at hf0
  simp only [ptrV, Option.map] at hf0 hf1
  have hon0 := On.nob w
  replace htw := Lib.hid htw
  replace hsw := Lib.hid hsw
  replace hf0 := Lib.hid hf0
  replace hf1 := Lib.hid hf1
  replace htab := Lib.hid htab
  replace hk0 := Lib.hid hk0
  replace hon0 := Lib.hid hon0
  go_enter Tryz.func14, Tryz.ntmps14
  go_wp2_with fail
  refine (hon0.out.makeA htw.out).mono ?_
  rintro e w1 ⟨v, A', ⟨bt, rfl, rfl⟩, rfl, hon1⟩
  have hon2 : On Nob w (AllA [TabA bt env0.tab, KerA none env0]) w1 := by
    rw [htab.out]
    exact On.pullA (A := TabA bt tab) (L2 := []) [KerA none env0] (On.addA hon1 (A := KerA none env0) ⟨hk0.out.1, hk0.out.2, fun _ h => h⟩)
  clear hon1
  replace hon2 := Lib.hid hon2
  go_wp2_with fail
  refine (hsw.out w1).mono ?_
  rintro e w2 ⟨rfl, rfl⟩
  go_wp2_with fail
  refine (hon2.out.call fun F' hb' => hf0.out _ _ F' hb').mono ?_
  rintro e w3 ⟨v, A', ⟨gk, rfl, rfl⟩, rfl, hon3⟩
  replace hon3 := Lib.hid hon3
  go_wp2_with fail
  refine (hf1.out _ _ _).mono ?_
  rintro e w5 ⟨rfl, rfl⟩
  go_wp2_with fail
  go_ret2
  exact ⟨rfl, hon3.out.keptW⟩
set_option maxHeartbeats 4000000 in
/-- Effects: the definitions, in their order -/
theorem effects_walk (T : ByteArray) (hT : T.size ≤ 60000) (w : World) (hG : Ground w) : Calls Tryz.prog 11 #[.string T] w (Post (fun u B => ∃ v, u = .tuple #[v, .int .i64 0] ∧ B = RowK 34 5 v (readAll env T.data.toList rd0).list.length (effsC (readAll env T.data.toList rd0).list)) Nob w) := by
  have haw := all_walk T hT w hG
  obtain ⟨R, hR⟩ : ∃ R, readAll env T.data.toList rd0 = R := ⟨_, rfl⟩
  rw [hR] at haw ⊢
  have hon0 := On.nob w
  clear hG hR
  replace haw := Lib.hid haw
  replace hon0 := Lib.hid hon0
  go_enter Tryz.func11, Tryz.ntmps11
  go_wp2_with fail
  refine (hon0.out.makeA haw.out).mono ?_
  rintro e w1 ⟨v, A', ⟨g, gk, bt, rfl, rfl⟩, rfl, hon1⟩
  obtain ⟨gs, vl, bl, bsp, bw, vo, hon2⟩ := RdA.opened hon1.headA
  obtain ⟨_, hB⟩ := hon2.firstA
  have c1 := hB.1.cell 1
  simp [rdC] at c1
  clear hon1 hB
  have hon3 := On.headA (On.pullA (A := RowK 34 5 vl R.list.length (effsC R.list)) (L2 := [MapG 9 intE bl R.list.length (latF R.list), SpkA bsp R.spoken, MapG 3 intE bw R.wild.length (wildF R.wild), OpenA vo R.open_, TabA bt env.tab, KerA (some gk) env]) [BlkA g 46 (rdC (some gk) R bt gs vl bl bsp bw vo), SrcA gs T R.at_] hon2)
  clear hon2
  replace hon3 := Lib.hid hon3
  go_wp2_with fail
  go_ret2
  exact hon3.out.post ⟨vl, rfl, rfl⟩
end Look
end Go.Proofs.YthejfkkmcbdlhaaGreatDoor
