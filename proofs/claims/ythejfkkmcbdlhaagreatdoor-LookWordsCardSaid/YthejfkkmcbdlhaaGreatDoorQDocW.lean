/- The document's Words: a text is read, its words are put in order. Conditions: the text is no longer than a source may be. -/
import Derived.Test.YthejfkkmcbdlhaaGreatDoorQDocR
import Derived.Test.YthejfkkmcbdlhaaGreatDoorQWords
import Derived.Test.YthejfkkmcbdlhaaGreatDoorQAll
namespace Go.Proofs.YthejfkkmcbdlhaaGreatDoor
set_option linter.unusedVariables false
set_option maxRecDepth 100000
open Go.RowKit Go.Lib Go.Sort
namespace Look
/-! ### putting words in order, in plain words -/
theorem lt_cb : ∀ a b : List UInt8, a < b ↔ cb a b < 0
  | [], [] => by simp [cb, Lib.compareBytes]
  | [], b :: bx => by simp [cb_nil_l]
  | a :: ax, [] => by simp [cb_nil_r]
  | a :: ax, b :: bx => by
    rw [List.cons_lt_cons_iff, cb_cons, lt_cb ax bx, UInt8.lt_iff_toNat_lt]
def g0 (L : List (List UInt8)) (p : Nat) : List UInt8 := L.getD p []
theorem g0_eq {L : List (List UInt8)} {p : Nat} (h : p < L.length) : g0 L p = L[p] := by unfold g0; rw [List.getD_eq_getElem?_getD, List.getElem?_eq_getElem h]; rfl
/-- the first i words rise -/
def Up (L : List (List UInt8)) (i : Nat) : Prop := ∀ p q, p < q → q < i → cb (g0 L p) (g0 L q) < 0
/-- the k-th word sinks to its place; all others up to the i-th rise -/
structure Sink (L : List (List UInt8)) (k i : Nat) : Prop where
  rest : ∀ p q, p < q → q ≤ i → p ≠ k → q ≠ k → cb (g0 L p) (g0 L q) < 0
  above : ∀ q, k < q → q ≤ i → cb (g0 L k) (g0 L q) < 0
theorem Sink.start {L : List (List UInt8)} {i : Nat} (h : Up L i) : Sink L i i :=
  ⟨fun p q h1 h2 h3 h4 => h p q h1 (by omega), fun q h1 h2 => by omega⟩
def swap2 (L : List (List UInt8)) (k : Nat) : List (List UInt8) := (L.set (k + 1) (g0 L k)).set k (g0 L (k + 1))
theorem swap2_at {L : List (List UInt8)} {k p : Nat} (hk : k + 1 < L.length) : g0 (swap2 L k) p = if p = k then g0 L (k + 1) else if p = k + 1 then g0 L k else g0 L p := by
  unfold swap2
  by_cases h1 : p = k
  · subst h1
    rw [if_pos rfl]
    have hl : p < ((L.set (p + 1) (g0 L p)).set p (g0 L (p + 1))).length := by simp; omega
    rw [g0_eq hl]
    simp
  · rw [if_neg h1]
    by_cases h2 : p = k + 1
    · subst h2
      rw [if_pos rfl]
      have hl : k + 1 < ((L.set (k + 1) (g0 L k)).set k (g0 L (k + 1))).length := by simp; omega
      rw [g0_eq hl, List.getElem_set_ne (by omega)]
      simp
    · rw [if_neg h2]
      unfold g0
      simp only [List.getD_eq_getElem?_getD]
      rw [List.getElem?_set_ne (by omega), List.getElem?_set_ne (by omega)]
theorem Sink.swap {L : List (List UInt8)} {k i : Nat} (h : Sink L (k + 1) i) (hi : i < L.length) (hk : k + 1 ≤ i) (hlt : cb (g0 L (k + 1)) (g0 L k) < 0) : Sink (swap2 L k) k i := by
  have hs := fun p => swap2_at (L := L) (k := k) (p := p) (by omega)
  refine ⟨fun p q h1 h2 h3 h4 => ?_, fun q h1 h2 => ?_⟩
  · rw [hs p, hs q, if_neg h3, if_neg h4]
    by_cases hp : p = k + 1
    · subst hp
      rw [if_pos rfl, if_neg (by omega)]
      exact h.rest k q (by omega) h2 (by omega) (by omega)
    · rw [if_neg hp]
      by_cases hq : q = k + 1
      · subst hq
        rw [if_pos rfl]
        exact h.rest p k (by omega) (by omega) (by omega) (by omega)
      · rw [if_neg hq]
        exact h.rest p q h1 h2 hp hq
  · rw [hs k, hs q, if_pos rfl, if_neg (by omega)]
    by_cases hq : q = k + 1
    · subst hq
      rw [if_pos rfl]
      exact hlt
    · rw [if_neg hq]
      exact h.above q (by omega) h2
theorem Sink.stop {L : List (List UInt8)} {k i : Nat} (h : Sink L k i) (hi : i < L.length) (hki : k ≤ i) (hn : L.Nodup) (hs : k = 0 ∨ ¬ cb (g0 L k) (g0 L (k - 1)) < 0) : Up L (i + 1) := by
  have hpre : ∀ p, p < k → cb (g0 L p) (g0 L k) < 0 := by
    intro p hp
    rcases hs with hs | hs
    · omega
    · have h1 : cb (g0 L (k - 1)) (g0 L k) < 0 := by
        rcases cb_total (g0 L (k - 1)) (g0 L k) with h1 | h1 | h1
        · exact h1
        · exact absurd h1 hs
        · exfalso
          have hpw := List.pairwise_iff_getElem.1 hn (k - 1) k (by omega) (by omega) (by omega)
          rw [g0_eq (by omega), g0_eq (by omega)] at h1
          exact hpw h1
      by_cases he : p = k - 1
      · subst he; exact h1
      · exact cb_trans _ _ _ (h.rest p (k - 1) (by omega) (by omega) (by omega) (by omega)) h1
  intro p q h1 h2
  by_cases hp : p = k
  · subst hp; exact h.above q h1 (by omega)
  · by_cases hq : q = k
    · subst hq; exact hpre p h1
    · exact h.rest p q h1 (by omega) hp hq
theorem swap2_perm {L : List (List UInt8)} {k : Nat} (hk : k + 1 < L.length) : (swap2 L k).Perm L := by
  unfold swap2
  rw [g0_eq hk, g0_eq (show k < L.length by omega)]
  exact List.set_set_perm hk (by omega)
theorem up_words {L sp spoken : List (List UInt8)} (hp : L.Perm sp) (hm : ∀ m, m ∈ sp ↔ m ∈ spoken) (h : Up L L.length) : IsWords L spoken := by
  refine ⟨fun k => (hp.mem_iff).trans (hm k), ?_⟩
  rw [List.pairwise_iff_getElem]
  intro i j hi hj hij
  have := h i j hij hj
  rwa [g0_eq hi, g0_eq hj] at this
theorem up_one (L : List (List UInt8)) : Up L 1 := fun p q h1 h2 => by omega
/-! ### the reader is made -/
def ks : List (List UInt8) := kern.list.map (·.name)
theorem ks_keys : distinctB (ks.map lowS) = true := by decide +kernel
theorem ks_ne : ∀ a ∈ ks, a ≠ [] := by decide +kernel
theorem ks_short : ∀ a ∈ ks, a.length ≤ 100000 := fun a ha => by
  obtain ⟨e, he, rfl⟩ := List.mem_map.1 ha
  exact (kern_ok e he).2
theorem envD0 : EnvD env0 [] where
  tab := by unfold env0; rfl
  names := by unfold env0; rfl
  keys := rfl
  ne := fun a h => by simp at h
theorem envD1 : EnvD env ks where
  tab := env_tab
  names := by rw [env_klist]; rfl
  keys := ks_keys
  ne := ks_ne
theorem rel0 : Rel rd0 ⟨0, [], [], none⟩ := ⟨rfl, rfl, fun m => (by simp [rd0]), List.nodup_nil, rfl, fun _ _ h => (by cases h), Nat.le_refl _, Nat.le_refl _⟩
theorem fine0 : Fine ⟨0, [], [], none⟩ := ⟨fun _ h => by simp at h, fun _ _ h => by cases h⟩
theorem TextA.fresh {T : ByteArray} {src : List (List UInt8)} {vr : Value} {w w' : World} {F : Nat → Prop} (h : On F w (AllA [EffsN vr src]) w') : On F w (TextA w'.heap.size T src ⟨0, [], [], none⟩) (w'.alloc (.cells (txC T 0 (.slice none 0 0) (.slice none 0 0) false 0 vr (.pointer none)) 55)) := by
  have h1 := h.boxA (txC T 0 (.slice none 0 0) (.slice none 0 0) false 0 vr (.pointer none)) 55
  have h2 := On.pushA (A := OpenD (.pointer none) none) (L2 := []) [_, _] (On.addA h1 (A := OpenD (.pointer none) none) ⟨rfl, fun _ h => h⟩)
  have h3 := (On.addA h2 (A := RowS (.slice none 0 0) []) ⟨World.ownsRow_nil _ 0 _ 1, fun k => by simp [Value.ownBlock]⟩).swapA
  have h4 := (On.addA h3 (A := EffsN (.slice none 0 0) []) ⟨[], rfl, World.ownsRow_nil _ 0 _ 6, fun k => by simp [Value.ownBlock]⟩).swapA
  exact TextA.close (x := ⟨0, [], [], none⟩) h4
set_option maxHeartbeats 2000000 in
theorem rsource_walk (w : World) : Calls Tryz.prog 47 #[] w (Same (.string ⟨source.toArray⟩) w) := by
  unfold source
  go_enter Tryz.func47, Tryz.ntmps47
  go_wp2
  go_ret
  exact ⟨rfl, rfl⟩
set_option maxHeartbeats 4000000 in
theorem sources_walk (w : World) : Calls Tryz.prog 28 #[] w (Post (fun u B => B = EffsN u ks) Nob w) := by
  obtain ⟨S, hS⟩ : ∃ S : ByteArray, S = ⟨source.toArray⟩ := ⟨_, rfl⟩
  have hsl : S.data.toList = source := by rw [hS]
  have hss : S.size ≤ 60000 := by
    have : S.size = source.length := by rw [hS]; show source.toArray.size = _; simp
    rw [this]; decide +kernel
  have hsw := fun w => rsource_walk w
  rw [← hS] at hsw
  have hrd := fun g w F hb => t_read g S hss [] (fun _ h => by simp at h) env0 envD0 ⟨0, [], [], none⟩ rd0 rel0 fine0 (Nat.zero_le _) w F hb
  rw [hsl, kern_read] at hrd
  have hks : ∀ x, Rel kern x → x.own = ks := fun x h => h.own
  clear hS hsl hss
  generalize kern = K0 at hrd hks
  have hon0 := On.addA (On.nob w) (A := EffsN (.slice none 0 0) []) ⟨[], rfl, World.ownsRow_nil _ 0 _ 6, fun k => by simp [Value.ownBlock]⟩
  have hon1 := TextA.fresh (T := S) hon0
  simp only [txC] at hon1
  replace hon1 := Lib.hid hon1
  replace hsw := Lib.hid hsw
  replace hrd := Lib.hid hrd
  replace hks := Lib.hid hks
  clear hon0
  go_enter Tryz.func28, Tryz.ntmps28
  go_wp2_with fail
  refine (hsw.out _).mono ?_
  rintro e w1 ⟨rfl, rfl⟩
  go_wp2_with fail
  refine (hon1.out.call fun F' hb' => hrd.out _ _ F' hb').mono ?_
  rintro e w2 ⟨v', A', ⟨rfl, x, hx, rfl⟩, rfl, hon2⟩
  have hxo := hks.out x hx
  obtain ⟨vo, vs, lo, nd, vr, vp, hon3⟩ := TextA.opened hon2
  have hB := hon3.blkA
  have k2 := hB.cell 2
  simp [txC] at k2
  have hon4 := (On.pullA (A := EffsN vo x.own) (L2 := [RowS vs x.sp, EffsN vr [], OpenD vp x.op]) [_] hon3).headA
  rw [hxo] at hon4
  clear hB hon2 hon3 hx
  replace hxo := Lib.hid hxo
  replace hon4 := Lib.hid hon4
  go_wp2_with fail
  go_ret
  exact hon4.out.post rfl
set_option maxHeartbeats 4000000 in
theorem readD_walk (T : ByteArray) (hT : T.size ≤ 60000) (w : World) : Calls Tryz.prog 17 #[.string T] w (Post (fun u B => ∃ g x, u = .tuple #[.pointer (some ⟨g, 0, none⟩), .int .i64 0] ∧ Rel (readAll env T.data.toList rd0) x ∧ B = TextA g T ks x) Nob w) := by
  have hlg := fun w => d_long T w
  have htl : decide (60000 < T.size) = false := by rw [decide_eq_false_iff_not]; omega
  rw [htl] at hlg
  have hso := sources_walk w
  have hrd := fun g w F hb => t_read g T hT ks ks_short env envD1 ⟨0, [], [], none⟩ rd0 rel0 fine0 (Nat.zero_le _) w F hb
  have hon0 := On.nob w
  generalize readAll env T.data.toList rd0 = R at *
  generalize ks = K at *
  replace hon0 := Lib.hid hon0
  replace hso := Lib.hid hso
  replace hlg := Lib.hid hlg
  replace hrd := Lib.hid hrd
  clear htl hT
  go_enter Tryz.func17, Tryz.ntmps17
  go_wp2_with fail
  refine (hlg.out _).mono ?_
  rintro e w1 ⟨rfl, rfl⟩
  go_wp2_with fail
  refine (hon0.out.makeA hso.out).mono ?_
  rintro e w2 ⟨v', A', rfl, rfl, hon1⟩
  obtain ⟨_, hE⟩ := hon1.firstA
  obtain ⟨-, A0, c0, rfl, -⟩ := effsN_loop hE
  clear hE
  have hon2 := TextA.fresh (T := T) hon1
  simp only [txC] at hon2
  replace hon2 := Lib.hid hon2
  clear hon1
  go_wp2_with fail
  refine (hon2.out.call fun F' hb' => hrd.out _ _ F' hb').mono ?_
  rintro e w3 ⟨v2, A', ⟨rfl, x, hx, rfl⟩, rfl, hon3⟩
  replace hon3 := Lib.hid hon3
  replace hx := Lib.hid hx
  go_wp2_with fail
  go_ret2
  exact hon3.out.post ⟨_, x, rfl, hx.out, rfl⟩
theorem readD_long (T : ByteArray) (hT : 60000 < T.size) (w : World) : Calls Tryz.prog 17 #[.string T] w (Same (.tuple #[.pointer none, .int .i64 2]) w) := by
  have hlg := fun w => d_long T w
  have htl : decide (60000 < T.size) = true := by rw [decide_eq_true_eq]; exact hT
  rw [htl] at hlg
  replace hlg := Lib.hid hlg
  clear htl hT
  go_enter Tryz.func17, Tryz.ntmps17
  go_wp2_with fail
  refine (hlg.out _).mono ?_
  rintro e w1 ⟨rfl, rfl⟩
  go_wp2_with fail
  go_ret2
  exact ⟨rfl, rfl⟩
theorem On.setS {F : Nat → Prop} {w w' : World} {sg N cap : Nat} {L : List (List UInt8)} (h : On F w (RowS (.slice (some ⟨sg, 0, none⟩) N cap) L) w') (q : Nat) (hq : q < L.length) (a : List UInt8) : On F w (RowS (.slice (some ⟨sg, 0, none⟩) N cap) (L.set q a)) (w'.setCell ⟨sg, q, none⟩ (.string ⟨a.toArray⟩)) := by
  refine h.step fun F' h' => ?_
  have hN : N = L.length := by
    rcases h'.1.2 with ⟨h1, _⟩ | ⟨g', cap', cur, hv, _⟩
    · cases h1
    · cases hv; rfl
  subst hN
  have hs := ownsRow_set h'.1 (i := q) (by simpa [strsC] using hq) (.string ⟨a.toArray⟩)
  refine ⟨F', ⟨?_, h'.2⟩, kept_setAt (Kept.refl F' w') ((h'.2 sg).2 rfl) q _, fun k h => .inl h⟩
  rw [List.length_set]
  have e : strsC (L.set q a) = (strsC L).set q (.string ⟨a.toArray⟩) := by unfold strsC; rw [List.map_set]
  rw [e]
  exact hs
theorem rows_frozen {w : World} {F : Nat → Prop} {sg N cap : Nat} {L : List (List UInt8)} (h : (RowS (.slice (some ⟨sg, 0, none⟩) N cap) L).holds w F) (i : Nat) : w.frozen? ⟨sg, i, none⟩ = false := by
  obtain ⟨⟨_, h | ⟨g, cap', cur, hv, -, hc, _⟩⟩, -⟩ := h
  · cases h.1
  · cases hv
    exact Blk.frozen hc i
set_option maxHeartbeats 8000000 in
theorem wordsD_walk (T : ByteArray) (hT : T.size ≤ 60000) (w : World) : Calls Tryz.prog 9 #[.string T] w (Post (fun u B => ∃ v ws, u = .tuple #[v, .int .i64 0] ∧ B = RowS v ws ∧ IsWords ws (readAll env T.data.toList rd0).spoken) Nob w) := by
  have hrd := readD_walk T hT w
  have hon0 := On.nob w
  generalize readAll env T.data.toList rd0 = R at *
  generalize ks = K at *
  replace hon0 := Lib.hid hon0
  replace hrd := Lib.hid hrd
  clear hT
  go_enter Tryz.func9, Tryz.ntmps9
  go_wp2_with fail
  refine (hon0.out.makeA hrd.out).mono ?_
  rintro e w1 ⟨v', A', ⟨g, x, rfl, hx, rfl⟩, rfl, hon1⟩
  obtain ⟨vo, vs, lo, nd, vr, vp, hon2⟩ := TextA.opened hon1.headA
  have hB := hon2.blkA
  have k3 := hB.cell 3
  simp [txC] at k3
  have hon3 := (On.pullA (A := RowS vs x.sp) (L2 := [EffsN vr K, OpenD vp x.op]) [_, _] hon2).headA
  obtain ⟨F0, hS, _⟩ := hon3
  obtain ⟨hms, As, cs, rfl, hA⟩ := rowS_loop hS
  have hon3 := (On.pullA (A := RowS (.slice As x.sp.length cs) x.sp) (L2 := [EffsN vr K, OpenD vp x.op]) [_, _] hon2).headA
  have hmem := hx.mem
  have hnd := hx.nd
  obtain ⟨sp, hsp⟩ : ∃ sp, x.sp = sp := ⟨_, rfl⟩
  rw [hsp] at k3 hon3 hms hA hmem hnd
  obtain ⟨N, hN⟩ : ∃ N, sp.length = N := ⟨_, rfl⟩
  rw [hN] at k3 hon3 hms
  have hAs : ∀ L : List (List UInt8), 0 < L.length → L.length = N → ∃ sg, As = some ⟨sg, 0, none⟩ := fun L h1 h2 => by
    obtain ⟨sg, h3, -⟩ := hA 0 (by omega)
    exact ⟨sg, h3⟩
  unfold maxLen at hms
  clear hB hon2 hon1 hS hx hrd hA hsp
  replace hon3 := Lib.hid hon3
  replace hmem := Lib.hid hmem
  replace hnd := Lib.hid hnd
  replace hN := Lib.hid hN
  replace hAs := Lib.hid hAs
  go_wp2_with fail
  go_loopw [7] (fun i wr => ∃ (j : Nat) (L : List (List UInt8)), 1 ≤ j ∧ i = .int .i64 (j : Int) ∧ On Nob w (RowS (.slice As N cs) L) wr ∧ L.Perm sp ∧ Up L j ∧ j ≤ N + 1) (fun i _ => N + 1 - (RowKit.intOf i).toNat)
  case atStart => exact ⟨1, sp, by omega, by go_num, hon3.out, List.Perm.refl _, up_one sp, by omega⟩
  case round =>
    obtain ⟨j, L, hj1, rfl, hon, hperm, hup, hjN⟩ := hrel
    have hLl : L.length = N := by rw [hperm.length_eq, hN.out]
    clear k3 hon3
    by_cases hlt : j < N
    · have hsk0 : Sink L j j := Sink.start hup
      replace hon := Lib.hid hon
      replace hperm := Lib.hid hperm
      replace hup := Lib.hid hup
      replace hLl := Lib.hid hLl
      replace hsk0 := Lib.hid hsk0
      obtain ⟨sg, hsg⟩ := hAs.out L (by have := hLl.out; omega) hLl.out
      subst hsg
      go_wp2_with fail
      go_loopw [8] (fun i wr => ∃ (q : Nat) (L : List (List UInt8)), q ≤ j ∧ i = .int .i64 (q : Int) ∧ On Nob w (RowS (.slice (some ⟨sg, 0, none⟩) N cs) L) wr ∧ L.Perm sp ∧ Sink L q j) (fun i _ => (RowKit.intOf i).toNat)
      case atStart => exact ⟨j, L, Nat.le_refl _, rfl, hon.out, hperm.out, hsk0.out⟩
      case round =>
        clear hon hperm hup hLl hsk0 L
        obtain ⟨q, L, hqj, rfl, hon, hperm, hsk⟩ := hrel
        have hLl : L.length = N := by rw [hperm.length_eq, hN.out]
        have hLn : L.Nodup := (hperm.nodup_iff).2 hnd.out
        rcases Nat.eq_zero_or_pos q with h0 | h0
        · subst h0
          have hup2 := hsk.stop (by omega) hqj hLn (.inl rfl)
          replace hon := Lib.hid hon
          replace hperm := Lib.hid hperm
          replace hsk := Lib.hid hsk
          replace hLl := Lib.hid hLl
          replace hLn := Lib.hid hLn
          replace hup2 := Lib.hid hup2
          go_wp2_with fail
          go_quiet (fail)
          go_wp2_with fail
          go_roundw
          case rel => exact ⟨j + 1, L, by omega, by go_num, hon.out.drewN _, hperm.out, hup2.out, by omega⟩
          case measure => simp [RowKit.intOf]; omega
        · obtain ⟨q, rfl⟩ : ∃ p, q = p + 1 := ⟨q - 1, by omega⟩
          have honc := hon
          obtain ⟨_, hS, _⟩ := honc
          have p1 := strs_at hS (List.getElem?_eq_getElem (show q + 1 < L.length by omega))
          have p0 := strs_at hS (List.getElem?_eq_getElem (show q < L.length by omega))
          have y1 := rows_frozen hS (q + 1)
          have y0 := rows_frozen hS q
          have ea : g0 L (q + 1) = L[q + 1] := g0_eq (by omega)
          have eb : g0 L q = L[q] := g0_eq (by omega)
          rw [← ea] at p1
          rw [← eb] at p0
          obtain ⟨a, ha⟩ : ∃ a, g0 L (q + 1) = a := ⟨_, rfl⟩
          obtain ⟨b, hb⟩ : ∃ b, g0 L q = b := ⟨_, rfl⟩
          rw [ha] at p1
          rw [hb] at p0
          have e1 : ((q + 1 : Nat) : Int) = (q : Int) + 1 := by omega
          rw [e1]
          have e2 : (q : Int) + 1 - 1 = (q : Int) := by omega
          by_cases hlt2 : cb a b < 0
          · have hsw := hsk.swap (by omega) hqj (by rw [ha, hb]; exact hlt2)
            have hpw := (swap2_perm (L := L) (k := q) (by omega)).trans hperm
            have hon2 := fun m => ((hon.drewN m).setS (q + 1) (by omega) b).setS q (by simp; omega) a
            have e3 : (L.set (q + 1) b).set q a = swap2 L q := by unfold swap2; rw [ha, hb]
            rw [e3] at hon2
            have tl : Op.bytesLess a b = true := by rw [bytesLess_eq, decide_eq_true_eq, lt_cb]; exact hlt2
            replace hon2 := Lib.hid hon2
            replace hpw := Lib.hid hpw
            replace hsw := Lib.hid hsw
            clear hS ea eb ha hb e3 hsk hLl hLn hperm hon
            replace hlt2 := Lib.hid hlt2
            replace e2 := Lib.hid e2
            go_wp2_with fail
            go_quiet (fail)
            go_wp2_with fail
            go_roundw
            case rel => exact ⟨q, swap2 L q, by omega, by go_num, hon2.out _, hpw.out, hsw.out⟩
            case measure => simp [RowKit.intOf]
          · have hup2 := hsk.stop (by omega) hqj hLn (.inr (by rw [ha]; show ¬ cb a (g0 L q) < 0; rw [hb]; exact hlt2))
            have tl : Op.bytesLess a b = false := by rw [bytesLess_eq, decide_eq_false_iff_not, lt_cb]; exact hlt2
            replace hon := Lib.hid hon
            replace hperm := Lib.hid hperm
            replace hup2 := Lib.hid hup2
            clear hS ea eb ha hb hsk hLl hLn
            replace hlt2 := Lib.hid hlt2
            replace e2 := Lib.hid e2
            go_wp2_with fail
            go_quiet (fail)
            go_wp2_with fail
            go_roundw
            case rel => exact ⟨j + 1, L, by omega, by go_num, hon.out.drewN _, hperm.out, hup2.out, by omega⟩
            case measure => simp [RowKit.intOf]; omega
    · have hup2 : Up L L.length := by rw [hLl]; exact fun p q h1 h2 => hup p q h1 (by omega)
      have hw := up_words hperm hmem.out hup2
      replace hon := Lib.hid hon
      replace hw := Lib.hid hw
      clear hperm hup hup2 hLl
      go_wp2_with fail
      go_ret2
      exact hon.out.post ⟨_, L, rfl, rfl, hw.out⟩
end Look
end Go.Proofs.YthejfkkmcbdlhaaGreatDoor
