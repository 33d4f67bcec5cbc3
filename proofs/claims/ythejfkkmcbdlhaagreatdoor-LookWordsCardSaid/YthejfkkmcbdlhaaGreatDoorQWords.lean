/- Chapter 19: words in order, each once: plain lemmas. -/
import Derived.Test.YthejfkkmcbdlhaaGreatDoorQPlain
import Derived.Test.YthejfkkmcbdlhaaGreatDoorQShelfB
import Derived.Test.YthejfkkmcbdlhaaGreatDoorQAll
import Derived.Sort.OwnSorted
import Derived.Sort.KeysCollected
import Derived.Maps.RangeWalk
namespace Go.Proofs.YthejfkkmcbdlhaaGreatDoor
set_option linter.unusedVariables false
open Go.RowKit Go.Lib Go.Sort
namespace Look
def cb (a b : List UInt8) : Int := Lib.compareBytes a b
theorem cb_self : ∀ a : List UInt8, cb a a = 0
  | [] => rfl
  | a :: ax => by
    unfold cb Lib.compareBytes
    rw [if_neg (by rw [UInt8.lt_iff_toNat_lt]; omega), if_neg (by rw [UInt8.lt_iff_toNat_lt]; omega)]
    exact cb_self ax
theorem cb_cons (a b : UInt8) (ax bx : List UInt8) : cb (a :: ax) (b :: bx) < 0 ↔ a.toNat < b.toNat ∨ a = b ∧ cb ax bx < 0 := by
  have h : cb (a :: ax) (b :: bx) = if a < b then -1 else if b < a then 1 else cb ax bx := by unfold cb; rw [Lib.compareBytes]
  rw [h]
  by_cases h1 : a < b
  · rw [if_pos h1]
    rw [UInt8.lt_iff_toNat_lt] at h1
    exact ⟨fun _ => .inl h1, fun _ => by omega⟩
  · rw [if_neg h1]
    rw [UInt8.lt_iff_toNat_lt] at h1
    by_cases h2 : b < a
    · rw [if_pos h2]
      rw [UInt8.lt_iff_toNat_lt] at h2
      exact ⟨fun h => by omega, fun h => by rcases h with h | ⟨rfl, _⟩ <;> omega⟩
    · rw [if_neg h2]
      rw [UInt8.lt_iff_toNat_lt] at h2
      have : a = b := UInt8.toNat_inj.1 (by omega)
      exact ⟨fun h => .inr ⟨this, h⟩, fun h => by rcases h with h | ⟨_, h⟩; omega; exact h⟩
theorem cb_nil_r (a : List UInt8) : ¬ cb a [] < 0 := by
  cases a <;> simp [cb, Lib.compareBytes]
theorem cb_nil_l (b : UInt8) (bx : List UInt8) : cb [] (b :: bx) < 0 := by simp [cb, Lib.compareBytes]
theorem cb_trans : ∀ a b c : List UInt8, cb a b < 0 → cb b c < 0 → cb a c < 0
  | _, [], _, h, _ => absurd h (cb_nil_r _)
  | _, _ :: _, [], _, h => absurd h (cb_nil_r _)
  | [], _ :: _, c :: cx, _, _ => cb_nil_l c cx
  | a :: ax, b :: bx, c :: cx, h1, h2 => by
    rw [cb_cons] at *
    rcases h1 with h1 | ⟨rfl, h1⟩
    · rcases h2 with h2 | ⟨rfl, h2⟩
      · left; omega
      · left; exact h1
    · rcases h2 with h2 | ⟨rfl, h2⟩
      · left; exact h2
      · right; exact ⟨rfl, cb_trans ax bx cx h1 h2⟩
theorem cb_total : ∀ a b : List UInt8, cb a b < 0 ∨ cb b a < 0 ∨ a = b
  | [], [] => .inr (.inr rfl)
  | [], b :: bx => .inl (cb_nil_l b bx)
  | a :: ax, [] => .inr (.inl (cb_nil_l a ax))
  | a :: ax, b :: bx => by
    rw [cb_cons, cb_cons]
    rcases Nat.lt_trichotomy a.toNat b.toNat with h | h | h
    · left; left; exact h
    · have h := UInt8.toNat_inj.1 h
      subst h
      rcases cb_total ax bx with h | h | h
      · left; right; exact ⟨rfl, h⟩
      · right; left; right; exact ⟨rfl, h⟩
      · right; right; rw [h]
    · right; left; left; exact h
theorem cb_irrefl (a : List UInt8) : ¬ cb a a < 0 := by rw [cb_self]; omega
theorem cb_swo : SWO (ltOf cb) where
  irrefl x := by unfold ltOf; rw [cb_self]; rfl
  trans x y z h1 h2 := by unfold ltOf at *; rw [decide_eq_true_eq] at *; exact cb_trans x y z h1 h2
  ntrans x y z h1 h2 := by
    unfold ltOf at *
    rw [decide_eq_false_iff_not] at *
    intro h
    rcases cb_total x y with h3 | h3 | h3
    · exact h1 h3
    · exact h2 (cb_trans y x z h3 h)
    · subst h3; exact h2 h
/-- the words: rising, each once -/
structure IsWords (ws sp : List (List UInt8)) : Prop where
  mem : ∀ k, k ∈ ws ↔ k ∈ sp
  rise : ws.Pairwise fun a b => cb a b < 0
theorem rise_unique : ∀ l1 l2 : List (List UInt8), (l1.Pairwise fun a b => cb a b < 0) → (l2.Pairwise fun a b => cb a b < 0) → (∀ k, k ∈ l1 ↔ k ∈ l2) → l1 = l2
  | [], [], _, _, _ => rfl
  | [], b :: l2, _, _, h => absurd ((h b).2 (by simp)) (by simp)
  | a :: l1, [], _, _, h => absurd ((h a).1 (by simp)) (by simp)
  | a :: l1, b :: l2, h1, h2, h => by
    obtain ⟨a1, p1⟩ := List.pairwise_cons.1 h1
    obtain ⟨a2, p2⟩ := List.pairwise_cons.1 h2
    have hab : a = b := by
      rcases List.mem_cons.1 ((h a).1 (by simp)) with e | e
      · exact e
      · rcases List.mem_cons.1 ((h b).2 (by simp)) with e2 | e2
        · exact e2.symm
        · exact absurd (cb_trans _ _ _ (a1 b e2) (a2 a e)) (cb_irrefl a)
    subst hab
    rw [rise_unique l1 l2 p1 p2 fun k => ?_]
    constructor
    · intro hk
      rcases List.mem_cons.1 ((h k).1 (by simp [hk])) with e | e
      · subst e; exact absurd (a1 k hk) (cb_irrefl k)
      · exact e
    · intro hk
      rcases List.mem_cons.1 ((h k).2 (by simp [hk])) with e | e
      · subst e; exact absurd (a2 k hk) (cb_irrefl k)
      · exact e
theorem IsWords.unique {ws ws' sp : List (List UInt8)} (h : IsWords ws sp) (h' : IsWords ws' sp) : ws = ws' := rise_unique _ _ h.rise h'.rise fun k => (h.mem k).trans (h'.mem k).symm
/-- what the sort leaves -/
theorem words_sorted {d d' : Array (List UInt8)} {sp : List (List UInt8)} (hp : PermIn 0 d.size d d') (hs : SortedIn (ltOf cb) 0 d.size d') (hn : d.toList.Nodup) (hm : ∀ k, k ∈ d.toList ↔ k ∈ sp) : IsWords d'.toList sp := by
  obtain ⟨hsz, _, hperm⟩ := hp
  have e1 : (d'.extract 0 d.size).toList = d'.toList := by rw [← hsz]; simp
  have e2 : (d.extract 0 d.size).toList = d.toList := by simp
  rw [e1, e2] at hperm
  have hn' : d'.toList.Nodup := hperm.nodup_iff.2 hn
  refine ⟨fun k => (hperm.mem_iff).trans (hm k), ?_⟩
  rw [List.pairwise_iff_getElem]
  intro i j hi hj hij
  have h1 := hs i j (Nat.zero_le _) hij (by rw [← hsz]; simpa using hj)
  unfold ltOf at h1
  rw [decide_eq_false_iff_not] at h1
  have hj' : j < d'.size := by simpa using hj
  have hi' : i < d'.size := by simpa using hi
  rw [getElem!_pos d' j hj', getElem!_pos d' i hi'] at h1
  rcases cb_total d'.toList[i] d'.toList[j] with h | h | h
  · exact h
  · exact absurd (by simpa using h) h1
  · exact absurd h (List.pairwise_iff_getElem.1 hn' i j hi hj hij)
theorem nodup_len : ∀ (l L : List (List UInt8)), l.Nodup → (∀ k ∈ l, k ∈ L) → l.length ≤ L.length
  | [], _, _, _ => Nat.zero_le _
  | x :: l, L, hn, h => by
    obtain ⟨h1, h2⟩ := List.nodup_cons.1 hn
    have h3 := nodup_len l (L.erase x) h2 fun k hk => (List.mem_erase_of_ne (by rintro rfl; exact h1 hk)).2 (h k (by simp [hk]))
    have h4 := List.length_erase_of_mem (h x (by simp))
    have h5 : 0 < L.length := List.length_pos_of_mem (h x (by simp))
    simp
    omega
/-! mentions are few -/
theorem speaks_spoken (E : Env) (r : Rd) (w : W) : (speaks E r w).spoken.length ≤ r.spoken.length + 1 := by
  unfold speaks
  simp only
  split <;> split <;> simp
theorem does_spoken (E : Env) (r : Rd) (w : W) (name : List UInt8) : (does E r w name).spoken = r.spoken := by
  unfold does
  rcases r.open_ with _ | d
  · simp only
    split
    · rfl
    · split
      · rfl
      · split
        · rcases r.list.getLast? with _ | x <;> rfl
        · rfl
  · simp only
    split <;> rfl
theorem heard_spoken (E : Env) (r : Rd) (w : W) : (heard E r w).spoken.length ≤ r.spoken.length + 1 := speaks_spoken E r w
theorem round_spoken (E : Env) (S : List UInt8) (r : Rd) : (roundS E S r).1.spoken.length ≤ r.spoken.length + 2 := by
  have hh := fun w => heard_spoken E r w
  unfold roundS
  split
  · simp
  · split
    · exact Nat.le_succ_of_le (hh _)
    · split
      · split
        · exact Nat.le_succ_of_le (hh _)
        · rw [does_spoken]
          split
          · have := hh (what E r.list (nextW S).1)
            refine Nat.le_trans (speaks_spoken E _ _) ?_
            omega
          · exact Nat.le_succ_of_le (hh _)
      · rw [does_spoken]
        exact Nat.le_succ_of_le (hh _)
theorem readAll_spoken (E : Env) (T : List UInt8) : ∀ (n : Nat) (r : Rd), r.at_ ≤ T.length → T.length - r.at_ < n → (readAll E T r).spoken.length ≤ r.spoken.length + 2 * (T.length - r.at_ + 1)
  | 0, _, _, h => by omega
  | n + 1, r, h, hn => by
    obtain ⟨h1, h2, h3⟩ := round_suf E T r h
    have h6 := round_spoken E (T.drop r.at_) (er r)
    rw [← h2] at h6
    have h7 : (round E T r).1.spoken.length ≤ r.spoken.length + 2 := h6
    rcases hr : round E T r with ⟨r', b⟩
    rw [hr] at h7
    rcases b with _ | _
    · rw [readAll_off hr]
      have h7 : r'.spoken.length ≤ r.spoken.length + 2 := h7
      omega
    · rw [readAll_on h hr]
      obtain ⟨h4, h5⟩ := round_on h hr
      have ih := readAll_spoken E T n r' h5 (by omega)
      have h7 : r'.spoken.length ≤ r.spoken.length + 2 := h7
      omega
theorem spoken_len (E : Env) (T : List UInt8) : (readAll E T rd0).spoken.length ≤ 2 * (T.length + 1) := by
  have := readAll_spoken E T (T.length + 1) rd0 (Nat.zero_le _) (by simp [rd0])
  simpa [rd0] using this
end Look
end Go.Proofs.YthejfkkmcbdlhaaGreatDoor
/- Chapter 19: Needs: what a text needs. Conditions: the program's tables lie as their initialisers lay them. -/
namespace Go.Proofs.YthejfkkmcbdlhaaGreatDoor
set_option linter.unusedVariables false
set_option maxRecDepth 100000
open Go.RowKit Go.Lib
namespace Look
def isBad (R : Rd) : Bool := R.list.any fun e => !e.known
/-- !e.Known -/
theorem lit_known (w : World) : PredBelow Tryz.prog 19 #[] (fun e : Eff => .agg (effC e).toArray) (fun e => !e.known) w := fun W x hb => by
  rcases x with ⟨n, i, o, k, d⟩
  show Calls Tryz.prog 19 #[.agg #[.string ⟨n.toArray⟩, .int .i64 i, .int .i64 o, .bool k, .int .i64 (d : Int)]] W _
  go_enter Tryz.func19, Tryz.ntmps19
  go_wp2
  all_goals (go_ret; exact ⟨rfl, hb.alloc hb.size _⟩)
theorem idx_nil (w : World) : Calls Tryz.prog 30 #[.slice none 0 0, .func (.func 19) #[] #[]] w (Same (.int .i64 (-1)) w) := by
  go_enter Tryz.func30, Tryz.ntmps30
  go_wp2
  go_loopw [8] (fun i wr => i = .int .i64 0 ∧ wr = w) (fun _ _ => 0)
  case atStart => exact ⟨rfl, rfl⟩
  case round =>
    obtain ⟨rfl, rfl⟩ := hrel
    go_wp2
    go_ret
    exact ⟨rfl, rfl⟩
theorem cont_nil (w : World) : Calls Tryz.prog 18 #[.slice none 0 0, .func (.func 19) #[] #[]] w (Same (.bool false) w) := by
  have hi := idx_nil
  replace hi := Lib.hid hi
  go_enter Tryz.func18, Tryz.ntmps18
  go_wp2_with fail
  refine (hi.out _).mono ?_
  rintro e w1 ⟨rfl, rfl⟩
  go_wp2
  go_ret
  exact ⟨rfl, rfl⟩
theorem cont_walk (v : Value) (l : List Eff) (w : World) {F : Nat → Prop} (h : (RowK 34 5 v l.length (effsC l)).holds w F) : Calls Tryz.prog 18 #[v, .func (.func 19) #[] #[]] w (fun e w' => e = .returned (.bool (l.any fun e => !e.known)) ∧ Below w.heap.size w w') := by
  rcases h.1.2 with ⟨rfl, h0⟩ | ⟨g, cap, cur, rfl, hbase, hb, h1, h2, h3, h4⟩
  · obtain rfl : l = [] := List.eq_nil_of_length_eq_zero h0
    exact (cont_nil w).mono fun e w' ⟨h1, h2⟩ => ⟨h1, by rw [h2]; exact Below.refl _ _⟩
  · have hgl : g < w.heap.size := (Array.getElem?_eq_some_iff.1 hb).1
    have eg : ∀ args w, (callFunc 19 args).run Tryz.prog w = .ok (.enter 19 args) w := enters_of Tryz.func19 (by kernel_rfl) rfl
    have hcon := AnyQ.slices_ContainsFunc Tryz.contF 5 Tryz.isAgg34 Tryz.sizeOf34 effC (fun _ => rfl) (fun e => !e.known) 19 #[] eg g 0 l.length cap l w (lit_known w) (Nat.le_refl _) (by unfold maxLen at h2; omega) hgl (fun j hj i v hi => by
      have hi5 : i < 5 := by
        have : i < (effC l[j]!).length := by
          rcases Nat.lt_or_ge i (effC l[j]!).length with h | h
          · exact h
          · rw [List.getElem?_eq_none h] at hi; cases hi
        exact this
      have he := effs_cell h.1 j i hj hi5
      have hj2 : l[j]! = l[j] := getElem!_pos l j hj
      rw [hj2] at hi
      rw [Nat.zero_add, he]
      exact hi)
    rw [List.take_length] at hcon
    exact hcon
set_option maxHeartbeats 4000000 in
theorem needs_walk (T : ByteArray) (hT : T.size ≤ 60000) (w : World) (hG : Ground w) : Calls Tryz.prog 10 #[.string T] w (fun e w' => e = .returned (if (readAll env T.data.toList rd0).loose || isBad (readAll env T.data.toList rd0) then .tuple #[.int .i64 0, .bool false, .int .i64 0] else .tuple #[.int .i64 ((readAll env T.data.toList rd0).needs : Int), .bool true, .int .i64 0]) ∧ Kept Nob w w') := by
  have haw := all_walk T hT w hG
  obtain ⟨R, hR⟩ : ∃ R, readAll env T.data.toList rd0 = R := ⟨_, rfl⟩
  rw [hR] at haw ⊢
  have hcw := fun v w1 F (h : (RowK 34 5 v R.list.length (effsC R.list)).holds w1 F) => cont_walk v R.list w1 h
  obtain ⟨b, hb⟩ : ∃ b, (R.list.any fun e => !e.known) = b := ⟨_, rfl⟩
  have hbb : isBad R = b := hb
  rw [hbb]
  simp only [hb] at hcw
  obtain ⟨lo, hlo⟩ : ∃ lo, R.loose = lo := ⟨_, rfl⟩
  rw [hlo]
  obtain ⟨nd, hnd⟩ : ∃ nd : Nat, R.needs = nd := ⟨_, rfl⟩
  rw [hnd]
  have hon0 := On.nob w
  clear hG hR hb hbb
  replace haw := Lib.hid haw
  replace hcw := Lib.hid hcw
  replace hon0 := Lib.hid hon0
  replace hlo := Lib.hid hlo
  replace hnd := Lib.hid hnd
  go_enter Tryz.func10, Tryz.ntmps10
  go_wp2_with fail
  refine (hon0.out.makeA haw.out).mono ?_
  rintro e w1 ⟨v, A', ⟨g, gk, bt, rfl, rfl⟩, rfl, hon1⟩
  obtain ⟨gs, vl, bl, bsp, bw, vo, hon2⟩ := RdA.opened hon1.headA
  obtain ⟨_, hB⟩ := hon2.firstA
  have c1 := hB.1.cell 1
  have c4 := hB.1.cell 4
  have c5 := hB.1.cell 5
  simp [rdC] at c1 c4 c5
  rw [hlo.out] at c4
  rw [hnd.out] at c5
  have hg := hB.1.lt
  clear hon1 hB
  have hon3 := On.headA (On.pullA (A := RowK 34 5 vl R.list.length (effsC R.list)) (L2 := [MapG 9 intE bl R.list.length (latF R.list), SpkA bsp R.spoken, MapG 3 intE bw R.wild.length (wildF R.wild), OpenA vo R.open_, TabA bt env.tab, KerA (some gk) env]) [BlkA g 46 (rdC (some gk) R bt gs vl bl bsp bw vo), SrcA gs T R.at_] hon2)
  clear hon2
  obtain ⟨F', hrow, hk1, _⟩ := hon3
  have hcc := hcw.out _ _ _ hrow
  clear hrow
  replace hk1 := Lib.hid hk1
  replace hcc := Lib.hid hcc
  replace hg := Lib.hid hg
  cases lo
  · go_wp2_with fail
    refine hcc.out.mono ?_
    rintro e w2 ⟨rfl, hbel⟩
    have d5 := (hbel.cell (p := ⟨g, 5, none⟩) hg.out).trans c5
    have hk2 := Lib.hid (hk1.out.trans (Kept.ofBelow0 hbel))
    clear hbel c1 c4 c5
    cases b
    · go_wp2_with fail
      go_ret3
      exact ⟨rfl, hk2.out⟩
    · go_wp2_with fail
      go_ret3
      exact ⟨rfl, hk2.out⟩
  · go_wp2_with fail
    go_ret3
    exact ⟨rfl, hk1.out⟩
end Look
end Go.Proofs.YthejfkkmcbdlhaaGreatDoor
/- Chapter 19: Words: the kernel's words that a text speaks of, rising. Conditions: the program's tables lie as their initialisers lay them. -/
namespace Go.Proofs.YthejfkkmcbdlhaaGreatDoor
set_option linter.unusedVariables false
set_option maxRecDepth 100000
open Go.RowKit Go.Lib Go.Sort
namespace Look
/-- a loop over the words that were spoken of -/
def RngA (b r n : Nat) (D : Dt) (left : Lit → Bool) (cnt : Nat) : Asr where
  holds w F := w.ranges Tryz.prog 9 intE b r n D left cnt ∧ ∀ k, F k ↔ (k = b ∨ k = r)
  lt h hk := by
    rcases (h.2 _).1 hk with rfl | rfl
    · exact h.1.owns.lt
    · exact h.1.lt
  kept h hk hT := by
    obtain ⟨h, hF⟩ := h
    refine ⟨?_, hF⟩
    have h1 := h.owns.lt
    have h2 := h.lt
    obtain ⟨es, clock, since, seen, c0, hb, X, hs, hD, hr, rest⟩ := h
    exact ⟨es, clock, since, seen, c0, (hk.block _ h1 (hT _ ((hF _).2 (.inl rfl)))).trans hb, X, hs, hD, (hk.block _ h2 (hT _ ((hF _).2 (.inr rfl)))).trans hr, rest⟩
theorem cmp_reads (blk off size : Nat) (w : World) : CmpReads Tryz.prog 16 #[] encStr cb blk off size w :=
  fun m os dk hs (x y : List UInt8) => (Tryz.strings_Compare ⟨x.toArray⟩ ⟨y.toArray⟩ _).mono fun e w' ⟨h1, h2⟩ => ⟨h1, 0, by rw [h2]; rfl⟩
theorem ins_nil (w : World) : Calls Tryz.prog 36 #[.slice none 0 0, .int .i64 0, .int .i64 0, .func (.func 16) #[] #[]] w (Same (.tuple #[]) w) := by
  go_enter Tryz.func36, Tryz.ntmps36
  go_wp2
  go_loopw [8] (fun i wr => i = .int .i64 1 ∧ wr = w) (fun _ _ => 0)
  case atStart => exact ⟨rfl, rfl⟩
  case round =>
    obtain ⟨rfl, rfl⟩ := hrel
    go_wp2
    go_end0
    exact ⟨rfl, rfl⟩
theorem pdq_nil (l : Int) (w : World) : Calls Tryz.prog 24 #[.slice none 0 0, .int .i64 0, .int .i64 0, .int .i64 l, .func (.func 16) #[] #[]] w (Same (.tuple #[]) w) := by
  have hi := ins_nil
  replace hi := Lib.hid hi
  go_enter Tryz.func24, Tryz.ntmps24
  go_wp2_with fail
  go_loopw [1, 2] (fun a b wr => a = .int .i64 0 ∧ b = .int .i64 0 ∧ wr = w) (fun _ _ _ => 0)
  case atStart => exact ⟨rfl, rfl, rfl⟩
  case round =>
    obtain ⟨rfl, rfl, rfl⟩ := hrel
    go_wp2_with fail
    refine (hi.out _).mono ?_
    rintro e w1 ⟨rfl, rfl⟩
    go_wp2_with fail
    go_end0
    exact ⟨rfl, rfl⟩
theorem sort_nil (w : World) : Calls Tryz.prog 15 #[.slice none 0 0, .func (.func 16) #[] #[]] w (Same (.tuple #[]) w) := by
  have hp := pdq_nil
  have hl := fun w => Tryz.bits_Len 0 w (by omega) (by omega)
  replace hp := Lib.hid hp
  replace hl := Lib.hid hl
  go_enter Tryz.func15, Tryz.ntmps15
  go_wp2_with fail
  refine (hl.out _).mono ?_
  rintro e w1 ⟨rfl, rfl⟩
  go_wp2_with fail
  refine (hp.out _ _).mono ?_
  rintro e w1 ⟨rfl, rfl⟩
  go_wp2_with fail
  go_end0
  exact ⟨rfl, rfl⟩
theorem sort_walk (v : Value) (ss sp : List (List UInt8)) (h12 : ss.length ≤ 1000000) (hn : ss.Nodup) (hm : ∀ k, k ∈ ss ↔ k ∈ sp) (w : World) {F : Nat → Prop} (h : (RowS v ss).holds w F) : Calls Tryz.prog 15 #[v, .func (.func 16) #[] #[]] w (fun e w' => e = .returned (.tuple #[]) ∧ ∃ ws, IsWords ws sp ∧ On F w (RowS v ws) w') := by
  have hh := h
  rcases h.1.2 with ⟨rfl, h0⟩ | ⟨g, cap, cur, rfl, hbase, hb, h1, h2, h3, h4⟩
  · obtain rfl : ss = [] := List.eq_nil_of_length_eq_zero h0
    exact (sort_nil w).mono fun e w' ⟨a, b⟩ => ⟨a, [], ⟨hm, List.Pairwise.nil⟩, by rw [b]; exact On.refl hh⟩
  · have eg : ∀ args w, (callFunc 16 args).run Tryz.prog w = .ok (.enter 16 args) w := enters_of Tryz.func16 (by kernel_rfl) rfl
    have hH : Holds encStr w g 0 ss.toArray := holds_of_block hb (by simpa [strsC, encStr] using h4)
    have hlt : g < w.heap.size := (hh.1.lt g rfl).2
    have hcon := Any.slices_SortFunc Tryz.sortF encStr (fun _ => rfl) cb cb_swo 16 #[] g 0 cap ss.toArray w eg (CmpReads.lays (cmp_reads g 0 ss.toArray.size w)) hH hlt (by rw [List.size_toArray]; omega)
    refine hcon.mono ?_
    rintro e w' ⟨rfl, d', n, os, hp, hs, rfl⟩
    have hw := words_sorted hp hs (by simpa using hn) (fun k => by simpa using hm k)
    have hl : d'.toList.length = ss.length := by have := hp.1; simpa using this
    refine ⟨rfl, d'.toList, hw, ?_⟩
    have e1 : sortWorld encStr w g 0 n d' os = grow (putRow encStr (Sort.ahead w n) g 0 d') os := rfl
    rw [e1]
    have hro := ownsRow_sorted (n := n) (os := os) (ts := d'.toList) hl hbase hb h1 h2 h3
    have hg := grownBy_sorted (w := w) (g := g) (n := n) (os := os) d'
    have e2 : d'.toList.toArray = d' := by simp
    rw [e2] at hro
    refine ⟨F, ⟨?_, hh.2⟩, ?_, fun k hk => .inl hk⟩
    · show World.ownsRow _ 0 _ 1 _ d'.toList.length (strsC d'.toList)
      rw [hl]
      exact hro
    · exact (Kept.refl F w).grown hg (fun k hk => by cases hk; exact .inl ((hh.2 _).2 rfl))
theorem ranges_le {w : World} {b r n : Nat} {D : Dt} {left : Lit → Bool} {cnt : Nat} (h : w.ranges Tryz.prog 9 intE b r n D left cnt) : cnt ≤ n := by
  obtain ⟨es, clock, since, seen, c0, _, _, hs, _, _, _, hc, _⟩ := h
  rw [← hc]
  unfold leftOf
  exact Nat.le_trans Array.size_filter_le hs
theorem same_string (k x : List UInt8) : (Lit.string k).sameKey (.string x) = decide (k = x) := by
  show (k == x) = _
  rw [Bool.eq_iff_iff, beq_iff_eq, decide_eq_true_eq]
theorem collect_step {spoken done : List (List UInt8)} {left : Lit → Bool} {x : List UInt8} (hnd : done.Nodup) (hmem : ∀ k, k ∈ done ↔ (k ∈ spoken ∧ left (.string k) = false)) (hleft : ∀ k, left (.string k) = true → k ∈ spoken) (hx : left (.string x) = true) :
    (done ++ [x]).Nodup ∧ (∀ k, k ∈ done ++ [x] ↔ (k ∈ spoken ∧ (left (.string k) && !(Lit.string k).sameKey (.string x)) = false)) ∧ (∀ k, (left (.string k) && !(Lit.string k).sameKey (.string x)) = true → k ∈ spoken) := by
  have hxd : x ∉ done := fun h => by have := ((hmem x).1 h).2; rw [hx] at this; cases this
  refine ⟨?_, fun k => ?_, fun k h => ?_⟩
  · rw [List.nodup_append]
    refine ⟨hnd, by simp, fun a ha b hb => ?_⟩
    rw [List.mem_singleton] at hb
    subst hb
    rintro rfl
    exact hxd ha
  · rw [same_string, List.mem_append, List.mem_singleton]
    by_cases hk : k = x
    · subst hk
      simp [hleft k hx]
    · simp [hk, hmem k]
  · rw [Bool.and_eq_true] at h
    exact hleft k h.1
set_option maxHeartbeats 8000000 in
theorem words_walk (T : ByteArray) (hT : T.size ≤ 60000) (w : World) (hG : Ground w) : Calls Tryz.prog 8 #[.string T] w (Post (fun u B => ∃ v ws, u = .tuple #[v, .int .i64 0] ∧ B = RowS v ws ∧ IsWords ws (readAll env T.data.toList rd0).spoken) Nob w) := by
  have haw := all_walk T hT w hG
  have hsl := spoken_len env T.data.toList
  have htl : T.data.toList.length = T.size := by rw [Lib.size_eq]
  obtain ⟨R, hR⟩ : ∃ R, readAll env T.data.toList rd0 = R := ⟨_, rfl⟩
  rw [hR] at haw hsl ⊢
  obtain ⟨N, hN⟩ : ∃ N, R.spoken.length = N := ⟨_, rfl⟩
  have hN2 : N ≤ 120002 := by omega
  obtain ⟨i0, hi, hz0, hz1, hz2⟩ := info_parts info_str
  have hon0 := On.nob w
  clear hG hR hsl htl
  replace hi := Lib.hid hi
  replace hz0 := Lib.hid hz0
  replace hz1 := Lib.hid hz1
  replace hz2 := Lib.hid hz2
  replace haw := Lib.hid haw
  replace hon0 := Lib.hid hon0
  replace hN := Lib.hid hN
  replace hN2 := Lib.hid hN2
  go_enter Tryz.func8, Tryz.ntmps8
  go_wp2_with fail
  refine (hon0.out.makeA haw.out).mono ?_
  rintro e w1 ⟨v, A', ⟨g, gk, bt, rfl, rfl⟩, rfl, hon1⟩
  obtain ⟨gs, vl, bl, bsp, bw, vo, hon2⟩ := RdA.opened hon1.headA
  obtain ⟨_, hB⟩ := hon2.firstA
  have c3 := hB.1.cell 3
  simp [rdC] at c3
  clear hon1 hB
  have hon3 := On.headA (On.pullA (A := SpkA bsp R.spoken) (L2 := [MapG 3 intE bw R.wild.length (wildF R.wild), OpenA vo R.open_, TabA bt env.tab, KerA (some gk) env]) [BlkA g 46 (rdC (some gk) R bt gs vl bl bsp bw vo), SrcA gs T R.at_, RowK 34 5 vl R.list.length (effsC R.list), MapG 9 intE bl R.list.length (latF R.list)] hon2)
  clear hon2
  obtain ⟨F1, ⟨f, ⟨⟨D, hown, hrd⟩, hF1⟩, hkeys⟩, hk1, hF1n⟩ := hon3
  rw [hN.out] at hown
  have hbsp : w.heap.size ≤ bsp := by
    rcases hF1n bsp ((hF1 bsp).2 rfl) with h | h
    · exact h.elim
    · exact h
  have hhas : ∀ l, Maps.has D (.string l) = decide (l ∈ R.spoken) := fun l => by rw [(hrd _).1, hkeys]
  clear hrd hkeys hF1 hF1n
  replace hown := Lib.hid hown
  replace hhas := Lib.hid hhas
  replace hk1 := Lib.hid hk1
  replace hbsp := Lib.hid hbsp
  go_wp2_with (at_range; refine wpList_range_own _ rfl _ 41 rfl 9 3 strK Tryz.underlying41 intE bsp N D rfl hown.out ?_; intro w0 hrg0 hg0 hs0)
  go_frame
  have hon4 : On Nob w (AllA [RowS (.slice none 0 0) [], RngA bsp w1.heap.size N D (Maps.has D) (Maps.size D)]) w0 := by
    refine On.addA (A := RowS (.slice none 0 0) []) (On.one ⟨fun k => k = bsp ∨ k = w1.heap.size, ⟨hrg0, fun _ => Iff.rfl⟩, hk1.out.grown hg0 (fun k hk => by cases hk), fun k hk => .inr ?_⟩) ⟨World.ownsRow_nil w0 0 _ 1, fun k => by simp [Value.ownBlock]⟩
    rcases hk with rfl | rfl
    · exact hbsp.out
    · exact hk1.out.size
  have hcnt0 := ranges_le hrg0
  obtain ⟨r, hr⟩ : ∃ r, w1.heap.size = r := ⟨_, rfl⟩
  rw [hr] at hon4
  have hon4' : On Nob w (AllA [RowS (.slice none 0 0) [], RngA bsp r N D (Maps.has D) (Maps.size D)]) w0 := hon4
  clear hon4 hrg0 hg0 hs0 c3
  simp only [hr]
  replace hr := Lib.hid hr
  replace hon4' := Lib.hid hon4'
  replace hcnt0 := Lib.hid hcnt0
  go_loopw [6] (fun l wr => ∃ (done : List (List UInt8)) (left : Lit → Bool) (cnt : Nat), On Nob w (AllA [RowS l done, RngA bsp r N D left cnt]) wr ∧ done.Nodup ∧ (∀ k, k ∈ done ↔ (k ∈ R.spoken ∧ left (.string k) = false)) ∧ (∀ k, left (.string k) = true → k ∈ R.spoken) ∧ done.length + cnt ≤ N) (fun _ wr => wr.rangeLeft bsp r)
  case atStart => exact ⟨[], Maps.has D, Maps.size D, hon4'.out, List.nodup_nil, fun k => by rw [hhas.out k]; simp, fun k h => by rw [hhas.out k] at h; simpa using h, by have := hcnt0.out; simpa using this⟩
  case round =>
    obtain ⟨done, left, cnt, hon, hnd, hmem, hleft, hcount⟩ := hrel
    obtain ⟨_, hR0⟩ := hon.swapA.firstA
    have hrg := hR0.1
    have hm0 : wr.rangeLeft bsp r = cnt := hrg.left_eq
    clear hR0 hon4'
    replace hon := Lib.hid hon
    replace hnd := Lib.hid hnd
    replace hmem := Lib.hid hmem
    replace hleft := Lib.hid hleft
    replace hcount := Lib.hid hcount
    replace hrg := Lib.hid hrg
    replace hm0 := Lib.hid hm0
    go_wp2_with (at_next; refine wpList_next_ranges _ rfl _ rfl 9 strK intE (fun x : List UInt8 => Value.string ⟨x.toArray⟩) (Value.int .i64) (fun key kl h => by obtain ⟨x, hx, _⟩ := Maps.keyOf_str Tryz.underlying9 h; exact ⟨x, hx⟩) (fun v y hv => by obtain ⟨d, ps⟩ := y; exact intE_any hv) bsp r N D left cnt rfl hrg.out ?_ ?_)
    · intro hc0 hl0
      have hmem2 : ∀ k, k ∈ done ↔ k ∈ R.spoken := fun k => by rw [hmem.out k, hl0]; simp
      have hlen : done.length ≤ 1000000 := by have := hcount.out; have := hN2.out; omega
      obtain ⟨F2, hrow, hk2, hF2⟩ := hon.out.headA
      have hso := sort_walk u6 done R.spoken hlen hnd.out hmem2 wr hrow
      have hfin : ∀ ws w', On F2 wr (RowS u6 ws) w' → On Nob w (RowS u6 ws) w' := by
        rintro ws w' ⟨F3, h3, hk3, hF3⟩
        refine ⟨F3, h3, hk2.trans' hk3 hF2, fun k hk => ?_⟩
        rcases hF3 k hk with h4 | h4
        · exact hF2 k h4
        · exact .inr (Nat.le_trans hk2.size h4)
      replace hso := Lib.hid hso
      replace hfin := Lib.hid hfin
      clear hrow hk2 hF2 hl0
      go_wp2_with fail
      refine hso.out.mono ?_
      rintro e w2 ⟨rfl, ws, hws, hon5⟩
      replace hon5 := Lib.hid hon5
      replace hws := Lib.hid hws
      go_wp2_with fail
      go_ret2
      exact (hfin.out _ _ hon5.out).post ⟨_, ws, rfl, rfl, hws.out⟩
    · intro x c kl y1 y2 w2 cnt2 hkey hlk hv hat hrg2 hlt2 hg2 hs2 hen
      obtain ⟨x', ex, hkl, _⟩ := Maps.keyOf_str Tryz.underlying9 hkey
      have hxx : x' = x := (encStr_inj ex).symm
      subst hxx
      subst hkl
      have hcs := collect_step hnd.out hmem.out hleft.out hlk
      have hon2 := (hon.out.swapA.stepA (A' := RngA bsp r N D (fun z => left z && !z.sameKey (.string x')) cnt2) (w'' := w2) (fun F' h' => ⟨F', ⟨hrg2, h'.2⟩, (Kept.refl F' wr).grown hg2 (fun k hk => by cases hk; exact .inl ((h'.2 _).2 (.inr rfl))), fun k hk => .inl hk⟩)).swapA
      obtain ⟨_, hr1⟩ := hon2.firstA
      have hn1 : done.length + 1 ≤ maxLen ∧ (done.length + 1) * 16 ≤ 140737488355328 := by have := hcount.out; have := hN2.out; unfold maxLen; omega
      have hcount2 : done.length + 1 + cnt2 ≤ N := by have := hcount.out; omega
      clear hkey hlk hv hat hrg2 hg2 hs2 ex
      replace hon2 := Lib.hid hon2
      replace hr1 := Lib.hid hr1
      replace hn1 := Lib.hid hn1
      replace hcs := Lib.hid hcs
      replace hcount2 := Lib.hid hcount2
      replace hlt2 := Lib.hid hlt2
      go_wp2_with (at_builtin; refine wpList_append_lies _ rfl (.tmp 25) (.tmp 27) 23 rfl 0 9 i0 (.string ⟨#[]⟩) 1 16 Tryz.underlying23 hi.out hz0.out hz1.out hz2.out rfl (by omega) u6 done.length (strsC done) rfl (hr1.out.1.alloc _) ⟨w2.heap.size, 0, none⟩ 1 1 [.string ⟨x'.toArray⟩] rfl rfl (str_news (Blk.new w2 _ _)) (str_one _) (by omega) hn1.out.1 hn1.out.2 (by omega) _ rfl ?_; intro sg cap w5 hG hgrow hat hlt1; have hon5 := hon2.out.stepA (A' := RowK 9 1 (.slice (some ⟨sg, 0, none⟩) (done.length + 1) cap) (done.length + 1) (strsC done ++ [.string ⟨x'.toArray⟩])) (w'' := w5) (fun F' h' => RowK.grew h' ((Kept.refl Nob w2).alloc _) hgrow hG (grew_at hat)); clear hG hgrow hat hlt1; replace hon5 := Lib.hid hon5)
      go_roundw
      case rel =>
        have q1 : RowS (.slice (some ⟨sg, 0, none⟩) (done.length + 1) cap) (done ++ [x']) = RowK 9 1 (.slice (some ⟨sg, 0, none⟩) (done.length + 1) cap) (done.length + 1) (strsC done ++ [.string ⟨x'.toArray⟩]) := by
          unfold RowS strsC
          rw [List.length_append, List.map_append]
          rfl
        exact ⟨done ++ [x'], _, cnt2, by rw [q1]; exact hon5.out, hcs.out.1, hcs.out.2.1, hcs.out.2.2, by rw [List.length_append]; exact hcount2.out⟩
      case measure =>
        obtain ⟨_, hR5⟩ := hon5.out.swapA.firstA
        rw [hR5.1.left_eq, hm0.out]
        exact hlt2.out
end Look
end Go.Proofs.YthejfkkmcbdlhaaGreatDoor
