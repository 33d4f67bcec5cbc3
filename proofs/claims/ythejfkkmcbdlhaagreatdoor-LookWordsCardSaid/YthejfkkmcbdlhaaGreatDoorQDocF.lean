/- The document's reader as an object in memory: its struct, its words' names, what it speaks of, what is open. Plain lemmas. -/
import Derived.Test.YthejfkkmcbdlhaaGreatDoorQDocC
import Derived.Test.YthejfkkmcbdlhaaGreatDoorQDocA
import Derived.Test.YthejfkkmcbdlhaaGreatDoorQSpec
import Derived.BigRegion
import Derived.Test.YthejfkkmcbdlhaaGreatDoorQDocE
namespace Go.Proofs.YthejfkkmcbdlhaaGreatDoor
set_option linter.unusedVariables false
set_option maxRecDepth 100000
open Go.RowKit Go.Lib
namespace Look
structure DEff where
  name : List UInt8
  i : Int
  o : Int
  k : Bool
  d : Int
  b : Bool
def dEffC (e : DEff) : List Value := [.string ⟨e.name.toArray⟩, .int .i64 e.i, .int .i64 e.o, .bool e.k, .int .i64 e.d, .bool e.b]
theorem flat_len {α : Type} (f : α → List Value) (k : Nat) (hf : ∀ a, (f a).length = k) (l : List α) : (l.flatMap f).length = l.length * k := by
  induction l with
  | nil => simp
  | cons o l ih => rw [List.flatMap_cons, List.length_append, ih, hf, List.length_cons, Nat.add_mul]; omega
theorem flat_at {α : Type} (f : α → List Value) (k : Nat) (hf : ∀ a, (f a).length = k) : ∀ (l : List α) (i j : Nat) (hi : i < l.length) (hj : j < k), (l.flatMap f)[i * k + j]? = (f (l[i]))[j]?
  | [], _, _, h, _ => by simp at h
  | o :: l, 0, j, _, hj => by
    rw [List.flatMap_cons, List.getElem?_append_left (by rw [hf]; omega)]
    simp
  | o :: l, i + 1, j, h, hj => by
    have ih := flat_at f k hf l i j (by simpa using h) hj
    rw [List.flatMap_cons, List.getElem?_append_right (by rw [hf, Nat.add_mul]; omega), hf, show (i + 1) * k + j - k = i * k + j by rw [Nat.add_mul]; omega, ih]
    simp
theorem dEff_len (e : DEff) : (dEffC e).length = 6 := rfl
theorem deffs_cell {w : World} {e : TypeId} {l : List DEff} {sg n cap : Nat} (h : w.ownsRow 0 e 6 (.slice (some ⟨sg, 0, none⟩) n cap) l.length (l.flatMap dEffC)) (i j : Nat) (hi : i < l.length) (hj : j < 6) : w.cell? ⟨sg, i * 6 + j, none⟩ = (dEffC (l[i]))[j]? := by
  have he := flat_at dEffC 6 dEff_len l i j hi hj
  have hl : j < (dEffC l[i]).length := hj
  rw [List.getElem?_eq_getElem hl] at he ⊢
  have := h.cells (g := sg) rfl (i * 6 + j) _ he
  rw [← this]
  unfold Addr.add
  split <;> simp_all
/-- a row of effects, known by their names alone -/
def EffsN (v : Value) (nms : List (List UInt8)) : Asr where
  holds w F := ∃ l : List DEff, l.map (·.name) = nms ∧ (RowK 87 6 v l.length (l.flatMap dEffC)).holds w F
  lt := by rintro w F k ⟨l, _, h⟩ hk; exact (RowK _ 6 v _ _).lt h hk
  kept := by rintro w w' F T ⟨l, e, h⟩ hk hT; exact ⟨l, e, (RowK _ 6 v _ _).kept h hk hT⟩
/-- what is open -/
def OpenD (v : Value) (o : Option (List UInt8 × List Open)) : Asr where
  holds w F := match o with
    | none => v = .pointer none ∧ ∀ k, ¬ F k
    | some (nm, l) => ∃ gd vs, v = .pointer (some ⟨gd, 0, none⟩) ∧ (DdB gd nm l vs).holds w F
  lt := by
    intro w F k h hk
    rcases o with _ | ⟨nm, l⟩
    · exact (h.2 k hk).elim
    · obtain ⟨gd, vs, _, h⟩ := h; exact (DdB gd nm l vs).lt h hk
  kept := by
    intro w w' F T h hk hT
    rcases o with _ | ⟨nm, l⟩
    · exact h
    · obtain ⟨gd, vs, h1, h⟩ := h; exact ⟨gd, vs, h1, (DdB gd nm l vs).kept h hk hT⟩
structure Tx where
  at_ : Nat
  own : List (List UInt8)
  sp : List (List UInt8)
  op : Option (List UInt8 × List Open)
def txC (T : ByteArray) (a : Nat) (vo vs : Value) (lo : Bool) (nd : Int) (vr vp : Value) : Array Value := #[.string T, .int .i64 (a : Int), vo, vs, .bool lo, .int .i64 nd, vr, vp]
def txL (g : Nat) (T : ByteArray) (src : List (List UInt8)) (x : Tx) (vo vs : Value) (lo : Bool) (nd : Int) (vr vp : Value) : List Asr :=
  [BlkA g 55 (txC T x.at_ vo vs lo nd vr vp), EffsN vo x.own, RowS vs x.sp, EffsN vr src, OpenD vp x.op]
/-- a word is spoken of -/
def spk (sp : List (List UInt8)) (k : Nat) (nm : List UInt8) : List (List UInt8) := if (k = 1 ∨ k = 2 ∨ k = 3) ∧ nm ∉ sp then sp ++ [nm] else sp
/-- what a word reads on: where the text is read then, does it go on, the name -/
def onAt (T : List UInt8) (a : Nat) (o : Bool) (k n : Nat) : Nat × Bool × List UInt8 := match passes T a ⟨k, n, []⟩ with
  | none => (a, false, [])
  | some i => if named o ⟨k, n, []⟩ then (wordEnd T i, decide (wordAt T i ≠ []), wordAt T i) else (i, true, [])
/-- does it speak of a second word? -/
def two (o : Bool) (k n : Nat) : Bool := decide (k = 2) && (decide (n = 7) && !o || decide (n = 8) && o)
def outX (x : Tx) (k n : Nat) (name : List UInt8) : Tx :=
  if k = 1 ∧ n = 85 ∨ k = 2 ∧ (n = 13 ∨ n = 14) then { x with own := x.own ++ [name] }
  else if k = 2 ∧ n = 1 then { x with op := some (name, []) }
  else x
/-- THE DOCUMENT'S READER -/
def TextA (g : Nat) (T : ByteArray) (src : List (List UInt8)) (x : Tx) : Asr where
  holds w F := ∃ vo vs lo nd vr vp, All (txL g T src x vo vs lo nd vr vp) w F
  lt := by rintro w F k ⟨vo, vs, lo, nd, vr, vp, h⟩ hk; exact All.lt h hk
  kept := by rintro w w' F T' ⟨vo, vs, lo, nd, vr, vp, h⟩ hk hT; exact ⟨vo, vs, lo, nd, vr, vp, h.kept hk hT⟩
theorem All.openLast {X : Asr} {w : World} : ∀ {L1 : List Asr} {F : Nat → Prop}, All (L1 ++ [X]) w F → ∃ F', X.holds w F' ∧ ∀ L2, All L2 w F' → All (L1 ++ L2) w F
  | [], F, ⟨F1, F2, h1, h2, hd, hF⟩ => ⟨F1, h1, fun L2 h => All.congrF h fun k => (hF k).trans ⟨fun h => h.elim id (fun h => (h2 k h).elim), .inl⟩⟩
  | A :: L1, F, ⟨F1, F2, h1, h2, hd, hF⟩ => by
    obtain ⟨F', hx, hr⟩ := All.openLast (L1 := L1) h2
    exact ⟨F', hx, fun L2 h => ⟨F1, F2, h1, hr L2 h, hd, hF⟩⟩
theorem All.closeLast {X : Asr} {L2 : List Asr} {w : World} (hX : ∀ F, All L2 w F → X.holds w F) : ∀ (L1 : List Asr) {F : Nat → Prop}, All (L1 ++ L2) w F → All (L1 ++ [X]) w F
  | [], F, h => All.one (hX F h)
  | A :: L1, F, ⟨F1, F2, h1, h2, hd, hF⟩ => ⟨F1, F2, h1, All.closeLast hX L1 h2, hd, hF⟩
theorem TextA.openL {g : Nat} {T : ByteArray} {src : List (List UInt8)} {x : Tx} {w w' : World} {F : Nat → Prop} (L1 : List Asr) (h : On F w (AllA (L1 ++ [TextA g T src x])) w') : ∃ vo vs lo nd vr vp, On F w (AllA (L1 ++ txL g T src x vo vs lo nd vr vp)) w' := by
  obtain ⟨F', ha, hk, hF⟩ := h
  obtain ⟨F2, ⟨vo, vs, lo, nd, vr, vp, hx⟩, hr⟩ := All.openLast ha
  exact ⟨vo, vs, lo, nd, vr, vp, F', hr _ hx, hk, hF⟩
theorem TextA.closeL {g : Nat} {T : ByteArray} {src : List (List UInt8)} {x : Tx} {w w' : World} {F : Nat → Prop} (L1 : List Asr) {vo vs : Value} {lo : Bool} {nd : Int} {vr vp : Value} (h : On F w (AllA (L1 ++ txL g T src x vo vs lo nd vr vp)) w') : On F w (AllA (L1 ++ [TextA g T src x])) w' :=
  h.mono fun F' h => All.closeLast (X := TextA g T src x) (fun F (h : All (txL g T src x vo vs lo nd vr vp) w' F) => ⟨vo, vs, lo, nd, vr, vp, h⟩) L1 h
section
variable {g : Nat} {T : ByteArray} {src : List (List UInt8)} {x : Tx} {w w' : World} {F : Nat → Prop} {L : List Asr}
theorem TextA.opened (h : On F w (TextA g T src x) w') : ∃ vo vs lo nd vr vp, On F w (AllA (txL g T src x vo vs lo nd vr vp)) w' := by
  obtain ⟨F', ⟨vo, vs, lo, nd, vr, vp, h⟩, hk, hF⟩ := h
  exact ⟨vo, vs, lo, nd, vr, vp, F', h, hk, hF⟩
theorem TextA.close {vo vs : Value} {lo : Bool} {nd : Int} {vr vp : Value} (h : On F w (AllA (txL g T src x vo vs lo nd vr vp)) w') : On F w (TextA g T src x) w' :=
  h.mono fun F' h => ⟨vo, vs, lo, nd, vr, vp, h⟩
/-- a row of strings, for a loop over it -/
theorem rowS_loop {v : Value} {l : List (List UInt8)} (h : (RowS v l).holds w F) :
    l.length ≤ maxLen ∧ ∃ A cap, v = .slice A l.length cap ∧ ∀ (j : Nat) (hj : j < l.length), ∃ sg, A = some ⟨sg, 0, none⟩ ∧ w.cell? ⟨sg, j, none⟩ = some (.string ⟨(l[j]).toArray⟩) := by
  have hh := h
  rcases h.1.2 with ⟨rfl, h0⟩ | ⟨g, cap, cur, rfl, -, -, h1, h2, -⟩
  · exact ⟨by omega, none, 0, by rw [h0], fun j hj => by omega⟩
  · exact ⟨by omega, some ⟨g, 0, none⟩, cap, rfl, fun j hj => ⟨g, rfl, strs_at hh (List.getElem?_eq_getElem hj)⟩⟩
/-- a row of effects, for a loop over it -/
theorem effsN_loop {v : Value} {nms : List (List UInt8)} (h : (EffsN v nms).holds w F) :
    nms.length ≤ maxLen ∧ ∃ A cap, v = .slice A nms.length cap ∧ ∀ (j : Nat) (hj : j < nms.length), ∃ sg i o k d b, A = some ⟨sg, 0, none⟩ ∧ w.cell? ⟨sg, j * 6, none⟩ = some (.string ⟨(nms[j]).toArray⟩) ∧ w.cell? ⟨sg, j * 6 + 1, none⟩ = some (.int .i64 i) ∧ w.cell? ⟨sg, j * 6 + 2, none⟩ = some (.int .i64 o) ∧ w.cell? ⟨sg, j * 6 + 3, none⟩ = some (.bool k) ∧ w.cell? ⟨sg, j * 6 + 4, none⟩ = some (.int .i64 d) ∧ w.cell? ⟨sg, j * 6 + 5, none⟩ = some (.bool b) := by
  obtain ⟨l, rfl, h, hF⟩ := h
  have hh := h
  have hln : (l.map (·.name)).length = l.length := List.length_map _
  rcases h.2 with ⟨rfl, h0⟩ | ⟨g, cap, cur, rfl, -, -, h1, h2, -⟩
  · exact ⟨by omega, none, 0, by rw [hln, h0], fun j hj => by omega⟩
  · refine ⟨by omega, some ⟨g, 0, none⟩, cap, by rw [hln], fun j hj0 => ?_⟩
    have hj : j < l.length := by omega
    refine ⟨g, l[j].i, l[j].o, l[j].k, l[j].d, l[j].b, rfl, ?_⟩
    have e0 := deffs_cell hh j 0 hj (by omega)
    have e1 := deffs_cell hh j 1 hj (by omega)
    have e2 := deffs_cell hh j 2 hj (by omega)
    have e3 := deffs_cell hh j 3 hj (by omega)
    have e4 := deffs_cell hh j 4 hj (by omega)
    have e5 := deffs_cell hh j 5 hj (by omega)
    simp [dEffC] at e0 e1 e2 e3 e4 e5
    simp [e0, e1, e2, e3, e4, e5]
end
set_option maxHeartbeats 4000000 in
theorem t_word (g : Nat) (T : ByteArray) (hT : T.size ≤ 60000) (src : List (List UInt8)) (x : Tx) (hx : x.at_ ≤ T.size) (w : World) (F : Nat → Prop) (hb : (TextA g T src x).holds w F) :
    Calls Tryz.prog 48 #[.pointer (some ⟨g, 0, none⟩)] w (Post (fun u B => u = .string ⟨(wordAt T.data.toList x.at_).toArray⟩ ∧ B = TextA g T src { x with at_ := wordEnd T.data.toList x.at_ }) F w) := by
  have hwd := fun w => d_word T (by omega) x.at_ hx w
  rw [extract_word] at hwd
  obtain ⟨vo, vs, lo, nd, vr, vp, hon⟩ := TextA.opened (On.refl hb)
  have hB := hon.blkA
  have c0 := hB.cell 0
  have c1 := hB.cell 1
  have f1 := hB.frozen 1
  simp [txC] at c0 c1
  have hE : wordEnd T.data.toList x.at_ ≤ T.size := by
    have := wordEnd_le (T := T.data.toList) (i := x.at_) (by rw [← Lib.size_eq]; exact hx)
    rw [← Lib.size_eq] at this
    exact this
  obtain ⟨a, own, sp, op⟩ := x
  simp only at hwd hon c1 hE hx ⊢
  have hfin : ∀ m, On F w (TextA g T src ⟨wordEnd T.data.toList a, own, sp, op⟩) ((w.drewN m).setCell ⟨g, 1, none⟩ (.int .i64 (wordEnd T.data.toList a : Int))) := fun m => TextA.close (x := ⟨wordEnd T.data.toList a, own, sp, op⟩) ((hon.drewN m).setA 1 (.int .i64 (wordEnd T.data.toList a : Int)))
  generalize wordEnd T.data.toList a = E at *
  generalize wordAt T.data.toList a = S at *
  have hw : wrap64 ((a : Int) + ((E : Int) - (a : Int))) = (E : Int) := by unfold wrap64; omega
  clear hb hB hon hE hx hT
  replace hfin := Lib.hid hfin
  replace hwd := Lib.hid hwd
  replace hw := Lib.hid hw
  go_enter Tryz.func48, Tryz.ntmps48
  go_wp2_with fail
  go_quiet ((go_at_call 72; exact Calls.quiet_of_same (hwd.out _)))
  go_wp2_with fail
  go_ret
  rw [hw.out]
  exact (hfin.out _).post ⟨rfl, rfl⟩
end Look
end Go.Proofs.YthejfkkmcbdlhaaGreatDoor
/- The document's reader speaks of a word. Condition: fewer words were spoken of than a text has bytes. -/
namespace Go.Proofs.YthejfkkmcbdlhaaGreatDoor
set_option linter.unusedVariables false
set_option maxRecDepth 100000
open Go.RowKit Go.Lib
namespace Look
theorem Tx.sp_self (x : Tx) : ({ x with sp := x.sp } : Tx) = x := by cases x; rfl
theorem spk_no {sp : List (List UInt8)} {k : Nat} {nm : List UInt8} (h : ¬ (k = 1 ∨ k = 2 ∨ k = 3)) : spk sp k nm = sp := by unfold spk; rw [if_neg (fun h' => h h'.1)]
theorem spk_had {sp : List (List UInt8)} {k : Nat} {nm : List UInt8} (h : nm ∈ sp) : spk sp k nm = sp := by unfold spk; rw [if_neg (fun h' => h'.2 h)]
theorem spk_new {sp : List (List UInt8)} {k : Nat} {nm : List UInt8} (hk : k = 1 ∨ k = 2 ∨ k = 3) (h : nm ∉ sp) : spk sp k nm = sp ++ [nm] := by unfold spk; rw [if_pos ⟨hk, h⟩]
set_option maxHeartbeats 8000000 in
theorem t_speaks (g : Nat) (T : ByteArray) (src : List (List UInt8)) (x : Tx) (hn : x.sp.length ≤ 200000) (k n : Nat) (hk : k ≤ 5) (nm en : List UInt8) (i o : Int) (kn : Bool) (nd : Int) (lo : Bool) (w : World) (F : Nat → Prop) (hb : (TextA g T src x).holds w F) :
    Calls Tryz.prog 50 #[.pointer (some ⟨g, 0, none⟩), wdV k n nm en i o kn nd lo] w (Post (fun u B => u = .tuple #[] ∧ B = TextA g T src { x with sp := spk x.sp k nm }) F w) := by
  have hon1 := On.boxA (On.refl hb).one (wdC k n nm en i o kn nd lo) 89
  by_cases hk3 : k = 1 ∨ k = 2 ∨ k = 3
  · obtain ⟨w1, hw1⟩ : ∃ w1, w.alloc (.cells (wdC k n nm en i o kn nd lo) 89) = w1 := ⟨_, rfl⟩
    obtain ⟨bx, hbx⟩ : ∃ bx, w.heap.size = bx := ⟨_, rfl⟩
    rw [hw1, hbx] at hon1
    obtain ⟨vo, vs, loo, ndd, vr, vp, hon2⟩ := TextA.openL [_] hon1
    obtain ⟨_, hB⟩ := hon2.mem (A := BlkA g 55 (txC T x.at_ vo vs loo ndd vr vp)) (by simp [txL])
    obtain ⟨_, hS⟩ := hon2.mem (A := RowS vs x.sp) (by simp [txL])
    obtain ⟨hms, As, cs, rfl, hS2⟩ := rowS_loop hS
    have k3 := hB.1.cell 3
    have hX := hon2.blkA
    have x0 := hX.cell 0
    have x2 := hX.cell 2
    simp [txC] at k3
    unfold wdC at x0 x2
    simp at x0 x2
    have hgb : g ≠ bx := by
      obtain ⟨F1, F2, h1, h2, hd⟩ := On.apart (B := BlkA g 55 (txC T x.at_ vo (.slice As x.sp.length cs) loo ndd vr vp)) hon2 (by simp [txL])
      rintro rfl
      exact hd g ((h1.2 g).2 rfl) ((h2.2 g).2 rfl)
    obtain ⟨N, hN⟩ : ∃ N, x.sp.length = N := ⟨_, rfl⟩
    have hon2' : On F w (AllA [BlkA bx 89 (wdC k n nm en i o kn nd lo), BlkA g 55 (txC T x.at_ vo (.slice As N cs) loo ndd vr vp), EffsN vo x.own, RowS (.slice As N cs) x.sp, EffsN vr src, OpenD vp x.op]) w1 := by rw [← hN]; exact hon2
    obtain ⟨i0, hi, hz0, hz1, hz2⟩ := info_parts info_str
    replace hi := Lib.hid hi
    replace hz0 := Lib.hid hz0
    replace hz1 := Lib.hid hz1
    replace hz2 := Lib.hid hz2
    rw [hN] at k3 hms hn
    unfold maxLen at hms
    clear hB hS hX hon1 hon2
    have t1 : (((k : Int) != 1 && (k : Int) != 2) && (k : Int) != 3) = false := by
      rcases hk3 with rfl | rfl | rfl <;> rfl
    replace hon2 := Lib.hid hon2'
    clear hon2'
    replace hS2 := Lib.hid hS2
    replace hN := Lib.hid hN
    replace hk3 := Lib.hid hk3
    replace k3 := Lib.hid k3
    replace x2 := Lib.hid x2
    have e0 := x0
    rw [← hw1, ← hbx] at e0
    unfold wdV wdC at *
    clear hb
    have hkc : k = 1 ∨ k = 2 ∨ k = 3 := hk3.out
    rcases hkc with rfl | rfl | rfl
    all_goals
      go_enter Tryz.func50, Tryz.ntmps50
      go_wp2_with fail
      try simp only [hw1, hbx]
      clear e0
      replace hw1 := Lib.hid hw1
      replace hbx := Lib.hid hbx
      go_loopw [4] (fun i wr => ∃ j : Nat, j ≤ N ∧ i = .int .i64 (j : Int) ∧ Kept Nob w1 wr ∧ ∀ p (hp : p < x.sp.length), p < j → x.sp[p] ≠ nm) (fun i _ => N - (RowKit.intOf i).toNat)
      case atStart => exact ⟨0, by omega, rfl, by rw [← hw1.out]; exact Kept.refl _ _, fun p hp h => by omega⟩
      case round =>
        obtain ⟨j, hj, rfl, hk, hno⟩ := hrel
        have d3 := hk.cell k3.out id
        have d2 := hk.cell x2.out id
        have onr := hon2.out.keptNob hk
        by_cases hlt : j < N
        · have hjl : j < x.sp.length := by rw [hN.out]; exact hlt
          obtain ⟨sg, rfl, hc⟩ := hS2.out j hjl
          have p0 := hk.cell hc id
          clear hc
          obtain ⟨a, ha⟩ : ∃ a, x.sp[j] = a := ⟨_, rfl⟩
          rw [ha] at p0
          replace onr := Lib.hid onr
          replace hk := Lib.hid hk
          by_cases hsame : a = nm
          · subst hsame
            have hmem : a ∈ x.sp := by rw [← ha]; exact List.getElem_mem hjl
            replace hmem := Lib.hid hmem
            clear ha hno
            go_wp2_with fail
            go_quiet (fail)
            go_wp2_with fail
            go_end0
            exact (TextA.closeL [] ((onr.out.drewN _).tailA)).headA.post ⟨rfl, by rw [spk_had hmem.out]⟩
          · have hno2 : ∀ p (hp : p < x.sp.length), p < j + 1 → x.sp[p] ≠ nm := fun q hq h => by
              rcases Nat.lt_or_ge q j with h1 | h1
              · exact hno q hq h1
              · have : q = j := by omega
                subst this
                rw [ha]
                exact hsame
            have tq : (a == nm) = false := by rw [beq_eq_false_iff_ne]; exact hsame
            replace hsame := Lib.hid hsame
            replace hno := Lib.hid hno
            replace hno2 := Lib.hid hno2
            replace ha := Lib.hid ha
            go_wp2_with fail
            go_quiet (fail)
            go_wp2_with fail
            go_roundw
            case rel => exact ⟨j + 1, by omega, by go_num, hk.out.drewN _, hno2.out⟩
            case measure => simp [RowKit.intOf]; omega
        · obtain rfl : N = j := by omega
          have hnm : nm ∉ x.sp := fun hm => by
            obtain ⟨q, hq, rfl⟩ := List.mem_iff_getElem.1 hm
            exact hno q hq (by have := hN.out; omega) rfl
          clear hno hlt
          replace hnm := Lib.hid hnm
          replace hk := Lib.hid hk
          replace onr := Lib.hid onr
          obtain ⟨_, hB⟩ := onr.out.mem (A := BlkA g 55 (txC T x.at_ vo (.slice As N cs) loo ndd vr vp)) (by simp)
          obtain ⟨_, hR⟩ := onr.out.mem (A := RowS (.slice As N cs) x.sp) (by simp)
          have f3 := hB.1.frozen 3
          have hbl := hB.1.lt
          have hneg : (Value.slice As N cs).ownBlock ≠ some g := by
            obtain ⟨F1, F2, h1, h2, hd⟩ := On.apart (B := RowS (.slice As N cs) x.sp) onr.out.tailA (by simp)
            intro he
            exact hd g ((h1.2 g).2 rfl) ((h2.2 g).2 he)
          have hrow : wr.ownsRow 0 9 1 (.slice As N cs) N (strsC x.sp) := by rw [← hN.out]; rw [← hN.out] at hR; exact hR.1
          have hnlen : N + 1 ≤ maxLen ∧ (N + 1) * 16 ≤ 140737488355328 := by unfold maxLen; omega
          have hbk := hB.1
          clear hB hR
          replace hrow := Lib.hid hrow
          replace hnlen := Lib.hid hnlen
          replace hneg := Lib.hid hneg
          replace hbk := Lib.hid hbk
          go_wp2_with fail
          go_region_law ((refine step_append_lies _ rfl (.tmp 41) (.tmp 44) 23 rfl 0 9 i0 (.string ⟨#[]⟩) 1 16 ?_ ?_ ?_ ?_ ?_ ?_ ?_ (.slice As N cs) N (strsC x.sp) ?_ ?_ ⟨wr.heap.size, 0, none⟩ 1 1 [.string ⟨nm.toArray⟩] ?_ ?_ ?_ ?_ ?_ ?_ ?_ ?_ (wr.heap.size + 1) ?_ ?_; exact Tryz.underlying23; exact hi.out; exact hz0.out; exact hz1.out; exact hz2.out; rfl; omega; rfl; exact ownsRow_drew (hrow.out.alloc _); rfl; rfl; refine str_news (t := 9) ?_; refine Blk.drew (Blk.new' ?_); rfl; exact str_one _; omega; exact hnlen.out.1; exact hnlen.out.2; omega; simp; intro sg cap w5 hG hgrow hat hlt1; have hB1 := Blk.grown ((hbk.out.alloc _).drew) hgrow (fun e => hneg.out e.symm); have m3 := hB1.cell 3; have n3 := hB1.frozen 3; simp [txC] at m3))
          all_goals
            have hon5 := (On.pullA (A := RowS (.slice As N cs) x.sp) (L2 := [EffsN vr src, OpenD vp x.op]) [_, _, _] onr.out).stepA (A' := RowS (.slice (some ⟨sg, 0, none⟩) (N + 1) cap) (x.sp ++ [nm])) (w'' := w5) (fun F' h' => by
              have q1 : RowS (.slice (some ⟨sg, 0, none⟩) (N + 1) cap) (x.sp ++ [nm]) = RowK 9 1 (.slice (some ⟨sg, 0, none⟩) (N + 1) cap) (N + 1) (strsC x.sp ++ [.string ⟨nm.toArray⟩]) := by
                unfold RowS strsC
                rw [List.length_append, List.map_append, hN.out]
                rfl
              rw [q1]
              exact RowK.grew h' (((Kept.refl Nob wr).alloc _).drew) hgrow hG (grew_at hat))
            have hon6 := (On.pullA (A := BlkA g 55 (txC T x.at_ vo (.slice As N cs) loo ndd vr vp)) (L2 := [EffsN vo x.own, EffsN vr src, OpenD vp x.op]) [_, _] hon5).setA 3 (.slice (some ⟨sg, 0, none⟩) (N + 1) cap)
            clear hon5 hG hgrow hat hlt1 hB1 m3 n3
            replace hon6 := Lib.hid hon6
            go_wp2_with fail
            go_end0
            exact (TextA.close (x := { x with sp := x.sp ++ [nm] }) ((On.pullA (A := EffsN vo x.own) (L2 := [EffsN vr src, OpenD vp x.op]) [_, _] (On.pullA (A := BlkA bx 89 _) (L2 := [EffsN vo x.own, EffsN vr src, OpenD vp x.op]) [_, _] hon6.out).tailA).swapA)).post ⟨rfl, by rw [spk_new (by omega) hnm.out]⟩
  · have hsp : ({ x with sp := spk x.sp k nm } : Tx) = x := by rw [spk_no hk3]
    rw [hsp]
    unfold wdV wdC at *
    replace hon1 := Lib.hid hon1
    have hcases : k = 0 ∨ k = 4 ∨ k = 5 := by omega
    rcases hcases with rfl | rfl | rfl
    all_goals
      go_enter Tryz.func50, Tryz.ntmps50
      go_wp2_with fail
      go_end0
      exact hon1.out.tailA.headA.post ⟨rfl, rfl⟩
end Look
end Go.Proofs.YthejfkkmcbdlhaaGreatDoor
/- What a word of the document's text does outside a definition. Conditions: fewer words are own than a text has bytes. -/
namespace Go.Proofs.YthejfkkmcbdlhaaGreatDoor
set_option linter.unusedVariables false
set_option maxRecDepth 100000
open Go.RowKit Go.Lib
namespace Look
theorem info_deff : (Tryz.prog.info? 87).map (fun i => (i.zero, i.size, i.bytes)) = some (some (.agg #[.string ⟨#[]⟩, .int .i64 0, .int .i64 0, .bool false, .int .i64 0, .bool false]), 6, 56) := by kernel_rfl
theorem deff_one (e : DEff) : ∀ u ∈ dEffC e, u.oneCell' = true := by
  intro u hu
  unfold dEffC at hu
  simp at hu
  rcases hu with rfl | rfl | rfl | rfl | rfl | rfl <;> rfl
theorem deff_news {w : World} {B : Nat} {t : TypeId} {e : DEff} (hb : Blk w B t (dEffC e).toArray) : ∀ j u, (dEffC e)[j]? = some u → w.cell? ((⟨B, 0, none⟩ : Addr).add j) = some u := fun j u hu => World.news_of_block hb j u (by simpa using hu)
/-- a row of effects to the front, opened -/
theorem On.effsA {v : Value} {nms : List (List UInt8)} {w w' : World} {F : Nat → Prop} {L : List Asr} (h : On F w (AllA (EffsN v nms :: L)) w') : ∃ l : List DEff, l.map (·.name) = nms ∧ On F w (AllA (RowK 87 6 v l.length (l.flatMap dEffC) :: L)) w' := by
  obtain ⟨F', ⟨F1, F2, ⟨l, he, h1⟩, h2, hd, hF⟩, hk, hF'⟩ := h
  exact ⟨l, he, F', ⟨F1, F2, h1, h2, hd, hF⟩, hk, hF'⟩
theorem On.effsC {v : Value} {w w' : World} {F : Nat → Prop} {L : List Asr} (l : List DEff) (h : On F w (AllA (RowK 87 6 v l.length (l.flatMap dEffC) :: L)) w') : On F w (AllA (EffsN v (l.map (·.name)) :: L)) w' :=
  h.stepA fun F' h' => On.refl ⟨l, rfl, h'⟩
/-- a cell of the last effect is written: the names stay -/
theorem flat_set (f : DEff → List Value) (k : Nat) (hf : ∀ a, (f a).length = k) : ∀ (l : List DEff) (i j : Nat) (u : Value) (o' : DEff) (hi : i < l.length) (hj : j < k), (f (l[i])).set j u = f o' → (l.flatMap f).set (i * k + j) u = (l.set i o').flatMap f
  | [], _, _, _, _, h, _, _ => by simp at h
  | o :: l, 0, j, u, o', _, hj, he => by
    rw [List.flatMap_cons, List.set_cons_zero, List.flatMap_cons, List.set_append_left _ _ (by rw [hf]; omega)]
    have : 0 * k + j = j := by omega
    rw [this]
    simp only [List.getElem_cons_zero] at he
    rw [he]
  | o :: l, i + 1, j, u, o', h, hj, he => by
    have ih := flat_set f k hf l i j u o' (by simpa using h) hj (by simpa using he)
    rw [List.flatMap_cons, List.set_cons_succ, List.flatMap_cons, List.set_append_right _ _ (by rw [hf, Nat.add_mul]; omega), hf, show (i + 1) * k + j - k = i * k + j by rw [Nat.add_mul]; omega, ih]
theorem map_set_name (l : List DEff) (i : Nat) (o' : DEff) (hi : i < l.length) (hn : o'.name = (l[i]).name) : (l.set i o').map (·.name) = l.map (·.name) := by
  rw [List.map_set, hn]
  apply List.ext_getElem
  · simp
  · intro q h1 h2
    rw [List.getElem_set]
    split
    · next h => subst h; simp
    · rfl
theorem On.effSet {w w' : World} {F : Nat → Prop} {L : List Asr} {sg N cap : Nat} {nms : List (List UInt8)} (h : On F w (AllA (EffsN (.slice (some ⟨sg, 0, none⟩) N cap) nms :: L)) w') (i j : Nat) (u : Value) (hi : i < nms.length) (hj : j < 6) (hu : ∀ e : DEff, ∃ e' : DEff, e'.name = e.name ∧ (dEffC e).set j u = dEffC e') :
    On F w (AllA (EffsN (.slice (some ⟨sg, 0, none⟩) N cap) nms :: L)) (w'.setCell ⟨sg, i * 6 + j, none⟩ u) := by
  refine h.stepA fun F' h' => ?_
  obtain ⟨l, hl, hr, hF⟩ := h'
  have hll : l.length = nms.length := by rw [← hl, List.length_map]
  have hil : i < l.length := by omega
  obtain ⟨e', hn, he⟩ := hu (l[i])
  have hN : N = l.length := by
    rcases hr.2 with ⟨h1, _⟩ | ⟨g', cap', cur, hv, _⟩
    · cases h1
    · cases hv; rfl
  subst hN
  have hs := ownsRow_set hr (i := i * 6 + j) (by rw [flat_len dEffC 6 dEff_len]; omega) u
  rw [flat_set dEffC 6 dEff_len l i j u e' hil hj he] at hs
  refine ⟨F', ⟨l.set i e', by rw [map_set_name l i e' hil hn, hl], ?_, hF⟩, kept_setAt (Kept.refl F' w') ((hF sg).2 rfl) _ u, fun k h => .inl h⟩
  rw [List.length_set]
  exact hs
set_option maxHeartbeats 8000000 in
theorem t_out_none (g : Nat) (T : ByteArray) (src : List (List UInt8)) (x : Tx) (hn : x.own.length ≤ 100000) (k n : Nat) (hk : k ≤ 5) (h1 : ¬ (k = 1 ∧ n = 85)) (h2 : ¬ (k = 2 ∧ (n = 13 ∨ n = 14))) (h3 : ¬ (k = 2 ∧ n = 1)) (h4 : ¬ (k = 2 ∧ n = 3)) (name nm en : List UInt8) (i o : Int) (kn : Bool) (nd : Int) (lo : Bool) (w : World) (F : Nat → Prop) (hb : (TextA g T src x).holds w F) :
    Calls Tryz.prog 54 #[.pointer (some ⟨g, 0, none⟩), wdV k n nm en i o kn nd lo, .string ⟨name.toArray⟩] w (Post (fun u B => u = .tuple #[] ∧ B = TextA g T src (outX x k n name)) F w) := by
  obtain ⟨vo, vs, loo, ndd, vr, vp, hon0⟩ := TextA.opened (On.refl hb)
  obtain ⟨_, hB⟩ := hon0.mem (A := BlkA g 55 (txC T x.at_ vo vs loo ndd vr vp)) (by simp [txL])
  have k2 := hB.1.cell 2
  have k7 := hB.1.cell 7
  have f2 := hB.1.frozen 2
  have f7 := hB.1.frozen 7
  have hgl := hB.1.lt
  have hgl1 : g < w.heap.size + 1 := by omega
  have hgl2 : g < w.heap.size + 1 + 1 := by omega
  simp [txC] at k2 k7
  clear hB hb
  have hz : (w.alloc (.cells (wdC k n nm en i o kn nd lo) 89)).heap.size = w.heap.size + 1 := by simp
  have hon2 := (hon0.boxA (wdC k n nm en i o kn nd lo) 89).boxA #[.string ⟨name.toArray⟩, .int .i64 0, .int .i64 1, .bool true, .int .i64 0, .bool false] 87
  rw [hz] at hon2
  clear hz hon0
  have hox : outX x k n name = x := by unfold outX; rw [if_neg (by omega), if_neg h3]
  rw [hox]
  unfold wdV wdC at *
  have hcases : k = 1 ∨ k = 2 ∨ k = 0 ∨ k = 3 ∨ k = 4 ∨ k = 5 := by omega
  replace hon2 := Lib.hid hon2
  rcases hcases with rfl | rfl | rfl | rfl | rfl | rfl
  · have t85 : ((n : Int) == 85) = false := by rw [beq_eq_false_iff_ne]; omega
    clear h1 h2 h3 h4
    go_enter Tryz.func54, Tryz.ntmps54
    go_wp2_with fail
    go_end0
    exact (TextA.close (hon2.out.tailA.tailA)).post ⟨rfl, rfl⟩
  · have t13 : ((n : Int) == 13) = false := by rw [beq_eq_false_iff_ne]; omega
    have t14 : ((n : Int) == 14) = false := by rw [beq_eq_false_iff_ne]; omega
    have t1 : ((n : Int) == 1) = false := by rw [beq_eq_false_iff_ne]; omega
    have t3 : ((n : Int) == 3) = false := by rw [beq_eq_false_iff_ne]; omega
    clear h1 h2 h3 h4
    go_enter Tryz.func54, Tryz.ntmps54
    go_wp2_with fail
    go_end0
    exact (TextA.close (hon2.out.tailA.tailA)).post ⟨rfl, rfl⟩
  all_goals
    clear h1 h2 h3 h4
    go_enter Tryz.func54, Tryz.ntmps54
    go_wp2_with fail
    go_end0
    exact (TextA.close (hon2.out.tailA.tailA)).post ⟨rfl, rfl⟩
set_option maxHeartbeats 8000000 in
theorem t_out_def (g : Nat) (T : ByteArray) (src : List (List UInt8)) (x : Tx) (hn : x.own.length ≤ 100000) (k n : Nat) (h0 : k = 2 ∧ n = 1) (name nm en : List UInt8) (i o : Int) (kn : Bool) (nd : Int) (lo : Bool) (w : World) (F : Nat → Prop) (hb : (TextA g T src x).holds w F) :
    Calls Tryz.prog 54 #[.pointer (some ⟨g, 0, none⟩), wdV k n nm en i o kn nd lo, .string ⟨name.toArray⟩] w (Post (fun u B => u = .tuple #[] ∧ B = TextA g T src (outX x k n name)) F w) := by
  obtain ⟨vo, vs, loo, ndd, vr, vp, hon0⟩ := TextA.opened (On.refl hb)
  obtain ⟨_, hB⟩ := hon0.mem (A := BlkA g 55 (txC T x.at_ vo vs loo ndd vr vp)) (by simp [txL])
  have k2 := hB.1.cell 2
  have k7 := hB.1.cell 7
  have f2 := hB.1.frozen 2
  have f7 := hB.1.frozen 7
  have hgl := hB.1.lt
  have hgl1 : g < w.heap.size + 1 := by omega
  have hgl2 : g < w.heap.size + 1 + 1 := by omega
  simp [txC] at k2 k7
  clear hB hb
  have hox : outX x k n name = { x with op := some (name, []) } := by unfold outX; rw [if_neg (by omega), if_pos h0]
  rw [hox]
  clear hox
  obtain ⟨rfl, rfl⟩ := h0
  have hon3 := (((hon0.setA 7 (.pointer (some ⟨w.heap.size + 1 + 1, 0, none⟩))).boxA (wdC 2 1 nm en i o kn nd lo) 89).boxA #[.string ⟨name.toArray⟩, .int .i64 0, .int .i64 1, .bool true, .int .i64 0, .bool false] 87).boxA #[.string ⟨name.toArray⟩, .bool true, .int .i64 0, .bool false, .int .i64 0, .int .i64 0, .int .i64 0, .bool false, .slice none 0 0, .bool false, .int .i64 0] 101
  have hz1 : (w.setCell ⟨g, 7, none⟩ (.pointer (some ⟨w.heap.size + 1 + 1, 0, none⟩))).heap.size = w.heap.size := by simp [World.setCell]
  simp only [World.size_alloc, hz1] at hon3
  have hon4 := hon3.stepA (A' := OpenD (.pointer (some ⟨w.heap.size + 1 + 1, 0, none⟩)) (some (name, []))) (fun F' h' => On.refl ⟨w.heap.size + 1 + 1, .slice none 0 0, rfl, ⟨true, 0, false, 0, 0, 0, false, false, 0, h'.1⟩, World.ownsRow_nil _ 0 _ 8, by simp [Value.ownBlock], fun q => by rw [h'.2]; simp [Value.ownBlock]⟩)
  have hon5 := (On.pullA (A := BlkA w.heap.size 89 _) (L2 := [_, EffsN vo x.own, RowS vs x.sp, EffsN vr src, OpenD vp x.op]) [_] (On.pullA (A := BlkA (w.heap.size + 1) 87 _) (L2 := [BlkA w.heap.size 89 _, _, EffsN vo x.own, RowS vs x.sp, EffsN vr src, OpenD vp x.op]) [_] hon4).tailA).tailA
  have hon6 := (On.pullA (A := OpenD vp x.op) (L2 := []) [_, _, _, _, _] hon5).tailA
  have hon7 := On.pushA (A := OpenD (.pointer (some ⟨w.heap.size + 1 + 1, 0, none⟩)) (some (name, []))) (L2 := []) [_, _, _, _] hon6
  have hfin := TextA.close (x := { x with op := some (name, []) }) hon7
  clear hon0 hon3 hon4 hon5 hon6 hon7 hz1
  unfold wdV wdC at *
  replace hfin := Lib.hid hfin
  go_enter Tryz.func54, Tryz.ntmps54
  go_wp2_with fail
  go_end0
  refine On.post hfin.out ?_
  exact ⟨rfl, rfl⟩
set_option maxHeartbeats 8000000 in
theorem t_out_own (g : Nat) (T : ByteArray) (src : List (List UInt8)) (x : Tx) (hn : x.own.length ≤ 100000) (k n : Nat) (h0 : k = 1 ∧ n = 85 ∨ k = 2 ∧ (n = 13 ∨ n = 14)) (name nm en : List UInt8) (i o : Int) (kn : Bool) (nd : Int) (lo : Bool) (w : World) (F : Nat → Prop) (hb : (TextA g T src x).holds w F) :
    Calls Tryz.prog 54 #[.pointer (some ⟨g, 0, none⟩), wdV k n nm en i o kn nd lo, .string ⟨name.toArray⟩] w (Post (fun u B => u = .tuple #[] ∧ B = TextA g T src (outX x k n name)) F w) := by
  obtain ⟨vo, vs, loo, ndd, vr, vp, hon0⟩ := TextA.opened (On.refl hb)
  obtain ⟨_, hB⟩ := hon0.mem (A := BlkA g 55 (txC T x.at_ vo vs loo ndd vr vp)) (by simp [txL])
  have k2 := hB.1.cell 2
  have k7 := hB.1.cell 7
  have f2 := hB.1.frozen 2
  have f7 := hB.1.frozen 7
  have hgl := hB.1.lt
  have hgl1 : g < w.heap.size + 1 := by omega
  have hgl2 : g < w.heap.size + 1 + 1 := by omega
  simp [txC] at k2 k7
  clear hB hb
  have hz : (w.alloc (.cells (wdC k n nm en i o kn nd lo) 89)).heap.size = w.heap.size + 1 := by simp
  have hon2 := (hon0.boxA (wdC k n nm en i o kn nd lo) 89).boxA #[.string ⟨name.toArray⟩, .int .i64 0, .int .i64 1, .bool true, .int .i64 0, .bool false] 87
  rw [hz] at hon2
  clear hz hon0
  have hox : outX x k n name = { x with own := x.own ++ [name] } := by unfold outX; rw [if_pos h0]
  rw [hox]
  clear hox
  obtain ⟨l, hl, hon3⟩ := On.effsA (On.pullA (A := EffsN vo x.own) (L2 := [RowS vs x.sp, EffsN vr src, OpenD vp x.op]) [_, _, _] hon2)
  obtain ⟨_, hR⟩ := hon3.firstA
  obtain ⟨_, hB⟩ := hon3.mem (A := BlkA g 55 (txC T x.at_ vo vs loo ndd vr vp)) (by simp)
  have hneg : vo.ownBlock ≠ some g := by
    obtain ⟨F1, F2, h1, h2, hd⟩ := On.apart (B := BlkA g 55 (txC T x.at_ vo vs loo ndd vr vp)) hon3 (by simp)
    intro he
    exact hd g ((h1.2 g).2 he) ((h2.2 g).2 rfl)
  obtain ⟨A0, c0, rfl⟩ := ownsRow_slice hR.1
  have hll : l.length = x.own.length := by rw [← hl, List.length_map]
  obtain ⟨N, hN⟩ : ∃ N, l.length = N := ⟨_, rfl⟩
  have hrow : World.ownsRow ((w.alloc (.cells (wdC k n nm en i o kn nd lo) 89)).alloc (.cells #[.string ⟨name.toArray⟩, .int .i64 0, .int .i64 1, .bool true, .int .i64 0, .bool false] 87)) 0 87 6 (.slice A0 N c0) N (l.flatMap dEffC) := by rw [← hN]; exact hR.1
  have hon4 : On F w (AllA [RowK 87 6 (.slice A0 N c0) N (l.flatMap dEffC), BlkA (w.heap.size + 1) 87 #[.string ⟨name.toArray⟩, .int .i64 0, .int .i64 1, .bool true, .int .i64 0, .bool false], BlkA w.heap.size 89 (wdC k n nm en i o kn nd lo), BlkA g 55 (txC T x.at_ (.slice A0 N c0) vs loo ndd vr vp), RowS vs x.sp, EffsN vr src, OpenD vp x.op]) ((w.alloc (.cells (wdC k n nm en i o kn nd lo) 89)).alloc (.cells #[.string ⟨name.toArray⟩, .int .i64 0, .int .i64 1, .bool true, .int .i64 0, .bool false] 87)) := by rw [← hN]; exact hon3
  rw [hN] at k2 hneg
  have hnlen : N + 1 ≤ maxLen ∧ (N + 1) * 56 ≤ 140737488355328 := by unfold maxLen; omega
  have hbk := hB.1
  rw [hN] at hbk
  obtain ⟨i0, hi, hz0, hz1, hz2⟩ := info_parts info_deff
  clear hB hR hon3 hon2
  replace hi := Lib.hid hi
  replace hz0 := Lib.hid hz0
  replace hz1 := Lib.hid hz1
  replace hz2 := Lib.hid hz2
  replace hrow := Lib.hid hrow
  replace hnlen := Lib.hid hnlen
  replace hneg := Lib.hid hneg
  replace hbk := Lib.hid hbk
  replace hon4 := Lib.hid hon4
  replace hN := Lib.hid hN
  replace hl := Lib.hid hl
  replace hll := Lib.hid hll
  replace hn := Lib.hid hn
  unfold wdV wdC at *
  rcases h0 with ⟨rfl, rfl⟩ | ⟨rfl, rfl | rfl⟩
  all_goals
    go_enter Tryz.func54, Tryz.ntmps54
    go_wp2_with fail
    go_region_law ((refine step_append_lies _ rfl (.tmp 35) (.tmp 37) 52 rfl 0 87 i0 (.agg #[.string ⟨#[]⟩, .int .i64 0, .int .i64 0, .bool false, .int .i64 0, .bool false]) 6 56 ?_ ?_ ?_ ?_ ?_ ?_ ?_ (.slice A0 N c0) N (l.flatMap dEffC) ?_ ?_ ⟨w.heap.size + 1 + 1, 0, none⟩ 1 1 (dEffC (⟨name, 0, 1, true, 0, false⟩ : DEff)) ?_ ?_ ?_ ?_ ?_ ?_ ?_ ?_ (w.heap.size + 1 + 1 + 1) ?_ ?_; exact Tryz.underlying52; exact hi.out; exact hz0.out; exact hz1.out; exact hz2.out; rfl; omega; rfl; exact ownsRow_drew (hrow.out.alloc _); rfl; rfl; refine (deff_news (e := (⟨name, 0, 1, true, 0, false⟩ : DEff)) (t := 87) ?_); refine Blk.drew (Blk.new' ?_); simp; exact deff_one _; omega; exact hnlen.out.1; exact hnlen.out.2; omega; simp; intro sg cap w5 hG hgrow hat hlt1; have hB1 := Blk.grown ((hbk.out.alloc _).drew) hgrow (fun e => hneg.out e.symm); have m2 := hB1.cell 2; have n2 := hB1.frozen 2; simp [txC] at m2))
    all_goals
      have hon5 := hon4.out.stepA (A' := RowK 87 6 (.slice (some ⟨sg, 0, none⟩) (l ++ [(⟨name, 0, 1, true, 0, false⟩ : DEff)]).length cap) (l ++ [(⟨name, 0, 1, true, 0, false⟩ : DEff)]).length ((l ++ [(⟨name, 0, 1, true, 0, false⟩ : DEff)]).flatMap dEffC)) (w'' := w5) (fun F' h' => by
        have q1 : (l ++ [(⟨name, 0, 1, true, 0, false⟩ : DEff)]).length = N + 1 := by rw [List.length_append, hN.out]; rfl
        have q2 : (l ++ [(⟨name, 0, 1, true, 0, false⟩ : DEff)]).flatMap dEffC = l.flatMap dEffC ++ dEffC (⟨name, 0, 1, true, 0, false⟩ : DEff) := by rw [List.flatMap_append]; rfl
        rw [q1, q2]
        exact RowK.grew h' (((Kept.refl Nob _).alloc _).drew) hgrow hG (grew_at hat))
      have hon6 := On.effsC (l ++ [(⟨name, 0, 1, true, 0, false⟩ : DEff)]) hon5
      have q3 : (l ++ [(⟨name, 0, 1, true, 0, false⟩ : DEff)]).map (·.name) = x.own ++ [name] := by rw [List.map_append, hl.out]; rfl
      have q4 : (l ++ [(⟨name, 0, 1, true, 0, false⟩ : DEff)]).length = N + 1 := by rw [List.length_append, hN.out]; rfl
      rw [q3, q4] at hon6
      have hon7 := (On.pullA (A := BlkA w.heap.size 89 _) (L2 := [_, RowS vs x.sp, EffsN vr src, OpenD vp x.op]) [_] (On.pullA (A := BlkA (w.heap.size + 1) 87 _) (L2 := [BlkA w.heap.size 89 _, _, RowS vs x.sp, EffsN vr src, OpenD vp x.op]) [_] hon6).tailA).tailA.swapA.setA 2 (.slice (some ⟨sg, 0, none⟩) (N + 1) cap)
      have hfin := TextA.close (x := { x with own := x.own ++ [name] }) hon7
      clear hon5 hon6 hon7 hG hgrow hat hlt1 hB1 m2 n2
      replace hfin := Lib.hid hfin
      go_wp2_with fail
      go_end0
      exact hfin.out.post ⟨rfl, rfl⟩
theorem deffs_frozen {w : World} {e : TypeId} {sg n cap m : Nat} {xs : List Value} (h : w.ownsRow 0 e 6 (.slice (some ⟨sg, 0, none⟩) n cap) m xs) (i : Nat) : w.frozen? ⟨sg, i, none⟩ = false := by
  obtain ⟨_, h | ⟨g, cap, cur, hv, -, hc, _⟩⟩ := h
  · cases h.1
  · cases hv
    exact Blk.frozen hc i
set_option maxHeartbeats 8000000 in
theorem t_out_imm (g : Nat) (T : ByteArray) (src : List (List UInt8)) (x : Tx) (hn : x.own.length ≤ 100000) (k n : Nat) (h0 : k = 2 ∧ n = 3) (name nm en : List UInt8) (i o : Int) (kn : Bool) (nd : Int) (lo : Bool) (w : World) (F : Nat → Prop) (hb : (TextA g T src x).holds w F) :
    Calls Tryz.prog 54 #[.pointer (some ⟨g, 0, none⟩), wdV k n nm en i o kn nd lo, .string ⟨name.toArray⟩] w (Post (fun u B => u = .tuple #[] ∧ B = TextA g T src (outX x k n name)) F w) := by
  obtain ⟨vo, vs, loo, ndd, vr, vp, hon0⟩ := TextA.opened (On.refl hb)
  obtain ⟨_, hB⟩ := hon0.mem (A := BlkA g 55 (txC T x.at_ vo vs loo ndd vr vp)) (by simp [txL])
  have k2 := hB.1.cell 2
  have k7 := hB.1.cell 7
  have f2 := hB.1.frozen 2
  have f7 := hB.1.frozen 7
  have hgl := hB.1.lt
  have hgl1 : g < w.heap.size + 1 := by omega
  have hgl2 : g < w.heap.size + 1 + 1 := by omega
  simp [txC] at k2 k7
  clear hB hb
  have hox : outX x k n name = x := by unfold outX; rw [if_neg (by omega), if_neg (by omega)]
  rw [hox]
  clear hox
  obtain ⟨rfl, rfl⟩ := h0
  obtain ⟨_, hO⟩ := hon0.mem (A := EffsN vo x.own) (by simp [txL])
  obtain ⟨hmo, A0, c0, rfl, hO2⟩ := effsN_loop hO
  rcases hlen : x.own.length with _ | N
  · rw [hlen] at k2 hon0
    have hfin := (TextA.close hon0).alloc (.cells (wdC 2 3 nm en i o kn nd lo) 89) |>.alloc (.cells #[.string ⟨name.toArray⟩, .int .i64 0, .int .i64 1, .bool true, .int .i64 0, .bool false] 87)
    clear hon0 hO hO2 hmo
    unfold wdV wdC at *
    replace hfin := Lib.hid hfin
    replace hlen := Lib.hid hlen
    go_enter Tryz.func54, Tryz.ntmps54
    go_wp2_with fail
    go_end0
    refine On.post hfin.out ?_
    exact ⟨rfl, rfl⟩
  · obtain ⟨sg, i1, o1, k1, d1, b1, rfl, -, c1, c2, c3, -, -⟩ := hO2 N (by omega)
    rw [hlen] at k2 hon0 hO
    obtain ⟨l, hl, hr, hFr⟩ := hO
    have y1 := deffs_frozen hr (N * 6 + 1)
    have y2 := deffs_frozen hr (N * 6 + 2)
    have y3 := deffs_frozen hr (N * 6 + 3)
    have hsgl := (hr.lt sg rfl).2
    have hcap : N + 1 ≤ c0 := by
      obtain ⟨_, h | ⟨g', cap', cur, hv, _, _, h1, _⟩⟩ := hr
      · cases h.1
      · simp at hv
        omega
    have hsgg : g ≠ sg := by
      obtain ⟨F1, F2, h1, h2, hd⟩ := On.apart (B := EffsN (.slice (some ⟨sg, 0, none⟩) (N + 1) c0) x.own) hon0 (by simp)
      obtain ⟨l2, _, _, hF2⟩ := h2
      rintro rfl
      exact hd g ((h1.2 g).2 rfl) ((hF2 g).2 rfl)
    have hs3 := (((On.swapA hon0).effSet N 3 (.bool false) (by omega) (by omega) (fun e => ⟨⟨e.name, e.i, e.o, false, e.d, e.b⟩, rfl, rfl⟩)).effSet N 1 (.int .i64 0) (by omega) (by omega) (fun e => ⟨⟨e.name, 0, e.o, e.k, e.d, e.b⟩, rfl, rfl⟩)).effSet N 2 (.int .i64 0) (by omega) (by omega) (fun e => ⟨⟨e.name, e.i, 0, e.k, e.d, e.b⟩, rfl, rfl⟩)
    have hfin := (((((TextA.close hs3.swapA).alloc (.cells (wdC 2 3 nm en i o kn nd lo) 89)).alloc (.cells #[.string ⟨name.toArray⟩, .int .i64 0, .int .i64 1, .bool true, .int .i64 0, .bool false] 87)).drew).drew).drew
    have hmb : ((N : Nat) : Int) + 1 ≤ 9223372036854775807 := by unfold maxLen at hmo; omega
    have hw : wrap64 (((N + 1 : Nat) : Int) - 1) = (N : Int) := by unfold wrap64; omega
    obtain ⟨M, hM⟩ : ∃ M, N + 1 = M := ⟨_, rfl⟩
    rw [hM] at k2 hcap hw
    have hNM : N < M := by omega
    have hM0 : 0 < M := by omega
    clear hon0 hs3 hl hr hFr hO2 hmo hmb
    unfold wdV wdC at *
    replace hfin := Lib.hid hfin
    replace hlen := Lib.hid hlen
    replace hM := Lib.hid hM
    replace hn := Lib.hid hn
    go_enter Tryz.func54, Tryz.ntmps54
    go_wp2_with fail
    go_region
    all_goals
      go_wp2_with fail
      go_region
      all_goals
        go_wp2_with fail
        go_region
        all_goals
          go_wp2_with fail
          go_end0
          refine On.post hfin.out ?_
          exact ⟨rfl, rfl⟩
theorem t_outside (g : Nat) (T : ByteArray) (src : List (List UInt8)) (x : Tx) (hn : x.own.length ≤ 100000) (k n : Nat) (hk : k ≤ 5) (name nm en : List UInt8) (i o : Int) (kn : Bool) (nd : Int) (lo : Bool) (w : World) (F : Nat → Prop) (hb : (TextA g T src x).holds w F) :
    Calls Tryz.prog 54 #[.pointer (some ⟨g, 0, none⟩), wdV k n nm en i o kn nd lo, .string ⟨name.toArray⟩] w (Post (fun u B => u = .tuple #[] ∧ B = TextA g T src (outX x k n name)) F w) := by
  by_cases h0 : k = 1 ∧ n = 85 ∨ k = 2 ∧ (n = 13 ∨ n = 14)
  · exact t_out_own g T src x hn k n h0 name nm en i o kn nd lo w F hb
  · by_cases h1 : k = 2 ∧ n = 1
    · exact t_out_def g T src x hn k n h1 name nm en i o kn nd lo w F hb
    · by_cases h2 : k = 2 ∧ n = 3
      · exact t_out_imm g T src x hn k n h2 name nm en i o kn nd lo w F hb
      · exact t_out_none g T src x hn k n hk (fun h => h0 (.inl h)) (fun h => h0 (.inr h)) h1 h2 name nm en i o kn nd lo w F hb
end Look
end Go.Proofs.YthejfkkmcbdlhaaGreatDoor
