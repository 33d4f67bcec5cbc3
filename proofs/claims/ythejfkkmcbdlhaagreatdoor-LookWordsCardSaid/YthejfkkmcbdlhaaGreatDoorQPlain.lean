/- Chapter 19: the reader, off what is left of the text. Plain lemmas. -/
import Derived.Test.YthejfkkmcbdlhaaGreatDoorQInv
namespace Go.Proofs.YthejfkkmcbdlhaaGreatDoor
set_option linter.unusedVariables false
open Go.RowKit Go.Lib
namespace Look
theorem drop_takeWhile {p : UInt8 → Bool} : ∀ l : List UInt8, l.drop (l.takeWhile p).length = l.dropWhile p
  | [] => rfl
  | x :: l => by
    rcases h : p x with _ | _
    · simp [List.takeWhile, List.dropWhile, h]
    · simp only [List.takeWhile, List.dropWhile, h, List.length_cons, List.drop_succ_cons]
      exact drop_takeWhile l
theorem take_takeWhile {p : UInt8 → Bool} : ∀ l : List UInt8, l.take (l.takeWhile p).length = l.takeWhile p
  | [] => rfl
  | x :: l => by
    rcases h : p x with _ | _
    · simp [List.takeWhile, h]
    · simp only [List.takeWhile, h, List.length_cons, List.take_succ_cons]
      rw [take_takeWhile l]
theorem goesTo_drop (p : UInt8 → Bool) (s : List UInt8) (i : Nat) : s.drop (goesTo p s i) = (s.drop i).dropWhile p := by
  unfold goesTo
  rw [← List.drop_drop, drop_takeWhile]
theorem stepTo_drop (s : List UInt8) (i : Nat) : s.drop (stepTo s i) = (s.drop i).drop 1 := by
  unfold stepTo
  rw [List.drop_drop]
  split
  · rfl
  · rw [List.drop_eq_nil_of_le (by omega), List.drop_eq_nil_of_le (by omega)]
/-- the next word, and what is left -/
def nextW (S : List UInt8) : List UInt8 × List UInt8 := ((S.dropWhile isLow).takeWhile isHigh, ((S.dropWhile isLow).dropWhile isHigh).drop 1)
theorem wordAt_suf (T : List UInt8) (i : Nat) : wordAt T i = (nextW (T.drop i)).1 := by
  unfold wordAt nextW wordTo
  rw [List.drop_take]
  have h := goesTo_drop isLow T i
  show List.take (goesTo isHigh T (wordFrom T i) - wordFrom T i) (List.drop (goesTo isLow T i) T) = _
  unfold goesTo at *
  rw [h]
  show List.take (wordFrom T i + _ - wordFrom T i) _ = _
  rw [Nat.add_sub_cancel_left]
  show List.take (List.takeWhile isHigh (List.drop (goesTo isLow T i) T)).length _ = _
  rw [goesTo_drop, take_takeWhile]
theorem wordEnd_suf (T : List UInt8) (i : Nat) : T.drop (wordEnd T i) = (nextW (T.drop i)).2 := by
  unfold wordEnd wordTo nextW wordFrom
  rw [stepTo_drop, goesTo_drop, goesTo_drop]
def untilS (b : UInt8) (S : List UInt8) : Option (List UInt8) := match S.dropWhile (notB b) with
  | [] => none
  | _ :: R => some R
def passS (S : List UInt8) (w : W) : Option (List UInt8) :=
  if w.kind ≠ 2 then some S
  else if w.n = 15 then untilS 41 S
  else if w.n = 17 ∨ w.n = 18 then untilS 34 S
  else if w.n = 16 then some ((S.dropWhile notLf).drop 1)
  else some S
theorem untilEnd_suf (b : UInt8) (T : List UInt8) (i : Nat) (h : i ≤ T.length) : (untilEnd b T i).map (T.drop ·) = untilS b (T.drop i) := by
  unfold untilEnd untilS
  have hg := goesTo_drop (notB b) T i
  split
  · next hlt =>
    rw [← hg]
    have h1 : T.drop (goesTo (notB b) T i) = T[goesTo (notB b) T i] :: T.drop (goesTo (notB b) T i + 1) := List.drop_eq_getElem_cons hlt
    rw [h1]
    rfl
  · next hlt =>
    rw [← hg, List.drop_eq_nil_of_le (by omega)]
    rfl
theorem passes_suf (T : List UInt8) (i : Nat) (w : W) (h : i ≤ T.length) : (passes T i w).map (T.drop ·) = passS (T.drop i) w := by
  unfold passes passS
  split
  · rfl
  · split
    · exact untilEnd_suf 41 T i h
    · split
      · exact untilEnd_suf 34 T i h
      · split
        · show some (T.drop (restEnd T i)) = _
          unfold restEnd
          rw [stepTo_drop, goesTo_drop]
        · rfl
/-- a reader, wherever it stands -/
def er (r : Rd) : Rd := { r with at_ := 0 }
theorem er_speaks (E : Env) (r : Rd) (w : W) : er (speaks E r w) = speaks E (er r) w := by
  unfold speaks er
  simp only
  split <;> split <;> rfl
theorem er_owns (r : Rd) (e : Eff) (b : Bool) : er (owns r e b) = owns (er r) e b := rfl
theorem er_does (E : Env) (r : Rd) (w : W) (name : List UInt8) : er (does E r w name) = does E (er r) w name := by
  rcases r with ⟨at_, list, wild, spoken, loose, needs, _ | d⟩
  · unfold does er
    simp only
    split
    · rfl
    · split
      · rfl
      · split
        · rcases list.getLast? with _ | x <;> rfl
        · rfl
  · unfold does er
    simp only
    split <;> rfl
/-- the mention, and what it needs -/
def heard (E : Env) (r : Rd) (w : W) : Rd := { speaks E r w with needs := (speaks E r w).needs ||| needed E r.list w }
def roundS (E : Env) (S : List UInt8) (r : Rd) : Rd × List UInt8 × Bool :=
  if (nextW S).1 = [] then (r, [], false) else
  match passS (nextW S).2 (what E r.list (nextW S).1) with
  | none => (heard E r (what E r.list (nextW S).1), [], false)
  | some S2 => if named r.open_.isSome (what E r.list (nextW S).1) then
      (if (nextW S2).1 = [] then (heard E r (what E r.list (nextW S).1), [], false) else
        (does E (if (what E r.list (nextW S).1).kind = 2 ∧ ((what E r.list (nextW S).1).n = 7 ∨ (what E r.list (nextW S).1).n = 8) then speaks E (heard E r (what E r.list (nextW S).1)) (what E r.list (nextW S2).1) else heard E r (what E r.list (nextW S).1)) (what E r.list (nextW S).1) (nextW S2).1, (nextW S2).2, true))
    else (does E (heard E r (what E r.list (nextW S).1)) (what E r.list (nextW S).1) [], S2, true)
theorem heard_list (E : Env) (r : Rd) (w : W) : (heard E r w).list = r.list := (speaks_keeps E r w).2.1
theorem heard_open (E : Env) (r : Rd) (w : W) : (heard E r w).open_.isSome = r.open_.isSome := (speaks_keeps E r w).2.2.2.2
theorem er_rd3 (E : Env) (T : List UInt8) (r : Rd) : er (rd3 E T r) = heard E (er r) (rdW E T r) := by
  have h1 : er (rd2 E T r) = speaks E (er r) (rdW E T r) := er_speaks E (rd1 T r) (rdW E T r)
  have h2 : er (rd3 E T r) = { er (rd2 E T r) with needs := (er (rd2 E T r)).needs ||| needed E (er (rd2 E T r)).list (rdW E T r) } := rfl
  have h3 : (er (rd2 E T r)).list = (er r).list := by rw [h1]; exact (speaks_keeps E (er r) (rdW E T r)).2.1
  rw [h2, h3, h1]
  rfl
theorem rdW_er (E : Env) (T : List UInt8) (r : Rd) : rdW E T r = what E (er r).list (nextW (T.drop r.at_)).1 := by
  unfold rdW
  rw [wordAt_suf]
  rfl
theorem round_suf (E : Env) (T : List UInt8) (r : Rd) (h : r.at_ ≤ T.length) :
    (round E T r).2 = (roundS E (T.drop r.at_) (er r)).2.2 ∧ er (round E T r).1 = (roundS E (T.drop r.at_) (er r)).1 ∧ ((round E T r).2 = true → T.drop (round E T r).1.at_ = (roundS E (T.drop r.at_) (er r)).2.1) := by
  rw [round_eq]
  unfold roundS
  rw [wordAt_suf, ← rdW_er]
  by_cases hw : (nextW (T.drop r.at_)).1 = []
  · rw [if_pos hw, if_pos hw]
    exact ⟨rfl, rfl, fun h => by cases h⟩
  · rw [if_neg hw, if_neg hw]
    have hle := wordEnd_le (T := T) h
    have hp := passes_suf T (wordEnd T r.at_) (rdW E T r) hle
    rw [wordEnd_suf] at hp
    rw [rd3_at]
    have hopen : (rd3 E T r).open_.isSome = (er r).open_.isSome := (speaks_keeps E (rd1 T r) (rdW E T r)).2.2.2.2
    rw [hopen]
    rcases hq : passes T (wordEnd T r.at_) (rdW E T r) with _ | i
    · rw [hq] at hp
      rw [← hp]
      exact ⟨rfl, er_rd3 E T r, fun h => by cases h⟩
    · rw [hq] at hp
      rw [← hp]
      have hi := (passes_at hle hq).2
      show _ ∧ _ ∧ _
      simp only [Option.map]
      by_cases hn : named (er r).open_.isSome (rdW E T r)
      · rw [if_pos hn, if_pos hn, wordAt_suf]
        by_cases hm : (nextW (T.drop i)).1 = []
        · rw [if_pos hm, if_pos hm]
          exact ⟨rfl, er_rd3 E T r, fun h => by cases h⟩
        · rw [if_neg hm, if_neg hm]
          refine ⟨rfl, ?_, fun _ => ?_⟩
          · show er (does E (rd6 E T r i) (rdW E T r) (nextW (T.drop i)).1) = _
            rw [er_does]
            have h6 : er (rd6 E T r i) = if (rdW E T r).kind = 2 ∧ ((rdW E T r).n = 7 ∨ (rdW E T r).n = 8) then speaks E (heard E (er r) (rdW E T r)) (what E (er r).list (nextW (T.drop i)).1) else heard E (er r) (rdW E T r) := by
              unfold rd6
              split
              · rw [er_speaks, wordAt_suf]
                have e1 : er (rd5 E T r i) = er (rd3 E T r) := rfl
                have e2 : (rd5 E T r i).list = (er r).list := rd3_list E T r
                rw [e1, e2, er_rd3]
              · exact er_rd3 E T r
            rw [h6]
          · show T.drop (does E (rd6 E T r i) (rdW E T r) _).at_ = _
            rw [does_at, rd6_at, wordEnd_suf]
      · rw [if_neg hn, if_neg hn]
        refine ⟨rfl, ?_, fun _ => ?_⟩
        · show er (does E (rd4 E T r i) (rdW E T r) []) = _
          rw [er_does]
          have h4 : er (rd4 E T r i) = er (rd3 E T r) := rfl
          rw [h4, er_rd3]
        · show T.drop (does E (rd4 E T r i) (rdW E T r) _).at_ = _
          rw [does_at]
          rfl
/-- READING, to the end -/
inductive Rds (E : Env) : List UInt8 → Rd → Rd → Prop
  | off {S S' : List UInt8} {r R : Rd} (h : roundS E S r = (R, S', false)) : Rds E S r R
  | on {S S' : List UInt8} {r r' R : Rd} (h : roundS E S r = (r', S', true)) (k : Rds E S' r' R) : Rds E S r R
theorem readAll_suf (E : Env) (T : List UInt8) : ∀ (n : Nat) (r : Rd), r.at_ ≤ T.length → T.length - r.at_ < n → Rds E (T.drop r.at_) (er r) (er (readAll E T r))
  | 0, _, _, h => by omega
  | n + 1, r, h, hn => by
    obtain ⟨h1, h2, h3⟩ := round_suf E T r h
    rcases hr : round E T r with ⟨r', b⟩
    rw [hr] at h1 h2 h3
    rcases b with _ | _
    · rw [readAll_off hr]
      refine .off (S' := (roundS E (T.drop r.at_) (er r)).2.1) ?_
      rw [Prod.ext_iff, Prod.ext_iff]
      exact ⟨h2.symm, rfl, h1.symm⟩
    · rw [readAll_on h hr]
      obtain ⟨h4, h5⟩ := round_on h hr
      refine .on (r' := er r') (S' := T.drop r'.at_) ?_ (readAll_suf E T n r' h5 (by omega))
      rw [Prod.ext_iff, Prod.ext_iff]
      exact ⟨h2.symm, (h3 rfl).symm, h1.symm⟩
theorem Rds.all (E : Env) (T : List UInt8) : Rds E T rd0 (er (readAll E T rd0)) := readAll_suf E T (T.length + 1) rd0 (Nat.zero_le _) (by simp [rd0])
theorem Rds.one {E : Env} {S : List UInt8} {r R R' : Rd} (h : Rds E S r R) : Rds E S r R' → R' = R := by
  induction h with
  | off h =>
    intro k
    cases k with
    | off k => rw [h] at k; cases k; rfl
    | on k _ => rw [h] at k; cases k
  | on h _ ih =>
    intro k
    cases k with
    | off k => rw [h] at k; cases k
    | on k k2 => rw [h] at k; cases k; exact ih k2
end Look
end Go.Proofs.YthejfkkmcbdlhaaGreatDoor
/- Chapter 19: what a text needs: no less than its definitions do, no less than a text that it begins with. Plain lemmas. -/
namespace Go.Proofs.YthejfkkmcbdlhaaGreatDoor
set_option linter.unusedVariables false
open Go.RowKit Go.Lib
namespace Look
/-- b has all that a has -/
def Sub (a b : Nat) : Prop := a ||| b = b
theorem Sub.refl (a : Nat) : Sub a a := Nat.or_self a
theorem Sub.trans {a b c : Nat} (h1 : Sub a b) (h2 : Sub b c) : Sub a c := by
  unfold Sub at *
  rw [← h2, ← Nat.or_assoc, h1]
theorem Sub.left (a b : Nat) : Sub a (a ||| b) := by unfold Sub; rw [← Nat.or_assoc, Nat.or_self]
theorem Sub.right (a b : Nat) : Sub b (a ||| b) := by unfold Sub; rw [Nat.or_comm a b, ← Nat.or_assoc, Nat.or_self]
theorem Sub.both {a b c : Nat} (h1 : Sub a c) (h2 : Sub b c) : Sub (a ||| b) c := by unfold Sub at *; rw [Nat.or_assoc, h2, h1]
theorem Sub.zero (a : Nat) : Sub 0 a := Nat.zero_or a
theorem heard_needs (E : Env) (r : Rd) (w : W) : (heard E r w).needs = r.needs ||| needed E r.list w := by
  show (speaks E r w).needs ||| _ = _
  rw [(speaks_keeps E r w).2.2.2.1]
theorem does_needs (E : Env) (r : Rd) (w : W) (name : List UInt8) : (does E r w name).needs = r.needs := by
  unfold does
  rcases r.open_ with _ | d
  · simp only
    split
    · rfl
    · split
      · rfl
      · split
        · rcases r.list.getLast? with _ | x <;> rfl
        · rfl
  · simp only
    split <;> rfl
theorem round_needs (E : Env) (S : List UInt8) (r : Rd) : Sub r.needs (roundS E S r).1.needs := by
  have hh : ∀ w, Sub r.needs (heard E r w).needs := fun w => by rw [heard_needs]; exact Sub.left _ _
  unfold roundS
  split
  · exact Sub.refl _
  · split
    · exact hh _
    · split
      · split
        · exact hh _
        · rw [does_needs]
          split
          · rw [(speaks_keeps E _ _).2.2.2.1]; exact hh _
          · exact hh _
      · rw [does_needs]; exact hh _
theorem Rds.needs {E : Env} {S : List UInt8} {r R : Rd} (h : Rds E S r R) : Sub r.needs R.needs := by
  induction h with
  | @off S S' r R h => have := round_needs E S r; rw [h] at this; exact this
  | @on S S' r r' R h _ ih => have := round_needs E S r; rw [h] at this; exact this.trans ih
/-! a text that begins with another one -/
theorem low10 : isLow 10 = true := by decide
theorem high10 : isHigh 10 = false := by decide
theorem nextW_app (S b : List UInt8) (h : (nextW S).1 ≠ []) : (nextW (S ++ 10 :: b)).1 = (nextW S).1 ∧ ((nextW (S ++ 10 :: b)).2 = (nextW S).2 ++ 10 :: b ∨ (nextW S).2 = []) := by
  have hne : S.dropWhile isLow ≠ [] := by
    intro h0
    apply h
    unfold nextW
    rw [h0]
    rfl
  have e1 : (S ++ 10 :: b).dropWhile isLow = S.dropWhile isLow ++ 10 :: b := by
    rw [List.dropWhile_append]
    rw [if_neg (by simpa using hne)]
  unfold nextW
  rw [e1]
  simp only
  generalize S.dropWhile isLow = X at *
  have t10 : List.takeWhile isHigh (10 :: b) = [] := by simp [List.takeWhile, high10]
  refine ⟨?_, ?_⟩
  · rw [List.takeWhile_append]
    split
    · next hl =>
      rw [t10, List.append_nil]
      have : ∀ l : List UInt8, (l.takeWhile isHigh).length = l.length → l.takeWhile isHigh = l := by
        intro l
        induction l with
        | nil => intro _; rfl
        | cons x l ih =>
          intro hl
          rcases hx : isHigh x with _ | _
          · simp [List.takeWhile, hx] at hl
          · simp only [List.takeWhile, hx, List.length_cons] at hl ⊢
            rw [ih (by omega)]
      exact (this X hl).symm
    · rfl
  · rcases hd : X.dropWhile isHigh with _ | ⟨x, R⟩
    · right; rfl
    · left
      rw [List.dropWhile_append, if_neg (by rw [hd]; simp), hd]
      rfl
theorem untilS_app (x : UInt8) (S S2 b : List UInt8) (h : untilS x S = some S2) : untilS x (S ++ 10 :: b) = some (S2 ++ 10 :: b) := by
  unfold untilS at *
  rcases hd : S.dropWhile (notB x) with _ | ⟨y, R⟩
  · rw [hd] at h; cases h
  · rw [hd] at h
    cases h
    rw [List.dropWhile_append, if_neg (by rw [hd]; simp), hd]
    rfl
def Beg (b S C : List UInt8) : Prop := C = S ++ 10 :: b ∨ S = []
theorem passS_app (b S C S2 : List UInt8) (w : W) (hC : Beg b S C) (h : passS S w = some S2) : ∃ C2, passS C w = some C2 ∧ Beg b S2 C2 := by
  have hun : ∀ x, untilS x S = some S2 → ∃ C2, untilS x C = some C2 ∧ Beg b S2 C2 := by
    intro x hx
    rcases hC with rfl | rfl
    · exact ⟨_, untilS_app x S S2 b hx, .inl rfl⟩
    · cases hx
  unfold passS at h ⊢
  by_cases h1 : w.kind ≠ 2
  · rw [if_pos h1] at h ⊢
    cases h
    exact ⟨C, rfl, hC⟩
  · rw [if_neg h1] at h ⊢
    by_cases h2 : w.n = 15
    · rw [if_pos h2] at h ⊢; exact hun _ h
    · rw [if_neg h2] at h ⊢
      by_cases h3 : w.n = 17 ∨ w.n = 18
      · rw [if_pos h3] at h ⊢; exact hun _ h
      · rw [if_neg h3] at h ⊢
        by_cases h4 : w.n = 16
        · rw [if_pos h4] at h ⊢
          cases h
          refine ⟨_, rfl, ?_⟩
          rcases hC with rfl | rfl
          · rcases hd : S.dropWhile notLf with _ | ⟨y, R⟩
            · right; rfl
            · left
              rw [List.dropWhile_append, if_neg (by rw [hd]; simp), hd]
              rfl
          · right; rfl
        · rw [if_neg h4] at h ⊢
          cases h
          exact ⟨C, rfl, hC⟩
theorem round_begins (E : Env) (b S C : List UInt8) (r : Rd) (hC : Beg b S C) :
    ((roundS E S r).2.2 = true → (roundS E C r).2.2 = true ∧ (roundS E C r).1 = (roundS E S r).1 ∧ Beg b (roundS E S r).2.1 (roundS E C r).2.1) ∧
    ((roundS E S r).2.2 = false → Sub (roundS E S r).1.needs (roundS E C r).1.needs) := by
  by_cases hw : (nextW S).1 = []
  · have e : roundS E S r = (r, [], false) := by unfold roundS; rw [if_pos hw]
    rw [e]
    exact ⟨fun h => by simp at h, fun _ => round_needs E C r⟩
  · have hS : S ≠ [] := by rintro rfl; exact hw rfl
    have hC' : C = S ++ 10 :: b := hC.resolve_right hS
    subst hC'
    obtain ⟨h1, h2⟩ := nextW_app S b hw
    have hwC : ¬ (nextW (S ++ 10 :: b)).1 = [] := by rw [h1]; exact hw
    have hfin : ∀ C, ¬ (nextW C).1 = [] → Sub (heard E r (what E r.list (nextW C).1)).needs (roundS E C r).1.needs := by
      intro C hC
      unfold roundS
      rw [if_neg hC]
      split
      · exact Sub.refl _
      · split
        · split
          · exact Sub.refl _
          · rw [does_needs]
            split
            · rw [(speaks_keeps E _ _).2.2.2.1]; exact Sub.refl _
            · exact Sub.refl _
        · rw [does_needs]; exact Sub.refl _
    have hf := hfin _ hwC
    rw [h1] at hf
    rcases hp : passS (nextW S).2 (what E r.list (nextW S).1) with _ | S2
    · have e : roundS E S r = (heard E r (what E r.list (nextW S).1), [], false) := by unfold roundS; rw [if_neg hw, hp]
      rw [e]
      exact ⟨fun h => by simp at h, fun _ => hf⟩
    · obtain ⟨C2, hp2, hB2⟩ := passS_app b (nextW S).2 (nextW (S ++ 10 :: b)).2 S2 _ h2 hp
      by_cases hn : named r.open_.isSome (what E r.list (nextW S).1)
      · by_cases hm : (nextW S2).1 = []
        · have e : roundS E S r = (heard E r (what E r.list (nextW S).1), [], false) := by unfold roundS; rw [if_neg hw, hp]; simp only; rw [if_pos hn, if_pos hm]
          rw [e]
          exact ⟨fun h => by simp at h, fun _ => hf⟩
        · have hS2 : S2 ≠ [] := by rintro rfl; exact hm rfl
          have hC2 := hB2.resolve_right hS2
          subst hC2
          obtain ⟨h3, h4⟩ := nextW_app S2 b hm
          have hmC : ¬ (nextW (S2 ++ 10 :: b)).1 = [] := by rw [h3]; exact hm
          have e : roundS E S r = (does E (if (what E r.list (nextW S).1).kind = 2 ∧ ((what E r.list (nextW S).1).n = 7 ∨ (what E r.list (nextW S).1).n = 8) then speaks E (heard E r (what E r.list (nextW S).1)) (what E r.list (nextW S2).1) else heard E r (what E r.list (nextW S).1)) (what E r.list (nextW S).1) (nextW S2).1, (nextW S2).2, true) := by unfold roundS; rw [if_neg hw, hp]; simp only; rw [if_pos hn, if_neg hm]
          have eC : roundS E (S ++ 10 :: b) r = (does E (if (what E r.list (nextW S).1).kind = 2 ∧ ((what E r.list (nextW S).1).n = 7 ∨ (what E r.list (nextW S).1).n = 8) then speaks E (heard E r (what E r.list (nextW S).1)) (what E r.list (nextW S2).1) else heard E r (what E r.list (nextW S).1)) (what E r.list (nextW S).1) (nextW S2).1, (nextW (S2 ++ 10 :: b)).2, true) := by unfold roundS; rw [if_neg hwC, h1, hp2]; simp only; rw [if_pos hn, if_neg hmC, h3]
          rw [e, eC]
          exact ⟨fun _ => ⟨rfl, rfl, h4⟩, fun h => by simp at h⟩
      · have e : roundS E S r = (does E (heard E r (what E r.list (nextW S).1)) (what E r.list (nextW S).1) [], S2, true) := by unfold roundS; rw [if_neg hw, hp]; simp only; rw [if_neg hn]
        have eC : roundS E (S ++ 10 :: b) r = (does E (heard E r (what E r.list (nextW S).1)) (what E r.list (nextW S).1) [], C2, true) := by unfold roundS; rw [if_neg hwC, h1, hp2]; simp only; rw [if_neg hn]
        rw [e, eC]
        exact ⟨fun _ => ⟨rfl, rfl, hB2⟩, fun h => by simp at h⟩
theorem Rds.begins {E : Env} {S : List UInt8} {r R : Rd} (h : Rds E S r R) : ∀ (b C : List UInt8) (R' : Rd), Beg b S C → Rds E C r R' → Sub R.needs R'.needs := by
  induction h with
  | @off S S' r R h =>
    intro b C R' hC k
    have h2 := (round_begins E b S C r hC).2
    rw [h] at h2
    have h3 := h2 rfl
    cases k with
    | off k => rw [k] at h3; exact h3
    | on k k2 => rw [k] at h3; exact h3.trans k2.needs
  | @on S S' r r' R h _ ih =>
    intro b C R' hC k
    have h2 := (round_begins E b S C r hC).1
    rw [h] at h2
    obtain ⟨h3, h4, h5⟩ := h2 rfl
    cases k with
    | off k => rw [k] at h3; cases h3
    | @on _ S'' _ r'' _ k k2 =>
      rw [k] at h3 h4 h5
      have : r'' = r' := h4
      subst this
      exact ih b S'' R' h5 k2
/-- a text behind another one needs no less -/
theorem needs_begins (E : Env) (a b : List UInt8) : Sub (readAll E a rd0).needs (readAll E (a ++ 10 :: b) rd0).needs :=
  (Rds.all E a).begins b (a ++ 10 :: b) (er (readAll E (a ++ 10 :: b) rd0)) (.inl rfl) (Rds.all E (a ++ 10 :: b))
/-! what the definitions need -/
structure Own (r : Rd) : Prop where
  list : ∀ e ∈ r.list, Sub e.needs r.needs
  open_ : ∀ d, r.open_ = some d → Sub d.e.needs r.needs
theorem speaks_open (E : Env) (r : Rd) (w : W) : (speaks E r w).open_ = r.open_ ∨ (speaks E r w).open_ = r.open_.map fun d => { d with wild := true } := by
  unfold Look.speaks
  simp only
  split <;> split <;> first | exact .inl rfl | exact .inr rfl
theorem Own.speaks {r : Rd} (h : Own r) (E : Env) (w : W) : Own (speaks E r w) := by
  obtain ⟨_, h2, _, h4, _⟩ := speaks_keeps E r w
  refine ⟨by rw [h2, h4]; exact h.list, ?_⟩
  rw [h4]
  intro d hd
  rcases speaks_open E r w with ho | ho
  · rw [ho] at hd; exact h.open_ d hd
  · rw [ho] at hd
    rcases hr : r.open_ with _ | d0
    · rw [hr] at hd; cases hd
    · rw [hr] at hd; cases hd; exact h.open_ d0 hr
theorem Own.more {r : Rd} (h : Own r) (n : Nat) : Own { r with needs := r.needs ||| n } := ⟨fun e he => (h.list e he).trans (Sub.left _ _), fun d hd => (h.open_ d hd).trans (Sub.left _ _)⟩
theorem Own.heard {r : Rd} (h : Own r) (E : Env) (w : W) : Own (heard E r w) := (h.speaks E w).more _
theorem Own.owns {r : Rd} (h : Own r) (ho : r.open_ = none) {e : Eff} (he : Sub e.needs r.needs) (b : Bool) : Own (owns r e b) := by
  refine ⟨fun x hx => ?_, fun d hd => ?_⟩
  · rcases List.mem_append.1 hx with hx | hx
    · exact h.list x hx
    · rw [List.mem_singleton] at hx; subst hx; exact he
  · rw [show (Look.owns r e b).open_ = r.open_ from rfl, ho] at hd; cases hd
theorem Own.does {r : Rd} (h : Own r) (E : Env) (w : W) (hw : Sub (needed E r.list w) r.needs) (name : List UInt8) : Own (does E r w name) := by
  unfold Look.does
  rcases ho : r.open_ with _ | d
  · simp only
    split
    · exact h.owns ho (Sub.zero _) false
    · split
      · refine ⟨h.list, fun d hd => ?_⟩
        cases hd
        exact Sub.zero _
      · split
        · rcases hl : r.list.getLast? with _ | x
          · exact h
          · refine ⟨fun y hy => ?_, fun d hd => ?_⟩
            · rcases List.mem_append.1 hy with hy | hy
              · exact h.list y (List.dropLast_subset _ hy)
              · rw [List.mem_singleton] at hy; subst hy
                exact h.list x (List.mem_of_getLast? hl)
            · cases hd
        · exact h
  · simp only
    have hd0 := h.open_ d ho
    split
    · refine Own.owns (r := { r with open_ := none }) ⟨h.list, fun d hd => by cases hd⟩ rfl ?_ _
      rw [closed_needs]
      exact hd0
    · refine ⟨h.list, fun d' hd' => ?_⟩
      cases hd'
      show Sub (item E r.list d w).e.needs r.needs
      rw [(item_tame E r.list d w).needs]
      exact Sub.both hd0 hw
theorem Own.round {r : Rd} (h : Own r) (E : Env) (S : List UInt8) : Own (roundS E S r).1 := by
  have hh : ∀ w, Sub (needed E r.list w) (Look.heard E r w).needs := fun w => by rw [heard_needs]; exact Sub.right _ _
  unfold roundS
  split
  · exact h
  · split
    · exact h.heard E _
    · split
      · split
        · exact h.heard E _
        · split
          · refine ((h.heard E _).speaks E _).does E _ ?_ _
            rw [(speaks_keeps E _ _).2.1, heard_list, (speaks_keeps E _ _).2.2.2.1]
            exact hh _
          · refine (h.heard E _).does E _ ?_ _
            rw [heard_list]
            exact hh _
      · refine (h.heard E _).does E _ ?_ _
        rw [heard_list]
        exact hh _
theorem Rds.own {E : Env} {S : List UInt8} {r R : Rd} (h : Rds E S r R) : Own r → Own R := by
  induction h with
  | @off S S' r R h => intro hr; have := hr.round E S; rw [h] at this; exact this
  | @on S S' r r' R h _ ih => intro hr; have := hr.round E S; rw [h] at this; exact ih this
theorem needs_own (E : Env) (a : List UInt8) : ∀ e ∈ (readAll E a rd0).list, Sub e.needs (readAll E a rd0).needs :=
  ((Rds.all E a).own ⟨by simp [rd0], by simp [rd0]⟩).list
end Look
end Go.Proofs.YthejfkkmcbdlhaaGreatDoor
/- Chapter 19: what a text of definitions ': name 5 ;' and of their names is read as. Plain lemmas. -/
namespace Go.Proofs.YthejfkkmcbdlhaaGreatDoor
set_option linter.unusedVariables false
open Go.RowKit Go.Lib
namespace Look
theorem low_high (c : UInt8) : isLow c = !isHigh c := by unfold isLow isHigh; rw [Bool.eq_iff_iff]; simp
theorem nextW_low {c : UInt8} (hc : isLow c = true) (S : List UInt8) : nextW (c :: S) = nextW S := by
  unfold nextW
  simp only [List.dropWhile, hc]
theorem nextW_word {w : List UInt8} (hw : w ≠ []) (hh : ∀ c ∈ w, isHigh c = true) {c : UInt8} (hc : isLow c = true) (R : List UInt8) : nextW (w ++ c :: R) = (w, R) := by
  have hch : isHigh c = false := by have := low_high c; rw [hc] at this; simpa using this.symm
  have e1 : (w ++ c :: R).dropWhile isLow = w ++ c :: R := by
    rcases w with _ | ⟨x, w⟩
    · exact absurd rfl hw
    · have : isLow x = false := by rw [low_high, hh x (by simp)]; rfl
      simp [this]
  have e2 : ∀ w : List UInt8, (∀ c ∈ w, isHigh c = true) → (w ++ c :: R).takeWhile isHigh = w ∧ (w ++ c :: R).dropWhile isHigh = c :: R := by
    intro w
    induction w with
    | nil => intro _; simp [hch]
    | cons x w ih =>
      intro h
      have hx := h x (by simp)
      obtain ⟨i1, i2⟩ := ih (fun c hc => h c (by simp [hc]))
      simp only [List.cons_append, List.takeWhile, List.dropWhile, hx]
      exact ⟨by rw [i1], i2⟩
  unfold nextW
  rw [e1, (e2 w hh).1, (e2 w hh).2]
  rfl
theorem nextW_last {w : List UInt8} (hh : ∀ c ∈ w, isHigh c = true) : nextW w = (w, []) := by
  rcases w with _ | ⟨x, w⟩
  · rfl
  · have hx : isLow x = false := by rw [low_high, hh x (by simp)]; rfl
    have e1 : (x :: w).dropWhile isLow = x :: w := by simp [List.dropWhile, hx]
    have e2 : ∀ w : List UInt8, (∀ c ∈ w, isHigh c = true) → w.takeWhile isHigh = w ∧ w.dropWhile isHigh = [] := by
      intro w
      induction w with
      | nil => intro _; exact ⟨rfl, rfl⟩
      | cons x w ih =>
        intro h
        have hx := h x (by simp)
        obtain ⟨i1, i2⟩ := ih (fun c hc => h c (by simp [hc]))
        simp only [List.takeWhile, List.dropWhile, hx]
        exact ⟨by rw [i1], i2⟩
    unfold nextW
    rw [e1, (e2 _ hh).1, (e2 _ hh).2]
    rfl
/-- what the laws ask of the kernel's words -/
structure EnvW (E : Env) : Prop where
  k58 : latest E.klist [58] = none
  k59 : latest E.klist [59] = none
  k53 : latest E.klist [53] = none
  t58 : E.tab.lookup [58] = some ⟨2, 1, [58]⟩
  t59 : E.tab.lookup [59] = some ⟨2, 2, [59]⟩
  t53 : E.tab.lookup [53] = none
  semi : ∀ k w, E.tab.lookup k = some w → w.kind = 2 → w.n = 2 → k = [59]
theorem low58 : lowS [58] = [58] := by decide
theorem low59 : lowS [59] = [59] := by decide
theorem low53 : lowS [53] = [53] := by decide
theorem num53 : (parseN [53] 10).2 = true := by decide +kernel
theorem latest_none {l : List Eff} {k : List UInt8} (h : ∀ e ∈ l, lowS e.name ≠ k) : latest l k = none := by
  induction l with
  | nil => rfl
  | cons e l ih =>
    unfold latest
    rw [ih (fun e he => h e (by simp [he]))]
    simp only
    rw [if_neg (h e (by simp))]
theorem latest_some {l : List Eff} {k : List UInt8} {e : Eff} (he : e ∈ l) (h : lowS e.name = k) : ∃ i, latest l k = some i := by
  induction l with
  | nil => simp at he
  | cons x l ih =>
    unfold latest
    rcases hl : latest l k with _ | i
    · simp only
      rcases List.mem_cons.1 he with rfl | he
      · rw [if_pos h]; exact ⟨0, rfl⟩
      · obtain ⟨i, hi⟩ := ih he; rw [hl] at hi; cases hi
    · exact ⟨i + 1, rfl⟩
theorem latest_low {l : List Eff} {k : List UInt8} {i : Nat} (h : latest l k = some i) : i < l.length := by
  induction l generalizing i with
  | nil => cases h
  | cons x l ih =>
    unfold latest at h
    rcases hl : latest l k with _ | j
    · rw [hl] at h
      simp only at h
      split at h
      · cases h; simp
      · cases h
    · rw [hl] at h
      cases h
      have := ih hl
      simp
      omega
theorem what58 {E : Env} (hE : EnvW E) {l : List Eff} (h : ∀ e ∈ l, lowS e.name ≠ [58]) : what E l [58] = ⟨2, 1, [58]⟩ := by
  unfold what
  rw [low58, latest_none h]
  simp only [hE.k58, hE.t58]
theorem what59 {E : Env} (hE : EnvW E) {l : List Eff} (h : ∀ e ∈ l, lowS e.name ≠ [59]) : what E l [59] = ⟨2, 2, [59]⟩ := by
  unfold what
  rw [low59, latest_none h]
  simp only [hE.k59, hE.t59]
theorem whatOwn {E : Env} {l : List Eff} {s : List UInt8} {i : Nat} (h : latest l (lowS s) = some i) : what E l s = ⟨4, i, []⟩ := by
  unfold what
  rw [h]
/-- ':' and a name, nothing open -/
theorem round_colon {E : Env} (hE : EnvW E) (n R : List UInt8) (hn : n ≠ []) (hh : ∀ c ∈ n, isHigh c = true) (r : Rd) (ho : r.open_ = none) (hl : ∀ e ∈ r.list, lowS e.name ≠ [58]) :
    roundS E (58 :: 32 :: (n ++ 32 :: R)) r = ({ r with spoken := r.spoken ++ [[58]], open_ := some ⟨⟨n, 0, 0, true, 0⟩, false, 0, st0, [], []⟩ }, R, true) := by
  rcases r with ⟨at_, list, wild, spoken, loose, needs, open_⟩
  cases ho
  have e1 : nextW (58 :: 32 :: (n ++ 32 :: R)) = ([58], n ++ 32 :: R) := nextW_word (w := [58]) (by simp) (by decide) (by decide) _
  have e2 : nextW (n ++ 32 :: R) = (n, R) := nextW_word hn hh (by decide) R
  unfold roundS
  simp only [e1, what58 hE hl]
  rw [if_neg (by simp)]
  have e3 : passS (n ++ 32 :: R) ⟨2, 1, [58]⟩ = some (n ++ 32 :: R) := rfl
  rw [e3]
  simp only [e2]
  rw [if_pos (by rfl), if_neg hn, if_neg (by decide)]
  simp [heard, speaks, isLoose, needed, does]
/-- ';' -/
theorem round_semi {E : Env} (hE : EnvW E) (R : List UInt8) (r : Rd) (d : Def) (ho : r.open_ = some d) (hl : ∀ e ∈ r.list, lowS e.name ≠ [59]) (S : List UInt8) (hS : nextW S = ([59], R)) :
    roundS E S r = (owns { r with spoken := r.spoken ++ [[59]], open_ := none } d.closed d.wild, R, true) := by
  rcases r with ⟨at_, list, wild, spoken, loose, needs, open_⟩
  cases ho
  unfold roundS
  simp only [hS, what59 hE hl]
  rw [if_neg (by simp)]
  have e3 : passS R ⟨2, 2, [59]⟩ = some R := rfl
  rw [e3]
  simp only
  rw [if_neg (by simp [named])]
  simp [heard, speaks, isLoose, needed, does, owns]
/-- '5', in a definition: a cell more -/
theorem round_five {E : Env} (hE : EnvW E) (R : List UInt8) (r : Rd) (d : Def) (ho : r.open_ = some d) (hl : ∀ e ∈ r.list, e.inn = 0 ∧ e.out = 1 ∧ e.known = true ∧ e.needs = 0) :
    roundS E (53 :: 32 :: R) r = ({ r with open_ := some (d.takes 0 1) }, R, true) := by
  rcases r with ⟨at_, list, wild, spoken, loose, needs, open_⟩
  cases ho
  have e1 : nextW (53 :: 32 :: R) = ([53], R) := nextW_word (w := [53]) (by simp) (by decide) (by decide) _
  unfold roundS
  simp only [e1]
  rw [if_neg (by simp)]
  rcases hq : latest list (lowS [53]) with _ | i
  · have ew : what E list [53] = ⟨5, 0, []⟩ := by
      unfold what
      rw [hq]
      simp only [low53, hE.k53, hE.t53, num53]
      rfl
    rw [ew]
    have e3 : passS R ⟨5, 0, []⟩ = some R := rfl
    rw [e3]
    simp only
    rw [if_neg (by simp [named])]
    simp [heard, speaks, isLoose, needed, does, item]
  · have ew := whatOwn (E := E) hq
    rw [ew]
    have e3 : passS R ⟨4, i, []⟩ = some R := rfl
    rw [e3]
    simp only
    rw [if_neg (by simp [named])]
    have hi := latest_low hq
    obtain ⟨h1, h2, h3, h4⟩ := hl list[i] (List.getElem_mem hi)
    simp [heard, speaks, isLoose, needed, does, item, effect, hi, h1, h2, h3, h4]
/-- an own word, nothing open -/
theorem round_use {E : Env} (n R : List UInt8) (hn : n ≠ []) (hh : ∀ c ∈ n, isHigh c = true) (r : Rd) (ho : r.open_ = none) (i : Nat) (hi : latest r.list (lowS n) = some i) (hl : ∀ e ∈ r.list, e.needs = 0) :
    roundS E (n ++ 10 :: R) r = (r, R, true) := by
  rcases r with ⟨at_, list, wild, spoken, loose, needs, open_⟩
  cases ho
  have e1 : nextW (n ++ 10 :: R) = (n, R) := nextW_word hn hh (by decide) R
  unfold roundS
  simp only [e1]
  rw [if_neg hn, whatOwn (E := E) hi]
  have e3 : passS R ⟨4, i, []⟩ = some R := rfl
  rw [e3]
  simp only
  rw [if_neg (by simp [named])]
  have hi' := latest_low hi
  have h4 := hl list[i] (List.getElem_mem hi')
  simp [heard, speaks, isLoose, needed, does, effect, hi', h4]
/-! the whole text -/
def effOf (n : List UInt8) : Eff := ⟨n, 0, 1, true, 0⟩
def defT (n : List UInt8) : List UInt8 := 58 :: 32 :: (n ++ 32 :: 53 :: 32 :: 59 :: 10 :: [])
def useT (n : List UInt8) : List UInt8 := n ++ [10]
structure NameOk (n : List UInt8) : Prop where
  ne : n ≠ []
  high : ∀ c ∈ n, isHigh c = true
  n58 : lowS n ≠ [58]
  n59 : lowS n ≠ [59]
theorem closed_five (n : List UInt8) : ((⟨⟨n, 0, 0, true, 0⟩, false, 0, st0, [], []⟩ : Def).takes 0 1).closed = effOf n := by
  have h : wrap64 0 = 0 ∧ wrap64 1 = 1 ∧ wrap64 (0 - 0) = 0 ∧ wrap64 (1 - 0) = 1 ∧ wrap64 (0 + 1) = 1 := by refine ⟨?_, ?_, ?_, ?_, ?_⟩ <;> (unfold wrap64; omega)
  simp [Def.takes, st0, Def.closed, Def.end_, Def.odd, effOf, h, stDead]
theorem rds_def {E : Env} (hE : EnvW E) (n R : List UInt8) (hn : NameOk n) (L : List (List UInt8)) (hL : ∀ m ∈ L, NameOk m) (r R' : Rd) (ho : r.open_ = none) (hl : r.list = L.map effOf)
    (h : Rds E R (owns { r with spoken := r.spoken ++ [[58]] ++ [[59]] } (effOf n) false) R') : Rds E (defT n ++ R) r R' := by
  have hl58 : ∀ e ∈ r.list, lowS e.name ≠ [58] := by
    intro e he; rw [hl] at he; obtain ⟨m, hm, rfl⟩ := List.mem_map.1 he; exact (hL m hm).n58
  have hl59 : ∀ e ∈ r.list, lowS e.name ≠ [59] := by
    intro e he; rw [hl] at he; obtain ⟨m, hm, rfl⟩ := List.mem_map.1 he; exact (hL m hm).n59
  have hl5 : ∀ e ∈ r.list, e.inn = 0 ∧ e.out = 1 ∧ e.known = true ∧ e.needs = 0 := by
    intro e he; rw [hl] at he; obtain ⟨m, hm, rfl⟩ := List.mem_map.1 he; exact ⟨rfl, rfl, rfl, rfl⟩
  have e0 : defT n ++ R = 58 :: 32 :: (n ++ 32 :: (53 :: 32 :: (59 :: 10 :: R))) := by simp [defT]
  rw [e0]
  refine .on (round_colon hE n _ hn.ne hn.high r ho hl58) ?_
  refine .on (round_five hE _ _ _ rfl (by exact hl5)) ?_
  refine .on (round_semi hE R _ _ rfl (by exact hl59) (59 :: 10 :: R) (nextW_word (w := [59]) (by simp) (by decide) (by decide) R)) ?_
  rw [closed_five]
  have e1 : ((⟨⟨n, 0, 0, true, 0⟩, false, 0, st0, [], []⟩ : Def).takes 0 1).wild = false := by unfold Def.takes; split <;> rfl
  rw [e1]
  have e2 : ({ r with spoken := r.spoken ++ [[58]] ++ [[59]], open_ := none } : Rd) = { r with spoken := r.spoken ++ [[58]] ++ [[59]] } := by rw [← ho]
  rw [← e2] at h
  exact h
theorem rds_uses {E : Env} (hE : EnvW E) : ∀ (U : List (List UInt8)) (r : Rd), r.open_ = none → (∀ e ∈ r.list, e.needs = 0) → (∀ n ∈ U, NameOk n ∧ ∃ i, latest r.list (lowS n) = some i) → Rds E (U.flatMap useT) r r
  | [], r, _, _, _ => .off (S' := []) (by show roundS E [] r = (r, [], false); unfold roundS; exact if_pos rfl)
  | n :: U, r, ho, hl, hU => by
    obtain ⟨hn, i, hi⟩ := hU n (by simp)
    have e0 : (n :: U).flatMap useT = n ++ 10 :: U.flatMap useT := by simp [useT]
    rw [e0]
    exact .on (round_use n _ hn.ne hn.high r ho i hi hl) (rds_uses hE U r ho hl (fun m hm => hU m (by simp [hm])))
/-- a definition more -/
def defd (r : Rd) (n : List UInt8) : Rd := owns { r with spoken := r.spoken ++ [[58]] ++ [[59]] } (effOf n) false
theorem rds_defs {E : Env} (hE : EnvW E) (X : List UInt8) (R' : Rd) : ∀ (D L : List (List UInt8)) (r : Rd), (∀ m ∈ L, NameOk m) → (∀ m ∈ D, NameOk m) → r.open_ = none → r.list = L.map effOf → Rds E X (D.foldl defd r) R' → Rds E (D.flatMap defT ++ X) r R'
  | [], L, r, hL, hD, ho, hl, h => by simpa using h
  | n :: D, L, r, hL, hD, ho, hl, h => by
    rw [List.flatMap_cons, List.append_assoc]
    refine rds_def hE n _ (hD n (by simp)) L hL r R' ho hl ?_
    refine rds_defs hE X R' D (L ++ [n]) (defd r n) ?_ (fun m hm => hD m (by simp [hm])) ho ?_ h
    · intro m hm
      rcases List.mem_append.1 hm with hm | hm
      · exact hL m hm
      · rw [List.mem_singleton] at hm; subst hm; exact hD m (by simp)
    · show r.list ++ [effOf n] = _
      rw [hl]; simp
theorem defs_facts : ∀ (D : List (List UInt8)) (r : Rd), (D.foldl defd r).open_ = r.open_ ∧ (D.foldl defd r).list = r.list ++ D.map effOf ∧ (D.foldl defd r).spoken = r.spoken ++ (D.flatMap fun _ => [[58], [59]])
  | [], r => ⟨rfl, by simp, by simp⟩
  | n :: D, r => by
    obtain ⟨h1, h2, h3⟩ := defs_facts D (defd r n)
    rw [List.foldl_cons]
    refine ⟨h1, ?_, ?_⟩
    · rw [h2]; simp [defd, owns]
    · rw [h3]; simp [defd, owns]
/-- THE WHOLE TEXT: definitions, then their names -/
theorem shadows_read {E : Env} (hE : EnvW E) (D : List (List UInt8)) (hD : ∀ m ∈ D, NameOk m) :
    (readAll E (D.flatMap defT ++ D.flatMap useT) rd0).list = D.map effOf ∧ (readAll E (D.flatMap defT ++ D.flatMap useT) rd0).spoken = D.flatMap fun _ => [[58], [59]] := by
  obtain ⟨h1, h2, h3⟩ := defs_facts D rd0
  have hu : Rds E (D.flatMap useT) (D.foldl defd rd0) (D.foldl defd rd0) := by
    refine rds_uses hE D _ h1 ?_ ?_
    · intro e he
      rw [h2] at he
      obtain ⟨m, _, rfl⟩ := List.mem_map.1 (by simpa [rd0] using he)
      rfl
    · intro n hn
      refine ⟨hD n hn, ?_⟩
      rw [h2]
      exact latest_some (e := effOf n) (by simp only [rd0, List.nil_append]; exact List.mem_map.2 ⟨n, hn, rfl⟩) rfl
  have h4 := rds_defs hE _ _ D [] rd0 (by simp) hD rfl rfl hu
  have h5 := Rds.one (Rds.all E (D.flatMap defT ++ D.flatMap useT)) h4
  have h6 : (er (readAll E (D.flatMap defT ++ D.flatMap useT) rd0)).list = (D.foldl defd rd0).list := by rw [h5]
  have h7 : (er (readAll E (D.flatMap defT ++ D.flatMap useT) rd0)).spoken = (D.foldl defd rd0).spoken := by rw [h5]
  exact ⟨h6.trans (by rw [h2]; rfl), h7.trans (by rw [h3]; rfl)⟩
end Look
end Go.Proofs.YthejfkkmcbdlhaaGreatDoor
/- Chapter 19: how great a definition's heights become. Plain lemmas. -/
namespace Go.Proofs.YthejfkkmcbdlhaaGreatDoor
set_option linter.unusedVariables false
open Go.RowKit Go.Lib
namespace Look
theorem wr_id {n : Int} (h : -9223372036854775808 ≤ n ∧ n ≤ 9223372036854775807) : wrap64 n = n := by unfold wrap64; omega
def SB (B : Int) (s : St) : Prop := -B ≤ s.h ∧ s.h ≤ B
def OB (B : Int) (o : Open) : Prop := SB B o.a ∧ SB B o.b
structure Bd (B : Int) (d : Def) : Prop where
  want : 0 ≤ d.want ∧ d.want ≤ B
  s : SB B d.s
  stack : ∀ o ∈ d.stack, OB B o
  ends : ∀ x ∈ d.ends, -B ≤ x ∧ x ≤ B
theorem SB.mono {B B' : Int} {s : St} (h : SB B s) (hB : B ≤ B') : SB B' s := by unfold SB at *; omega
theorem OB.mono {B B' : Int} {o : Open} (h : OB B o) (hB : B ≤ B') : OB B' o := ⟨h.1.mono hB, h.2.mono hB⟩
theorem Bd.mono {B B' : Int} {d : Def} (h : Bd B d) (hB : B ≤ B') : Bd B' d :=
  ⟨⟨h.want.1, by have := h.want.2; omega⟩, h.s.mono hB, fun o ho => (h.stack o ho).mono hB, fun x hx => by have := h.ends x hx; omega⟩
theorem Bd.pos {B : Int} {d : Def} (h : Bd B d) : 0 ≤ B := by have := h.want; omega
theorem SB.zero {B : Int} (hB : 0 ≤ B) : SB B st0 := by unfold SB st0; simp; omega
theorem SB.dead {B : Int} (hB : 0 ≤ B) : SB B stDead := by unfold SB stDead; simp; omega
/-- the other fields play no part -/
theorem Bd.same {B : Int} {d d' : Def} (h : Bd B d) (h1 : d'.want = d.want) (h2 : SB B d'.s) (h3 : ∀ o ∈ d'.stack, OB B o) (h4 : d'.ends = d.ends) : Bd B d' := ⟨by rw [h1]; exact h.want, h2, h3, by rw [h4]; exact h.ends⟩
theorem Bd.at_ {B : Int} {d : Def} (h : Bd B d) {s : St} (hs : SB B s) : Bd B { d with s := s } := ⟨h.want, hs, h.stack, h.ends⟩
theorem Bd.bad {B : Int} {d : Def} (h : Bd B d) : Bd B d.bad := ⟨h.want, h.s, h.stack, h.ends⟩
theorem Bd.eff {B : Int} {d : Def} (h : Bd B d) (e : Eff) : Bd B { d with e := e } := ⟨h.want, h.s, h.stack, h.ends⟩
theorem Bd.stk {B : Int} {d : Def} (h : Bd B d) {l : List Open} (hl : ∀ o ∈ l, OB B o) : Bd B { d with stack := l } := ⟨h.want, h.s, hl, h.ends⟩
theorem Bd.takes {B K : Int} {d : Def} (h : Bd B d) {t l : Int} (ht : 0 ≤ t ∧ t ≤ K) (hl : -K ≤ l ∧ l ≤ K) (hm : B + 2 * K ≤ 4611686018427387904) : Bd (B + 2 * K) (d.takes t l) := by
  have hB := h.pos
  have h1 := h.want
  have h2 := h.s
  unfold SB at h2
  unfold Def.takes
  split
  · exact h.mono (by omega)
  · have e1 : wrap64 (t - d.s.h) = t - d.s.h := wr_id (by omega)
    have e2 : wrap64 (l - t) = l - t := wr_id (by omega)
    have e3 : wrap64 (d.s.h + (l - t)) = d.s.h + (l - t) := wr_id (by omega)
    rw [e1, e2, e3]
    refine ⟨?_, ?_, fun o ho => (h.stack o ho).mono (by omega), fun x hx => by have := h.ends x hx; omega⟩
    · show 0 ≤ max d.want _ ∧ max d.want _ ≤ _
      omega
    · unfold SB
      show _ ≤ d.s.h + (l - t) ∧ d.s.h + (l - t) ≤ _
      omega
theorem Bd.meet {B : Int} {d : Def} (h : Bd B d) {a b : St} (ha : SB B a) (hb : SB B b) : Bd B (d.meet a b).1 ∧ SB B (d.meet a b).2 := by
  unfold Def.meet
  split
  · exact ⟨h, hb⟩
  · split
    · exact ⟨h.bad, ha⟩
    · exact ⟨h, ha⟩
theorem top_mem {d : Def} {k : Nat} {x : Open} (h : d.top k = some x) : x ∈ d.stack := by
  unfold Def.top at h
  split at h
  · next o ho =>
    split at h
    · cases h; exact List.mem_of_getLast? ho
    · cases h
  · cases h
theorem Bd.opens {B : Int} {d : Def} (h : Bd B d) {o : Open} (ho : OB B o) : Bd B (d.opens o) := by
  refine h.stk fun x hx => ?_
  rcases List.mem_append.1 hx with hx | hx
  · exact h.stack x hx
  · rw [List.mem_singleton] at hx; subst hx; exact ho
theorem Bd.closes {B : Int} {d : Def} (h : Bd B d) : Bd B d.closes := h.stk fun x hx => h.stack x (List.dropLast_subset _ hx)
theorem Bd.setTop {B : Int} {d : Def} (h : Bd B d) {o : Open} (ho : OB B o) : Bd B (d.setTop o) := by
  refine h.stk fun x hx => ?_
  rcases List.mem_append.1 hx with hx | hx
  · exact h.stack x (List.dropLast_subset _ hx)
  · rw [List.mem_singleton] at hx; subst hx; exact ho
theorem Bd.end_ {B : Int} {d : Def} (h : Bd B d) : Bd B d.end_ := by
  have hB := h.pos
  unfold Def.end_
  split
  · exact h
  · have h1 : Bd B (if d.odd then d.bad else d) := by split; exact h.bad; exact h
    generalize (if d.odd then d.bad else d) = d1 at *
    refine ⟨h1.want, SB.dead hB, h1.stack, fun x hx => ?_⟩
    rcases List.mem_append.1 hx with hx | hx
    · exact h1.ends x hx
    · rw [List.mem_singleton] at hx; subst hx; exact h1.s
section
variable {B K : Int} {d : Def}
theorem Bd.branch (h : Bd B d) (hK : 2 ≤ K) (hm : B + 2 * K ≤ 4611686018427387904) (k : Nat) : Bd (B + 2 * K) (d.branch k) := by
  have hB := h.pos
  have hB2 : B ≤ B + 2 * K := by omega
  unfold Def.branch
  split
  · have h1 := h.takes (K := K) (t := 1) (l := 0) (by omega) (by omega) hm
    exact h1.opens ⟨h1.s, SB.zero (by omega)⟩
  · have h := h.mono hB2
    split
    · exact h.bad
    · next x hx =>
      have hx := h.stack x (top_mem hx)
      split
      · exact (h.setTop (o := { x with a := d.s }) ⟨h.s, hx.2⟩).at_ hx.1
      · obtain ⟨m1, m2⟩ := h.meet hx.1 h.s
        exact (m1.at_ m2).closes
theorem Bd.turns (h : Bd B d) (hK : 2 ≤ K) (hm : B + 2 * K ≤ 4611686018427387904) (k : Nat) : Bd (B + 2 * K) (d.turns k) := by
  have hB := h.pos
  have hB2 : B ≤ B + 2 * K := by omega
  unfold Def.turns
  split
  · have h1 := h.mono hB2
    exact h1.opens ⟨h1.s, SB.zero (by omega)⟩
  · have h1 : Bd (B + 2 * K) (if k = 24 ∨ k = 25 then d.takes 1 0 else d) := by
      split
      · exact h.takes (K := K) (t := 1) (l := 0) (by omega) (by omega) hm
      · exact h.mono hB2
    generalize (if k = 24 ∨ k = 25 then d.takes 1 0 else d) = d1 at *
    simp only
    split
    · exact h1.bad
    · next x hx =>
      have hx := h1.stack x (top_mem hx)
      split
      · exact h1.setTop (o := { x with kind := 25, b := d1.s }) ⟨hx.1, h1.s⟩
      · obtain ⟨m1, m2⟩ := h1.meet hx.1 h1.s
        generalize (d1.meet x.a d1.s).1 = d2 at *
        split
        · exact (m1.at_ (SB.dead (by omega))).closes
        · split
          · exact (m1.at_ hx.2).closes
          · exact m1.closes
theorem Bd.counts (h : Bd B d) (hK : 2 ≤ K) (hm : B + 2 * K ≤ 4611686018427387904) (k : Nat) : Bd (B + 2 * K) (d.counts k) := by
  have hB := h.pos
  have hB2 : B ≤ B + 2 * K := by omega
  unfold Def.counts
  split
  · have h1 := h.takes (K := K) (t := 2) (l := 0) (by omega) (by omega) hm
    exact h1.opens ⟨h1.s, SB.zero (by omega)⟩
  · split
    · have h := h.mono hB2
      split
      · exact h.bad
      · next i hi =>
        split
        · exact h.bad
        · next x hx =>
          have hx := h.stack x (List.mem_of_getElem? hx)
          obtain ⟨m1, m2⟩ := h.meet hx.1 h.s
          simp only
          generalize (d.meet x.a d.s).1 = d1 at *
          refine ⟨m1.want, SB.dead (by omega), fun o ho => ?_, m1.ends⟩
          rcases List.mem_or_eq_of_mem_set ho with ho | rfl
          · exact m1.stack o ho
          · exact hx
    · have h1 : Bd (B + 2 * K) (if k = 30 then d.takes 1 0 else d) := by
        split
        · exact h.takes (K := K) (t := 1) (l := 0) (by omega) (by omega) hm
        · exact h.mono hB2
      generalize (if k = 30 then d.takes 1 0 else d) = d1 at *
      simp only
      split
      · exact h1.bad
      · next x hx =>
        have hx := h1.stack x (top_mem hx)
        obtain ⟨m1, m2⟩ := h1.meet hx.1 h1.s
        generalize (d1.meet x.a d1.s).1 = d2 at *
        split
        · exact (m1.at_ hx.1).closes
        · exact m1.closes
theorem Bd.choice (h : Bd B d) (hK : 2 ≤ K) (hm : B + 4 * K ≤ 4611686018427387904) (k : Nat) : Bd (B + 4 * K) (d.choice k) := by
  have hB := h.pos
  have hB2 : B ≤ B + 4 * K := by omega
  have hm2 : B + 2 * K ≤ 4611686018427387904 := by omega
  unfold Def.choice
  split
  · exact (h.mono hB2).opens ⟨SB.dead (by omega), SB.zero (by omega)⟩
  · split
    · split
      · exact (h.mono hB2).bad
      · have h1 := h.takes (K := K) (t := 2) (l := 1) (by omega) (by omega) hm2
        have h2 := h1.opens (o := ⟨33, (d.takes 2 1).s, st0, false⟩) ⟨h1.s, SB.zero (by omega)⟩
        have h3 := h2.takes (K := K) (t := 1) (l := 0) (by omega) (by omega) (by omega)
        exact h3.mono (by omega)
    · split
      · have h := h.mono hB2
        split
        · exact h.bad
        · next x hx =>
          have hx := h.stack x (top_mem hx)
          simp only
          split
          · exact h.bad
          · next c hc =>
            have hc := h.stack c (List.dropLast_subset _ (List.mem_of_getLast? hc))
            obtain ⟨m1, m2⟩ := h.meet hc.1 h.s
            generalize d.meet c.a d.s = q at *
            obtain ⟨d1, s1⟩ := q
            refine ⟨m1.want, hx.1, fun o ho => ?_, m1.ends⟩
            rcases List.mem_append.1 ho with ho | ho
            · exact h.stack o (List.dropLast_subset _ (List.dropLast_subset _ ho))
            · rw [List.mem_singleton] at ho; subst ho; exact ⟨m2, hc.2⟩
      · split
        · exact (h.mono hB2).bad
        · next x hx =>
          have hx := (h.mono (B' := B + 2 * K) (by omega)).stack x (top_mem hx)
          have h1 := h.takes (K := K) (t := 1) (l := 0) (by omega) (by omega) hm2
          simp only
          generalize d.takes 1 0 = d1 at *
          obtain ⟨m1, m2⟩ := h1.meet hx.1 h1.s
          generalize d1.meet x.a d1.s = q at *
          obtain ⟨d2, s2⟩ := q
          exact ((m1.at_ m2).closes).mono (by omega)
theorem Bd.operation (h : Bd B d) (hK : 4 ≤ K) (hm : B + 2 * K ≤ 4611686018427387904) (op : Int) (hw : 0 ≤ (Code.wants op).1 ∧ (Code.wants op).1 ≤ 4 ∧ 0 ≤ (Code.wants op).2 ∧ (Code.wants op).2 ≤ 4) : Bd (B + 2 * K) (d.operation op) := by
  have hB := h.pos
  unfold Def.operation
  split
  · exact (h.mono (by omega)).bad
  · have h1 := h.takes (K := K) (t := (Code.wants op).1) (l := (Code.wants op).2) (by omega) (by omega) hm
    generalize d.takes (Code.wants op).1 (Code.wants op).2 = d1 at *
    have hX : ∀ base : Int, Bd (B + 2 * K) (if d1.s.r ≤ base then d1.bad else d1) := by intro base; split; exact h1.bad; exact h1
    simp only
    split
    · exact h1
    · split
      · exact h1.at_ (SB.dead (by omega))
      · split
        · exact h1.at_ h1.s
        · split
          · exact (hX _).at_ (hX _).s
          · split
            · exact hX _
            · exact h1
theorem Bd.special (h : Bd B d) (hK : 4 ≤ K) (hm : B + 4 * K ≤ 4611686018427387904) (k : Nat) : Bd (B + 4 * K) (d.special k) := by
  have hB := h.pos
  have h0 := h.mono (B' := B + 4 * K) (by omega)
  unfold Def.special
  split
  · exact h0
  split
  · exact (h.takes (K := K) (t := 0) (l := 1) (by omega) (by omega) (by omega)).mono (by omega)
  split
  · exact (h.takes (K := K) (t := 0) (l := 2) (by omega) (by omega) (by omega)).mono (by omega)
  split
  · exact (h.branch (K := K) (by omega) (by omega) k).mono (by omega)
  split
  · exact (h.turns (K := K) (by omega) (by omega) k).mono (by omega)
  split
  · exact (h.counts (K := K) (by omega) (by omega) k).mono (by omega)
  split
  · exact h.choice (K := K) (by omega) hm k
  split
  · have h1 : Bd (B + 4 * K) (if d.inner.isSome then d.bad else d) := by split; exact h0.bad; exact h0
    generalize (if d.inner.isSome then d.bad else d) = d1 at *
    have h2 := h1.end_
    exact h2.at_ h2.s
  · exact h0.bad
end
/-- how great an effect is -/
def EB (K : Int) (e : Eff) : Prop := (0 ≤ e.inn ∧ e.inn ≤ K) ∧ (-K ≤ e.out ∧ e.out ≤ K)
theorem Bd.item {B K : Int} {d : Def} (h : Bd B d) (hK : 4 ≤ K) (hm : B + 4 * K ≤ 4611686018427387904) (E : Env) (l : List Eff) (w : W) (he : EB K (effect E l w)) (hop : w.kind = 1 → 1 ≤ w.n ∧ w.n ≤ 106) : Bd (B + 4 * K) (item E l d w) := by
  have hB := h.pos
  unfold Look.item
  have h1 : Bd B { d with e := { d.e with needs := d.e.needs ||| needed E l w } } := h.eff _
  generalize ({ d with e := { d.e with needs := d.e.needs ||| needed E l w } } : Def) = d1 at *
  simp only
  split
  · exact (h1.takes (K := K) (t := 0) (l := 1) (by omega) (by omega) (by omega)).mono (by omega)
  split
  · have h2 : Bd B (if (effect E l w).known then d1 else d1.bad) := by split; exact h1; exact h1.bad
    exact (h2.takes (K := K) he.1 he.2 (by omega)).mono (by omega)
  split
  · next hk =>
    obtain ⟨a, b⟩ := hop hk
    obtain ⟨i, hi⟩ : ∃ i : Nat, w.n = i + 1 := ⟨w.n - 1, by omega⟩
    have hw := (takes_at ⟨i, by omega⟩).2.2
    simp only at hw
    refine (h1.operation (K := K) hK (by omega) w.n ?_).mono (by omega)
    rw [hi]
    exact hw
  split
  · exact h1.special hK hm _
  · exact (h1.mono (by omega)).bad
theorem Bd.closed {B : Int} {d : Def} (h : Bd B d) (hm : B ≤ 1152921504606846976) (hk : d.closed.known = true) : EB (2 * B) d.closed := by
  have hB := h.pos
  have h1 : Bd B ((if d.stack.isEmpty then d else d.bad).end_) := Bd.end_ (by split; exact h; exact h.bad)
  unfold Def.closed at hk ⊢
  generalize (if d.stack.isEmpty then d else d.bad).end_ = d1 at *
  simp only at hk ⊢
  split at hk
  · next hkn =>
    rw [if_pos hkn]
    have hw := h1.want
    refine ⟨⟨hw.1, by show d1.want ≤ _; omega⟩, ?_⟩
    have he := h1.ends
    rcases hd : d1.ends with _ | ⟨x, l⟩
    · show -(2 * B) ≤ d1.want ∧ d1.want ≤ 2 * B
      omega
    · rw [hd] at he
      have hx := he x (by simp)
      have e1 : wrap64 (d1.want + x) = d1.want + x := wr_id (by omega)
      show -(2 * B) ≤ wrap64 (d1.want + x) ∧ wrap64 (d1.want + x) ≤ 2 * B
      rw [e1]
      omega
  · next hkn => exact absurd hk (by simpa using hkn)
end Look
end Go.Proofs.YthejfkkmcbdlhaaGreatDoor
/- Chapter 19: a text of three definitions, of which the third says the first and the second. Plain lemmas. -/
namespace Go.Proofs.YthejfkkmcbdlhaaGreatDoor
set_option linter.unusedVariables false
open Go.RowKit Go.Lib
namespace Look
theorem nextW_suf (S : List UInt8) : (nextW S).2 <:+ S := by
  unfold nextW
  exact (List.drop_suffix _ _).trans ((List.dropWhile_suffix _).trans (List.dropWhile_suffix _))
theorem nextW_less {S : List UInt8} (h : (nextW S).1 ≠ []) : (nextW S).2.length + 1 ≤ S.length := by
  unfold nextW at *
  simp only at h ⊢
  have h1 := (List.dropWhile_suffix isLow (l := S)).length_le
  generalize S.dropWhile isLow = X at *
  rcases X with _ | ⟨x, X⟩
  · exact absurd rfl h
  · rcases hx : isHigh x with _ | _
    · simp [List.takeWhile, hx] at h
    · simp only [List.dropWhile, hx]
      have h2 := (List.dropWhile_suffix isHigh (l := X)).length_le
      simp at h1 ⊢
      omega
theorem untilS_suf {b : UInt8} {S S2 : List UInt8} (h : untilS b S = some S2) : S2 <:+ S := by
  unfold untilS at h
  rcases hd : S.dropWhile (notB b) with _ | ⟨y, R⟩
  · rw [hd] at h; cases h
  · rw [hd] at h
    cases h
    have h1 : (y :: S2) <:+ S := by rw [← hd]; exact List.dropWhile_suffix _
    exact (List.suffix_cons y S2).trans h1
theorem passS_suf {S S2 : List UInt8} {w : W} (h : passS S w = some S2) : S2 <:+ S := by
  unfold passS at h
  split at h
  · cases h; exact List.suffix_refl _
  · split at h
    · exact untilS_suf h
    · split at h
      · exact untilS_suf h
      · split at h
        · cases h; exact (List.drop_suffix _ _).trans (List.dropWhile_suffix _)
        · cases h; exact List.suffix_refl _
/-- what an open definition becomes in a round -/
inductive Step (E : Env) (S : List UInt8) (r : Rd) (d : Def) : Prop
  | end_ (S' : List UInt8) (r' : Rd) (h : roundS E S r = (r', S', false)) (hl : r'.list = r.list)
  | semi (h : what E r.list (nextW S).1 = ⟨2, 2, (what E r.list (nextW S).1).name⟩) (hne : (nextW S).1 ≠ [])
  | on (S' : List UInt8) (r' : Rd) (b : Bool) (d0 : Def) (w : W) (hw : w = what E r.list (nextW S).1) (h : roundS E S r = (r', S', true)) (hs : S' <:+ S) (hn : S'.length + 1 ≤ S.length) (hl : r'.list = r.list) (hd : d0 = { d with wild := b }) (ho : r'.open_ = some (item E r.list d0 w))
theorem speaks_open' (E : Env) (r : Rd) (w : W) (d : Def) (ho : r.open_ = some d) : ∃ b, (speaks E r w).open_ = some { d with wild := b } := by
  rcases speaks_open E r w with h | h
  · exact ⟨d.wild, by rw [h, ho]⟩
  · exact ⟨true, by rw [h, ho]; rfl⟩
theorem step_of (E : Env) (S : List UInt8) (r : Rd) (d : Def) (ho : r.open_ = some d) : Step E S r d := by
  by_cases hw : (nextW S).1 = []
  · exact .end_ [] r (by unfold roundS; rw [if_pos hw]) rfl
  · by_cases hsemi : (what E r.list (nextW S).1).kind = 2 ∧ (what E r.list (nextW S).1).n = 2
    · refine .semi ?_ hw
      obtain ⟨a, b⟩ := hsemi
      generalize what E r.list (nextW S).1 = w at *
      rcases w with ⟨k, n, nm⟩
      cases a
      cases b
      rfl
    · obtain ⟨w, hwd⟩ : ∃ w, what E r.list (nextW S).1 = w := ⟨_, rfl⟩
      rw [hwd] at hsemi
      obtain ⟨b1, ho1⟩ : ∃ b, (heard E r w).open_ = some { d with wild := b } := speaks_open' E r w d ho
      have hl1 : (heard E r w).list = r.list := heard_list E r w
      have hdo : ∀ (r2 : Rd) (b : Bool) (name : List UInt8), r2.open_ = some { d with wild := b } → r2.list = r.list → (does E r2 w name).list = r.list ∧ (does E r2 w name).open_ = some (item E r.list { d with wild := b } w) := by
        intro r2 b name h1 h2
        unfold does
        rw [h1]
        show (if w.kind = 2 ∧ w.n = 2 then _ else _ : Rd).list = r.list ∧ (if w.kind = 2 ∧ w.n = 2 then _ else _ : Rd).open_ = _
        rw [if_neg hsemi]
        exact ⟨h2, by rw [← h2]⟩
      rcases hp : passS (nextW S).2 w with _ | S2
      · exact .end_ [] (heard E r w) (by unfold roundS; rw [if_neg hw, hwd, hp]) hl1
      · have hs2 := passS_suf hp
        have hs0 := nextW_suf S
        have hn0 := nextW_less hw
        by_cases hn : named r.open_.isSome w
        · by_cases hm : (nextW S2).1 = []
          · exact .end_ [] (heard E r w) (by unfold roundS; rw [if_neg hw, hwd, hp]; simp only; rw [if_pos hn, if_pos hm]) hl1
          · obtain ⟨r2, hr2⟩ : ∃ r2, (if w.kind = 2 ∧ (w.n = 7 ∨ w.n = 8) then speaks E (heard E r w) (what E r.list (nextW S2).1) else heard E r w) = r2 := ⟨_, rfl⟩
            have h2 : (∃ b, r2.open_ = some { d with wild := b }) ∧ r2.list = r.list := by
              rw [← hr2]
              split
              · obtain ⟨b2, ho2⟩ := speaks_open' E (heard E r w) (what E r.list (nextW S2).1) _ ho1
                exact ⟨⟨b2, ho2⟩, (speaks_keeps E _ _).2.1.trans hl1⟩
              · exact ⟨⟨b1, ho1⟩, hl1⟩
            obtain ⟨⟨b2, ho2⟩, hl2⟩ := h2
            obtain ⟨k1, k2⟩ := hdo r2 b2 (nextW S2).1 ho2 hl2
            have hs3 := nextW_suf S2
            refine .on (nextW S2).2 (does E r2 w (nextW S2).1) b2 _ w hwd.symm ?_ (hs3.trans (hs2.trans hs0)) ?_ k1 rfl k2
            · unfold roundS; rw [if_neg hw, hwd, hp]; simp only; rw [if_pos hn, if_neg hm, hr2]
            · have := hs2.length_le; have := hs3.length_le; omega
        · obtain ⟨k1, k2⟩ := hdo (heard E r w) b1 [] ho1 hl1
          refine .on S2 (does E (heard E r w) w []) b1 _ w hwd.symm ?_ (hs2.trans hs0) ?_ k1 rfl k2
          · unfold roundS; rw [if_neg hw, hwd, hp]; simp only; rw [if_neg hn]
          · have := hs2.length_le; omega
theorem lowC59 (c : UInt8) (h : lowC c = 59) : c = 59 := by
  unfold lowC at h
  split at h
  · next hc =>
    have h1 := congrArg UInt8.toNat h
    rw [UInt8.toNat_add] at h1
    have h2 : (32 : UInt8).toNat = 32 := rfl
    have h3 : (59 : UInt8).toNat = 59 := rfl
    omega
  · exact h
theorem lowS59 {s : List UInt8} (h : lowS s = [59]) : s = [59] := by
  rcases s with _ | ⟨c, _ | ⟨c2, s⟩⟩
  · cases h
  · have : lowC c = 59 := by injection h
    rw [lowC59 c this]
  · simp [lowS] at h
theorem what_semi {E : Env} (hE : EnvW E) {l : List Eff} {s : List UInt8} {nm : List UInt8} (h : what E l s = ⟨2, 2, nm⟩) : s = [59] := by
  unfold what at h
  split at h
  · cases h
  · split at h
    · cases h
    · split at h
      · next w hw =>
        have := hE.semi _ _ hw (by rw [h]) (by rw [h])
        exact lowS59 this
      · split at h <;> cases h
/-- the kernel's effects are small -/
structure EnvB (E : Env) : Prop where
  kl : ∀ e ∈ E.klist, EB 100 e
  tab : ∀ k w, E.tab.lookup k = some w → w.kind = 1 → 1 ≤ w.n ∧ w.n ≤ 106
theorem EB.mono {K K' : Int} {e : Eff} (h : EB K e) (hK : K ≤ K') : EB K' e := by unfold EB at *; omega
theorem effect_eb {E : Env} (hB : EnvB E) {K : Int} (hK : 100 ≤ K) {l : List Eff} (hl : ∀ e ∈ l, EB K e) (w : W) : EB K (effect E l w) := by
  have hdef : EB K (default : Eff) := by
    have h1 : (default : Eff).inn = 0 := rfl
    have h2 : (default : Eff).out = 0 := rfl
    unfold EB
    rw [h1, h2]
    omega
  have hget : ∀ (l : List Eff) (n : Nat), (∀ e ∈ l, EB K e) → EB K (l.getD n default) := by
    intro l n hl
    rw [List.getD_eq_getElem?_getD]
    rcases h : l[n]? with _ | e
    · exact hdef
    · exact hl e (List.mem_of_getElem? h)
  unfold effect
  split
  · exact hget _ _ fun e he => (hB.kl e he).mono hK
  · exact hget _ _ hl
theorem what_op {E : Env} (hB : EnvB E) (l : List Eff) (s : List UInt8) (h : (what E l s).kind = 1) : 1 ≤ (what E l s).n ∧ (what E l s).n ≤ 106 := by
  unfold what at *
  rcases h1 : latest l (lowS s) with _ | i
  · rw [h1] at h
    simp only at h ⊢
    rcases h2 : latest E.klist (lowS s) with _ | i
    · rw [h2] at h
      simp only at h ⊢
      rcases h3 : E.tab.lookup (lowS s) with _ | w
      · rw [h3] at h
        simp only at h
        split at h <;> cases h
      · rw [h3] at h
        exact hB.tab _ _ h3 h
    · rw [h2] at h; cases h
  · rw [h1] at h; cases h
/-- AN OPEN DEFINITION IS READ: to the text's end, or to a ';' -/
theorem seg {E : Env} (hE : EnvW E) (hB : EnvB E) (P : Prop) {K : Int} (hK : 100 ≤ K) (N : Nat) (hN : 4 * K * N ≤ 1152921504606846976) {S : List UInt8} {r R : Rd} (h : Rds E S r R) :
    ∀ d : Def, r.open_ = some d → (P → ∀ e ∈ r.list, EB K e) → S.length ≤ N → (P → Bd (4 * K * (N - S.length : Nat)) d) →
      R.list = r.list ∨ ∃ (S1 S2 : List UInt8) (r' : Rd) (d' : Def), S1 <:+ S ∧ nextW S1 = ([59], S2) ∧ r'.open_ = some d' ∧ r'.list = r.list ∧ d'.e.name = d.e.name ∧ (P → Bd (4 * K * N) d') ∧ Rds E S1 r' R := by
  induction h with
  | @off S S' r R h =>
    intro d ho hl hS hd
    rcases step_of E S r d ho with ⟨S3, r3, h3, hl3⟩ | ⟨h3, hne⟩ | ⟨S3, r3, b, d0, w, hw, h3, hs, hn, hl3, hd0, ho3⟩
    · rw [h] at h3; cases h3; exact .inl hl3
    · have hs := what_semi hE h3
      refine .inr ⟨S, (nextW S).2, r, d, List.suffix_refl _, by rw [← hs], ho, rfl, rfl, fun hP => (hd hP).mono ?_, .off h⟩
      have : (N - S.length : Nat) ≤ N := by omega
      exact Int.mul_le_mul_of_nonneg_left (by omega) (by omega)
    · rw [h] at h3; cases h3
  | @on S S' r r' R h k ih =>
    intro d ho hl hS hd
    rcases step_of E S r d ho with ⟨S3, r3, h3, hl3⟩ | ⟨h3, hne⟩ | ⟨S3, r3, b, d0, w, hw, h3, hs, hn, hl3, hd0, ho3⟩
    · rw [h] at h3; cases h3
    · have hs := what_semi hE h3
      refine .inr ⟨S, (nextW S).2, r, d, List.suffix_refl _, by rw [← hs], ho, rfl, rfl, fun hP => (hd hP).mono ?_, .on h k⟩
      have : (N - S.length : Nat) ≤ N := by omega
      exact Int.mul_le_mul_of_nonneg_left (by omega) (by omega)
    · rw [h] at h3
      cases h3
      have hstep : (4 * K * (N - S.length : Nat) : Int) + 4 * K ≤ 4 * K * (N - S'.length : Nat) := by
        have h1 : ((N - S.length : Nat) : Int) + 1 ≤ ((N - S'.length : Nat) : Int) := by omega
        have h2 : (4 * K * (N - S.length : Nat) : Int) + 4 * K = 4 * K * (((N - S.length : Nat) : Int) + 1) := by rw [Int.mul_add, Int.mul_one]
        rw [h2]
        exact Int.mul_le_mul_of_nonneg_left h1 (by omega)
      have hmax : (4 * K * (N - S'.length : Nat) : Int) ≤ 4 * K * N := Int.mul_le_mul_of_nonneg_left (by omega) (by omega)
      have hb2 : P → Bd (4 * K * (N - S'.length : Nat)) (item E r.list d0 w) := fun hP => by
        have hd := hd hP
        have hbd0 : Bd (4 * K * (N - S.length : Nat)) d0 := by rw [hd0]; exact ⟨hd.want, hd.s, hd.stack, hd.ends⟩
        exact (hbd0.item (K := K) (by omega) (by omega) E r.list w (effect_eb hB hK (hl hP) w) (fun hk => by rw [hw] at hk ⊢; exact what_op hB _ _ hk)).mono hstep
      have hnm : (item E r.list d0 w).e.name = d.e.name := by
        rw [(item_tame E r.list d0 w).name, hd0]
      rcases ih (item E r.list d0 w) ho3 (by rw [hl3]; exact hl) (by omega) hb2 with h5 | ⟨S1, S2, r2, d2, a1, a2, a3, a4, a5, a6, a7⟩
      · exact .inl (h5.trans hl3)
      · exact .inr ⟨S1, S2, r2, d2, a1.trans hs, a2, a3, a4.trans hl3, a5.trans hnm, a6, a7⟩
/-- where a ';' stands -/
theorem semi_at {S1 S2 : List UInt8} (h : nextW S1 = ([59], S2)) : (∃ c, (59 :: c :: S2) <:+ S1) ∨ S2 = [] := by
  unfold nextW at h
  have h1 := List.dropWhile_suffix isLow (l := S1)
  generalize S1.dropWhile isLow = X at *
  injection h with ha hb
  rcases X with _ | ⟨x, X⟩
  · cases ha
  · rcases hx : isHigh x with _ | _
    · simp [List.takeWhile, hx] at ha
    · simp only [List.takeWhile, List.dropWhile, hx] at ha hb
      injection ha with hx1 hx2
      subst hx1
      rcases X with _ | ⟨y, X⟩
      · right; simpa using hb.symm
      · rcases hy : isHigh y with _ | _
        · simp only [List.dropWhile, hy] at hb
          left
          refine ⟨y, ?_⟩
          rw [← hb]
          exact h1
        · simp [List.takeWhile, hy] at hx2
theorem suf_mark {Y Z : List UInt8} : ∀ (X : List UInt8), (59 : UInt8) ∉ X → (59 :: Y) <:+ (X ++ 59 :: Z) → Y = Z ∨ (59 :: Y) <:+ Z
  | [], _, ⟨P, h⟩ => by
    rcases P with _ | ⟨p, P⟩
    · left; simpa using h
    · right; exact ⟨P, by simpa using (List.cons.inj h).2⟩
  | x :: X, hX, ⟨P, h⟩ => by
    rcases P with _ | ⟨p, P⟩
    · exfalso; apply hX; have := (List.cons.inj h).1; rw [← this]; simp
    · exact suf_mark X (fun h => hX (by simp [h])) ⟨P, (List.cons.inj h).2⟩
theorem Rds.next {E : Env} {S S' : List UInt8} {r r' R : Rd} (h : roundS E S r = (r', S', true)) (k : Rds E S r R) : Rds E S' r' R := by
  cases k with
  | off k => rw [h] at k; cases k
  | on k k2 => rw [h] at k; cases k; exact k2
theorem Rds.empty {E : Env} {r R : Rd} (k : Rds E [] r R) : R = r := k.one (.off (S' := []) (by show roundS E [] r = (r, [], false); unfold roundS; exact if_pos rfl)) |>.symm
def x1 : List UInt8 := [120, 45, 49]
def x2 : List UInt8 := [120, 45, 50]
def x3 : List UInt8 := [120, 45, 51]
def tail3 : List UInt8 := 58 :: 32 :: (x3 ++ 32 :: (x1 ++ 32 :: (x2 ++ 32 :: [59])))
def tail2 (b : List UInt8) : List UInt8 := 58 :: 32 :: (x2 ++ 32 :: (b ++ 10 :: 59 :: 10 :: tail3))
def text3 (a b : List UInt8) : List UInt8 := 58 :: 32 :: (x1 ++ 32 :: (a ++ 10 :: 59 :: 10 :: tail2 b))
def In12 (l : List Eff) : Prop := ∀ e ∈ l, e.name = x1 ∨ e.name = x2
theorem In12.n58 {l : List Eff} (h : In12 l) : ∀ e ∈ l, lowS e.name ≠ [58] := by
  intro e he
  rcases h e he with h | h <;> rw [h] <;> decide
theorem In12.n59 {l : List Eff} (h : In12 l) : ∀ e ∈ l, lowS e.name ≠ [59] := by
  intro e he
  rcases h e he with h | h <;> rw [h] <;> decide
/-- behind a ';' of the third line nothing is left -/
theorem semis3 {S1 S2 : List UInt8} (hs : S1 <:+ tail3) (h : nextW S1 = ([59], S2)) : S2 = [] := by
  rcases semi_at h with ⟨c, h1⟩ | h1
  · have h2 : (59 :: c :: S2) <:+ ((58 :: 32 :: (x3 ++ 32 :: (x1 ++ 32 :: (x2 ++ [32])))) ++ 59 :: []) := h1.trans hs
    rcases suf_mark _ (by decide) h2 with h3 | h3
    · cases h3
    · exact absurd (h3.length_le) (by simp)
  · exact h1
theorem semis2 {b S1 S2 : List UInt8} (hb : (59 : UInt8) ∉ b) (hs : S1 <:+ tail2 b) (h : nextW S1 = ([59], S2)) : S2 = tail3 ∨ S2 = [] := by
  rcases semi_at h with ⟨c, h1⟩ | h1
  · have e : tail2 b = (58 :: 32 :: (x2 ++ 32 :: (b ++ [10]))) ++ 59 :: (10 :: tail3) := by simp [tail2]
    have h2 := h1.trans hs
    rw [e] at h2
    rcases suf_mark _ (by simp [x2, hb]) h2 with h3 | h3
    · left; exact (List.cons.inj h3).2
    · have h4 : (59 :: c :: S2) <:+ ((10 :: 58 :: 32 :: (x3 ++ 32 :: (x1 ++ 32 :: (x2 ++ [32])))) ++ 59 :: []) := h3
      rcases suf_mark _ (by decide) h4 with h5 | h5
      · cases h5
      · exact absurd (h5.length_le) (by simp)
  · exact .inr h1
theorem semis1 {a b S1 S2 : List UInt8} (ha : (59 : UInt8) ∉ a) (hb : (59 : UInt8) ∉ b) (hs : S1 <:+ (a ++ 10 :: 59 :: 10 :: tail2 b)) (h : nextW S1 = ([59], S2)) : S2 = tail2 b ∨ S2 = tail3 ∨ S2 = [] := by
  rcases semi_at h with ⟨c, h1⟩ | h1
  · have e : a ++ 10 :: 59 :: 10 :: tail2 b = (a ++ [10]) ++ 59 :: (10 :: tail2 b) := by simp
    have h2 := h1.trans hs
    rw [e] at h2
    rcases suf_mark _ (by simp [ha]) h2 with h3 | h3
    · left; exact (List.cons.inj h3).2
    · have e2 : 10 :: tail2 b = (10 :: 58 :: 32 :: (x2 ++ 32 :: (b ++ [10]))) ++ 59 :: (10 :: tail3) := by simp [tail2]
      rw [e2] at h3
      rcases suf_mark _ (by simp [x2, hb]) h3 with h4 | h4
      · right; left; exact (List.cons.inj h4).2
      · have h4 : (59 :: c :: S2) <:+ ((10 :: 58 :: 32 :: (x3 ++ 32 :: (x1 ++ 32 :: (x2 ++ [32])))) ++ 59 :: []) := h4
        rcases suf_mark _ (by decide) h4 with h5 | h5
        · cases h5
        · exact absurd (h5.length_le) (by simp)
  · exact .inr (.inr h1)
theorem bd_start {B : Int} (hB : 0 ≤ B) (n : List UInt8) : Bd B ⟨⟨n, 0, 0, true, 0⟩, false, 0, st0, [], []⟩ := ⟨by show (0:Int) ≤ 0 ∧ (0:Int) ≤ B; omega, SB.zero hB, by simp, by simp⟩
theorem high_x1 : ∀ c ∈ x1, isHigh c = true := by decide
theorem high_x2 : ∀ c ∈ x2, isHigh c = true := by decide
theorem high_x3 : ∀ c ∈ x3, isHigh c = true := by decide
/-- at the third line, whatever is there, one definition more, or none -/
theorem bound3 {E : Env} (hE : EnvW E) (hB : EnvB E) {r R : Rd} (ho : r.open_ = none) (hl : In12 r.list) (h : Rds E tail3 r R) : R.list.length ≤ r.list.length + 1 := by
  have h1 := h.next (round_colon hE x3 _ (by decide) high_x3 r ho hl.n58)
  rcases seg hE hB False (K := 100) (by omega) 60000 (by omega) h1 _ rfl (fun h => h.elim) (by decide) (fun h => h.elim) with h2 | ⟨S1, S2, r2, d2, a1, a2, a3, a4, a5, a6, a7⟩
  · rw [h2]; exact Nat.le_succ _
  · have hS : S1 <:+ tail3 := a1.trans (by exact ⟨58 :: 32 :: (x3 ++ [32]), by decide⟩)
    have h3 := semis3 hS a2
    subst h3
    have h4 := (a7.next (round_semi hE [] r2 d2 a3 (by rw [a4]; exact hl.n59) S1 a2)).empty
    rw [h4]
    show (r2.list ++ [d2.closed]).length ≤ _
    rw [a4]
    simp
/-- an own word in a definition -/
theorem round_word {E : Env} (n R : List UInt8) (hn : n ≠ []) (hh : ∀ c ∈ n, isHigh c = true) (r : Rd) (d : Def) (ho : r.open_ = some d) (i : Nat) (hi : latest r.list (lowS n) = some i) :
    ∃ m, roundS E (n ++ 32 :: R) r = ({ r with needs := m, open_ := some (item E r.list d ⟨4, i, []⟩) }, R, true) := by
  rcases r with ⟨at_, list, wild, spoken, loose, needs, open_⟩
  cases ho
  refine ⟨needs ||| needed E list ⟨4, i, []⟩, ?_⟩
  have e1 : nextW (n ++ 32 :: R) = (n, R) := nextW_word hn hh (by decide) R
  unfold roundS
  simp only [e1]
  rw [if_neg hn, whatOwn (E := E) hi]
  have e3 : passS R ⟨4, i, []⟩ = some R := rfl
  rw [e3]
  simp only
  rw [if_neg (by simp [named])]
  simp [heard, speaks, isLoose, does]
def third (E : Env) (e1 e2 : Eff) : Def := item E [e1, e2] (item E [e1, e2] ⟨⟨x3, 0, 0, true, 0⟩, false, 0, st0, [], []⟩ ⟨4, 0, []⟩) ⟨4, 1, []⟩
/-- THE WHOLE TEXT: if there are three definitions, they are these -/
theorem composes_read {E : Env} (hE : EnvW E) (hB : EnvB E) (a b : List UInt8) (ha : (59 : UInt8) ∉ a) (hb : (59 : UInt8) ∉ b) (hlen : (text3 a b).length ≤ 60000) (h3 : (readAll E (text3 a b) rd0).list.length = 3) :
    ∃ e1 e2 : Eff, (readAll E (text3 a b) rd0).list = [e1, e2, (third E e1 e2).closed] ∧ e1.name = x1 ∧ e2.name = x2 ∧ (e1.known = true → EB 48000000 e1 ∧ (e2.known = true → EB 23040000000000 e2)) := by
  have h0 := Rds.all E (text3 a b)
  have hlist : (er (readAll E (text3 a b) rd0)).list = (readAll E (text3 a b) rd0).list := rfl
  rw [← hlist] at h3 ⊢
  generalize er (readAll E (text3 a b) rd0) = R at *
  clear hlist
  have h1 := h0.next (round_colon hE x1 _ (by decide) high_x1 rd0 rfl (by simp [rd0]))
  have hl1 : (a ++ 10 :: 59 :: 10 :: tail2 b).length ≤ 60000 := by simp [text3] at hlen ⊢; omega
  have hl2 : (b ++ 10 :: 59 :: 10 :: tail3).length ≤ 60000 := by simp [tail2] at hl1 ⊢; omega
  rcases seg hE hB True (K := 100) (by omega) 60000 (by omega) h1 _ rfl (fun _ => by simp [rd0]) hl1 (fun _ => bd_start (by omega) _) with h2 | ⟨S1, S2, r2, d2, a1, a2, a3, a4, a5, a6, a7⟩
  · rw [h2] at h3; simp [rd0] at h3
  · have a4' : r2.list = [] := a4
    have hn1 : d2.closed.name = x1 := (closed_name d2).trans a5
    have k1 := a7.next (round_semi hE S2 r2 d2 a3 (by rw [a4']; simp) S1 a2)
    obtain ⟨r3, hr3⟩ : ∃ r3, owns { r2 with spoken := r2.spoken ++ [[59]], open_ := none } d2.closed d2.wild = r3 := ⟨_, rfl⟩
    rw [hr3] at k1
    have ho3 : r3.open_ = none := by rw [← hr3]; rfl
    have hl3 : r3.list = [d2.closed] := by rw [← hr3]; show r2.list ++ [d2.closed] = _; rw [a4']; rfl
    have hin3 : In12 r3.list := by rw [hl3]; intro e he; rw [List.mem_singleton] at he; subst he; exact .inl hn1
    rcases semis1 ha hb a1 a2 with hS | hS | hS
    · subst hS
      have k2 := k1.next (round_colon hE x2 _ (by decide) high_x2 r3 ho3 hin3.n58)
      have heb : d2.closed.known = true → EB 48000000 d2.closed := fun hk => (Bd.closed (a6 trivial) (by omega) hk).mono (by omega)
      rcases seg hE hB (d2.closed.known = true) (K := 48000000) (by omega) 60000 (by omega) k2 _ rfl (fun hk => by show ∀ e ∈ r3.list, _; rw [hl3]; intro e he; rw [List.mem_singleton] at he; subst he; exact heb hk) hl2 (fun _ => bd_start (by omega) _) with h4 | ⟨S3, S4, r4, d4, b1, b2, b3, b4, b5, b6, b7⟩
      · exfalso
        have h4 : R.list = r3.list := h4
        rw [h4, hl3] at h3; simp at h3
      · have b4' : r4.list = [d2.closed] := b4.trans hl3
        have hn2 : d4.closed.name = x2 := (closed_name d4).trans b5
        have k3 := b7.next (round_semi hE S4 r4 d4 b3 (by rw [b4', ← hl3]; exact hin3.n59) S3 b2)
        obtain ⟨r5, hr5⟩ : ∃ r5, owns { r4 with spoken := r4.spoken ++ [[59]], open_ := none } d4.closed d4.wild = r5 := ⟨_, rfl⟩
        rw [hr5] at k3
        have ho5 : r5.open_ = none := by rw [← hr5]; rfl
        have hl5 : r5.list = [d2.closed, d4.closed] := by rw [← hr5]; show r4.list ++ [d4.closed] = _; rw [b4']; rfl
        have hin5 : In12 r5.list := by
          rw [hl5]
          intro e he
          rcases List.mem_cons.1 he with rfl | he
          · exact .inl hn1
          · rw [List.mem_singleton] at he; subst he; exact .inr hn2
        have hsuf : S3 <:+ tail2 b := b1.trans (by exact ⟨58 :: 32 :: (x2 ++ [32]), by simp [tail2]⟩)
        rcases semis2 hb hsuf b2 with hS | hS
        · subst hS
          have k4 := k3.next (round_colon hE x3 _ (by decide) high_x3 r5 ho5 hin5.n58)
          have hla : latest [d2.closed, d4.closed] (lowS x1) = some 0 := by
            have q1 : lowS x2 ≠ lowS x1 := by decide
            simp [latest, hn1, hn2, q1]
          have hlb : latest [d2.closed, d4.closed] (lowS x2) = some 1 := by simp [latest, hn2]
          obtain ⟨m1, hw1⟩ := round_word (E := E) x1 (x2 ++ 32 :: [59]) (by decide) high_x1 { r5 with spoken := r5.spoken ++ [[58]], open_ := some ⟨⟨x3, 0, 0, true, 0⟩, false, 0, st0, [], []⟩ } _ rfl 0 (by show latest r5.list _ = _; rw [hl5]; exact hla)
          have k5 := k4.next hw1
          obtain ⟨m2, hw2⟩ := round_word (E := E) x2 [59] (by decide) high_x2 { r5 with spoken := r5.spoken ++ [[58]], needs := m1, open_ := some (item E r5.list ⟨⟨x3, 0, 0, true, 0⟩, false, 0, st0, [], []⟩ ⟨4, 0, []⟩) } _ rfl 1 (by show latest r5.list _ = _; rw [hl5]; exact hlb)
          have k6 := k5.next hw2
          have k7 := (k6.next (round_semi hE [] _ _ rfl (by show ∀ e ∈ r5.list, _; exact hin5.n59) [59] (nextW_last (by decide)))).empty
          refine ⟨d2.closed, d4.closed, ?_, hn1, hn2, fun hk => ⟨heb hk, fun hk2 => (Bd.closed (b6 hk) (by omega) hk2).mono (by omega)⟩⟩
          rw [k7]
          show r5.list ++ [(item E r5.list (item E r5.list ⟨⟨x3, 0, 0, true, 0⟩, false, 0, st0, [], []⟩ ⟨4, 0, []⟩) ⟨4, 1, []⟩).closed] = _
          rw [hl5]
          rfl
        · exfalso
          subst hS
          have h5 := k3.empty
          rw [h5, hl5] at h3
          simp at h3
    · exfalso
      subst hS
      have h5 := bound3 hE hB ho3 hin3 k1
      rw [hl3, h3] at h5
      simp at h5
    · exfalso
      subst hS
      have h5 := k1.empty
      rw [h5, hl3] at h3
      simp at h3
/-- the third's effect -/
theorem third_closed (E : Env) (e1 e2 : Eff) (h1 : EB 48000000 e1) (h2 : EB 23040000000000 e2) (k1 : e1.known = true) (k2 : e2.known = true) :
    (third E e1 e2).closed = ⟨x3, max e1.inn (e2.inn - (e1.out - e1.inn)), max e1.inn (e2.inn - (e1.out - e1.inn)) + (e1.out - e1.inn + (e2.out - e2.inn)), true, e1.needs ||| e2.needs⟩ := by
  obtain ⟨⟨i1, i2⟩, i3, i4⟩ := h1
  obtain ⟨⟨j1, j2⟩, j3, j4⟩ := h2
  rcases e1 with ⟨n1, p1, q1, kn1, nd1⟩
  rcases e2 with ⟨n2, p2, q2, kn2, nd2⟩
  simp only at i1 i2 i3 i4 j1 j2 j3 j4 k1 k2
  subst k1
  subst k2
  have w1 : wrap64 p1 = p1 := wr_id (by omega)
  have w2 : wrap64 (q1 - p1) = q1 - p1 := wr_id (by omega)
  have w4 : wrap64 (p2 - (q1 - p1)) = p2 - (q1 - p1) := wr_id (by omega)
  have w5 : wrap64 (q2 - p2) = q2 - p2 := wr_id (by omega)
  have w6 : wrap64 (q1 - p1 + (q2 - p2)) = q1 - p1 + (q2 - p2) := wr_id (by omega)
  have m1 : max 0 (max p1 (p2 - (q1 - p1))) = max p1 (p2 - (q1 - p1)) := by omega
  have w7 : wrap64 (max p1 (p2 - (q1 - p1)) + (q1 - p1 + (q2 - p2))) = max p1 (p2 - (q1 - p1)) + (q1 - p1 + (q2 - p2)) := wr_id (by omega)
  simp [third, item, effect, needed, Def.takes, st0, w1, w2, w4, w5, w6, m1, Def.closed, Def.end_, Def.odd, stDead, w7]
end Look
end Go.Proofs.YthejfkkmcbdlhaaGreatDoor
