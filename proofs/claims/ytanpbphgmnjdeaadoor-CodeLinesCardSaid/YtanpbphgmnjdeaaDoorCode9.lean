/- Chapter 7: the laws CodeNames and CodeBack, walked. Conditions: the tables lie as their initialisers lay them; CodeNames: the text is shorter than 2^45 bytes. -/
import Derived.Test.YtanpbphgmnjdeaaDoorCode8
namespace Go.Proofs.YtanpbphgmnjdeaaDoor
set_option linter.unusedVariables false
open Go.RowKit Go.Lib

theorem Code.inOps_iff (op : Int) : Code.inOps op = true ↔ 1 ≤ op ∧ op ≤ 106 := by simp [Code.inOps]
theorem name_any (op : Int) (w : World) (hN : NamesAt w) : Calls Tryd.prog 22 #[.int .i64 op] w (Same (.string (Code.nameOf op)) w) := by
  unfold Code.nameOf
  cases h : Code.inOps op
  · exact name_out op h w
  · have h2 := (Code.inOps_iff op).1 h
    obtain ⟨i, hi⟩ : ∃ i : Nat, op = (i : Int) + 1 := ⟨(op - 1).toNat, by omega⟩
    subst hi
    have := name_in i (by omega) w hN
    have e : ((i : Int) + 1 - 1).toNat = i := by omega
    rw [if_pos rfl, e]
    exact this
theorem Name_any (op : Int) (w : World) : Calls Tryd.prog 23 #[.int .i64 op] w fun e w' => e = .returned (.string (Code.nameOf op)) ∧ Below w.heap.size w w' := by
  unfold Code.nameOf
  cases h : Code.inOps op
  · refine (Name_out op h w).mono ?_
    rintro e w' ⟨rfl, rfl⟩
    exact ⟨rfl, Below.refl _ _⟩
  · have h2 := (Code.inOps_iff op).1 h
    obtain ⟨i, hi⟩ : ∃ i : Nat, op = (i : Int) + 1 := ⟨(op - 1).toNat, by omega⟩
    subst hi
    have e : ((i : Int) + 1 - 1).toNat = i := by omega
    rw [if_pos rfl, e]
    exact (Name_in i (by omega) w).mono fun e w' h => ⟨h.1, h.2.below0⟩
theorem Code.wants_no {op : Int} (h : Code.inOps op = false) : Code.wants op = (0, 0) := by
  have h2 : ¬ (1 ≤ op ∧ op ≤ 106) := fun hh => by rw [(Code.inOps_iff op).2 hh] at h; cases h
  unfold Code.wants
  simp only [List.mem_cons, List.not_mem_nil, or_false]
  repeat rw [if_neg (by omega)]
theorem wants_any (op : Int) (w : World) : Calls Tryd.prog 20 #[.int .i64 op] w fun e w' => e = .returned (.tuple #[.int .i64 (Code.wants op).1, .int .i64 (Code.wants op).2]) ∧ ∃ n, w' = w.drewN n := by
  cases h : Code.inOps op
  · rw [Code.wants_no h]
    exact (wants_out op h w).mono fun e w' h => ⟨h.1, 0, h.2⟩
  · have h2 := (Code.inOps_iff op).1 h
    obtain ⟨i, hi⟩ : ∃ i : Nat, op = (i : Int) + 1 := ⟨(op - 1).toNat, by omega⟩
    subst hi
    exact wants_in i (by omega) w
theorem Below.ofDrewN {w w' : World} {n : Nat} (h : Below (w.drewN n).heap.size (w.drewN n) w') : Below w.heap.size w w' := ⟨h.os, h.tape, h.output, h.size, h.block⟩

set_option maxRecDepth 100000 in
set_option maxHeartbeats 1000000 in
theorem names_any (op : Int) (s : ByteArray) (hs : s.size < 35184372088832) (w : World) (hT : Tabs w) : Calls Tryd.prog 4 #[.int .i64 op, .string s] w (Truly w) := by
  have n1 := fun w (hT : Tabs w) => name_any op w hT.1
  have n2 := fun w => Name_any op w
  generalize Code.nameOf op = y at n1 n2
  have m1 := fun w (hT : Tabs w) => number_walk s hs w hT
  have m2 := fun w => Number_walk s hs w
  generalize ((Code.numberN s : Nat) : Int) = m at m1 m2
  have p1 := fun w => wants_any op w
  have p2 := fun w => Wants_walk op w
  generalize Code.wants op = x at p1 p2
  obtain ⟨x1, x2⟩ := x
  have p1 := Lib.hid p1
  have p2 := Lib.hid p2
  have n1 := Lib.hid n1
  have n2 := Lib.hid n2
  have m1 := Lib.hid m1
  have m2 := Lib.hid m2
  have hT := Lib.hid hT
  clear hs
  go_enter Tryd.func4, Tryd.ntmps4
  go_wp2_with fail
  refine (shown_walk w hT.out).mono ?_
  rintro e w1 ⟨rfl, h1⟩
  have hT1 := Lib.hid (hT.out.below h1)
  have h1 := Lib.hid h1
  go_wp2_with fail
  refine (p1.out w1).mono ?_
  rintro e w2 ⟨rfl, n, rfl⟩
  go_wp2_with fail
  refine (p2.out _).mono ?_
  rintro e w3 ⟨rfl, rfl⟩
  go_wp2_with fail
  refine (n1.out (w1.drewN n) hT1.out).mono ?_
  rintro e w4 ⟨rfl, rfl⟩
  go_wp2_with fail
  refine (n2.out (w1.drewN n)).mono ?_
  rintro e w4 ⟨rfl, h4⟩
  have h4 : Below w1.heap.size w1 w4 := Below.ofDrewN h4
  have hT4 := Lib.hid (hT1.out.below h4)
  have h4 := Lib.hid (h1.out.trans (h4.mono h1.out.size))
  go_wp2_with fail
  refine (m1.out w4 hT4.out).mono ?_
  rintro e w5 ⟨rfl, h5⟩
  have h5 := Lib.hid (h4.out.trans (h5.mono h4.out.size))
  go_wp2_with fail
  refine (m2.out w5).mono ?_
  rintro e w6 ⟨rfl, h6⟩
  have h6 := Lib.hid (h5.out.trans (h6.mono h5.out.size))
  go_wp2
  all_goals go_ret
  all_goals exact ⟨by simp, h6.out⟩

/-- a name's operation has that name -/
theorem Code.number_name (op : Int) : (Code.inOps op = true ∧ ((Code.numberN (Code.nameOf op) : Nat) : Int) = op) ∨ (Code.inOps op = false ∧ Code.numberN (Code.nameOf op) = 0 ∧ Code.nameOf op = ⟨#[]⟩) := by
  cases h : Code.inOps op
  · right
    have e : Code.nameOf op = ⟨#[]⟩ := by unfold Code.nameOf; rw [if_neg (by rw [h]; decide)]
    rw [e]
    exact ⟨rfl, by decide +kernel, rfl⟩
  · left
    have h2 := (Code.inOps_iff op).1 h
    obtain ⟨i, hi⟩ : ∃ i : Nat, op = (i : Int) + 1 := ⟨(op - 1).toNat, by omega⟩
    subst hi
    have e : ((i : Int) + 1 - 1).toNat = i := by omega
    have ha : ∀ i : Fin 106, Code.numberN (Code.name i.val) = i.val + 1 := by decide +kernel
    unfold Code.nameOf
    rw [if_pos h, e, ha ⟨i, by omega⟩]
    exact ⟨rfl, by simp⟩
theorem Code.nameOf_small (op : Int) : (Code.nameOf op).size < 35184372088832 := by
  unfold Code.nameOf
  split
  · rename_i h
    have h2 := (Code.inOps_iff op).1 h
    have := Code.name_small ⟨(op - 1).toNat, by omega⟩
    simp only at this
    omega
  · decide
theorem Code.unpack_pack {op arg : Int} (h : Code.right op arg = true) : Code.unpack (256 * arg + op) = (op, arg, true) := by
  obtain ⟨h1, h2⟩ := Code.right_ops h
  have e1 : Code.unOp (256 * arg + op) = op := by unfold Code.unOp; omega
  have e2 : Code.unArg (256 * arg + op) = arg := by unfold Code.unArg; omega
  unfold Code.unpack
  rw [e1, e2, if_pos h]
theorem Code.pack_unpack (v : Int) : (∃ p q, Code.unpack v = (p, q, true) ∧ Code.right p q = true ∧ v = 256 * q + p) ∨ Code.unpack v = (0, 0, false) := by
  unfold Code.unpack
  cases h : Code.right (Code.unOp v) (Code.unArg v)
  · right; simp
  · left
    refine ⟨_, _, rfl, h, ?_⟩
    unfold Code.unOp Code.unArg
    omega
/-- packing, seen from the law -/
def Code.PackFact (op arg x : Int) (b : Bool) : Prop := ∀ w, Calls Tryd.prog 16 #[.int .i64 op, .int .i64 arg] w (Same (.tuple #[.int .i64 x, .bool b]) w)
def Code.UnpackFact (v y1 y2 : Int) (b : Bool) : Prop := ∀ w, Calls Tryd.prog 18 #[.int .i64 v] w (Same (.tuple #[.int .i64 y1, .int .i64 y2, .bool b]) w)
theorem Code.pack_cases (op arg : Int) : ∃ x, (Code.right op arg = false ∧ x = 0 ∧ Code.PackFact op arg x false ∧ Code.UnpackFact x 0 0 false) ∨ (Code.right op arg = true ∧ x = 256 * arg + op ∧ Code.PackFact op arg x true ∧ Code.UnpackFact x op arg true) := by
  cases h : Code.right op arg
  · refine ⟨0, .inl ⟨rfl, rfl, fun w => pack_no op arg w h, fun w => ?_⟩⟩
    have := unpack_walk 0 w
    rw [show Code.unpack 0 = (0, 0, false) by decide +kernel] at this
    exact this
  · refine ⟨_, .inr ⟨rfl, rfl, fun w => pack_yes op arg w h, fun w => ?_⟩⟩
    have := unpack_walk (256 * arg + op) w
    rw [Code.unpack_pack h] at this
    exact this

set_option maxRecDepth 100000 in
set_option maxHeartbeats 8000000 in
/-- what the law CodeBack compares, all of it known -/
theorem back_core (op arg other more v a b x y p q c n : Int) (one two is are back : Bool) (s : ByteArray) (w : World) (hT : Tabs w)
    (f1 : Code.PackFact op arg a one) (f2 : Code.PackFact other more b two) (f3 : Code.UnpackFact a x y is) (f4 : Code.UnpackFact v p q are) (f5 : are = true → Code.PackFact p q c back)
    (f6 : Code.nameOf op = s) (f7 : ∀ w, Tabs w → Calls Tryd.prog 24 #[.string s] w fun e w' => e = .returned (.int .i64 n) ∧ Below w.heap.size w w')
    (g1 : one = true → is = true ∧ x = op ∧ y = arg) (g2 : one = true → two = true → a = b → op = other ∧ arg = more) (g3 : are = true → back = true ∧ c = v) (g4 : n = op ∨ n = 0 ∧ s = ⟨#[]⟩) :
    Calls Tryd.prog 5 #[.int .i64 op, .int .i64 arg, .int .i64 other, .int .i64 more, .int .i64 v] w (Truly w) := by
  have hcase : (one = false) ∨ (one = true ∧ two = false ∧ is = true ∧ op = x ∧ arg = y) ∨ (one = true ∧ two = true ∧ is = true ∧ op = x ∧ arg = y ∧ op = other ∧ arg = more) ∨ (one = true ∧ two = true ∧ is = true ∧ op = x ∧ arg = y ∧ (a == b) = false) := by
    cases one
    · exact .inl rfl
    · obtain ⟨h1, h2, h3⟩ := g1 rfl
      cases two
      · exact .inr (.inl ⟨rfl, rfl, h1, h2.symm, h3.symm⟩)
      · by_cases hab : a = b
        · obtain ⟨h4, h5⟩ := g2 rfl rfl hab
          exact .inr (.inr (.inl ⟨rfl, rfl, h1, h2.symm, h3.symm, h4, h5⟩))
        · exact .inr (.inr (.inr ⟨rfl, rfl, h1, h2.symm, h3.symm, by simpa using hab⟩))
  have hcase2 : are = false ∨ (are = true ∧ back = true ∧ c = v ∧ Code.PackFact p q c back) := by
    cases are
    · exact .inl rfl
    · exact .inr ⟨rfl, (g3 rfl).1, (g3 rfl).2, f5 rfl⟩
  have f6 : ∀ w, Tabs w → Calls Tryd.prog 22 #[.int .i64 op] w (Same (.string s) w) := fun w hT => by rw [← f6]; exact name_any op w hT.1
  clear g1 g2 g3 f5
  have f7 := Lib.hid f7
  have f6 := Lib.hid f6
  have hT := Lib.hid hT
  unfold Code.PackFact at f1 f2
  unfold Code.UnpackFact at f3 f4
  have f1 := Lib.hid f1
  have f2 := Lib.hid f2
  have f3 := Lib.hid f3
  have f4 := Lib.hid f4
  have hcase2 := Lib.hid hcase2
  have g4 := Lib.hid g4
  rcases hcase with rfl | ⟨rfl, rfl, rfl, rfl, rfl⟩ | ⟨rfl, rfl, rfl, rfl, rfl, rfl, rfl⟩ | ⟨rfl, rfl, rfl, rfl, rfl, hab⟩
  all_goals
    rcases hcase2.out with h | ⟨h, h', h'', f5⟩
    all_goals
      subst h
      try subst h'
      try subst h''
      try unfold Code.PackFact at f5
      try have f5 := Lib.hid f5
      go_enter Tryd.func5, Tryd.ntmps5
      go_wp2_with fail
      refine (shown_walk w hT.out).mono ?_
      rintro e w1 ⟨rfl, h1⟩
      have hT1 := Lib.hid (hT.out.below h1)
      have h1 := Lib.hid h1
      go_wp2_with fail
      refine (f1.out w1).mono ?_
      rintro e w2 ⟨rfl, rfl⟩
      go_wp2_with fail
      refine (f2.out w2).mono ?_
      rintro e w3 ⟨rfl, rfl⟩
      go_wp2_with fail
      refine (f3.out w3).mono ?_
      rintro e w4 ⟨rfl, rfl⟩
      go_wp2_with fail
      all_goals
        refine (f4.out w4).mono ?_
        rintro e w5 ⟨rfl, rfl⟩
        go_wp2_with fail
        try (refine (f5.out w5).mono ?_; rintro e w6 ⟨rfl, rfl⟩; go_wp2_with fail)
        refine (f6.out _ hT1.out).mono ?_
        rintro e w7 ⟨rfl, rfl⟩
        go_wp2_with fail
        refine (f7.out _ hT1.out).mono ?_
        rintro e w8 ⟨rfl, h8⟩
        have hT8 := Lib.hid (hT1.out.below h8)
        have h8 := Lib.hid (h1.out.trans (h8.mono h1.out.size))
        rcases g4.out with hn | ⟨hn, hs⟩
        · rw [hn]
          go_wp2
          go_ret
          exact ⟨rfl, h8.out⟩
        · rw [hn]
          subst hs
          by_cases h0 : op = 0
          · subst h0
            go_wp2
            go_ret
            exact ⟨rfl, h8.out⟩
          · have h0 : ((0 : Int) == op) = false := by rw [beq_eq_false_iff_ne]; omega
            go_wp2_with fail
            refine (f6.out _ hT8.out).mono ?_
            rintro e w9 ⟨rfl, rfl⟩
            go_wp2
            go_ret
            exact ⟨rfl, h8.out⟩
theorem back_any (op arg other more v : Int) (w : World) (hT : Tabs w) : Calls Tryd.prog 5 #[.int .i64 op, .int .i64 arg, .int .i64 other, .int .i64 more, .int .i64 v] w (Truly w) := by
  have hn := fun w (hT : Tabs w) => number_walk (Code.nameOf op) (Code.nameOf_small op) w hT
  have hnn : ((Code.numberN (Code.nameOf op) : Nat) : Int) = op ∨ ((Code.numberN (Code.nameOf op) : Nat) : Int) = 0 ∧ Code.nameOf op = ⟨#[]⟩ := by
    rcases Code.number_name op with ⟨_, h⟩ | ⟨_, h1, h2⟩
    · exact .inl h
    · exact .inr ⟨by rw [h1]; rfl, h2⟩
  obtain ⟨a, ha⟩ := Code.pack_cases op arg
  obtain ⟨b, hb⟩ := Code.pack_cases other more
  have hv := Code.pack_unpack v
  have h4 : Code.UnpackFact v (Code.unpack v).1 (Code.unpack v).2.1 (Code.unpack v).2.2 := fun w => unpack_walk v w
  have h5 : ∃ c back, ((Code.unpack v).2.2 = true → Code.PackFact (Code.unpack v).1 (Code.unpack v).2.1 c back) ∧ ((Code.unpack v).2.2 = true → back = true ∧ c = v) := by
    rcases hv with ⟨p, q, h1, h2, h3⟩ | h1
    · rw [h1]
      exact ⟨v, true, fun _ w => by rw [h3]; exact pack_yes p q w h2, fun _ => ⟨rfl, rfl⟩⟩
    · rw [h1]
      exact ⟨0, false, (fun h => by cases h), (fun h => by cases h)⟩
  obtain ⟨c, back, h5, h6⟩ := h5
  rcases ha with ⟨a0, a1, a2, a3⟩ | ⟨a0, a1, a2, a3⟩
  · rcases hb with ⟨b0, b1, b2, b3⟩ | ⟨b0, b1, b2, b3⟩
    · exact back_core _ _ _ _ _ _ _ _ _ _ _ _ _ _ _ _ _ _ _ w hT a2 b2 a3 h4 h5 rfl hn (fun h => by cases h) (fun h => by cases h) h6 hnn
    · exact back_core _ _ _ _ _ _ _ _ _ _ _ _ _ _ _ _ _ _ _ w hT a2 b2 a3 h4 h5 rfl hn (fun h => by cases h) (fun h => by cases h) h6 hnn
  · rcases hb with ⟨b0, b1, b2, b3⟩ | ⟨b0, b1, b2, b3⟩
    · exact back_core _ _ _ _ _ _ _ _ _ _ _ _ _ _ _ _ _ _ _ w hT a2 b2 a3 h4 h5 rfl hn (fun _ => ⟨rfl, rfl, rfl⟩) (fun _ h => by cases h) h6 hnn
    · have r1 := Code.right_ops a0
      have r2 := Code.right_ops b0
      exact back_core _ _ _ _ _ _ _ _ _ _ _ _ _ _ _ _ _ _ _ w hT a2 b2 a3 h4 h5 rfl hn (fun _ => ⟨rfl, rfl, rfl⟩) (fun _ _ h => by omega) h6 hnn
end Go.Proofs.YtanpbphgmnjdeaaDoor
