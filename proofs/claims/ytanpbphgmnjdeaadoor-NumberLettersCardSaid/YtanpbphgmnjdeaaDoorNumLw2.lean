/- Chapter 5's laws, walked: NumberBack, NumberOrder. Conditions: the tables of powers and of trailing zeros lie as their initialisers lay them. -/
import Derived.Test.YtanpbphgmnjdeaaDoorNumLw1
namespace Go.Proofs.YtanpbphgmnjdeaaDoor
set_option linter.unusedVariables false
open Go.RowKit Go.Lib

/-- a base, of a raw number -/
def baseN (c : Int) : Int := 2 + (if c < 0 then -(c + 1) else c) % 35
theorem baseN_in (c : Int) : 2 ≤ baseN c ∧ baseN c ≤ 36 := by unfold baseN; split <;> omega
theorem nbase_walk (c : Int) (hc : i64R c) (w : World) : Calls Tryd.prog 45 #[.int .i64 c] w (Same (.int .i64 (baseN c)) w) := by
  obtain ⟨h1, h2⟩ := hc
  by_cases h : c < 0
  · have e : baseN c = 2 + (-(c + 1)) % 35 := by unfold baseN; rw [if_pos h]
    have hd : decide (c < 0) = true := by simpa using h
    rw [e]
    clear e
    obtain ⟨D, hD⟩ : ∃ D, -(c + 1) = D := ⟨_, rfl⟩
    rw [hD]
    have h0 : 0 ≤ D := by omega
    have h3 : D ≤ 9223372036854775807 := by omega
    go_enter Tryd.func45, Tryd.ntmps45
    go_wp2
    go_ret
    exact ⟨rfl, rfl⟩
  · have e : baseN c = 2 + c % 35 := by unfold baseN; rw [if_neg h]
    have hd : decide (c < 0) = false := by simpa using h
    have h0 : 0 ≤ c := by omega
    rw [e]
    clear e
    go_enter Tryd.func45, Tryd.ntmps45
    go_wp2
    go_ret
    exact ⟨rfl, rfl⟩
theorem parse_is (s : ByteArray) (l : List UInt8) (hs : s.data.toList = l) (hl : l.length ≤ 1000) (b : Int) (R1 : Int) (R2 : Bool) (h : parseN l b = (R1, R2)) (w : World) :
    Calls Tryd.prog 35 #[.string s, .int .i64 b] w (Fresh' (.tuple #[.int .i64 R1, .bool R2]) w) := by
  have h1 := parse_walk s (by rw [← size_data, hs]; omega) b w
  rw [hs, h] at h1
  exact h1
theorem unsignedB_len (n : Int) {b : Nat} (h2 : 2 ≤ b) : (unsignedB n b).length ≤ 64 := by
  unfold unsignedB
  exact digitsU_64 h2 (by unfold unsig; omega)
theorem bytes_cons (c : UInt8) (l : List UInt8) : ((⟨#[c]⟩ : ByteArray) ++ ⟨l.toArray⟩).data.toList = c :: l := by simp
set_option maxRecDepth 100000 in
set_option maxHeartbeats 2000000 in
theorem nback_any (n b c : Int) (hn : i64R n) (hb : i64R b) (hc : i64R c) (W : World) (hT : NTabs W) : Calls Tryd.prog 11 #[.int .i64 n, .int .i64 b, .int .i64 c] W (NTruly W) := by
  have h0 := nshown_walk W hT
  have kb := fun w => nbase_walk b hb w
  have kc := fun w => nbase_walk c hc w
  obtain ⟨b2, b36⟩ := baseN_in b
  obtain ⟨c2, c36⟩ := baseN_in c
  generalize baseN b = B at *
  generalize baseN c = C at *
  have e1 : printS n B = printB n B.toNat := by unfold printS; rw [if_pos ⟨b2, b36⟩]
  have e2 : unsignedS n B = unsignedB n B.toNat := by unfold unsignedS; rw [if_pos ⟨b2, b36⟩]
  have e3 : printS n 16 = printB n 16 := by unfold printS; rw [if_pos (by omega)]; rfl
  have e4 : unsignedS n 2 = unsignedB n 2 := by unfold unsignedS; rw [if_pos (by omega)]; rfl
  have e5 : printS n 10 = printB n 10 := by unfold printS; rw [if_pos (by omega)]; rfl
  have l1 := print_len (b := B.toNat) (by omega) hn
  have l2 := unsignedB_len n (b := B.toNat) (by omega)
  have l3 := print_len (b := 16) (by omega) hn
  have l4 := unsignedB_len n (b := 2) (by omega)
  have l5 := print_len (b := 10) (by omega) hn
  have p1 := fun w (h : NTabs w) => print_walk n hn B w h.1 h.2
  have p2 := fun w (h : NTabs w) => unsigned_walk n B w h.1 h.2
  have p3 := fun w (h : NTabs w) => print_walk n hn 16 w h.1 h.2
  have p4 := fun w (h : NTabs w) => unsigned_walk n 2 w h.1 h.2
  have p5 := fun w (h : NTabs w) => print_walk n hn 10 w h.1 h.2
  rw [e1] at p1
  rw [e2] at p2
  rw [e3] at p3
  rw [e4] at p4
  rw [e5] at p5
  have q1 := fun w => parse_is ⟨(printB n B.toNat).toArray⟩ (printB n B.toNat) rfl (by omega) B n true (parse_print hn b2 b36) w
  have q2 := fun w => parse_is ⟨(unsignedB n B.toNat).toArray⟩ (unsignedB n B.toNat) rfl (by omega) B n true (parse_unsigned hn b2 b36) w
  have q3 := fun w => parse_is (⟨#[36]⟩ ++ ⟨(printB n 16).toArray⟩) (36 :: printB n 16) (bytes_cons _ _) (by simp; omega) C n true ((parse_mark c2 c36 36 16 (by simp) _).trans (body_print hn (by omega) (by omega))) w
  have q4 := fun w => parse_is (⟨#[37]⟩ ++ ⟨(unsignedB n 2).toArray⟩) (37 :: unsignedB n 2) (bytes_cons _ _) (by simp; omega) C n true ((parse_mark c2 c36 37 2 (by simp) _).trans (body_unsigned hn (by omega) (by omega))) w
  have q5 := fun w => parse_is (⟨#[35]⟩ ++ ⟨(printB n 10).toArray⟩) (35 :: printB n 10) (bytes_cons _ _) (by simp; omega) C n true ((parse_mark c2 c36 35 10 (by simp) _).trans (body_print hn (by omega) (by omega))) w
  generalize printB n B.toNat = P1 at *
  generalize unsignedB n B.toNat = P2 at *
  generalize printB n 16 = P3 at *
  generalize unsignedB n 2 = P4 at *
  generalize printB n 10 = P5 at *
  clear e1 e2 e3 e4 e5
  replace h0 := Lib.hid h0
  replace kb := Lib.hid kb
  replace kc := Lib.hid kc
  replace p1 := Lib.hid p1
  replace p2 := Lib.hid p2
  replace p3 := Lib.hid p3
  replace p4 := Lib.hid p4
  replace p5 := Lib.hid p5
  replace q1 := Lib.hid q1
  replace q2 := Lib.hid q2
  replace q3 := Lib.hid q3
  replace q4 := Lib.hid q4
  replace q5 := Lib.hid q5
  replace hT := Lib.hid hT
  go_enter Tryd.func11, Tryd.ntmps11
  go_wp2_with fail
  refine h0.out.mono ?_
  rintro e w1 ⟨rfl, h1⟩
  replace h1 := Lib.hid h1
  go_wp2_with fail
  refine (kb.out _).mono ?_
  rintro e w2 ⟨rfl, rfl⟩
  go_wp2_with fail
  refine (p1.out _ (hT.out.kept h1.out)).mono ?_
  rintro e w3 ⟨rfl, h3⟩
  replace h3 := Lib.hid (h1.out.trans h3)
  go_wp2_with fail
  refine (kb.out _).mono ?_
  rintro e w4 ⟨rfl, rfl⟩
  go_wp2_with fail
  refine (q1.out _).mono ?_
  rintro e w5 ⟨rfl, h5⟩
  replace h5 := Lib.hid (h3.out.trans h5)
  go_wp2_with fail
  refine (kb.out _).mono ?_
  rintro e w6 ⟨rfl, rfl⟩
  go_wp2_with fail
  refine (p2.out _ (hT.out.kept h5.out)).mono ?_
  rintro e w7 ⟨rfl, h7⟩
  replace h7 := Lib.hid (h5.out.trans h7)
  go_wp2_with fail
  refine (kb.out _).mono ?_
  rintro e w8 ⟨rfl, rfl⟩
  go_wp2_with fail
  refine (q2.out _).mono ?_
  rintro e w9 ⟨rfl, h9⟩
  replace h9 := Lib.hid (h7.out.trans h9)
  go_wp2_with fail
  refine (p3.out _ (hT.out.kept h9.out)).mono ?_
  rintro e w10 ⟨rfl, h10⟩
  replace h10 := Lib.hid (h9.out.trans h10)
  go_wp2_with fail
  refine (kc.out _).mono ?_
  rintro e w11 ⟨rfl, rfl⟩
  go_wp2_with fail
  refine (q3.out _).mono ?_
  rintro e w12 ⟨rfl, h12⟩
  replace h12 := Lib.hid (h10.out.trans h12)
  go_wp2_with fail
  refine (p4.out _ (hT.out.kept h12.out)).mono ?_
  rintro e w13 ⟨rfl, h13⟩
  replace h13 := Lib.hid (h12.out.trans h13)
  go_wp2_with fail
  refine (kc.out _).mono ?_
  rintro e w14 ⟨rfl, rfl⟩
  go_wp2_with fail
  refine (q4.out _).mono ?_
  rintro e w15 ⟨rfl, h15⟩
  replace h15 := Lib.hid (h13.out.trans h15)
  go_wp2_with fail
  refine (p5.out _ (hT.out.kept h15.out)).mono ?_
  rintro e w16 ⟨rfl, h16⟩
  replace h16 := Lib.hid (h15.out.trans h16)
  go_wp2_with fail
  refine (kc.out _).mono ?_
  rintro e w17 ⟨rfl, rfl⟩
  go_wp2_with fail
  refine (q5.out _).mono ?_
  rintro e w18 ⟨rfl, h18⟩
  replace h18 := Lib.hid (h16.out.trans h18).below0
  go_wp2
  all_goals go_ret
  all_goals exact ⟨by simp, h18.out⟩
/-- how two written cells stand to one another -/
theorem order_cases (u v : Nat) {b : Nat} (hb : 2 ≤ b) (h36 : b ≤ 36) :
    ((digitsU b u).length < (digitsU b v).length ∧ u < v) ∨ ((digitsU b u).length = (digitsU b v).length ∧ Op.bytesLess (digitsU b u) (digitsU b v) = true ∧ u < v) ∨
    ((digitsU b u).length = (digitsU b v).length ∧ Op.bytesLess (digitsU b u) (digitsU b v) = false ∧ v ≤ u) ∨ ((digitsU b v).length < (digitsU b u).length ∧ v ≤ u) := by
  have h := digits_order hb h36 u v
  rcases Nat.lt_trichotomy (digitsU b u).length (digitsU b v).length with h1 | h1 | h1
  · exact .inl ⟨h1, by simpa [h1] using h⟩
  · cases hl : Op.bytesLess (digitsU b u) (digitsU b v)
    · refine .inr (.inr (.inl ⟨h1, rfl, ?_⟩))
      rw [hl] at h
      simp [h1] at h
      omega
    · refine .inr (.inl ⟨h1, rfl, ?_⟩)
      rw [hl] at h
      simpa [h1] using h.symm
  · refine .inr (.inr (.inr ⟨h1, ?_⟩))
    have n1 : ¬ (digitsU b u).length < (digitsU b v).length := by omega
    have n2 : ¬ (digitsU b u).length = (digitsU b v).length := by omega
    simp [n1, n2] at h
    omega
theorem toList_mk (l : List UInt8) : (⟨l.toArray⟩ : ByteArray).toList = l := ByteArray.toList_eq _
set_option maxRecDepth 100000 in
set_option maxHeartbeats 2000000 in
theorem norder_any (a c b : Int) (ha : i64R a) (hc : i64R c) (hb : i64R b) (W : World) (hT : NTabs W) : Calls Tryd.prog 14 #[.int .i64 a, .int .i64 c, .int .i64 b] W (NTruly W) := by
  have h0 := nshown_walk W hT
  have kb := fun w => nbase_walk b hb w
  obtain ⟨b2, b36⟩ := baseN_in b
  generalize baseN b = B at *
  have e1 : ∀ n, printS n B = printB n B.toNat := fun n => by unfold printS; rw [if_pos ⟨b2, b36⟩]
  have e2 : ∀ n, unsignedS n B = unsignedB n B.toNat := fun n => by unfold unsignedS; rw [if_pos ⟨b2, b36⟩]
  have p1 := fun w (h : NTabs w) => unsigned_walk a B w h.1 h.2
  have p2 := fun w (h : NTabs w) => unsigned_walk c B w h.1 h.2
  have p3 := fun w (h : NTabs w) => print_walk a ha B w h.1 h.2
  have p4 := fun w (h : NTabs w) => print_walk c hc B w h.1 h.2
  rw [e2] at p1 p2
  rw [e1] at p3 p4
  have i1 := unsigned_inj (b := B.toNat) (by omega) (by omega) ha hc
  have i2 := print_inj (b := B.toNat) (by omega) (by omega) ha hc
  have hoc := order_cases (unsig a) (unsig c) (b := B.toNat) (by omega) (by omega)
  have u1 : IntKind.u64.wrap a = ((unsig a : Nat) : Int) := by rw [IntKind.wrap_u64]; unfold unsig; omega
  have u2 : IntKind.u64.wrap c = ((unsig c : Nat) : Int) := by rw [IntKind.wrap_u64]; unfold unsig; omega
  have hui : a = c → unsig a = unsig c := fun h => by rw [h]
  have l1 := unsignedB_len a (b := B.toNat) (by omega)
  have l2 := unsignedB_len c (b := B.toNat) (by omega)
  have d1 : digitsU B.toNat (unsig a) = unsignedB a B.toNat := rfl
  have d2 : digitsU B.toNat (unsig c) = unsignedB c B.toNat := rfl
  rw [d1, d2] at hoc
  have t1 := toList_mk (unsignedB a B.toNat)
  have t2 := toList_mk (unsignedB c B.toNat)
  have t3 := toList_mk (printB a B.toNat)
  have t4 := toList_mk (printB c B.toNat)
  generalize unsignedB a B.toNat = U1 at *
  generalize unsignedB c B.toNat = U2 at *
  generalize printB a B.toNat = P1 at *
  generalize printB c B.toNat = P2 at *
  generalize unsig a = x at *
  generalize unsig c = y at *
  clear e1 e2 d1 d2
  have hall : ((a == c) = (decide (a = c)) ∧ (U1 == U2) = decide (a = c) ∧ (P1 == P2) = decide (a = c)) := by
    refine ⟨rfl, ?_, ?_⟩
    · rw [Bool.eq_iff_iff]; simp only [beq_iff_eq, decide_eq_true_eq]; exact i1
    · rw [Bool.eq_iff_iff]; simp only [beq_iff_eq, decide_eq_true_eq]; exact i2
  obtain ⟨r1, r2, r3⟩ := hall
  have hsit : (decide (a = c) = false ∧ decide ((U1.length : Int) < (U2.length : Int)) = true ∧ decide (U1.length < U2.length) = true ∧ decide ((x : Int) < (y : Int)) = true ∧ decide (x < y) = true) ∨
      (decide (a = c) = false ∧ (decide ((U1.length : Int) < (U2.length : Int)) = false ∧ decide (U1.length < U2.length) = false) ∧ ((((U1.length : Int) == (U2.length : Int)) = true) ∧ (U1.length == U2.length) = true) ∧ Op.bytesLess U1 U2 = true ∧ decide ((x : Int) < (y : Int)) = true ∧ decide (x < y) = true) ∨
      ((decide ((U1.length : Int) < (U2.length : Int)) = false ∧ decide (U1.length < U2.length) = false) ∧ ((((U1.length : Int) == (U2.length : Int)) = true) ∧ (U1.length == U2.length) = true) ∧ Op.bytesLess U1 U2 = false ∧ decide ((x : Int) < (y : Int)) = false ∧ decide (x < y) = false) ∨
      (decide (a = c) = false ∧ (decide ((U1.length : Int) < (U2.length : Int)) = false ∧ decide (U1.length < U2.length) = false) ∧ ((((U1.length : Int) == (U2.length : Int)) = false) ∧ (U1.length == U2.length) = false) ∧ decide ((x : Int) < (y : Int)) = false ∧ decide (x < y) = false) := by
    have hac : x ≠ y → decide (a = c) = false := fun h => by rw [decide_eq_false_iff_not]; exact fun e => h (hui e)
    have hlen : U1.length ≠ U2.length → decide (a = c) = false := fun h => by rw [decide_eq_false_iff_not]; exact fun e => h (by rw [i1.2 e])
    rcases hoc with ⟨g1, g2⟩ | ⟨g1, g2, g3⟩ | ⟨g1, g2, g3⟩ | ⟨g1, g2⟩
    · exact .inl ⟨hac (by omega), by simp; omega, by simp; omega, by simp; omega, by simp; omega⟩
    · exact .inr (.inl ⟨hac (by omega), ⟨by simp; omega, by simp; omega⟩, ⟨by simp; omega, by simp; omega⟩, g2, by simp; omega, by simp; omega⟩)
    · exact .inr (.inr (.inl ⟨⟨by simp; omega, by simp; omega⟩, ⟨by simp; omega, by simp; omega⟩, g2, by simp; omega, by simp; omega⟩))
    · exact .inr (.inr (.inr ⟨hlen (by omega), ⟨by simp; omega, by simp; omega⟩, ⟨by rw [beq_eq_false_iff_ne]; omega, by rw [beq_eq_false_iff_ne]; omega⟩, by simp; omega, by simp; omega⟩))
  generalize decide (a = c) = D at *
  clear hoc hui i1 i2
  replace h0 := Lib.hid h0
  replace kb := Lib.hid kb
  replace p1 := Lib.hid p1
  replace p2 := Lib.hid p2
  replace p3 := Lib.hid p3
  replace p4 := Lib.hid p4
  replace hT := Lib.hid hT
  rcases hsit with ⟨rfl, g1, g2, g3, g4⟩ | ⟨rfl, ⟨g1, g2⟩, ⟨g3, g4⟩, g5, g6, g7⟩ | ⟨⟨g1, g2⟩, ⟨g3, g4⟩, g5, g6, g7⟩ | ⟨rfl, ⟨g1, g2⟩, ⟨g3, g4⟩, g6, g7⟩
  all_goals
    go_enter Tryd.func14, Tryd.ntmps14
    go_wp2_with fail
    refine h0.out.mono ?_
    rintro e w1 ⟨rfl, h1⟩
    replace h1 := Lib.hid h1
    go_wp2_with fail
    refine (kb.out _).mono ?_
    rintro e w2 ⟨rfl, rfl⟩
    go_wp2_with fail
    refine (p1.out _ (hT.out.kept h1.out)).mono ?_
    rintro e w3 ⟨rfl, h3⟩
    replace h3 := Lib.hid (h1.out.trans h3)
    go_wp2_with fail
    refine (p2.out _ (hT.out.kept h3.out)).mono ?_
    rintro e w4 ⟨rfl, h4⟩
    replace h4 := Lib.hid (h3.out.trans h4)
    go_wp2_with fail
    refine (p3.out _ (hT.out.kept h4.out)).mono ?_
    rintro e w5 ⟨rfl, h5⟩
    replace h5 := Lib.hid (h4.out.trans h5)
    go_wp2_with fail
    refine (p4.out _ (hT.out.kept h5.out)).mono ?_
    rintro e w6 ⟨rfl, h6⟩
    replace h6 := Lib.hid (h5.out.trans h6).below0
    go_wp2
    all_goals go_ret
    all_goals exact ⟨by simp, h6.out⟩
end Go.Proofs.YtanpbphgmnjdeaaDoor
