/- Chapter 5: reading numbers: the plain specification, and what is written is read. No condition beyond those written in each lemma. -/
import Derived.Test.YtanpbphgmnjdeabDoorNumSpec
namespace Go.Proofs.YtanpbphgmnjdeabDoor
set_option linter.unusedVariables false
open Go.RowKit Go.Lib

/-- what a byte says as a digit; 36: it is none -/
def digV (c : UInt8) : Nat :=
  if 48 ≤ c.toNat ∧ c.toNat ≤ 57 then c.toNat - 48 else if 65 ≤ c.toNat ∧ c.toNat ≤ 90 then c.toNat - 55
  else if 97 ≤ c.toNat ∧ c.toNat ≤ 122 then c.toNat - 87 else 36
def sizeN (b : Nat) : Nat → List UInt8 → Option Nat
  | n, [] => some n
  | n, c :: l => if b ≤ digV c ∨ (18446744073709551615 - digV c) / b < n then none else sizeN b (n * b + digV c) l
def sizeB (b : Nat) (l : List UInt8) : Nat × Bool :=
  match sizeN b 0 l with
  | none => (0, false)
  | some n => (n, !l.isEmpty)
def bodyN (b : Nat) (l : List UInt8) : Int × Bool :=
  if l.head? = some 45 then
    (if (sizeB b l.tail).2 = false ∨ 9223372036854775808 < (sizeB b l.tail).1 then (0, false) else (wrap64 (-((sizeB b l.tail).1 : Int)), true))
  else (wrap64 ((sizeB b l).1 : Int), (sizeB b l).2)
def quotedB (l : List UInt8) : Bool := l.length == 3 && l.getD 0 0 == 39 && l.getD 2 0 == 39
def parseN (l : List UInt8) (b : Int) : Int × Bool :=
  if b < 2 ∨ 36 < b then (0, false)
  else if quotedB l = true then ((l.getD 1 0).toNat, true)
  else if l.head? = some 36 then bodyN 16 l.tail
  else if l.head? = some 37 then bodyN 2 l.tail
  else if l.head? = some 35 then bodyN 10 l.tail
  else bodyN b.toNat l
def valB (b n : Nat) (l : List UInt8) : Nat := l.foldl (fun n c => n * b + digV c) n

theorem digV_le (c : UInt8) : digV c ≤ 36 := by
  unfold digV
  repeat' split
  all_goals omega
theorem digC_nat {k : Nat} (h : k < 36) : (digC k).toNat = if k < 10 then 48 + k else 55 + k := by
  unfold digC
  split <;> simp [UInt8.toNat_ofNat'] <;> omega
theorem digV_digC {k : Nat} (h : k < 36) : digV (digC k) = k := by
  have := digC_nat h
  unfold digV
  split at this <;> repeat' split
  all_goals omega
theorem valB_ge {b : Nat} (hb : 1 ≤ b) : ∀ (l : List UInt8) (n : Nat), n ≤ valB b n l
  | [], n => Nat.le_refl _
  | c :: l, n => by
    have h := valB_ge hb l (n * b + digV c)
    have h2 : n * 1 ≤ n * b := Nat.mul_le_mul_left n hb
    unfold valB at *
    simp only [List.foldl_cons]
    omega
theorem valB_append (b n : Nat) (l m : List UInt8) : valB b n (l ++ m) = valB b (valB b n l) m := by simp [valB]
theorem sizeN_eq {b : Nat} (hb : 2 ≤ b) : ∀ (l : List UInt8) (n : Nat), n < 18446744073709551616 →
    sizeN b n l = if (∀ c ∈ l, digV c < b) ∧ valB b n l < 18446744073709551616 then some (valB b n l) else none
  | [], n, hn => by simp [sizeN, valB, hn]
  | c :: l, n, hn => by
    have hd := digV_le c
    have hq : (18446744073709551615 - digV c) / b < n ↔ 18446744073709551616 ≤ n * b + digV c := by
      rw [Nat.div_lt_iff_lt_mul (by omega)]
      omega
    by_cases h1 : b ≤ digV c
    · rw [sizeN, if_pos (.inl h1), if_neg]
      intro h
      have := h.1 c (by simp)
      omega
    · by_cases h2 : (18446744073709551615 - digV c) / b < n
      · rw [sizeN, if_pos (.inr h2), if_neg]
        intro h
        have h3 := h.2
        have h4 := hq.1 h2
        have h5 := valB_ge (b := b) (by omega) l (n * b + digV c)
        have h6 : valB b n (c :: l) = valB b (n * b + digV c) l := by simp [valB]
        omega
      · have h4 : n * b + digV c < 18446744073709551616 := by
          have := mt hq.2 h2
          omega
        rw [sizeN, if_neg (by omega), sizeN_eq hb l _ h4]
        have h6 : valB b n (c :: l) = valB b (n * b + digV c) l := by simp [valB]
        rw [h6]
        congr 1
        simp only [List.mem_cons, forall_eq_or_imp, eq_iff_iff]
        constructor
        · rintro ⟨a, c⟩; exact ⟨⟨by omega, a⟩, c⟩
        · rintro ⟨⟨_, a⟩, c⟩; exact ⟨a, c⟩
theorem sizeB_eq {b : Nat} (hb : 2 ≤ b) (l : List UInt8) (hl : l ≠ []) (hd : ∀ c ∈ l, digV c < b) (hv : valB b 0 l < 18446744073709551616) : sizeB b l = (valB b 0 l, true) := by
  unfold sizeB
  rw [sizeN_eq hb l 0 (by omega), if_pos ⟨hd, hv⟩]
  cases l with
  | nil => exact absurd rfl hl
  | cons c l => rfl
theorem sizeB_lt {b : Nat} (hb : 2 ≤ b) (l : List UInt8) : (sizeB b l).1 < 18446744073709551616 := by
  unfold sizeB
  rw [sizeN_eq hb l 0 (by omega)]
  split
  · simp
  · rename_i h
    split at h
    · rename_i h2; injection h with h; subst h; exact h2.2
    · cases h
/-- the digits of a number are digits, and say it -/
theorem digits_dig {b : Nat} (hb : 2 ≤ b) (hb36 : b ≤ 36) (u : Nat) : ∀ c ∈ digitsU b u, ∃ k, k < b ∧ c = digC k := by
  induction u using Nat.strongRecOn with
  | ind u ih =>
    by_cases h : u < b
    · rw [digitsU_small h]
      intro c hc
      exact ⟨u, h, by simpa using hc⟩
    · rw [digitsU_big hb (by omega)]
      intro c hc
      rcases List.mem_append.1 hc with hc | hc
      · exact ih (u / b) (Nat.div_lt_self (by omega) (by omega)) c hc
      · exact ⟨u % b, Nat.mod_lt _ (by omega), by simpa using hc⟩
theorem digits_val {b : Nat} (hb : 2 ≤ b) (hb36 : b ≤ 36) (u : Nat) : ∀ n, valB b n (digitsU b u) = n * b ^ (digitsU b u).length + u := by
  induction u using Nat.strongRecOn with
  | ind u ih =>
    intro n
    by_cases h : u < b
    · rw [digitsU_small h]
      simp [valB, digV_digC (show u < 36 by omega)]
    · rw [digitsU_big hb (by omega), valB_append, ih (u / b) (Nat.div_lt_self (by omega) (by omega))]
      have hm : u % b < b := Nat.mod_lt _ (by omega)
      simp only [valB, List.foldl_cons, List.foldl_nil, digV_digC (show u % b < 36 by omega), List.length_append, List.length_cons, List.length_nil, Nat.zero_add, Nat.pow_succ]
      have := Nat.div_add_mod u b
      rw [Nat.add_mul, ← Nat.mul_assoc, Nat.mul_comm (u / b) b]
      omega
theorem digits_lt36 {b : Nat} (hb : 2 ≤ b) (hb36 : b ≤ 36) (u : Nat) : ∀ c ∈ digitsU b u, digV c < b ∧ 48 ≤ c.toNat := by
  intro c hc
  obtain ⟨k, hk, rfl⟩ := digits_dig hb hb36 u c hc
  rw [digV_digC (by omega), digC_nat (by omega)]
  refine ⟨hk, ?_⟩
  split <;> omega
theorem digits_size {b : Nat} (hb : 2 ≤ b) (hb36 : b ≤ 36) (u : Nat) (hu : u < 18446744073709551616) : sizeB b (digitsU b u) = (u, true) := by
  have h := digits_val hb hb36 u 0
  simp only [Nat.zero_mul, Nat.zero_add] at h
  rw [sizeB_eq hb _ (digitsU_ne b u) (fun c hc => (digits_lt36 hb hb36 u c hc).1) (by omega), h]

/-- bytes that are no mark ahead of a number -/
def NoMark (l : List UInt8) : Prop := ∀ c ∈ l, 48 ≤ c.toNat
theorem NoMark.head {l : List UInt8} (h : NoMark l) (x : UInt8) (hx : x.toNat < 48) : l.head? ≠ some x := by
  cases l with
  | nil => simp
  | cons c l =>
    intro e
    have : c = x := by simpa using e
    have := h c (by simp)
    subst_vars
    omega
theorem body_plain {b : Nat} {l : List UInt8} (h : NoMark l) : bodyN b l = (wrap64 ((sizeB b l).1 : Int), (sizeB b l).2) := by
  unfold bodyN
  rw [if_neg (h.head 45 (by decide))]
theorem body_neg {b : Nat} {l : List UInt8} {n : Nat} (h : sizeB b l = (n, true)) (hn : n ≤ 9223372036854775808) : bodyN b (45 :: l) = (wrap64 (-(n : Int)), true) := by
  unfold bodyN
  simp only [List.head?_cons, List.tail_cons, h, if_true]
  rw [if_neg]
  simp
  omega
theorem parse_plain {b : Int} (h2 : 2 ≤ b) (h36 : b ≤ 36) {l : List UInt8} (h : NoMark l) : parseN l b = bodyN b.toNat l := by
  unfold parseN
  have hq : quotedB l = false := by
    unfold quotedB
    cases l with
    | nil => rfl
    | cons c l =>
      have := h c (by simp)
      have hc : (c == 39) = false := by
        rw [beq_eq_false_iff_ne]; rintro rfl; revert this; decide
      simp [hc]
  rw [if_neg (by omega), if_neg (by simp [hq]), if_neg (h.head 36 (by decide)), if_neg (h.head 37 (by decide)), if_neg (h.head 35 (by decide))]
theorem parse_neg {b : Int} (h2 : 2 ≤ b) (h36 : b ≤ 36) (l : List UInt8) : parseN (45 :: l) b = bodyN b.toNat (45 :: l) := by
  unfold parseN
  have hq : quotedB (45 :: l) = false := by simp [quotedB]
  rw [if_neg (by omega), if_neg (by simp [hq])]
  simp
theorem parse_mark {b : Int} (h2 : 2 ≤ b) (h36 : b ≤ 36) (x : UInt8) (k : Nat) (hx : x = 36 ∧ k = 16 ∨ x = 37 ∧ k = 2 ∨ x = 35 ∧ k = 10) (l : List UInt8) : parseN (x :: l) b = bodyN k l := by
  unfold parseN
  have hq : quotedB (x :: l) = false := by rcases hx with ⟨rfl, _⟩ | ⟨rfl, _⟩ | ⟨rfl, _⟩ <;> simp [quotedB]
  rw [if_neg (by omega), if_neg (by simp [hq])]
  rcases hx with ⟨rfl, rfl⟩ | ⟨rfl, rfl⟩ | ⟨rfl, rfl⟩ <;> simp
theorem wrap64_id {n : Int} (h : -9223372036854775808 ≤ n ∧ n ≤ 9223372036854775807) : wrap64 n = n := by unfold wrap64; omega
theorem body_print {n : Int} (h : -9223372036854775808 ≤ n ∧ n ≤ 9223372036854775807) {b : Nat} (hb : 2 ≤ b) (hb36 : b ≤ 36) : bodyN b (printB n b) = (n, true) := by
  unfold printB
  split
  · rw [body_plain (fun c hc => (digits_lt36 hb hb36 _ c hc).2), digits_size hb hb36 _ (by omega)]
    rw [wrap64_id (by omega)]
    simp; omega
  · rw [body_neg (digits_size hb hb36 n.natAbs (by omega)) (by omega), wrap64_id (by omega)]
    simp; omega
theorem body_unsigned {n : Int} (h : -9223372036854775808 ≤ n ∧ n ≤ 9223372036854775807) {b : Nat} (hb : 2 ≤ b) (hb36 : b ≤ 36) : bodyN b (unsignedB n b) = (n, true) := by
  have hu : unsig n < 18446744073709551616 := by unfold unsig; omega
  unfold unsignedB
  rw [body_plain (fun c hc => (digits_lt36 hb hb36 _ c hc).2), digits_size hb hb36 _ hu]
  have : wrap64 ((unsig n : Nat) : Int) = n := by unfold wrap64 unsig; omega
  simp [this]
theorem parse_print {n : Int} (h : -9223372036854775808 ≤ n ∧ n ≤ 9223372036854775807) {b : Int} (hb : 2 ≤ b) (hb36 : b ≤ 36) : parseN (printB n b.toNat) b = (n, true) := by
  have hbody := body_print h (b := b.toNat) (by omega) (by omega)
  unfold printB at *
  split
  · rename_i h0
    rw [if_pos h0] at hbody
    rw [parse_plain hb hb36 (fun c hc => (digits_lt36 (by omega) (by omega) _ c hc).2), hbody]
  · rename_i h0
    rw [if_neg h0] at hbody
    rw [parse_neg hb hb36, hbody]
theorem parse_unsigned {n : Int} (h : -9223372036854775808 ≤ n ∧ n ≤ 9223372036854775807) {b : Int} (hb : 2 ≤ b) (hb36 : b ≤ 36) : parseN (unsignedB n b.toNat) b = (n, true) := by
  have hbody := body_unsigned h (b := b.toNat) (by omega) (by omega)
  unfold unsignedB at *
  rw [parse_plain hb hb36 (fun c hc => (digits_lt36 (by omega) (by omega) _ c hc).2), hbody]

/-! ### a digit more, noughts ahead -/
theorem zeros_val (b : Nat) : ∀ k, valB b 0 (List.replicate k 48) = 0
  | 0 => rfl
  | k + 1 => by
    have h48 : digV 48 = 0 := by decide
    rw [List.replicate_succ]
    have := zeros_val b k
    unfold valB at *
    simp only [List.foldl_cons, h48, Nat.zero_mul, Nat.add_zero]
    exact this
theorem grown_size {b : Nat} (hb : 2 ≤ b) (hb36 : b ≤ 36) (u d : Nat) (hd : d < b) (hu : u * b + d < 18446744073709551616) : sizeB b (digitsU b u ++ digitsU b d) = (u * b + d, true) := by
  have hv : valB b 0 (digitsU b u ++ digitsU b d) = u * b + d := by
    rw [valB_append, digits_val hb hb36 u 0, digits_val hb hb36 d, digitsU_small hd]
    simp
  rw [sizeB_eq hb _ (by simp [digitsU_ne]) (fun c hc => ?_) (by omega), hv]
  rcases List.mem_append.1 hc with hc | hc
  · exact (digits_lt36 hb hb36 _ c hc).1
  · exact (digits_lt36 hb hb36 _ c hc).1
theorem zeros_size {b : Nat} (hb : 2 ≤ b) (hb36 : b ≤ 36) (k u : Nat) (hu : u < 18446744073709551616) : sizeB b (List.replicate k 48 ++ digitsU b u) = (u, true) := by
  have h := digits_val hb hb36 u 0
  simp only [Nat.zero_mul, Nat.zero_add] at h
  have hv : valB b 0 (List.replicate k 48 ++ digitsU b u) = u := by rw [valB_append, zeros_val, h]
  rw [sizeB_eq hb _ (by simp [digitsU_ne]) (fun c hc => ?_) (by omega), hv]
  rcases List.mem_append.1 hc with hc | hc
  · have : c = 48 := (List.mem_replicate.1 hc).2
    subst this
    have : digV 48 = 0 := by decide
    omega
  · exact (digits_lt36 hb hb36 _ c hc).1
theorem NoMark.append {l m : List UInt8} (h : NoMark l) (k : NoMark m) : NoMark (l ++ m) := fun c hc => by
  rcases List.mem_append.1 hc with hc | hc
  · exact h c hc
  · exact k c hc
theorem NoMark.digits {b : Nat} (hb : 2 ≤ b) (hb36 : b ≤ 36) (u : Nat) : NoMark (digitsU b u) := fun c hc => (digits_lt36 hb hb36 _ c hc).2
theorem NoMark.zeros (k : Nat) : NoMark (List.replicate k 48) := fun c hc => by
  have : c = 48 := (List.mem_replicate.1 hc).2
  subst this
  decide

/-! ### small and capital letters -/
def swapC (c : UInt8) : UInt8 := if 97 ≤ c.toNat ∧ c.toNat ≤ 122 then c - 32 else if 65 ≤ c.toNat ∧ c.toNat ≤ 90 then c + 32 else c
theorem swapC_nat (c : UInt8) : (swapC c).toNat = if 97 ≤ c.toNat ∧ c.toNat ≤ 122 then c.toNat - 32 else if 65 ≤ c.toNat ∧ c.toNat ≤ 90 then c.toNat + 32 else c.toNat := by
  have := c.toNat_lt
  unfold swapC
  split
  · rename_i h
    rw [UInt8.toNat_sub_of_le _ _ (by rw [UInt8.le_iff_toNat_le]; simp; omega)]
    simp
  · split
    · rename_i h1 h2
      rw [UInt8.toNat_add]
      simp
      omega
    · rfl
theorem digV_swap (c : UInt8) : digV (swapC c) = digV c := by
  have h := swapC_nat c
  unfold digV
  rw [h]
  by_cases h1 : 97 ≤ c.toNat ∧ c.toNat ≤ 122
  · simp only [h1, and_self, if_true]
    repeat' split
    all_goals omega
  · rw [if_neg h1]
    by_cases h2 : 65 ≤ c.toNat ∧ c.toNat ≤ 90
    · simp only [h2, and_self, if_true]
      repeat' split
      all_goals omega
    · rw [if_neg h2]
theorem sizeN_swap (b : Nat) : ∀ (l : List UInt8) (n : Nat), sizeN b n (l.map swapC) = sizeN b n l
  | [], n => rfl
  | c :: l, n => by simp only [List.map_cons, sizeN, digV_swap, sizeN_swap b l]
theorem sizeB_swap (b : Nat) (l : List UInt8) : sizeB b (l.map swapC) = sizeB b l := by
  unfold sizeB
  rw [sizeN_swap]
  cases l <;> rfl
theorem head_swap (l : List UInt8) (x : UInt8) (hx : x.toNat < 65) : ((l.map swapC).head? = some x) = (l.head? = some x) := by
  cases l with
  | nil => rfl
  | cons c l =>
    simp only [List.map_cons, List.head?_cons, Option.some.injEq, eq_iff_iff]
    have h := swapC_nat c
    constructor
    · rintro rfl
      apply UInt8.toNat_inj.1
      split at h
      · omega
      · split at h <;> omega
    · rintro rfl
      apply UInt8.toNat_inj.1
      rw [h]
      repeat' split
      all_goals omega
theorem bodyN_swap (b : Nat) (l : List UInt8) : bodyN b (l.map swapC) = bodyN b l := by
  unfold bodyN
  simp only [head_swap l 45 (by decide), ← List.map_tail, sizeB_swap]
theorem swap39 (c : UInt8) : (swapC c == 39) = (c == 39) := by
  have h := swapC_nat c
  rw [Bool.eq_iff_iff]
  simp only [beq_iff_eq]
  constructor
  · intro e
    rw [e] at h
    apply UInt8.toNat_inj.1
    revert h
    have : (39 : UInt8).toNat = 39 := by decide
    rw [this]
    intro h
    split at h
    · omega
    · split at h <;> omega
  · rintro rfl
    decide
theorem quoted_swap (l : List UInt8) : quotedB (l.map swapC) = quotedB l := by
  unfold quotedB
  match l with
  | [] => rfl
  | [a] => rfl
  | [a, b] => rfl
  | [a, b, c] => simp [swap39]
  | a :: b :: c :: d :: l => simp
theorem parse_swap (l : List UInt8) (b : Int) : (parseN (l.map swapC) b).2 = (parseN l b).2 ∧ ((parseN (l.map swapC) b).1 = (parseN l b).1 ∨ quotedB l = true) := by
  unfold parseN
  simp only [quoted_swap, head_swap l 36 (by decide), head_swap l 37 (by decide), head_swap l 35 (by decide), ← List.map_tail, bodyN_swap]
  by_cases h1 : b < 2 ∨ 36 < b
  · simp [h1]
  · rw [if_neg h1, if_neg h1]
    cases h : quotedB l
    · simp
    · simp
end Go.Proofs.YtanpbphgmnjdeabDoor
