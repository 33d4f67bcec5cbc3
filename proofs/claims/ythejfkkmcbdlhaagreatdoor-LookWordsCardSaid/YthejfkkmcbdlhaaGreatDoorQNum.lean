/- The plain specification of chapter 5 (numbers as texts): digits by a base. No condition. -/
import Derived.Test.YthejfkkmcbdlhaaGreatDoorQMem
import Derived.Lib.ItoaNum
import Derived.Test.YthejfkkmcbdlhaaGreatDoorQScan
import Derived.Laws.Bits64
import Derived.Laws.RangeString
import Derived.Laws.RangeAny
namespace Go.Proofs.YthejfkkmcbdlhaaGreatDoor
set_option linter.unusedVariables false
open Go.RowKit Go.Lib

/-- a digit's sign: 0 to 9, A to Z -/
def digC (k : Nat) : UInt8 := UInt8.ofNat (if k < 10 then 48 + k else 55 + k)
/-- the digits of a number, the first ahead -/
def digitsU (b u : Nat) : List UInt8 :=
  if h : u < b ∨ b < 2 then [digC u] else digitsU b (u / b) ++ [digC (u % b)]
termination_by u
decreasing_by exact Nat.div_lt_self (by omega) (by omega)
theorem digitsU_small {b u : Nat} (h : u < b) : digitsU b u = [digC u] := by rw [digitsU, dif_pos (.inl h)]
theorem digitsU_big {b u : Nat} (hb : 2 ≤ b) (h : b ≤ u) : digitsU b u = digitsU b (u / b) ++ [digC (u % b)] := by rw [digitsU, dif_neg (by omega)]
theorem digitsU_ne (b u : Nat) : digitsU b u ≠ [] := by
  rw [digitsU]
  split <;> simp
theorem digitsU_10 : ∀ u, digitsU 10 u = decDigits u := by
  intro u
  induction u using Nat.strongRecOn with
  | ind u ih =>
    by_cases h : u < 10
    · rw [digitsU_small h, decDigits, dif_pos h]
      unfold digC
      rw [if_pos h]
    · rw [digitsU_big (by omega) (by omega), decDigits, dif_neg h, ih (u / 10) (by omega)]
      unfold digC
      rw [if_pos (by omega)]
theorem digitsU_len {b : Nat} (hb : 2 ≤ b) : ∀ (n u : Nat), u < b ^ (n + 1) → (digitsU b u).length ≤ n + 1
  | 0, u, h => by rw [digitsU_small (by simpa using h)]; simp
  | n + 1, u, h => by
    rcases Nat.lt_or_ge u b with h1 | h1
    · rw [digitsU_small h1]; simp
    · rw [digitsU_big hb h1, List.length_append]
      have : u / b < b ^ (n + 1) := by
        rw [Nat.div_lt_iff_lt_mul (by omega)]
        rw [Nat.pow_succ] at h
        exact h
      have := digitsU_len hb n (u / b) this
      simp
      omega
theorem digitsU_64 {b u : Nat} (hb : 2 ≤ b) (hu : u < 18446744073709551616) : (digitsU b u).length ≤ 64 := by
  refine digitsU_len hb 63 u ?_
  have h1 : (2 : Nat) ^ 64 ≤ b ^ 64 := Nat.pow_le_pow_left hb 64
  have h2 : (2 : Nat) ^ 64 = 18446744073709551616 := by decide
  show u < b ^ 64
  omega
/-- one round of the document's loop -/
theorem digits_step {b u : Nat} (hb : 2 ≤ b) (s r : List UInt8) (h : digitsU b u ++ s = r) : (u / b = 0 → digC (u % b) :: s = r) ∧ (0 < u / b → digitsU b (u / b) ++ digC (u % b) :: s = r) := by
  constructor
  · intro h0
    have hlt : u < b := by
      rcases Nat.lt_or_ge u b with h1 | h1
      · exact h1
      · have := Nat.div_pos h1 (by omega); omega
    rw [digitsU_small hlt] at h
    rw [Nat.mod_eq_of_lt hlt]
    exact h
  · intro h0
    have hge : b ≤ u := by
      rcases Nat.lt_or_ge u b with h1 | h1
      · rw [Nat.div_eq_of_lt h1] at h0; omega
      · exact h1
    rw [digitsU_big hb hge] at h
    simpa using h
/-- a cell without its sign -/
def unsig (n : Int) : Nat := (n % 18446744073709551616).toNat
def unsignedB (n : Int) (b : Nat) : List UInt8 := digitsU b (unsig n)
def printB (n : Int) (b : Nat) : List UInt8 := if 0 ≤ n then digitsU b n.toNat else 45 :: digitsU b n.natAbs
theorem printB_10 (n : Int) : printB n 10 = itoa n := by
  unfold printB itoa
  by_cases h : 0 ≤ n
  · rw [if_pos h, if_neg (by omega), digitsU_10]
  · rw [if_neg h, if_pos (by omega), digitsU_10]
end Go.Proofs.YthejfkkmcbdlhaaGreatDoor
/- Chapter 5: reading numbers: the plain specification, and what is written is read. No condition beyond those written in each lemma. -/
namespace Go.Proofs.YthejfkkmcbdlhaaGreatDoor
set_option linter.unusedVariables false
open Go.RowKit Go.Lib

/-- what a byte says as a digit; 36: it is none -/
def digV (c : UInt8) : Nat :=
  if 48 ≤ c.toNat ∧ c.toNat ≤ 57 then c.toNat - 48 else if 65 ≤ c.toNat ∧ c.toNat ≤ 90 then c.toNat - 55
  else if 97 ≤ c.toNat ∧ c.toNat ≤ 122 then c.toNat - 87 else 36
def sizeN (b : Nat) : Nat → List UInt8 → Option Nat
  | n, [] => some n
  | n, c :: l => if b ≤ digV c ∨ (18446744073709551615 - digV c) / b < n then none else sizeN b (n * b + digV c) l
def sizeB (b : Nat) (l : List UInt8) : Nat × Bool :=
  match sizeN b 0 l with
  | none => (0, false)
  | some n => (n, !l.isEmpty)
def bodyN (b : Nat) (l : List UInt8) : Int × Bool :=
  if l.head? = some 45 then
    (if (sizeB b l.tail).2 = false ∨ 9223372036854775808 < (sizeB b l.tail).1 then (0, false) else (wrap64 (-((sizeB b l.tail).1 : Int)), true))
  else (wrap64 ((sizeB b l).1 : Int), (sizeB b l).2)
def quotedB (l : List UInt8) : Bool := l.length == 3 && l.getD 0 0 == 39 && l.getD 2 0 == 39
def parseN (l : List UInt8) (b : Int) : Int × Bool :=
  if b < 2 ∨ 36 < b then (0, false)
  else if quotedB l = true then ((l.getD 1 0).toNat, true)
  else if l.head? = some 36 then bodyN 16 l.tail
  else if l.head? = some 37 then bodyN 2 l.tail
  else if l.head? = some 35 then bodyN 10 l.tail
  else bodyN b.toNat l
def valB (b n : Nat) (l : List UInt8) : Nat := l.foldl (fun n c => n * b + digV c) n

theorem digV_le (c : UInt8) : digV c ≤ 36 := by
  unfold digV
  repeat' split
  all_goals omega
theorem digC_nat {k : Nat} (h : k < 36) : (digC k).toNat = if k < 10 then 48 + k else 55 + k := by
  unfold digC
  split <;> simp [UInt8.toNat_ofNat'] <;> omega
theorem digV_digC {k : Nat} (h : k < 36) : digV (digC k) = k := by
  have := digC_nat h
  unfold digV
  split at this <;> repeat' split
  all_goals omega
theorem valB_ge {b : Nat} (hb : 1 ≤ b) : ∀ (l : List UInt8) (n : Nat), n ≤ valB b n l
  | [], n => Nat.le_refl _
  | c :: l, n => by
    have h := valB_ge hb l (n * b + digV c)
    have h2 : n * 1 ≤ n * b := Nat.mul_le_mul_left n hb
    unfold valB at *
    simp only [List.foldl_cons]
    omega
theorem valB_append (b n : Nat) (l m : List UInt8) : valB b n (l ++ m) = valB b (valB b n l) m := by simp [valB]
theorem sizeN_eq {b : Nat} (hb : 2 ≤ b) : ∀ (l : List UInt8) (n : Nat), n < 18446744073709551616 →
    sizeN b n l = if (∀ c ∈ l, digV c < b) ∧ valB b n l < 18446744073709551616 then some (valB b n l) else none
  | [], n, hn => by simp [sizeN, valB, hn]
  | c :: l, n, hn => by
    have hd := digV_le c
    have hq : (18446744073709551615 - digV c) / b < n ↔ 18446744073709551616 ≤ n * b + digV c := by
      rw [Nat.div_lt_iff_lt_mul (by omega)]
      omega
    by_cases h1 : b ≤ digV c
    · rw [sizeN, if_pos (.inl h1), if_neg]
      intro h
      have := h.1 c (by simp)
      omega
    · by_cases h2 : (18446744073709551615 - digV c) / b < n
      · rw [sizeN, if_pos (.inr h2), if_neg]
        intro h
        have h3 := h.2
        have h4 := hq.1 h2
        have h5 := valB_ge (b := b) (by omega) l (n * b + digV c)
        have h6 : valB b n (c :: l) = valB b (n * b + digV c) l := by simp [valB]
        omega
      · have h4 : n * b + digV c < 18446744073709551616 := by
          have := mt hq.2 h2
          omega
        rw [sizeN, if_neg (by omega), sizeN_eq hb l _ h4]
        have h6 : valB b n (c :: l) = valB b (n * b + digV c) l := by simp [valB]
        rw [h6]
        congr 1
        simp only [List.mem_cons, forall_eq_or_imp, eq_iff_iff]
        constructor
        · rintro ⟨a, c⟩; exact ⟨⟨by omega, a⟩, c⟩
        · rintro ⟨⟨_, a⟩, c⟩; exact ⟨a, c⟩
theorem sizeB_eq {b : Nat} (hb : 2 ≤ b) (l : List UInt8) (hl : l ≠ []) (hd : ∀ c ∈ l, digV c < b) (hv : valB b 0 l < 18446744073709551616) : sizeB b l = (valB b 0 l, true) := by
  unfold sizeB
  rw [sizeN_eq hb l 0 (by omega), if_pos ⟨hd, hv⟩]
  cases l with
  | nil => exact absurd rfl hl
  | cons c l => rfl
theorem sizeB_lt {b : Nat} (hb : 2 ≤ b) (l : List UInt8) : (sizeB b l).1 < 18446744073709551616 := by
  unfold sizeB
  rw [sizeN_eq hb l 0 (by omega)]
  split
  · simp
  · rename_i h
    split at h
    · rename_i h2; injection h with h; subst h; exact h2.2
    · cases h
/-- the digits of a number are digits, and say it -/
theorem digits_dig {b : Nat} (hb : 2 ≤ b) (hb36 : b ≤ 36) (u : Nat) : ∀ c ∈ digitsU b u, ∃ k, k < b ∧ c = digC k := by
  induction u using Nat.strongRecOn with
  | ind u ih =>
    by_cases h : u < b
    · rw [digitsU_small h]
      intro c hc
      exact ⟨u, h, by simpa using hc⟩
    · rw [digitsU_big hb (by omega)]
      intro c hc
      rcases List.mem_append.1 hc with hc | hc
      · exact ih (u / b) (Nat.div_lt_self (by omega) (by omega)) c hc
      · exact ⟨u % b, Nat.mod_lt _ (by omega), by simpa using hc⟩
theorem digits_val {b : Nat} (hb : 2 ≤ b) (hb36 : b ≤ 36) (u : Nat) : ∀ n, valB b n (digitsU b u) = n * b ^ (digitsU b u).length + u := by
  induction u using Nat.strongRecOn with
  | ind u ih =>
    intro n
    by_cases h : u < b
    · rw [digitsU_small h]
      simp [valB, digV_digC (show u < 36 by omega)]
    · rw [digitsU_big hb (by omega), valB_append, ih (u / b) (Nat.div_lt_self (by omega) (by omega))]
      have hm : u % b < b := Nat.mod_lt _ (by omega)
      simp only [valB, List.foldl_cons, List.foldl_nil, digV_digC (show u % b < 36 by omega), List.length_append, List.length_cons, List.length_nil, Nat.zero_add, Nat.pow_succ]
      have := Nat.div_add_mod u b
      rw [Nat.add_mul, ← Nat.mul_assoc, Nat.mul_comm (u / b) b]
      omega
theorem digits_lt36 {b : Nat} (hb : 2 ≤ b) (hb36 : b ≤ 36) (u : Nat) : ∀ c ∈ digitsU b u, digV c < b ∧ 48 ≤ c.toNat := by
  intro c hc
  obtain ⟨k, hk, rfl⟩ := digits_dig hb hb36 u c hc
  rw [digV_digC (by omega), digC_nat (by omega)]
  refine ⟨hk, ?_⟩
  split <;> omega
theorem digits_size {b : Nat} (hb : 2 ≤ b) (hb36 : b ≤ 36) (u : Nat) (hu : u < 18446744073709551616) : sizeB b (digitsU b u) = (u, true) := by
  have h := digits_val hb hb36 u 0
  simp only [Nat.zero_mul, Nat.zero_add] at h
  rw [sizeB_eq hb _ (digitsU_ne b u) (fun c hc => (digits_lt36 hb hb36 u c hc).1) (by omega), h]

/-- bytes that are no mark ahead of a number -/
def NoMark (l : List UInt8) : Prop := ∀ c ∈ l, 48 ≤ c.toNat
theorem NoMark.head {l : List UInt8} (h : NoMark l) (x : UInt8) (hx : x.toNat < 48) : l.head? ≠ some x := by
  cases l with
  | nil => simp
  | cons c l =>
    intro e
    have : c = x := by simpa using e
    have := h c (by simp)
    subst_vars
    omega
theorem body_plain {b : Nat} {l : List UInt8} (h : NoMark l) : bodyN b l = (wrap64 ((sizeB b l).1 : Int), (sizeB b l).2) := by
  unfold bodyN
  rw [if_neg (h.head 45 (by decide))]
theorem body_neg {b : Nat} {l : List UInt8} {n : Nat} (h : sizeB b l = (n, true)) (hn : n ≤ 9223372036854775808) : bodyN b (45 :: l) = (wrap64 (-(n : Int)), true) := by
  unfold bodyN
  simp only [List.head?_cons, List.tail_cons, h, if_true]
  rw [if_neg]
  simp
  omega
theorem parse_plain {b : Int} (h2 : 2 ≤ b) (h36 : b ≤ 36) {l : List UInt8} (h : NoMark l) : parseN l b = bodyN b.toNat l := by
  unfold parseN
  have hq : quotedB l = false := by
    unfold quotedB
    cases l with
    | nil => rfl
    | cons c l =>
      have := h c (by simp)
      have hc : (c == 39) = false := by
        rw [beq_eq_false_iff_ne]; rintro rfl; revert this; decide
      simp [hc]
  rw [if_neg (by omega), if_neg (by simp [hq]), if_neg (h.head 36 (by decide)), if_neg (h.head 37 (by decide)), if_neg (h.head 35 (by decide))]
theorem parse_neg {b : Int} (h2 : 2 ≤ b) (h36 : b ≤ 36) (l : List UInt8) : parseN (45 :: l) b = bodyN b.toNat (45 :: l) := by
  unfold parseN
  have hq : quotedB (45 :: l) = false := by simp [quotedB]
  rw [if_neg (by omega), if_neg (by simp [hq])]
  simp
theorem parse_mark {b : Int} (h2 : 2 ≤ b) (h36 : b ≤ 36) (x : UInt8) (k : Nat) (hx : x = 36 ∧ k = 16 ∨ x = 37 ∧ k = 2 ∨ x = 35 ∧ k = 10) (l : List UInt8) : parseN (x :: l) b = bodyN k l := by
  unfold parseN
  have hq : quotedB (x :: l) = false := by rcases hx with ⟨rfl, _⟩ | ⟨rfl, _⟩ | ⟨rfl, _⟩ <;> simp [quotedB]
  rw [if_neg (by omega), if_neg (by simp [hq])]
  rcases hx with ⟨rfl, rfl⟩ | ⟨rfl, rfl⟩ | ⟨rfl, rfl⟩ <;> simp
theorem wrap64_id {n : Int} (h : -9223372036854775808 ≤ n ∧ n ≤ 9223372036854775807) : wrap64 n = n := by unfold wrap64; omega
theorem body_print {n : Int} (h : -9223372036854775808 ≤ n ∧ n ≤ 9223372036854775807) {b : Nat} (hb : 2 ≤ b) (hb36 : b ≤ 36) : bodyN b (printB n b) = (n, true) := by
  unfold printB
  split
  · rw [body_plain (fun c hc => (digits_lt36 hb hb36 _ c hc).2), digits_size hb hb36 _ (by omega)]
    rw [wrap64_id (by omega)]
    simp; omega
  · rw [body_neg (digits_size hb hb36 n.natAbs (by omega)) (by omega), wrap64_id (by omega)]
    simp; omega
theorem body_unsigned {n : Int} (h : -9223372036854775808 ≤ n ∧ n ≤ 9223372036854775807) {b : Nat} (hb : 2 ≤ b) (hb36 : b ≤ 36) : bodyN b (unsignedB n b) = (n, true) := by
  have hu : unsig n < 18446744073709551616 := by unfold unsig; omega
  unfold unsignedB
  rw [body_plain (fun c hc => (digits_lt36 hb hb36 _ c hc).2), digits_size hb hb36 _ hu]
  have : wrap64 ((unsig n : Nat) : Int) = n := by unfold wrap64 unsig; omega
  simp [this]
theorem parse_print {n : Int} (h : -9223372036854775808 ≤ n ∧ n ≤ 9223372036854775807) {b : Int} (hb : 2 ≤ b) (hb36 : b ≤ 36) : parseN (printB n b.toNat) b = (n, true) := by
  have hbody := body_print h (b := b.toNat) (by omega) (by omega)
  unfold printB at *
  split
  · rename_i h0
    rw [if_pos h0] at hbody
    rw [parse_plain hb hb36 (fun c hc => (digits_lt36 (by omega) (by omega) _ c hc).2), hbody]
  · rename_i h0
    rw [if_neg h0] at hbody
    rw [parse_neg hb hb36, hbody]
theorem parse_unsigned {n : Int} (h : -9223372036854775808 ≤ n ∧ n ≤ 9223372036854775807) {b : Int} (hb : 2 ≤ b) (hb36 : b ≤ 36) : parseN (unsignedB n b.toNat) b = (n, true) := by
  have hbody := body_unsigned h (b := b.toNat) (by omega) (by omega)
  unfold unsignedB at *
  rw [parse_plain hb hb36 (fun c hc => (digits_lt36 (by omega) (by omega) _ c hc).2), hbody]

/-! ### a digit more, noughts ahead -/
theorem zeros_val (b : Nat) : ∀ k, valB b 0 (List.replicate k 48) = 0
  | 0 => rfl
  | k + 1 => by
    have h48 : digV 48 = 0 := by decide
    rw [List.replicate_succ]
    have := zeros_val b k
    unfold valB at *
    simp only [List.foldl_cons, h48, Nat.zero_mul, Nat.add_zero]
    exact this
theorem grown_size {b : Nat} (hb : 2 ≤ b) (hb36 : b ≤ 36) (u d : Nat) (hd : d < b) (hu : u * b + d < 18446744073709551616) : sizeB b (digitsU b u ++ digitsU b d) = (u * b + d, true) := by
  have hv : valB b 0 (digitsU b u ++ digitsU b d) = u * b + d := by
    rw [valB_append, digits_val hb hb36 u 0, digits_val hb hb36 d, digitsU_small hd]
    simp
  rw [sizeB_eq hb _ (by simp [digitsU_ne]) (fun c hc => ?_) (by omega), hv]
  rcases List.mem_append.1 hc with hc | hc
  · exact (digits_lt36 hb hb36 _ c hc).1
  · exact (digits_lt36 hb hb36 _ c hc).1
theorem zeros_size {b : Nat} (hb : 2 ≤ b) (hb36 : b ≤ 36) (k u : Nat) (hu : u < 18446744073709551616) : sizeB b (List.replicate k 48 ++ digitsU b u) = (u, true) := by
  have h := digits_val hb hb36 u 0
  simp only [Nat.zero_mul, Nat.zero_add] at h
  have hv : valB b 0 (List.replicate k 48 ++ digitsU b u) = u := by rw [valB_append, zeros_val, h]
  rw [sizeB_eq hb _ (by simp [digitsU_ne]) (fun c hc => ?_) (by omega), hv]
  rcases List.mem_append.1 hc with hc | hc
  · have : c = 48 := (List.mem_replicate.1 hc).2
    subst this
    have : digV 48 = 0 := by decide
    omega
  · exact (digits_lt36 hb hb36 _ c hc).1
theorem NoMark.append {l m : List UInt8} (h : NoMark l) (k : NoMark m) : NoMark (l ++ m) := fun c hc => by
  rcases List.mem_append.1 hc with hc | hc
  · exact h c hc
  · exact k c hc
theorem NoMark.digits {b : Nat} (hb : 2 ≤ b) (hb36 : b ≤ 36) (u : Nat) : NoMark (digitsU b u) := fun c hc => (digits_lt36 hb hb36 _ c hc).2
theorem NoMark.zeros (k : Nat) : NoMark (List.replicate k 48) := fun c hc => by
  have : c = 48 := (List.mem_replicate.1 hc).2
  subst this
  decide

/-! ### small and capital letters -/
def swapC (c : UInt8) : UInt8 := if 97 ≤ c.toNat ∧ c.toNat ≤ 122 then c - 32 else if 65 ≤ c.toNat ∧ c.toNat ≤ 90 then c + 32 else c
theorem swapC_nat (c : UInt8) : (swapC c).toNat = if 97 ≤ c.toNat ∧ c.toNat ≤ 122 then c.toNat - 32 else if 65 ≤ c.toNat ∧ c.toNat ≤ 90 then c.toNat + 32 else c.toNat := by
  have := c.toNat_lt
  unfold swapC
  split
  · rename_i h
    rw [UInt8.toNat_sub_of_le _ _ (by rw [UInt8.le_iff_toNat_le]; simp; omega)]
    simp
  · split
    · rename_i h1 h2
      rw [UInt8.toNat_add]
      simp
      omega
    · rfl
theorem digV_swap (c : UInt8) : digV (swapC c) = digV c := by
  have h := swapC_nat c
  unfold digV
  rw [h]
  by_cases h1 : 97 ≤ c.toNat ∧ c.toNat ≤ 122
  · simp only [h1, and_self, if_true]
    repeat' split
    all_goals omega
  · rw [if_neg h1]
    by_cases h2 : 65 ≤ c.toNat ∧ c.toNat ≤ 90
    · simp only [h2, and_self, if_true]
      repeat' split
      all_goals omega
    · rw [if_neg h2]
theorem sizeN_swap (b : Nat) : ∀ (l : List UInt8) (n : Nat), sizeN b n (l.map swapC) = sizeN b n l
  | [], n => rfl
  | c :: l, n => by simp only [List.map_cons, sizeN, digV_swap, sizeN_swap b l]
theorem sizeB_swap (b : Nat) (l : List UInt8) : sizeB b (l.map swapC) = sizeB b l := by
  unfold sizeB
  rw [sizeN_swap]
  cases l <;> rfl
theorem head_swap (l : List UInt8) (x : UInt8) (hx : x.toNat < 65) : ((l.map swapC).head? = some x) = (l.head? = some x) := by
  cases l with
  | nil => rfl
  | cons c l =>
    simp only [List.map_cons, List.head?_cons, Option.some.injEq, eq_iff_iff]
    have h := swapC_nat c
    constructor
    · rintro rfl
      apply UInt8.toNat_inj.1
      split at h
      · omega
      · split at h <;> omega
    · rintro rfl
      apply UInt8.toNat_inj.1
      rw [h]
      repeat' split
      all_goals omega
theorem bodyN_swap (b : Nat) (l : List UInt8) : bodyN b (l.map swapC) = bodyN b l := by
  unfold bodyN
  simp only [head_swap l 45 (by decide), ← List.map_tail, sizeB_swap]
theorem swap39 (c : UInt8) : (swapC c == 39) = (c == 39) := by
  have h := swapC_nat c
  rw [Bool.eq_iff_iff]
  simp only [beq_iff_eq]
  constructor
  · intro e
    rw [e] at h
    apply UInt8.toNat_inj.1
    revert h
    have : (39 : UInt8).toNat = 39 := by decide
    rw [this]
    intro h
    split at h
    · omega
    · split at h <;> omega
  · rintro rfl
    decide
theorem quoted_swap (l : List UInt8) : quotedB (l.map swapC) = quotedB l := by
  unfold quotedB
  match l with
  | [] => rfl
  | [a] => rfl
  | [a, b] => rfl
  | [a, b, c] => simp [swap39]
  | a :: b :: c :: d :: l => simp
theorem parse_swap (l : List UInt8) (b : Int) : (parseN (l.map swapC) b).2 = (parseN l b).2 ∧ ((parseN (l.map swapC) b).1 = (parseN l b).1 ∨ quotedB l = true) := by
  unfold parseN
  simp only [quoted_swap, head_swap l 36 (by decide), head_swap l 37 (by decide), head_swap l 35 (by decide), ← List.map_tail, bodyN_swap]
  by_cases h1 : b < 2 ∨ 36 < b
  · simp [h1]
  · rw [if_neg h1, if_neg h1]
    cases h : quotedB l
    · simp
    · simp
end Go.Proofs.YthejfkkmcbdlhaaGreatDoor
/- Chapter 5: the document's Base, Unsigned, Print. Conditions: a base from 2 to 36 where digits are asked for. -/
namespace Go.Proofs.YthejfkkmcbdlhaaGreatDoor
set_option linter.unusedVariables false
open Go.RowKit Go.Lib

theorem rbase_walk (n : Int) (w : World) : Calls Tryz.prog 108 #[.int .i64 n] w (Same (.bool (decide (2 ≤ n) && decide (n ≤ 36))) w) := by
  rcases Int.lt_or_le n 2 with h | h
  · have e : (decide (2 ≤ n) && decide (n ≤ 36)) = false := by simp; omega
    rw [e]
    go_enter Tryz.func108, Tryz.ntmps108
    go_wp2
    all_goals go_ret
    all_goals exact ⟨rfl, rfl⟩
  · rcases Int.lt_or_le 36 n with h2 | h2
    · have e : (decide (2 ≤ n) && decide (n ≤ 36)) = false := by simp; omega
      have e2 : decide (n ≤ 36) = false := by simp; omega
      rw [e]
      go_enter Tryz.func108, Tryz.ntmps108
      go_wp2
      all_goals go_ret
      all_goals exact ⟨rfl, rfl⟩
    · have e : (decide (2 ≤ n) && decide (n ≤ 36)) = true := by simp; omega
      rw [e]
      go_enter Tryz.func108, Tryz.ntmps108
      go_wp2
      all_goals go_ret
      all_goals exact ⟨rfl, rfl⟩
theorem digC_at : ∀ k : Fin 36, (⟨#[48, 49, 50, 51, 52, 53, 54, 55, 56, 57, 65, 66, 67, 68, 69, 70, 71, 72, 73, 74, 75, 76, 77, 78, 79, 80, 81, 82, 83, 84, 85, 86, 87, 88, 89, 90]⟩ : ByteArray).extract k.val (k.val + 1) = ⟨#[digC k.val]⟩ := by decide +kernel
/-- what holds at a round's head of the document's loop: k is left, l is written -/
def DigRel (b u0 : Nat) (R : List UInt8) (k : Nat) (l : List UInt8) : Prop := (l = [] ∧ k = u0) ∨ (l ≠ [] ∧ ((k = 0 ∧ l = R) ∨ (0 < k ∧ digitsU b k ++ l = R)))
def emptyW : Value → Nat
  | .string s => if s.size = 0 then 1 else 0
  | _ => 0
theorem emptyW_some (c : UInt8) (s : ByteArray) : emptyW (.string ((⟨#[c]⟩ : ByteArray) ++ s)) = 0 := by
  unfold emptyW
  have h : ((⟨#[c]⟩ : ByteArray) ++ s).size = 1 + s.size := by rw [ByteArray.size_append]; rfl
  simp only [h]
  rw [if_neg (by omega)]
theorem emptyW_none : emptyW (.string ⟨#[]⟩) = 1 := rfl
theorem DigRel.cases {b u0 : Nat} {R : List UInt8} {k : Nat} {l : List UInt8} (h : DigRel b u0 R k l) (hR : digitsU b u0 = R) : (l ≠ [] ∧ k = 0 ∧ l = R) ∨ ((l = [] ∨ 0 < k) ∧ digitsU b k ++ l = R) := by
  rcases h with ⟨rfl, rfl⟩ | ⟨h1, ⟨rfl, rfl⟩ | ⟨h2, h3⟩⟩
  · exact .inr ⟨.inl rfl, by simpa using hR⟩
  · exact .inl ⟨h1, rfl, rfl⟩
  · exact .inr ⟨.inr h2, h3⟩
theorem DigRel.next {b u0 : Nat} (hb : 2 ≤ b) {R : List UInt8} {k : Nat} {l : List UInt8} (h : digitsU b k ++ l = R) : DigRel b u0 R (k / b) (digC (k % b) :: l) := by
  obtain ⟨h1, h2⟩ := digits_step hb l R h
  refine .inr ⟨by simp, ?_⟩
  rcases Nat.eq_zero_or_pos (k / b) with h0 | h0
  · exact .inl ⟨h0, h1 h0⟩
  · exact .inr ⟨h0, h2 h0⟩
--@if f{proctorref5.Unsigned}
end Go.Proofs.YthejfkkmcbdlhaaGreatDoor
/- Chapter 5: digits, and what they say, on both sides. Conditions: as written. -/
namespace Go.Proofs.YthejfkkmcbdlhaaGreatDoor
set_option linter.unusedVariables false
open Go.RowKit Go.Lib

/-- what a rune says as a digit -/
def digR (r : Int) : Int := if 48 ≤ r ∧ r ≤ 57 then r - 48 else if 97 ≤ r ∧ r ≤ 122 then r - 87 else if 65 ≤ r ∧ r ≤ 90 then r - 55 else 36
theorem digR_byte (c : UInt8) : digR c.toNat = digV c := by
  unfold digR digV
  repeat' split
  all_goals omega
theorem digR_big (r : Int) (h : 128 ≤ r) : digR r = 36 := by
  unfold digR
  rw [if_neg (by omega), if_neg (by omega), if_neg (by omega)]
theorem digV_big (c : UInt8) (h : 128 ≤ c.toNat) : digV c = 36 := by
  unfold digV
  rw [if_neg (by omega), if_neg (by omega), if_neg (by omega)]
theorem digR_range (r : Int) : 0 ≤ digR r ∧ digR r ≤ 36 := by
  unfold digR
  repeat' split
  all_goals omega
set_option maxHeartbeats 1000000 in
theorem digit_walk (r : Int) (h0 : 0 ≤ r) (h1 : r ≤ 2147483647) (w : World) : Calls Tryz.prog 150 #[.int .i32 r] w (Same (.int .u64 (digR r)) w) := by
  have hd : (48 ≤ r ∧ r ≤ 57) ∨ (97 ≤ r ∧ r ≤ 122) ∨ (65 ≤ r ∧ r ≤ 90) ∨ (r < 48 ∨ (57 < r ∧ r < 65) ∨ (90 < r ∧ r < 97) ∨ 122 < r) := by omega
  rcases hd with h | h | h | h | h | h | h
  all_goals
    have e : digR r = (if 48 ≤ r ∧ r ≤ 57 then r - 48 else if 97 ≤ r ∧ r ≤ 122 then r - 87 else if 65 ≤ r ∧ r ≤ 90 then r - 55 else 36) := rfl
  · rw [if_pos h] at e
    obtain ⟨q1, q2⟩ := h
    rw [e]; clear e
    go_enter Tryz.func150, Tryz.ntmps150
    go_wp2
    all_goals go_ret
    all_goals exact ⟨rfl, rfl⟩
  · rw [if_neg (by omega), if_pos h] at e
    obtain ⟨q1, q2⟩ := h
    rw [e]; clear e
    have t1 : decide (r ≤ 57) = false := by simp; omega
    have hs : r - 32 - 65 + 10 = r - 87 := by omega
    go_enter Tryz.func150, Tryz.ntmps150
    go_wp2
    all_goals go_ret
    all_goals first | exact ⟨rfl, rfl⟩ | exact ⟨by rw [← hs]; rfl, rfl⟩
  · rw [if_neg (by omega), if_neg (by omega), if_pos h] at e
    obtain ⟨q1, q2⟩ := h
    rw [e]; clear e
    have t1 : decide (r ≤ 57) = false := by simp; omega
    have t2 : decide (97 ≤ r) = false := by simp; omega
    have hs : r - 65 + 10 = r - 55 := by omega
    go_enter Tryz.func150, Tryz.ntmps150
    go_wp2
    all_goals go_ret
    all_goals first | exact ⟨rfl, rfl⟩ | exact ⟨by rw [← hs]; rfl, rfl⟩
  all_goals
    rw [if_neg (by omega), if_neg (by omega), if_neg (by omega)] at e
    rw [e]; clear e
    first | obtain ⟨q1, q2⟩ := h | skip
    go_enter Tryz.func150, Tryz.ntmps150
    go_wp2
    all_goals first | (go_ret; exact ⟨rfl, rfl⟩) | (exfalso; simp at *; omega)
set_option maxHeartbeats 1000000 in
theorem rdigit_walk (c : UInt8) (w : World) : Calls Tryz.prog 137 #[.int .u8 (c.toNat : Int)] w (Same (.int .i64 (digV c : Nat)) w) := by
  rw [← digR_byte]
  have h1 : (c.toNat : Int) < 256 := by have := c.toNat_lt; omega
  have h0 : 0 ≤ (c.toNat : Int) := by omega
  generalize (c.toNat : Int) = r at *
  have hd : (48 ≤ r ∧ r ≤ 57) ∨ (97 ≤ r ∧ r ≤ 122) ∨ (65 ≤ r ∧ r ≤ 90) ∨ (r < 48 ∨ (57 < r ∧ r < 65) ∨ (90 < r ∧ r < 97) ∨ 122 < r) := by omega
  rcases hd with h | h | h | h | h | h | h
  all_goals
    have e : digR r = (if 48 ≤ r ∧ r ≤ 57 then r - 48 else if 97 ≤ r ∧ r ≤ 122 then r - 87 else if 65 ≤ r ∧ r ≤ 90 then r - 55 else 36) := rfl
  · rw [if_pos h] at e
    obtain ⟨q1, q2⟩ := h
    rw [e]; clear e
    go_enter Tryz.func137, Tryz.ntmps137
    go_wp2
    all_goals first | (go_ret; exact ⟨rfl, rfl⟩) | (exfalso; simp at *; omega)
  · rw [if_neg (by omega), if_pos h] at e
    obtain ⟨q1, q2⟩ := h
    rw [e]; clear e
    have t1 : decide (r ≤ 57) = false := by simp; omega
    have t2 : decide (r ≤ 90) = false := by simp; omega
    have hs : r - 97 + 10 = r - 87 := by omega
    go_enter Tryz.func137, Tryz.ntmps137
    go_wp2
    all_goals go_ret
    all_goals first | exact ⟨rfl, rfl⟩ | exact ⟨by rw [← hs]; rfl, rfl⟩
  · rw [if_neg (by omega), if_neg (by omega), if_pos h] at e
    obtain ⟨q1, q2⟩ := h
    rw [e]; clear e
    have t1 : decide (r ≤ 57) = false := by simp; omega
    have hs : r - 65 + 10 = r - 55 := by omega
    go_enter Tryz.func137, Tryz.ntmps137
    go_wp2
    all_goals go_ret
    all_goals first | exact ⟨rfl, rfl⟩ | exact ⟨by rw [← hs]; rfl, rfl⟩
  all_goals
    rw [if_neg (by omega), if_neg (by omega), if_neg (by omega)] at e
    rw [e]; clear e
    first | obtain ⟨q1, q2⟩ := h | skip
    go_enter Tryz.func137, Tryz.ntmps137
    go_wp2
    all_goals first | (go_ret; exact ⟨rfl, rfl⟩) | (exfalso; simp at *; omega)
/-! ### sizes -/
theorem sizeN_none {b : Nat} {n : Nat} {c : UInt8} {l : List UInt8} (h : b ≤ digV c ∨ (18446744073709551615 - digV c) / b < n) : sizeN b n (c :: l) = none := by rw [sizeN, if_pos h]
theorem sizeN_next {b : Nat} {n : Nat} {c : UInt8} {l : List UInt8} (h : ¬ b ≤ digV c) (h2 : ¬ (18446744073709551615 - digV c) / b < n) : sizeN b n (c :: l) = sizeN b (n * b + digV c) l := by rw [sizeN, if_neg (by omega)]
/-- the bound's quotient, behind a name -/
def topQ (b d : Nat) : Nat := (18446744073709551615 - d) / b
theorem topQ_int (b d : Nat) (hd : d ≤ 36) : ((18446744073709551615 : Int) - (d : Int)) / (b : Int) = ((topQ b d : Nat) : Int) := by
  unfold topQ
  have : ((18446744073709551615 : Int) - (d : Int)) = (((18446744073709551615 - d : Nat)) : Int) := by omega
  rw [this]
  simp
theorem topQ_ok {b d n : Nat} (hb : 2 ≤ b) (h : ¬ topQ b d < n) (hd : d ≤ 36) : n * b + d ≤ 18446744073709551615 := by
  unfold topQ at h
  rw [Nat.div_lt_iff_lt_mul (by omega)] at h
  omega
def SizeRel (b : Nat) (l : List UInt8) (j n : Nat) : Prop := sizeN b 0 l = sizeN b n (l.drop j)
theorem sizeB_of_none {b : Nat} {l : List UInt8} (h : sizeN b 0 l = none) : sizeB b l = (0, false) := by unfold sizeB; rw [h]
theorem sizeB_of_some {b : Nat} {l : List UInt8} {n : Nat} (h : sizeN b 0 l = some n) : sizeB b l = (n, !l.isEmpty) := by unfold sizeB; rw [h]
theorem drop_cons (l : List UInt8) (j : Nat) (h : j < l.length) : l.drop j = l.getD j 0 :: l.drop (j + 1) := by
  rw [List.drop_eq_getElem_cons h]
  simp [List.getD, h]
set_option maxRecDepth 100000 in
set_option maxHeartbeats 2000000 in
theorem rsize_walk (s : ByteArray) (hs : s.size ≤ 9223372036854775807) (b : Nat) (h2 : 2 ≤ b) (h36 : b ≤ 36) (w : World) :
    Calls Tryz.prog 109 #[.string s, .int .i64 (b : Int)] w (Same (.tuple #[.int .u64 ((sizeB b s.data.toList).1 : Nat), .bool (sizeB b s.data.toList).2]) w) := by
  have hl : s.data.toList.length = s.size := by rw [Array.length_toList]; rfl
  replace hl := Lib.hid hl
  go_enter Tryz.func109, Tryz.ntmps109
  go_wp2
  go_loopw [6, 8] (fun u i wr => ∃ j n : Nat, j ≤ s.size ∧ i = .int .i64 j ∧ u = .int .u64 n ∧ n ≤ 18446744073709551615 ∧ SizeRel b s.data.toList j n ∧ wr = w) (fun _ i _ => s.size - (RowKit.intOf i).toNat)
  case atStart => exact ⟨0, 0, by omega, rfl, rfl, by omega, rfl, rfl⟩
  case round =>
    obtain ⟨j, n, hj, rfl, rfl, hn, hR, rfl⟩ := hrel
    by_cases hlt : j < s.size
    · have hix := fun w => idx_str s j hlt w
      unfold SizeRel at hR
      rw [drop_cons _ _ (by rw [hl.out]; exact hlt)] at hR
      generalize s.data.toList.getD j 0 = c at *
      have hdw := fun w => rdigit_walk c w
      have hdl := digV_le c
      have hq := topQ_int b (digV c) hdl
      have e1 := fun h => sizeN_none (b := b) (n := n) (c := c) (l := s.data.toList.drop (j + 1)) h
      have e2 := fun h h2 => sizeN_next (b := b) (n := n) (c := c) (l := s.data.toList.drop (j + 1)) h h2
      have hok := fun h => topQ_ok (b := b) (d := digV c) (n := n) h2 h hdl
      have hqd : (18446744073709551615 - digV c) / b = topQ b (digV c) := rfl
      rw [hqd] at e1 e2
      generalize topQ b (digV c) = q at *
      generalize digV c = d at *
      replace hdw := Lib.hid hdw
      replace hok := Lib.hid hok
      clear hqd
      replace hR := Lib.hid hR
      by_cases hd : b ≤ d
      · have hdb : decide ((b : Int) ≤ (d : Int)) = true := by simp; omega
        have hdb' : decide (b ≤ d) = true := by simp; omega
        have hfin := sizeB_of_none (hR.out.trans (e1 (.inl hd)))
        rw [hfin]
        clear hfin e1 e2 hq
        go_wp2_with (go_at_call 137; refine (hdw.out _).mono ?_; rintro e w3 ⟨rfl, rfl⟩)
        go_ret2
        exact ⟨rfl, rfl⟩
      · have hdb : decide ((b : Int) ≤ (d : Int)) = false := by simp; omega
        have hdb' : decide (b ≤ d) = false := by simp; omega
        by_cases ht : q < n
        · have hfin := sizeB_of_none (hR.out.trans (e1 (.inr ht)))
          rw [hfin]
          have htb : decide ((q : Int) < (n : Int)) = true := by simp; omega
          have htb' : decide (q < n) = true := by simp; omega
          clear hfin e1 e2
          go_wp2_with (go_at_call 137; refine (hdw.out _).mono ?_; rintro e w3 ⟨rfl, rfl⟩)
          go_ret2
          exact ⟨rfl, rfl⟩
        · have hnx : SizeRel b s.data.toList (j + 1) (n * b + d) := hR.out.trans (e2 hd ht)
          have hb := hok.out ht
          have htb : decide ((q : Int) < (n : Int)) = false := by simp; omega
          have htb' : decide (q < n) = false := by simp; omega
          clear e1 e2
          replace hnx := Lib.hid hnx
          go_wp2_with (go_at_call 137; refine (hdw.out _).mono ?_; rintro e w3 ⟨rfl, rfl⟩)
          go_roundw
          case rel => exact ⟨j + 1, n * b + d, by omega, by go_num, by go_num, hb, hnx.out, trivial⟩
          case measure => simp [RowKit.intOf]; omega
    · have hall : s.data.toList.drop j = [] := List.drop_of_length_le (by rw [hl.out]; omega)
      unfold SizeRel at hR
      rw [hall] at hR
      have hfin := sizeB_of_some hR
      have hem : (!s.data.toList.isEmpty) = decide (0 < s.size) := by
        rw [← hl.out]; cases s.data.toList <;> simp
      rw [hem] at hfin
      replace hfin := Lib.hid hfin
      clear hem hall hR
      go_wp2
      all_goals go_ret2
      all_goals exact ⟨by rw [hfin.out]; simp, rfl⟩
theorem s_iter_kept (w : World) (s : ByteArray) (pos : Nat) : Kept Nob w (w.iter s pos) := (Kept.refl _ _).alloc _
/-- what a call leaves that makes blocks, and turns none -/
def Fresh' (v : Value) (w : World) (e : Ending) (w' : World) : Prop := e = .returned v ∧ Kept Nob w w'
set_option maxRecDepth 100000 in
set_option maxHeartbeats 2000000 in
theorem size_walk (s : ByteArray) (hs : s.size ≤ 9223372036854775807) (b : Nat) (h2 : 2 ≤ b) (h36 : b ≤ 36) (w : World) :
    Calls Tryz.prog 129 #[.string s, .int .u64 (b : Int)] w (Fresh' (.tuple #[.int .u64 ((sizeB b s.data.toList).1 : Nat), .bool (sizeB b s.data.toList).2]) w) := by
  have hl : s.data.toList.length = s.size := by rw [Array.length_toList]; rfl
  replace hl := Lib.hid hl
  go_enter Tryz.func129, Tryz.ntmps129
  go_wp2
  go_loopw [6] (fun u wr => ∃ j n : Nat, wr = w.iter s j ∧ u = .int .u64 n ∧ n ≤ 18446744073709551615 ∧ SizeRel b s.data.toList j n) (fun _ wr => s.size - wr.iterPos w.heap.size)
  case atStart => exact ⟨0, 0, rfl, rfl, by omega, rfl⟩
  case round =>
    obtain ⟨j, n, rfl, rfl, hn, hR⟩ := hrel
    by_cases hlt : j < s.size
    · have hnx : ∀ ty, (Instr.next (.pointer (some ⟨w.heap.size, 0, none⟩)) true ty).run Tryz.prog (w.iter s j) = _ := fun ty => run_next_any w s j ty hlt
      unfold SizeRel at hR
      rw [drop_cons _ _ (by rw [hl.out]; exact hlt)] at hR
      have hcj : s.data.toList.getD j 0 = s[j]'hlt := by
        have h3 : j < s.data.size := hlt
        rw [List.getD_eq_getElem?_getD, Array.getElem?_toList, Array.getElem?_eq_getElem h3]
        rfl
      have hrune : ((s[j]'hlt).toNat < 128 ∧ Utf8.decode s j = ((s[j]'hlt).toNat, 1)) ∨ (128 ≤ (s[j]'hlt).toNat ∧ 128 ≤ (Utf8.decode s j).1) := by
        by_cases hh : (s[j]'hlt).toNat < 128
        · exact .inl ⟨hh, decode_ascii s j hlt hh⟩
        · exact .inr ⟨by omega, (decode_high s j hlt (by omega)).1⟩
      have hmax := decode_le s j
      rw [hcj] at hR
      generalize s[j]'hlt = c at *
      generalize Utf8.decode s j = rk at *
      obtain ⟨r, k⟩ := rk
      clear hcj
      have hdw := fun w => digit_walk (r : Int) (by omega) (by simp only at hmax; omega) w
      have e1 := fun h => sizeN_none (b := b) (n := n) (c := c) (l := s.data.toList.drop (j + 1)) h
      simp only at hrune hmax hnx
      rcases hrune with ⟨hlo, hrk⟩ | ⟨hhi, hr⟩
      · injection hrk with hr hk
        subst hr
        subst hk
        rw [digR_byte] at hdw
        have hdl := digV_le c
        have hq := topQ_int b (digV c) hdl
        have e2 := fun h h2 => sizeN_next (b := b) (n := n) (c := c) (l := s.data.toList.drop (j + 1)) h h2
        have hok := fun h => topQ_ok (b := b) (d := digV c) (n := n) h2 h hdl
        have hqd : (18446744073709551615 - digV c) / b = topQ b (digV c) := rfl
        rw [hqd] at e1 e2
        generalize topQ b (digV c) = q at *
        generalize digV c = d at *
        replace hdw := Lib.hid hdw
        replace hok := Lib.hid hok
        clear hqd hmax
        replace hR := Lib.hid hR
        by_cases hd : b ≤ d
        · have hdb : decide ((b : Int) ≤ (d : Int)) = true := by simp; omega
          have hdb' : decide (b ≤ d) = true := by simp; omega
          have hfin := Lib.hid (sizeB_of_none (hR.out.trans (e1 (.inl hd))))
          clear e1 e2 hq
          go_wp2_with (go_at_call 150; refine (hdw.out _).mono ?_; rintro e w3 ⟨rfl, rfl⟩)
          go_ret2
          exact ⟨by rw [hfin.out]; rfl, s_iter_kept _ _ _⟩
        · have hdb : decide ((b : Int) ≤ (d : Int)) = false := by simp; omega
          have hdb' : decide (b ≤ d) = false := by simp; omega
          by_cases ht : q < n
          · have hfin := Lib.hid (sizeB_of_none (hR.out.trans (e1 (.inr ht))))
            have htb : decide ((q : Int) < (n : Int)) = true := by simp; omega
            have htb' : decide (q < n) = true := by simp; omega
            clear e1 e2
            go_wp2_with (go_at_call 150; refine (hdw.out _).mono ?_; rintro e w3 ⟨rfl, rfl⟩)
            go_ret2
            exact ⟨by rw [hfin.out]; rfl, s_iter_kept _ _ _⟩
          · have hnx2 : SizeRel b s.data.toList (j + 1) (n * b + d) := hR.out.trans (e2 hd ht)
            have hb := hok.out ht
            have htb : decide ((q : Int) < (n : Int)) = false := by simp; omega
            have htb' : decide (q < n) = false := by simp; omega
            clear e1 e2
            replace hnx2 := Lib.hid hnx2
            go_wp2_with (go_at_call 150; refine (hdw.out _).mono ?_; rintro e w3 ⟨rfl, rfl⟩)
            go_roundw
            case rel => exact ⟨j + 1, n * b + d, rfl, by go_num, hb, hnx2.out⟩
            case measure => simp; omega
      · rw [digR_big _ (by omega)] at hdw
        have hv := digV_big c hhi
        have hfin := Lib.hid (sizeB_of_none (hR.trans (e1 (.inl (by omega)))))
        have hdb : decide ((b : Int) ≤ 36) = true := by simp; omega
        replace hdw := Lib.hid hdw
        clear e1 hv hR
        go_wp2_with (go_at_call 150; refine (hdw.out _).mono ?_; rintro e w3 ⟨rfl, rfl⟩)
        go_ret2
        exact ⟨by rw [hfin.out]; rfl, s_iter_kept _ _ _⟩
    · have hnx : ∀ ty, (Instr.next (.pointer (some ⟨w.heap.size, 0, none⟩)) true ty).run Tryz.prog (w.iter s j) = _ := fun ty => run_next_end w s j ty hlt
      have hall : s.data.toList.drop j = [] := List.drop_of_length_le (by rw [hl.out]; omega)
      unfold SizeRel at hR
      rw [hall] at hR
      have hfin := sizeB_of_some hR
      have hem : (!s.data.toList.isEmpty) = !s.toList.isEmpty := by rw [show s.toList = s.data.toList from ByteArray.toList_eq s]
      rw [hem] at hfin
      replace hfin := Lib.hid hfin
      clear hem hall hR
      go_wp2
      all_goals go_ret2
      all_goals exact ⟨by rw [hfin.out]; rfl, s_iter_kept _ _ _⟩
end Go.Proofs.YthejfkkmcbdlhaaGreatDoor
