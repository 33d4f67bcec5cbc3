/- Chapter 5: the document's Base, Unsigned, Print. Conditions: a base from 2 to 36 where digits are asked for. -/
import Derived.Test.YtanpbphgmnjdeaaDoorNumSpec
import Derived.Test.YtanpbphgmnjdeaaDoorSame
import Derived.Laws.Bits64
namespace Go.Proofs.YtanpbphgmnjdeaaDoor
set_option linter.unusedVariables false
open Go.RowKit Go.Lib

theorem rbase_walk (n : Int) (w : World) : Calls Tryd.prog 38 #[.int .i64 n] w (Same (.bool (decide (2 ≤ n) && decide (n ≤ 36))) w) := by
  rcases Int.lt_or_le n 2 with h | h
  · have e : (decide (2 ≤ n) && decide (n ≤ 36)) = false := by simp; omega
    rw [e]
    go_enter Tryd.func38, Tryd.ntmps38
    go_wp2
    all_goals go_ret
    all_goals exact ⟨rfl, rfl⟩
  · rcases Int.lt_or_le 36 n with h2 | h2
    · have e : (decide (2 ≤ n) && decide (n ≤ 36)) = false := by simp; omega
      have e2 : decide (n ≤ 36) = false := by simp; omega
      rw [e]
      go_enter Tryd.func38, Tryd.ntmps38
      go_wp2
      all_goals go_ret
      all_goals exact ⟨rfl, rfl⟩
    · have e : (decide (2 ≤ n) && decide (n ≤ 36)) = true := by simp; omega
      rw [e]
      go_enter Tryd.func38, Tryd.ntmps38
      go_wp2
      all_goals go_ret
      all_goals exact ⟨rfl, rfl⟩
theorem digC_at : ∀ k : Fin 36, (⟨#[48, 49, 50, 51, 52, 53, 54, 55, 56, 57, 65, 66, 67, 68, 69, 70, 71, 72, 73, 74, 75, 76, 77, 78, 79, 80, 81, 82, 83, 84, 85, 86, 87, 88, 89, 90]⟩ : ByteArray).extract k.val (k.val + 1) = ⟨#[digC k.val]⟩ := by decide +kernel
/-- what holds at a round's head of the document's loop: k is left, l is written -/
def DigRel (b u0 : Nat) (R : List UInt8) (k : Nat) (l : List UInt8) : Prop := (l = [] ∧ k = u0) ∨ (l ≠ [] ∧ ((k = 0 ∧ l = R) ∨ (0 < k ∧ digitsU b k ++ l = R)))
def emptyW : Value → Nat
  | .string s => if s.size = 0 then 1 else 0
  | _ => 0
theorem emptyW_some (c : UInt8) (s : ByteArray) : emptyW (.string ((⟨#[c]⟩ : ByteArray) ++ s)) = 0 := by
  unfold emptyW
  have h : ((⟨#[c]⟩ : ByteArray) ++ s).size = 1 + s.size := by rw [ByteArray.size_append]; rfl
  simp only [h]
  rw [if_neg (by omega)]
theorem emptyW_none : emptyW (.string ⟨#[]⟩) = 1 := rfl
theorem DigRel.cases {b u0 : Nat} {R : List UInt8} {k : Nat} {l : List UInt8} (h : DigRel b u0 R k l) (hR : digitsU b u0 = R) : (l ≠ [] ∧ k = 0 ∧ l = R) ∨ ((l = [] ∨ 0 < k) ∧ digitsU b k ++ l = R) := by
  rcases h with ⟨rfl, rfl⟩ | ⟨h1, ⟨rfl, rfl⟩ | ⟨h2, h3⟩⟩
  · exact .inr ⟨.inl rfl, by simpa using hR⟩
  · exact .inl ⟨h1, rfl, rfl⟩
  · exact .inr ⟨.inr h2, h3⟩
theorem DigRel.next {b u0 : Nat} (hb : 2 ≤ b) {R : List UInt8} {k : Nat} {l : List UInt8} (h : digitsU b k ++ l = R) : DigRel b u0 R (k / b) (digC (k % b) :: l) := by
  obtain ⟨h1, h2⟩ := digits_step hb l R h
  refine .inr ⟨by simp, ?_⟩
  rcases Nat.eq_zero_or_pos (k / b) with h0 | h0
  · exact .inl ⟨h0, h1 h0⟩
  · exact .inr ⟨h0, h2 h0⟩
set_option maxRecDepth 100000 in
set_option maxHeartbeats 1000000 in
theorem unsigned_ref (n : Int) (b : Nat) (h2 : 2 ≤ b) (h36 : b ≤ 36) (w : World) : Calls Tryd.prog 42 #[.int .i64 n, .int .i64 (b : Int)] w (Same (.string ⟨(unsignedB n b).toArray⟩) w) := by
  have hb := rbase_walk b w
  have e : (decide (2 ≤ (b : Int)) && decide ((b : Int) ≤ 36)) = true := by simp; omega
  rw [e] at hb
  replace hb := Lib.hid hb
  have hu64 : unsig n < 18446744073709551616 := by unfold unsig; omega
  have hun : IntKind.u64.wrap n = ((unsig n : Nat) : Int) := by rw [IntKind.wrap_u64]; unfold unsig; omega
  have hdef : unsignedB n b = digitsU b (unsig n) := rfl
  rw [hdef]
  clear hdef e
  generalize unsig n = u0 at *
  obtain ⟨R, hR⟩ : ∃ R, digitsU b u0 = R := ⟨_, rfl⟩
  rw [hR]
  replace hR := Lib.hid hR
  go_enter Tryd.func42, Tryd.ntmps42
  go_wp2_with fail
  refine hb.out.mono ?_
  rintro e w1 ⟨rfl, rfl⟩
  go_wp2
  go_loop [6, 7] (fun u t => ∃ (k : Nat) (l : List UInt8), k ≤ u0 ∧ u = .int .u64 (k : Int) ∧ t = .string ⟨l.toArray⟩ ∧ DigRel b u0 R k l) (fun u t => 2 * (RowKit.intOf u).toNat + emptyW t)
  case atStart => exact ⟨u0, [], Nat.le_refl _, by first | rfl | rw [hun], rfl, .inl ⟨rfl, rfl⟩⟩
  case round =>
    obtain ⟨k, l, hk, rfl, rfl, hD⟩ := hrel
    have hk64 : k < 18446744073709551616 := by omega
    rcases hD.cases hR.out with ⟨hl, hk0, hlR⟩ | ⟨hgo, hD2⟩
    · have hne : (l == []) = false := by simpa using hl
      subst hk0
      replace hlR := Lib.hid hlR
      go_wp2
      go_ret
      exact ⟨by rw [← hlR.out]; rfl, rfl⟩
    · have hnx := Lib.hid (DigRel.next (u0 := u0) h2 hD2)
      have hlen : l.length ≤ 64 := by
        have h64 := digitsU_64 h2 hu64
        rw [hR.out, ← hD2, List.length_append] at h64
        omega
      have hle := Nat.div_le_self k b
      have hql : k % b < b := Nat.mod_lt _ (by omega)
      have hq : (k : Int) % (b : Int) = ((k % b : Nat) : Int) := by simp
      have hd : (k : Int) / (b : Int) = ((k / b : Nat) : Int) := by simp
      have hex := digC_at ⟨k % b, by omega⟩
      simp only at hex
      have hdlt : 0 < k → k / b < k := fun h => Nat.div_lt_self h (by omega)
      generalize k % b = q at *
      generalize k / b = k' at *
      generalize digC q = ch at *
      replace hdlt := Lib.hid hdlt
      clear hD hD2
      cases l with
      | nil =>
        go_wp2
        go_round
        case rel => exact ⟨k', _, by omega, rfl, rfl, hnx.out⟩
        case measure => rw [emptyW_some, emptyW_none]; simp [RowKit.intOf]; omega
      | cons c l =>
        have hk0 : 0 < k := by rcases hgo with h | h; cases h; exact h
        have hk1 : decide (0 < (k : Int)) = true := by simp; omega
        have hl2 : l.length ≤ 63 := by simpa using hlen
        go_wp2
        go_round
        case rel => exact ⟨k', _, by omega, rfl, rfl, hnx.out⟩
        case measure => have := hdlt.out hk0; rw [emptyW_some]; simp [RowKit.intOf]; omega
theorem print_ref (n : Int) (hn : -9223372036854775808 ≤ n ∧ n ≤ 9223372036854775807) (b : Nat) (h2 : 2 ≤ b) (h36 : b ≤ 36) (w : World) : Calls Tryd.prog 40 #[.int .i64 n, .int .i64 (b : Int)] w (Same (.string ⟨(printB n b).toArray⟩) w) := by
  have hb := rbase_walk b w
  have e : (decide (2 ≤ (b : Int)) && decide ((b : Int) ≤ 36)) = true := by simp; omega
  rw [e] at hb
  replace hb := Lib.hid hb
  obtain ⟨n1, n2⟩ := hn
  rcases Int.lt_or_le n 0 with h0 | h0
  · have hP : printB n b = 45 :: digitsU b n.natAbs := by unfold printB; rw [if_neg (by omega)]
    have hu := unsigned_ref (wrap64 (-n)) b h2 h36 w
    have hq : unsignedB (wrap64 (-n)) b = digitsU b n.natAbs := by
      unfold unsignedB
      have : unsig (wrap64 (-n)) = n.natAbs := by unfold unsig wrap64; omega
      rw [this]
    have hlen : (digitsU b n.natAbs).length ≤ 64 := digitsU_64 h2 (by omega)
    rw [hq] at hu
    rw [hP]
    generalize digitsU b n.natAbs = R at *
    replace hu := Lib.hid hu
    clear hP hq e
    go_enter Tryd.func40, Tryd.ntmps40
    go_wp2_with fail
    refine hb.out.mono ?_
    rintro e w1 ⟨rfl, rfl⟩
    go_wp2_with fail
    refine hu.out.mono ?_
    rintro e w1 ⟨rfl, rfl⟩
    go_wp2
    go_ret
    exact ⟨rfl, rfl⟩
  · have hP : printB n b = digitsU b n.toNat := by unfold printB; rw [if_pos h0]
    have hu := unsigned_ref n b h2 h36 w
    have hq : unsignedB n b = digitsU b n.toNat := by
      unfold unsignedB
      have : unsig n = n.toNat := by unfold unsig; omega
      rw [this]
    rw [hq, ← hP] at hu
    generalize printB n b = R at *
    replace hu := Lib.hid hu
    clear hP hq e
    go_enter Tryd.func40, Tryd.ntmps40
    go_wp2_with fail
    refine hb.out.mono ?_
    rintro e w1 ⟨rfl, rfl⟩
    go_wp2_with fail
    refine hu.out.mono ?_
    rintro e w1 ⟨rfl, rfl⟩
    go_wp2
    go_ret
    exact ⟨rfl, rfl⟩
end Go.Proofs.YtanpbphgmnjdeaaDoor
