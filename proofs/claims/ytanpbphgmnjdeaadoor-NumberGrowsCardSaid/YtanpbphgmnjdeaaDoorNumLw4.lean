/- Chapter 5's laws, walked: NumberGrows. Conditions: the tables of powers and of trailing zeros lie as their initialisers lay them. -/
import Derived.Test.YtanpbphgmnjdeaaDoorNumLw2
namespace Go.Proofs.YtanpbphgmnjdeaaDoor
set_option linter.unusedVariables false
open Go.RowKit Go.Lib

/-- a raw number, made one from 0 on -/
def flipN (c : Int) : Int := if c < 0 then -(c + 1) else c
theorem flip_cases {c : Int} (hc : i64R c) : (decide (c < 0) = true ∧ -(c + 1) = flipN c) ∨ (decide (c < 0) = false ∧ c = flipN c) := by
  unfold flipN
  by_cases h : c < 0
  · rw [if_pos h]; exact .inl ⟨by simpa using h, rfl⟩
  · rw [if_neg h]; exact .inr ⟨by simpa using h, rfl⟩
theorem flip_in {c : Int} (hc : i64R c) : 0 ≤ flipN c ∧ flipN c ≤ 9223372036854775807 := by
  obtain ⟨h1, h2⟩ := hc
  unfold flipN
  split <;> omega
theorem bytes_app (l m : List UInt8) : (⟨l.toArray⟩ : ByteArray) ++ ⟨m.toArray⟩ = ⟨(l ++ m).toArray⟩ := by apply bytes_ext; simp
theorem parse_grown {K N d : Nat} (hK : 2 ≤ K) (h36 : K ≤ 36) (hd : d < K) (hle : N * K ≤ 4611686018427387904) : parseN (digitsU K N ++ digitsU K d) (K : Int) = ((N : Int) * K + d, true) := by
  have hs := grown_size hK h36 N d hd (by omega)
  rw [parse_plain (by omega) (by omega) ((NoMark.digits hK h36 N).append (NoMark.digits hK h36 d)), Int.toNat_natCast, body_plain ((NoMark.digits hK h36 N).append (NoMark.digits hK h36 d)), hs]
  have e : wrap64 ((N * K + d : Nat) : Int) = (N : Int) * K + d := by rw [wrap64_id (by omega)]; simp
  rw [e]
theorem parse_zeros {K N : Nat} (hK : 2 ≤ K) (h36 : K ≤ 36) (hN : N ≤ 9223372036854775807) (k : Nat) : parseN (List.replicate k 48 ++ digitsU K N) (K : Int) = ((N : Int), true) := by
  have hm := (NoMark.zeros k).append (NoMark.digits hK h36 N)
  rw [parse_plain (by omega) (by omega) hm, Int.toNat_natCast, body_plain hm, zeros_size hK h36 k N (by omega), wrap64_id (by omega)]
theorem parse_minus {K N : Nat} (hK : 2 ≤ K) (h36 : K ≤ 36) (hN : N ≤ 9223372036854775807) (k : Nat) : parseN (45 :: (List.replicate k 48 ++ digitsU K N)) (K : Int) = (-(N : Int), true) := by
  rw [parse_neg (by omega) (by omega), Int.toNat_natCast, body_neg (zeros_size hK h36 k N (by omega)) (by omega), wrap64_id (by omega)]
theorem quo62 (K : Nat) : (4611686018427387904 : Int) / (K : Int) = ((4611686018427387904 / K : Nat) : Int) := by simp
theorem quo62_le (N : Nat) {K : Nat} (hK : 0 < K) : N ≤ 4611686018427387904 / K ↔ N * K ≤ 4611686018427387904 := Nat.le_div_iff_mul_le hK
set_option maxRecDepth 100000 in
set_option maxHeartbeats 4000000 in
theorem ngrows_core (n b d noughts : Int) (N D Q K : Nat) (hn : (decide (n < 0) = true ∧ -(n + 1) = (N : Int)) ∨ (decide (n < 0) = false ∧ n = (N : Int))) (hd : (decide (d < 0) = true ∧ -(d + 1) = (D : Int)) ∨ (decide (d < 0) = false ∧ d = (D : Int)))
    (hq : (decide (noughts < 0) = true ∧ -(noughts + 1) = (Q : Int)) ∨ (decide (noughts < 0) = false ∧ noughts = (Q : Int))) (hN : N ≤ 9223372036854775807) (hD : D ≤ 9223372036854775807) (hQ : Q ≤ 9223372036854775807)
    (hnr : i64R n) (hdr : i64R d) (hqr : i64R noughts) (hb : i64R b) (hK : baseN b = (K : Int)) (W : World) (hT : NTabs W) :
    Calls Tryd.prog 12 #[.int .i64 n, .int .i64 b, .int .i64 d, .int .i64 noughts] W (NTruly W) := by
  have h0 := nshown_walk W hT
  have kb := fun w => nbase_walk b hb w
  obtain ⟨b2, b36⟩ := baseN_in b
  rw [hK] at kb b2 b36
  have hK2 : 2 ≤ K := by omega
  have hK36 : K ≤ 36 := by omega
  obtain ⟨n1, n2⟩ := hnr
  obtain ⟨d1, d2⟩ := hdr
  obtain ⟨q1, q2⟩ := hqr
  have e1 : printS ((D % K : Nat) : Int) K = digitsU K (D % K) := by unfold printS printB; rw [if_pos (by omega), if_pos (by omega)]; rfl
  have e2 : unsignedS (N : Int) K = digitsU K N := by
    unfold unsignedS unsignedB
    rw [if_pos (by omega), show unsig (N : Int) = N by unfold unsig; omega]
    rfl
  have hDK : D % K < K := Nat.mod_lt _ (by omega)
  have l1 := digitsU_64 hK2 (show N < 18446744073709551616 by omega)
  have l2 := digitsU_64 hK2 (show D % K < 18446744073709551616 by omega)
  have p1 := fun w (h : NTabs w) => unsigned_walk (N : Int) K w h.1 h.2
  have p2 := fun w (h : NTabs w) => print_walk ((D % K : Nat) : Int) (by omega) K w h.1 h.2
  rw [e2] at p1
  rw [e1] at p2
  obtain ⟨⟨X1, X2⟩, hX⟩ : ∃ x, parseN (digitsU K N ++ digitsU K (D % K)) (K : Int) = x := ⟨_, rfl⟩
  have g1 := fun w => parse_is ⟨(digitsU K N ++ digitsU K (D % K)).toArray⟩ _ rfl (by rw [List.length_append]; omega) K X1 X2 hX w
  have g2 := fun (k : Nat) (hk : k < 100) w => parse_is ⟨(List.replicate k 48 ++ digitsU K N).toArray⟩ _ rfl (by rw [List.length_append, List.length_replicate]; omega) K N true (parse_zeros hK2 hK36 (by omega) k) w
  have g3 := fun (k : Nat) (hk : k < 100) w => parse_is ⟨(45 :: (List.replicate k 48 ++ digitsU K N)).toArray⟩ _ rfl (by rw [List.length_cons, List.length_append, List.length_replicate]; omega) K (-(N : Int)) true (parse_minus hK2 hK36 (by omega) k) w
  have hgr := parse_grown (N := N) hK2 hK36 hDK
  rw [hX] at hgr
  generalize digitsU K N = U at *
  generalize digitsU K (D % K) = P at *
  have hcat := bytes_app U P
  rw [← hcat] at g1
  generalize hdk : D % K = dk at *
  have hrem : (D : Int) % (K : Int) = (dk : Int) := by rw [← hdk]; simp
  replace hdk := Lib.hid hdk
  replace hX := Lib.hid hX
  replace hcat := Lib.hid hcat
  replace h0 := Lib.hid h0
  replace kb := Lib.hid kb
  replace p1 := Lib.hid p1
  replace p2 := Lib.hid p2
  replace g1 := Lib.hid g1
  replace g2 := Lib.hid g2
  replace g3 := Lib.hid g3
  replace hT := Lib.hid hT
  replace hn := Lib.hid hn
  replace hd := Lib.hid hd
  replace hq := Lib.hid hq
  replace hgr := Lib.hid hgr
  clear e1 e2 hK
  go_enter Tryd.func12, Tryd.ntmps12
  go_wp2_with fail
  refine h0.out.mono ?_
  rintro e w1 ⟨rfl, h1⟩
  replace h1 := Lib.hid h1
  go_wp2_with fail
  refine (kb.out _).mono ?_
  rintro e w2 ⟨rfl, rfl⟩
  go_upto_if 24 with fail
  go_cut [0] (fun x wx => x = .int .i64 (N : Int) ∧ w2 = wx)
  case first =>
    rcases hn.out with ⟨h, hf⟩ | ⟨h, hf⟩
    · go_wp2
      go_meet
      exact ⟨rfl, rfl⟩
    · subst hf
      go_wp2
      go_meet
      exact ⟨rfl, rfl⟩
  case rest =>
    obtain ⟨rfl, rfl⟩ := hcut
    go_upto_if 29 with fail
    go_cut [2] (fun x wx => x = .int .i64 (D : Int) ∧ w2 = wx)
    case first =>
      rcases hd.out with ⟨h, hf⟩ | ⟨h, hf⟩
      · go_wp2
        go_meet
        exact ⟨rfl, rfl⟩
      · subst hf
        go_wp2
        go_meet
        exact ⟨rfl, rfl⟩
    case rest =>
      obtain ⟨rfl, rfl⟩ := hcut
      go_wp2_with fail
      refine (p1.out _ (hT.out.kept h1.out)).mono ?_
      rintro e w3 ⟨rfl, h3⟩
      replace h3 := Lib.hid (h1.out.trans h3)
      go_wp2_with fail
      refine (p2.out _ (hT.out.kept h3.out)).mono ?_
      rintro e w4 ⟨rfl, h4⟩
      replace h4 := Lib.hid (h3.out.trans h4)
      go_wp2_with fail
      refine (g1.out _).mono ?_
      rintro e w5 ⟨rfl, h5⟩
      replace h5 := Lib.hid (h4.out.trans h5)
      clear h1 h3 h4
      have hz := quo62 K
      have hzl := quo62_le N (K := K) (by omega)
      generalize 4611686018427387904 / K = Z at *
      have hsit : (decide ((N : Int) ≤ (Z : Int)) = true ∧ decide (N ≤ Z) = true ∧ N * K ≤ 4611686018427387904) ∨ (decide ((N : Int) ≤ (Z : Int)) = false ∧ decide (N ≤ Z) = false) := by
        by_cases h : N ≤ Z
        · exact .inl ⟨by simpa using h, by simpa using h, hzl.1 h⟩
        · exact .inr ⟨by simpa using h, by simpa using h⟩
      clear hzl
      go_upto_region 10 with fail
      go_cut [65] (fun x wx => x = .bool false ∧ w5 = wx)
      case first =>
        rcases hsit with ⟨t1, t2, hle⟩ | ⟨t1, t2⟩
        · have hx := hgr.out hle
          injection hx with r1 r2
          have hm0 : 0 ≤ (N : Int) * (K : Int) := Int.mul_nonneg (by omega) (by omega)
          have hm2 : ((N * K : Nat) : Int) = (N : Int) * (K : Int) := by simp
          have hm1 : (N : Int) * (K : Int) ≤ 4611686018427387904 := by omega
          clear hm2
          clear hle
          subst r1
          subst r2
          go_wp2
          go_meet
          exact ⟨by simp, rfl⟩
        · go_wp2
          go_meet
          exact ⟨rfl, rfl⟩
      case rest =>
        obtain ⟨rfl, rfl⟩ := hcut
        clear hsit hgr hX g1 p1 p2
        go_upto_if 67 with fail
        go_cut [3] (fun x wx => x = .int .i64 (Q : Int) ∧ w5 = wx)
        case first =>
          rcases hq.out with ⟨h, hf⟩ | ⟨h, hf⟩
          · go_wp2
            go_meet
            exact ⟨rfl, rfl⟩
          · subst hf
            go_wp2
            go_meet
            exact ⟨rfl, rfl⟩
        case rest =>
          obtain ⟨rfl, rfl⟩ := hcut
          obtain ⟨m, hm⟩ : ∃ m, Q % 100 = m := ⟨_, rfl⟩
          have hm100 : m < 100 := by omega
          have hmr : (Q : Int) % 100 = (m : Int) := by omega
          replace hm := Lib.hid hm
          have hg2 := g2.out m hm100
          have hg3 := g3.out m hm100
          have hc2 := bytes_app (List.replicate m (48 : UInt8)) U
          have hc3 : (⟨#[45]⟩ : ByteArray) ++ ⟨(List.replicate m (48 : UInt8)).toArray⟩ ++ ⟨U.toArray⟩ = ⟨(45 :: (List.replicate m (48 : UInt8) ++ U)).toArray⟩ := by apply bytes_ext; simp
          rw [← hc2] at hg2
          rw [← hc3] at hg3
          have hml : (List.replicate m (48 : UInt8)).length ≤ 100 := by simp; omega
          replace hg2 := Lib.hid hg2
          replace hg3 := Lib.hid hg3
          replace hc2 := Lib.hid hc2
          replace hc3 := Lib.hid hc3
          clear g2 g3
          go_wp2_with fail
          go_loopw [14, 15] (fun z i wr => ∃ j : Nat, j ≤ m ∧ i = .int .i64 j ∧ z = .string ⟨(List.replicate j (48 : UInt8)).toArray⟩ ∧ wr = w5) (fun _ i _ => 100 - (RowKit.intOf i).toNat)
          case atStart => exact ⟨0, by omega, rfl, rfl, rfl⟩
          case round =>
            obtain ⟨j, hj, rfl, rfl, rfl⟩ := hrel
            have hjl : (List.replicate j (48 : UInt8)).length ≤ 100 := by simp; omega
            by_cases hlt : j < m
            · have hcat2 : (⟨(List.replicate j (48 : UInt8)).toArray⟩ : ByteArray) ++ ⟨#[48]⟩ = ⟨(List.replicate (j + 1) (48 : UInt8)).toArray⟩ := by apply bytes_ext; simp [List.replicate_succ']
              have hd : decide ((j : Int) < (m : Int)) = true := by simp; omega
              generalize List.replicate j (48 : UInt8) = Y at *
              replace hcat2 := Lib.hid hcat2
              go_wp2
              go_roundw
              case rel => exact ⟨j + 1, by omega, by go_num, by rw [← hcat2.out], trivial⟩
              case measure => simp [RowKit.intOf]; omega
            · have hje : j = m := by omega
              subst hje
              have hd : decide ((j : Int) < (j : Int)) = false := by simp
              generalize List.replicate j (48 : UInt8) = Y at *
              go_wp2_with fail
              refine (hg2.out _).mono ?_
              rintro e w6 ⟨rfl, h6⟩
              replace h6 := Lib.hid (h5.out.trans h6)
              go_wp2_with fail
              refine (hg3.out _).mono ?_
              rintro e w7 ⟨rfl, h7⟩
              replace h7 := Lib.hid (h6.out.trans h7).below0
              go_wp2
              all_goals go_ret
              all_goals exact ⟨by simp, h7.out⟩
theorem ngrows_any (n b d noughts : Int) (hn : i64R n) (hb : i64R b) (hd : i64R d) (hq : i64R noughts) (W : World) (hT : NTabs W) :
    Calls Tryd.prog 12 #[.int .i64 n, .int .i64 b, .int .i64 d, .int .i64 noughts] W (NTruly W) := by
  have fn := flip_in hn
  have fd := flip_in hd
  have fq := flip_in hq
  have hB := baseN_in b
  refine ngrows_core n b d noughts (flipN n).toNat (flipN d).toNat (flipN noughts).toNat (baseN b).toNat ?_ ?_ ?_ (by omega) (by omega) (by omega) hn hd hq hb (by omega) W hT
  · rw [Int.toNat_of_nonneg fn.1]; exact flip_cases hn
  · rw [Int.toNat_of_nonneg fd.1]; exact flip_cases hd
  · rw [Int.toNat_of_nonneg fq.1]; exact flip_cases hq
end Go.Proofs.YtanpbphgmnjdeaaDoor
