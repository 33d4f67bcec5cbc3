/- The law LookShadows, walked. Conditions: the program's tables lie as their initialisers lay them; the slice's cells are at hand. -/
import Derived.Test.YthejfkkmcbdlhaaGreatDoorQLookLw1
import Derived.Test.YthejfkkmcbdlhaaGreatDoorQLookNm
import Derived.Test.YthejfkkmcbdlhaaGreatDoorQFrame
import Derived.Deep.DrawnRows
namespace Go.Proofs.YthejfkkmcbdlhaaGreatDoor
set_option linter.unusedVariables false
set_option maxRecDepth 100000
open Go.RowKit Go.Lib
namespace Look
theorem nameOk_of {n : List UInt8} (h1 : isNameB n = true) (h2 : sameB n [58] = false) (h3 : sameB n [59] = false) : NameOk n ∧ n.length ≤ 31 := by
  unfold isNameB at h1
  rw [Bool.and_eq_true, decide_eq_true_eq, List.all_eq_true] at h1
  unfold sameB at h2 h3
  rw [decide_eq_false_iff_not] at h2 h3
  rw [low58] at h2
  rw [low59] at h3
  exact ⟨⟨by rintro rfl; exact absurd h1.1.1 (by simp), h1.2, h2, h3⟩, h1.1.2⟩
theorem defT_len (n : List UInt8) : (defT n).length = n.length + 7 := by simp [defT]
theorem useT_len (n : List UInt8) : (useT n).length = n.length + 1 := by simp [useT]
theorem strs_loop {w : World} {F : Nat → Prop} {v : Value} {l : List (List UInt8)} (h : (RowS v l).holds w F) :
    l.length ≤ 9223372036854775807 ∧ ∃ A cap, v = .slice A l.length cap ∧ ∀ (j : Nat) (hj : j < l.length), ∃ sg, A = some ⟨sg, 0, none⟩ ∧ w.cell? ⟨sg, j, none⟩ = some (.string ⟨(l[j]).toArray⟩) := by
  have hh := h
  rcases h.1.2 with ⟨rfl, h0⟩ | ⟨g, cap, cur, rfl, -, -, h1, h2, -⟩
  · exact ⟨by omega, none, 0, by rw [h0], fun j hj => by omega⟩
  · exact ⟨by unfold maxLen at h2; omega, some ⟨g, 0, none⟩, cap, rfl, fun j hj => ⟨g, rfl, strs_at hh (List.getElem?_eq_getElem hj)⟩⟩
theorem shadows_words {D ws : List (List UInt8)} (h : IsWords ws (D.flatMap fun _ => [[58], [59]])) : D = [] ∧ ws = [] ∨ D ≠ [] ∧ ws = [[58], [59]] := by
  rcases D with _ | ⟨x, D⟩
  · left
    refine ⟨rfl, ?_⟩
    apply List.eq_nil_iff_forall_not_mem.2
    intro k hk
    have := (h.mem k).1 hk
    simp at this
  · right
    refine ⟨by simp, h.unique ⟨fun k => ?_, by decide +kernel⟩⟩
    simp only [List.mem_flatMap, List.mem_cons, List.not_mem_nil, or_false]
    constructor
    · intro hk; exact ⟨x, .inl rfl, hk⟩
    · rintro ⟨_, _, hk⟩; exact hk
theorem eff_neq (n : List UInt8) (w : World) : (binOp .neq 34 (.agg #[.string ⟨n.toArray⟩, .int .i64 0, .int .i64 1, .bool true, .int .i64 0]) (.agg #[.string ⟨n.toArray⟩, .int .i64 0, .int .i64 1, .bool true, .int .i64 0])).run Tryz.prog w = .ok (.bool false) w := by
  have u1 := Tryz.underlying3
  have u2 := Tryz.underlying9
  have u3 := Tryz.underlying4
  have hS : Tryz.prog.underlying 34 = some (.struct (Tryz.prog.fieldsOf 34)) := by kernel_rfl
  have hp : Tryz.prog.stoodInHeld 34 = false := by kernel_rfl
  rw [run_neq_struct, show (10000 : Nat) = 9999 + 1 from rfl, run_equalIn_agg w 9999 34 _ _ hS hp]
  simp only [Program.fieldsOf, Tryz.underlying34]
  go_simp
set_option maxHeartbeats 16000000 in
theorem shadows_any (A : Option Addr) (n c : Nat) (zs : List ByteArray) (W : World) (hn : n ≤ 9223372036854775807) (hrow : LawF.Row W A n (fun j => .string (zs.getD j ByteArray.empty))) (hz : zs.length = n) (hzz : ∀ z ∈ zs, z.size ≤ 9223372036854775807) (hG : Ground W) :
    Calls Tryz.prog 5 #[.slice A n c] W (Truly W) := by
  have hs := shown_walk W hG
  have hef := fun (T : ByteArray) (hT : T.size ≤ 60000) w1 (hk : Kept Nob W w1) => effects_walk T hT w1 (hG.kept hk)
  have hwo := fun (T : ByteArray) (hT : T.size ≤ 60000) w1 (hk : Kept Nob W w1) => words_walk T hT w1 (hG.kept hk)
  have hcell : ∀ j, j < n → ∃ b off nm, A = some ⟨b, off, none⟩ ∧ W.cell? ⟨b, off + j, none⟩ = some (.string ⟨List.toArray nm⟩) ∧ nm.length ≤ 9223372036854775807 := by
    intro j hj
    obtain ⟨b, off, hA, _, hc⟩ := hrow (by omega)
    have hjz : j < zs.length := by omega
    have he : zs.getD j ByteArray.empty = zs[j] := by rw [List.getD_eq_getElem?_getD, List.getElem?_eq_getElem hjz]; rfl
    refine ⟨b, off, (zs[j]).data.toList, hA, ?_, ?_⟩
    · rw [hc j hj]
      show some (Value.string (zs.getD j ByteArray.empty)) = _
      rw [he]
    · have := hzz _ (List.getElem_mem hjz); rw [← Lib.size_eq]; exact this
  obtain ⟨i0, hi, hz0, hz1, hz2⟩ := info_parts info_str
  clear hG hrow hz hzz
  replace hi := Lib.hid hi
  replace hz0 := Lib.hid hz0
  replace hz1 := Lib.hid hz1
  replace hz2 := Lib.hid hz2
  replace hs := Lib.hid hs
  replace hef := Lib.hid hef
  replace hwo := Lib.hid hwo
  replace hcell := Lib.hid hcell
  go_enter Tryz.func5, Tryz.ntmps5
  go_wp2_with fail
  refine hs.out.mono ?_
  rintro e w1 ⟨rfl, hk1⟩
  clear hs
  have hon1 : On Nob W (AllA [RowS (.slice none 0 0) []]) w1 := ((On.nob W).keptNob hk1).addA ⟨World.ownsRow_nil w1 0 _ 1, fun k => by simp [Value.ownBlock]⟩
  clear hk1
  replace hon1 := Lib.hid hon1
  go_wp2_with fail
  go_loopw [4, 5, 6] (fun s v i wr => ∃ (j : Nat) (acc : List (List UInt8)) (S : ByteArray), j ≤ 40 ∧ j ≤ n ∧ i = .int .i64 (j : Int) ∧ s = .string S ∧ S.data.toList = acc.flatMap defT ∧ S.size ≤ 39 * j ∧ acc.length ≤ j ∧ (∀ m ∈ acc, NameOk m ∧ m.length ≤ 31) ∧ On Nob W (AllA [RowS v acc]) wr) (fun _ _ i _ => n - (RowKit.intOf i).toNat)
  case atStart => exact ⟨0, [], ⟨#[]⟩, by omega, by omega, rfl, rfl, rfl, by decide, by simp, by simp, hon1.out⟩
  case round =>
    obtain ⟨j, acc, S, hj40, hjn, rfl, rfl, hSd, hSs, hal, hacc, hon⟩ := hrel
    clear hon1
    obtain ⟨_, hrs⟩ := hon.firstA
    obtain ⟨L, hL⟩ : ∃ L, acc.length = L := ⟨_, rfl⟩
    obtain ⟨-, B, cap, hv, hrow⟩ := strs_loop hrs
    rw [hL] at hv hal
    subst hv
    have hkw := hon.keptW
    replace hkw := Lib.hid hkw
    replace hrs := Lib.hid hrs
    replace hrow := Lib.hid hrow
    replace hSd := Lib.hid hSd
    replace hacc := Lib.hid hacc
    replace hon := Lib.hid hon
    by_cases hlt : j < n ∧ j < 40
    · obtain ⟨hlt1, hlt2⟩ := hlt
      obtain ⟨b, off, nm, rfl, hcW, hnl⟩ := hcell.out j hlt1
      have hcr := hkw.out.cell hcW id
      have hnm : ∀ w, Calls Tryz.prog 12 #[.string ⟨nm.toArray⟩] w (fun e w' => e = .returned (.bool (isNameB nm)) ∧ w' = w) := fun w => name_walk ⟨nm.toArray⟩ (by show nm.toArray.size ≤ _; simpa using hnl) w
      obtain ⟨isn, hisn⟩ : ∃ r, isNameB nm = r := ⟨_, rfl⟩
      rw [hisn] at hnm
      have hsm : ∀ (m : List UInt8), m.length ≤ 9223372036854775807 → ∀ w, Calls Tryz.prog 13 #[.string ⟨m.toArray⟩, .string ⟨nm.toArray⟩] w (fun e w' => e = .returned (.bool (sameB m nm)) ∧ ∃ k, w' = w.drewN k) := fun m hm w => same_walk ⟨m.toArray⟩ ⟨nm.toArray⟩ (by show m.toArray.size ≤ _; simpa using hm) (by show nm.toArray.size ≤ _; simpa using hnl) w
      have hs58 : ∀ w, Calls Tryz.prog 13 #[.string ⟨nm.toArray⟩, .string ⟨#[58]⟩] w (fun e w' => e = .returned (.bool (sameB nm [58])) ∧ ∃ k, w' = w.drewN k) := fun w => same_walk ⟨nm.toArray⟩ ⟨#[58]⟩ (by show nm.toArray.size ≤ _; simpa using hnl) (by decide) w
      have hs59 : ∀ w, Calls Tryz.prog 13 #[.string ⟨nm.toArray⟩, .string ⟨#[59]⟩] w (fun e w' => e = .returned (.bool (sameB nm [59])) ∧ ∃ k, w' = w.drewN k) := fun w => same_walk ⟨nm.toArray⟩ ⟨#[59]⟩ (by show nm.toArray.size ≤ _; simpa using hnl) (by decide) w
      obtain ⟨r58, h58⟩ : ∃ r, sameB nm [58] = r := ⟨_, rfl⟩
      obtain ⟨r59, h59⟩ : ∃ r, sameB nm [59] = r := ⟨_, rfl⟩
      rw [h58] at hs58
      rw [h59] at hs59
      replace hnm := Lib.hid hnm
      replace hsm := Lib.hid hsm
      replace hs58 := Lib.hid hs58
      replace hs59 := Lib.hid hs59
      replace hisn := Lib.hid hisn
      replace h58 := Lib.hid h58
      replace h59 := Lib.hid h59
      replace hcW := Lib.hid hcW
      replace hnl := Lib.hid hnl
      replace hL := Lib.hid hL
      go_wp2_with fail
      refine (hnm.out _).mono ?_
      rintro e w2 ⟨rfl, rfl⟩
      go_wp2_with fail
      go_loopw [8, 9] (fun sn k wx => ∃ (q : Nat) (bs : Bool) (nd : Nat), q ≤ L ∧ k = .int .i64 (q : Int) ∧ sn = .bool bs ∧ wx = w2.drewN nd) (fun _ k _ => L - (RowKit.intOf k).toNat)
      case atStart => exact ⟨0, false, 0, by omega, rfl, rfl, rfl⟩
      case round =>
        obtain ⟨q, bs, nd, hq, rfl, rfl, hwx⟩ := hrel
        have hcx : ∀ p, wr.cell? p = w2.cell? p := fun p => by rw [hwx]; simp
        have hcn := (hcx ⟨b, off + j, none⟩).trans hcr
        replace hwx := Lib.hid hwx
        replace hcx := Lib.hid hcx
        by_cases hql : q < L
        · obtain ⟨sg, hB, hce⟩ := hrow.out q (by rw [hL.out]; exact hql)
          subst hB
          obtain ⟨m, hm⟩ : ∃ m, acc[q]'(by rw [hL.out]; exact hql) = m := ⟨_, rfl⟩
          rw [hm] at hce
          have hcm := (hcx.out ⟨sg, q, none⟩).trans hce
          have hml : m.length ≤ 31 := by rw [← hm]; exact (hacc.out _ (List.getElem_mem _)).2
          have hsq := hsm.out m (by omega)
          obtain ⟨r, hr⟩ : ∃ r, sameB m nm = r := ⟨_, rfl⟩
          rw [hr] at hsq
          clear hce hr
          replace hsq := Lib.hid hsq
          replace hm := Lib.hid hm
          replace hml := Lib.hid hml
          cases bs
          all_goals
            go_wp2_with fail
            go_quiet ((go_at_call 13; exact Calls.quiet_of (hsq.out (World.drewN _ _))))
            go_wp2_with fail
            go_roundw
            case rel => exact ⟨q + 1, _, nd + nq, by omega, by go_num, rfl, by rw [hwx.out, World.drewN_drewN]⟩
            case measure => simp [RowKit.intOf]; omega
        · have hqq : q = L := by omega
          subst hqq
          have hon3 : On Nob W (AllA [RowS (.slice B q cap) acc]) wr := by rw [hwx.out]; exact hon.out.drewN nd
          replace hon3 := Lib.hid hon3
          clear hcx hwx
          go_wp2_with fail
          refine (hs58.out _).mono ?_
          rintro e w3 ⟨rfl, k3, hw3⟩
          have hcn3 : w3.cell? ⟨b, off + j, none⟩ = some (.string ⟨nm.toArray⟩) := by rw [hw3]; simpa using hcn
          have hon4 : On Nob W (AllA [RowS (.slice B q cap) acc]) w3 := by rw [hw3]; exact hon3.out.drewN k3
          clear hw3 hon3
          replace hon4 := Lib.hid hon4
          cases r58
          · go_wp2_with fail
            refine (hs59.out _).mono ?_
            rintro e w4 ⟨rfl, k4, hw4⟩
            have hcn4 : w4.cell? ⟨b, off + j, none⟩ = some (.string ⟨nm.toArray⟩) := by rw [hw4]; simpa using hcn3
            have hon5 : On Nob W (AllA [RowS (.slice B q cap) acc]) w4 := by rw [hw4]; exact hon4.out.drewN k4
            clear hw4 hon4 hcn3
            replace hon5 := Lib.hid hon5
            by_cases hg : isn = true ∧ bs = false ∧ r59 = false
            · obtain ⟨rfl, rfl, rfl⟩ := hg
              obtain ⟨hok, hn31⟩ := nameOk_of hisn.out h58.out h59.out
              obtain ⟨_, hr1⟩ := hon5.out.firstA
              have hn1 : acc.length + 1 ≤ maxLen ∧ (acc.length + 1) * 16 ≤ 140737488355328 := by have := hL.out; unfold maxLen; omega
              replace hr1 := Lib.hid hr1
              replace hn1 := Lib.hid hn1
              replace hok := Lib.hid hok
              go_wp2_with (at_builtin; refine wpList_append_lies _ rfl (.tmp 74) (.tmp 79) 23 rfl 0 9 i0 (.string ⟨#[]⟩) 1 16 Tryz.underlying23 hi.out hz0.out hz1.out hz2.out rfl (by omega) (.slice B q cap) acc.length (strsC acc) rfl (hr1.out.1.alloc _) ⟨w4.heap.size, 0, none⟩ 1 1 [.string ⟨nm.toArray⟩] rfl rfl (str_news (Blk.new w4 _ _)) (str_one _) (by omega) hn1.out.1 hn1.out.2 (by omega) _ rfl ?_; intro sg2 cap2 w5 hG hgrow hat hlt5; have hon6 := hon5.out.stepA (A' := RowK 9 1 (.slice (some ⟨sg2, 0, none⟩) (acc.length + 1) cap2) (acc.length + 1) (strsC acc ++ [.string ⟨nm.toArray⟩])) (w'' := w5) (fun F' h' => RowK.grew h' ((Kept.refl Nob w4).alloc _) hgrow hG (grew_at hat)); have hcn5 := hon6.keptW.cell hcW.out id; clear hG hgrow hat hlt5; replace hon6 := Lib.hid hon6)
              go_roundw
              case rel =>
                refine ⟨j + 1, acc ++ [nm], _, by omega, by omega, by go_num, rfl, ?_, ?_, ?_, ?_, ?_⟩
                · have := hSd.out
                  simp [this, defT]
                · simp only [ByteArray.size_append]
                  show S.size + 2 + nm.toArray.size + 5 ≤ _
                  rw [List.size_toArray]
                  omega
                · rw [List.length_append, hL.out]
                  simp
                  omega
                · intro x hx
                  rcases List.mem_append.1 hx with hx | hx
                  · exact hacc.out x hx
                  · rw [List.mem_singleton] at hx; subst hx; exact ⟨hok.out, hn31⟩
                · have q1 : RowS (.slice (some ⟨sg2, 0, none⟩) (acc.length + 1) cap2) (acc ++ [nm]) = RowK 9 1 (.slice (some ⟨sg2, 0, none⟩) (acc.length + 1) cap2) (acc.length + 1) (strsC acc ++ [.string ⟨nm.toArray⟩]) := by
                    unfold RowS strsC
                    rw [List.length_append, List.map_append]
                    rfl
                  rw [q1]
                  exact hon6.out
              case measure => simp [RowKit.intOf]; omega
            · cases isn <;> cases bs <;> cases r59
              all_goals
                first
                  | exact absurd ⟨rfl, rfl, rfl⟩ hg
                  | (go_wp2_with fail
                     go_roundw
                     case rel => exact ⟨j + 1, acc, S, by omega, by omega, by go_num, rfl, hSd.out, by omega, by rw [hL.out]; omega, hacc.out, hon5.out⟩
                     case measure => simp [RowKit.intOf]; omega)
          · cases isn <;> cases bs
            all_goals
              go_wp2_with fail
              go_roundw
              case rel => exact ⟨j + 1, acc, S, by omega, by omega, by go_num, rfl, hSd.out, by omega, by rw [hL.out]; omega, hacc.out, hon4.out⟩
              case measure => simp [RowKit.intOf]; omega
    · replace hL := Lib.hid hL
      rcases Nat.lt_or_ge j n with hjn2 | hjn2
      all_goals
        have hj4 : ¬ (j < n ∧ j < 40) := hlt
        have hjx : j < n → ¬ j < 40 := fun h1 h2 => hlt ⟨h1, h2⟩
        have hj5 : (j : Int) < n → ¬ ((j : Int) < 40) := fun h1 h2 => hlt ⟨by omega, by omega⟩
        clear hlt hj4
        first
          | (have hj6 : ¬ j < 40 := hjx hjn2
             clear hjx hj5)
          | (have hj6 : ¬ j < n := by omega
             clear hjx hj5)
        go_wp2_with fail
        go_loopw [4, 12] (fun s q wx => ∃ (k : Nat) (S' : ByteArray), k ≤ L ∧ q = .int .i64 (k : Int) ∧ s = .string S' ∧ S'.data.toList = acc.flatMap defT ++ (acc.take k).flatMap useT ∧ S'.size ≤ 1560 + 32 * k ∧ wx = wr) (fun _ q _ => L - (RowKit.intOf q).toNat)
        case atStart => exact ⟨0, S, by omega, rfl, rfl, by rw [hSd.out]; simp, by omega, rfl⟩
        case round =>
          obtain ⟨k, S', hk, rfl, rfl, hSd', hSs', rfl⟩ := hrel
          replace hSd' := Lib.hid hSd'
          by_cases hkl : k < L
          · obtain ⟨sg, hB, hce⟩ := hrow.out k (by rw [hL.out]; exact hkl)
            subst hB
            obtain ⟨m, hm⟩ : ∃ m, acc[k]'(by rw [hL.out]; exact hkl) = m := ⟨_, rfl⟩
            rw [hm] at hce
            have hml : m.length ≤ 31 := by rw [← hm]; exact (hacc.out _ (List.getElem_mem _)).2
            replace hm := Lib.hid hm
            go_wp2_with fail
            go_roundw
            case rel =>
              refine ⟨k + 1, _, by omega, by go_num, rfl, ?_, ?_, by first | rfl | trivial⟩
              · have h1 : acc.take (k + 1) = acc.take k ++ [m] := by rw [← hm.out]; exact List.take_succ_eq_append_getElem _
                have h2 := hSd'.out
                rw [h1]
                simp [h2, useT]
              · simp only [ByteArray.size_append]
                show S'.size + m.toArray.size + 1 ≤ _
                rw [List.size_toArray]
                omega
            case measure => simp [RowKit.intOf]; omega
          · have hkk : k = L := by omega
            subst hkk
            have htk : acc.take k = acc := by rw [← hL.out, List.take_length]
            have hSf := hSd'.out
            rw [htk] at hSf
            obtain ⟨rl, rs⟩ := shadows_read envW acc (fun m hm => (hacc.out m hm).1)
            have hee := hef.out S' (by omega) _ hkw.out
            have hww := fun w1 (hk : Kept Nob W w1) => hwo.out S' (by omega) w1 hk
            rw [hSf, rl] at hee
            simp only [hSf, rs] at hww
            clear hSf rl rs htk hSd' hrow
            replace hee := Lib.hid hee
            replace hww := Lib.hid hww
            go_wp2_with fail
            refine (hon.out.makeA hee.out).mono ?_
            rintro e w5 ⟨v, A', ⟨vl, rfl, rfl⟩, rfl, hon5⟩
            have hk5 := Lib.hid hon5.keptW
            replace hon5 := Lib.hid hon5
            go_wp2_with fail
            refine (hon5.out.makeA (hww.out w5 hk5.out ⟨[[58], [59]], by decide, fun x hx => by
              obtain ⟨_, _, hx⟩ := List.mem_flatMap.1 hx; exact hx⟩)).mono ?_
            rintro e w6 ⟨v, A', ⟨vs, ws, rfl, rfl, hws⟩, rfl, hon6⟩
            have hk6 := Lib.hid hon6.keptW
            obtain ⟨_, hr1⟩ := hon6.firstA
            obtain ⟨_, hr2⟩ := hon6.swapA.firstA
            obtain ⟨_, hr3⟩ := hon6.mem (A := RowS (.slice B k cap) acc) (by simp)
            obtain ⟨-, B3, cap3, rfl, hc3⟩ := strs_loop hr1
            obtain ⟨-, B2, cap2, rfl, hc2⟩ := effs_loop hr2
            obtain ⟨-, B1, cap1, hv1, hc1⟩ := strs_loop hr3
            cases hv1
            clear hon6 hon5 hr1 hr2 hr3 hee hww hon
            replace hc1 := Lib.hid hc1
            replace hc2 := Lib.hid hc2
            replace hc3 := Lib.hid hc3
            replace hws := Lib.hid hws
            have hle : (acc.map effOf).length = acc.length := List.length_map _
            rw [hle]
            obtain ⟨K, hK⟩ : ∃ K, acc.length = K := ⟨_, rfl⟩
            rw [hK]
            have hKn : K ≤ 40 := by omega
            replace hle := Lib.hid hle
            replace hK := Lib.hid hK
            go_wp2_with fail
            go_loopw [17] (fun i wx => ∃ (p nd : Nat), p ≤ K ∧ i = .int .i64 (p : Int) ∧ wx = w6.drewN nd) (fun i _ => K - (RowKit.intOf i).toNat)
            case atStart => exact ⟨0, 0, by omega, rfl, rfl⟩
            case round =>
              obtain ⟨p, nd, hp, rfl, hwx⟩ := hrel
              have hcx : ∀ a, wr.cell? a = w6.cell? a := fun a => by rw [hwx]; simp
              replace hwx := Lib.hid hwx
              replace hcx := Lib.hid hcx
              by_cases hpk : p < K
              · have hpa : p < acc.length := by rw [hK.out]; exact hpk
                obtain ⟨sg1, hB1, e1⟩ := hc1.out p hpa
                obtain ⟨sg2, hB2, e2⟩ := hc2.out p (by rw [hle.out]; exact hpa)
                subst hB1
                subst hB2
                obtain ⟨m, hm⟩ : ∃ m, acc[p] = m := ⟨_, rfl⟩
                have hme : (acc.map effOf)[p]'(by rw [hle.out]; exact hpa) = effOf m := by rw [List.getElem_map, hm]
                rw [hm] at e1
                rw [hme] at e2
                have x1 := (hcx.out ⟨sg1, p, none⟩).trans e1
                have y0 := (hcx.out ⟨sg2, p * 5 + 0, none⟩).trans (e2 0 (by omega))
                have y1 := (hcx.out ⟨sg2, p * 5 + 1, none⟩).trans (e2 1 (by omega))
                have y2 := (hcx.out ⟨sg2, p * 5 + 2, none⟩).trans (e2 2 (by omega))
                have y3 := (hcx.out ⟨sg2, p * 5 + 3, none⟩).trans (e2 3 (by omega))
                have y4 := (hcx.out ⟨sg2, p * 5 + 4, none⟩).trans (e2 4 (by omega))
                simp [effC, effOf] at y0 y1 y2 y3 y4
                have hq := eff_neq m
                clear e1 e2 hme
                replace hm := Lib.hid hm
                go_wp2_with fail
                go_quiet (fail)
                go_wp2_with fail
                go_roundw
                case rel => exact ⟨p + 1, nd + nq, by omega, by go_num, by rw [hwx.out, World.drewN_drewN]⟩
                case measure => simp [RowKit.intOf]; omega
              · have hpp : p = K := by omega
                subst hpp
                rcases shadows_words hws.out with ⟨hacc0, rfl⟩ | ⟨hacc0, rfl⟩
                · have hp0 : p = 0 := by rw [← hK.out, hacc0]; rfl
                  subst hp0
                  go_wp2_with fail
                  go_ret
                  exact ⟨rfl, Kept.below (by rw [hwx.out]; exact hk6.out.drewN _)⟩
                · have hp0 : 0 < p := by rw [← hK.out]; exact List.length_pos_iff.2 hacc0
                  obtain ⟨sg3, hB3, e1⟩ := hc3.out 0 (by simp)
                  obtain ⟨sg4, hB4, e2⟩ := hc3.out 1 (by simp)
                  subst hB3
                  cases hB4
                  have x1 := (hcx.out ⟨sg3, 0, none⟩).trans e1
                  have x2 := (hcx.out ⟨sg3, 1, none⟩).trans e2
                  simp at x1 x2
                  clear e1 e2
                  have hpi : ((p : Int) == 0) = false := by rw [beq_eq_false_iff_ne]; omega
                  have hpi2 : ¬ p = 0 := by omega
                  simp only [List.length_cons, List.length_nil]
                  go_wp2_with fail
                  go_ret
                  exact ⟨rfl, Kept.below (by rw [hwx.out]; exact hk6.out.drewN _)⟩
end Look
end Go.Proofs.YthejfkkmcbdlhaaGreatDoor
