/- Chapter 19: read: a text is read to its end. Conditions: the text is no longer than a source may be; the kernel's words are in order. -/
import Derived.Test.YthejfkkmcbdlhaaGreatDoorQInv
namespace Go.Proofs.YthejfkkmcbdlhaaGreatDoor
set_option linter.unusedVariables false
set_option maxRecDepth 100000
open Go.RowKit Go.Lib
namespace Look
/-- how far the reader has read, off memory -/
def atW (w : World) (g : Nat) : Nat := match w.cell? ⟨g, 0, none⟩ with
  | some (.pointer (some a)) => (match w.cell? ⟨a.block, 1, none⟩ with | some v => (RowKit.intOf v).toNat | none => 0)
  | _ => 0
theorem atW_eq {g : Nat} {E : Env} {kk : Option Nat} {T : ByteArray} {r : Rd} {bt : Nat} {w w' : World} {F : Nat → Prop} (h : On F w (RdA g E kk T r bt) w') : atW w' g = r.at_ := by
  obtain ⟨gs, vl, bl, bsp, bw, vo, hon⟩ := RdA.opened h
  obtain ⟨_, hB⟩ := hon.mem (A := BlkA g 46 (rdC kk r bt gs vl bl bsp bw vo)) (by simp [rdL])
  obtain ⟨_, hS⟩ := hon.mem (A := SrcA gs T r.at_) (by simp [rdL])
  have c0 := hB.1.cell 0
  have c1 := hS.1.cell 1
  simp [rdC] at c0
  simp at c1
  unfold atW
  rw [c0]
  simp only
  rw [c1]
  simp [RowKit.intOf]
/-- the source's word, asked of a reader -/
theorem rd_src {g : Nat} {E : Env} {kk : Option Nat} {T : ByteArray} {r : Rd} {bt : Nat} {w w' : World} {F : Nat → Prop} {L : List Asr} (h : On F w (AllA (RdA g E kk T r bt :: L)) w') : ∃ gs vl bl bsp bw vo, w'.cell? ⟨g, 0, none⟩ = some (.pointer (some ⟨gs, 0, none⟩)) ∧ On F w (AllA (SrcA gs T r.at_ :: ((rdL g E kk T r bt gs vl bl bsp bw vo).eraseIdx 1 ++ L))) w' := by
  obtain ⟨F', ⟨F1, F2, ⟨gs, vl, bl, bsp, bw, vo, h1⟩, h2, hd, hF⟩, hk, hF'⟩ := h
  refine ⟨gs, vl, bl, bsp, bw, vo, ?_, F', ?_, hk, hF'⟩
  · obtain ⟨_, _, hB, _⟩ := h1
    exact hB.1.cell 0
  · have h3 : All (rdL g E kk T r bt gs vl bl bsp bw vo ++ L) w' F' := by
      have ap : ∀ (L1 : List Asr) (F1 : Nat → Prop) (F : Nat → Prop), All L1 w' F1 → (∀ k, F1 k → F2 k → False) → (∀ k, F k ↔ F1 k ∨ F2 k) → All (L1 ++ L) w' F := by
        intro L1
        induction L1 with
        | nil => intro F1 F h hd hF; exact All.congrF h2 fun k => (hF k).trans ⟨fun a => a.elim (fun b => (h k b).elim) id, .inr⟩
        | cons A L1 ih =>
          rintro F1 F ⟨G1, G2, a1, a2, a3, a4⟩ hd hF
          refine ⟨G1, fun k => G2 k ∨ F2 k, a1, ih G2 _ a2 (fun k b c => hd k ((a4 k).2 (.inr b)) c) (fun k => Iff.rfl), fun k b c => ?_, fun k => ?_⟩
          · rcases c with c | c
            · exact a3 k b c
            · exact hd k ((a4 k).2 (.inl b)) c
          · rw [hF, a4, or_assoc]
      exact ap _ F1 F' h1 hd hF
    exact All.swap h3
/-- and back -/
theorem rd_back {g : Nat} {E : Env} {kk : Option Nat} {T : ByteArray} {r : Rd} {bt i : Nat} {w w' : World} {F : Nat → Prop} {L : List Asr} {gs : Nat} {vl : Value} {bl bsp bw : Nat} {vo : Value} (h : On F w (AllA (SrcA gs T i :: ((rdL g E kk T r bt gs vl bl bsp bw vo).eraseIdx 1 ++ L))) w') : On F w (AllA (RdA g E kk T { r with at_ := i } bt :: L)) w' := by
  obtain ⟨F', h1, hk, hF'⟩ := h
  have h2 : All (rdL g E kk T { r with at_ := i } bt gs vl bl bsp bw vo ++ L) w' F' := All.swap h1
  refine ⟨F', ?_, hk, hF'⟩
  have ap : ∀ (L1 : List Asr) (F : Nat → Prop), All (L1 ++ L) w' F → ∃ F1 F2, All L1 w' F1 ∧ All L w' F2 ∧ (∀ k, F1 k → F2 k → False) ∧ ∀ k, F k ↔ F1 k ∨ F2 k := by
    intro L1
    induction L1 with
    | nil => intro F h; exact ⟨fun _ => False, F, fun _ h => h, h, fun _ h _ => h, fun k => ⟨.inr, fun h => h.elim (fun h => h.elim) id⟩⟩
    | cons A L1 ih =>
      rintro F ⟨G1, G2, a1, a2, a3, a4⟩
      obtain ⟨H1, H2, b1, b2, b3, b4⟩ := ih G2 a2
      refine ⟨fun k => G1 k ∨ H1 k, H2, ⟨G1, H1, a1, b1, fun k c d => a3 k c ((b4 k).2 (.inl d)), fun k => Iff.rfl⟩, b2, fun k c d => ?_, fun k => ?_⟩
      · rcases c with c | c
        · exact a3 k c ((b4 k).2 (.inr d))
        · exact b3 k c d
      · rw [a4, b4, or_assoc]
  obtain ⟨F1, F2, c1, c2, c3, c4⟩ := ap _ F' h2
  exact ⟨F1, F2, ⟨gs, vl, bl, bsp, bw, vo, c1⟩, c2, c3, c4⟩
end Look
end Go.Proofs.YthejfkkmcbdlhaaGreatDoor
/- Chapter 19: read, walked. Conditions: the text is no longer than a source may be; the kernel's words are in order. -/
namespace Go.Proofs.YthejfkkmcbdlhaaGreatDoor
set_option linter.unusedVariables false
set_option maxRecDepth 100000
open Go.RowKit Go.Lib
namespace Look
theorem rd_cells {g : Nat} {E : Env} {kk : Option Nat} {T : ByteArray} {r : Rd} {bt : Nat} {w w' : World} {F : Nat → Prop} {L : List Asr} (h : On F w (AllA (RdA g E kk T r bt :: L)) w') : w'.cell? ⟨g, 5, none⟩ = some (.int .i64 (r.needs : Int)) ∧ w'.frozen? ⟨g, 5, none⟩ = false ∧ g < w'.heap.size := by
  obtain ⟨_, gs, vl, bl, bsp, bw, vo, h1⟩ := h.firstA
  obtain ⟨_, _, hB, _⟩ := h1
  exact ⟨hB.1.cell 5, hB.1.frozen 5, hB.1.lt⟩
theorem rd_needs {g : Nat} {E : Env} {kk : Option Nat} {T : ByteArray} {r : Rd} {bt : Nat} {w w' : World} {F : Nat → Prop} {L : List Asr} (h : On F w (AllA (RdA g E kk T r bt :: L)) w') (m : Nat) : On F w (AllA (RdA g E kk T { r with needs := m } bt :: L)) (w'.setCell ⟨g, 5, none⟩ (.int .i64 (m : Int))) := by
  refine h.stepA fun F' hb => ?_
  obtain ⟨gs, vl, bl, bsp, bw, vo, hon⟩ := RdA.open_ hb
  exact RdA.close (gs := gs) (vl := vl) (bl := bl) (bsp := bsp) (bw := bw) (vo := vo) (hon.setA 5 (.int .i64 (m : Int)))
set_option maxHeartbeats 8000000 in
theorem read_walk (g : Nat) (E : Env) (hE : EnvOk E) (kk : Option Nat) (T : ByteArray) (hT : T.size ≤ 60000) (r0 : Rd) (bt : Nat) (hI0 : RdB T.data.toList r0.at_ 0 r0) (w : World) (F : Nat → Prop) (hb : (RdA g E kk T r0 bt).holds w F) :
    Calls Tryz.prog 35 #[.pointer (some ⟨g, 0, none⟩)] w (Post (fun u B => u = .tuple #[] ∧ B = RdA g E kk T (readAll E T.data.toList r0) bt) F w) := by
  have hon0 := On.refl hb
  have hl : T.data.toList.length = T.size := by rw [Lib.size_eq]
  obtain ⟨R, hR0⟩ : ∃ R, readAll E T.data.toList r0 = R := ⟨_, rfl⟩
  rw [hR0]
  clear hb
  replace hon0 := Lib.hid hon0
  replace hI0 := Lib.hid hI0
  replace hR0 := Lib.hid hR0
  replace hl := Lib.hid hl
  replace hE := Lib.hid hE
  replace hT := Lib.hid hT
  go_enter Tryz.func35, Tryz.ntmps35
  go_wp2
  go_loopw [] (fun wr => ∃ r : Rd, On F w (RdA g E kk T r bt) wr ∧ RdB T.data.toList r.at_ 0 r ∧ readAll E T.data.toList r = R) (fun wr => T.size - atW wr g)
  case atStart => exact ⟨r0, hon0.out, hI0.out, hR0.out⟩
  case round =>
    obtain ⟨r, hon, hI, hR⟩ := hrel
    clear hon0 hI0 hR0
    have hatw := atW_eq hon
    obtain ⟨gs, vl, bl, bsp, bw, vo, c0, hsrc⟩ := rd_src (On.one hon)
    have hat : r.at_ ≤ T.size := by have := hI.at_; rw [hl.out] at this; exact this
    have hwd := fun w1 F' hb' => word_walk gs T (by have := hT.out; omega) r.at_ hat w1 F' hb'
    rw [extract_word] at hwd
    replace hwd := Lib.hid hwd
    replace hon := Lib.hid hon
    replace hI := Lib.hid hI
    replace hR := Lib.hid hR
    replace hsrc := Lib.hid hsrc
    replace hat := Lib.hid hat
    replace hatw := Lib.hid hatw
    obtain ⟨sw, hsw⟩ : ∃ sw, wordAt T.data.toList r.at_ = sw := ⟨_, rfl⟩
    rw [hsw] at hwd
    replace hsw := Lib.hid hsw
    go_wp2_with fail
    refine (hsrc.out.callA fun F' hb' => hwd.out _ F' hb').mono ?_
    rintro e w1 ⟨v, A', ⟨rfl, rfl⟩, rfl, hon1⟩
    have hon2 := rd_back hon1
    have hr1 : ({ r with at_ := wordEnd T.data.toList r.at_ } : Rd) = rd1 T.data.toList r := rfl
    rw [hr1] at hon2
    clear hon1 hsrc hwd c0 hr1
    replace hon2 := Lib.hid hon2
    rcases hsn : sw with _ | ⟨x, sw'⟩
    · subst hsn
      have hfin : rd1 T.data.toList r = R := by rw [← hR.out]; exact (readAll_off (by rw [round_eq, if_pos hsw.out])).symm
      replace hfin := Lib.hid hfin
      go_wp2_with fail
      go_end0
      exact (hfin.out ▸ hon2.out.headA).post ⟨rfl, rfl⟩
    · rw [← hsn]
      have hne : sw.isEmpty = false := by rw [hsn]; rfl
      have hne2 : ¬ wordAt T.data.toList r.at_ = [] := by rw [hsw.out, hsn]; simp
      clear hsn
      replace hne2 := Lib.hid hne2
      have hswl : sw.length ≤ 60000 := by rw [← hsw.out]; have := wordAt_len T.data.toList r.at_; rw [hl.out] at this; have := hT.out; omega
      have hwh := fun w1 F' hb' => what_walk g E kk T (rd1 T.data.toList r) bt ⟨sw.toArray⟩ (by show sw.toArray.size ≤ _; rw [List.size_toArray]; omega) w1 F' hb'
      have hwdef : what E (rd1 T.data.toList r).list (⟨sw.toArray⟩ : ByteArray).data.toList = rdW E T.data.toList r := by show what E r.list sw = what E r.list _; rw [hsw.out]
      rw [hwdef] at hwh
      obtain ⟨hwok, hwnm⟩ := what_ok hE.out kk r.list (by have := hI.out.list; have := hat.out; have := hT.out; omega) (wordAt T.data.toList r.at_)
      replace hwh := Lib.hid hwh
      replace hwok := Lib.hid hwok
      replace hwnm := Lib.hid hwnm
      clear hwdef
      go_wp2_with fail
      refine (hon2.out.callA fun F' hb' => hwh.out _ F' hb').mono ?_
      rintro e w2 ⟨v, A', ⟨rfl, rfl⟩, rfl, hon3⟩
      obtain ⟨wd, hwd⟩ : ∃ wd, rdW E T.data.toList r = wd := ⟨_, rfl⟩
      rw [hwd]
      obtain ⟨kd, n, nm⟩ := wd
      replace hwd := Lib.hid hwd
      unfold wordV
      simp only [wordC]
      clear hwh hon2
      replace hon3 := Lib.hid hon3
      go_wp2_with fail
      have hon4 := (hon3.out.boxA #[.int .i64 (kd : Int), .int .i64 (n : Int), .string ⟨nm.toArray⟩] 70).swapA
      obtain ⟨bx, hbx⟩ : ∃ bx, w2.heap.size = bx := ⟨_, rfl⟩
      have hwok' : WOk E kk r.list ⟨kd, n, nm⟩ := hwd.out ▸ hwok.out
      have hwnm' : nm.length ≤ 100000 := by have := hwnm.out; have e : what E r.list (wordAt T.data.toList r.at_) = ⟨kd, n, nm⟩ := hwd.out; rw [e] at this; exact this
      have hsp := fun w1 F' hb' => speaks_walk g E kk T (rd1 T.data.toList r) bt ⟨kd, n, nm⟩ hwok' hwnm' (by show r.spoken.length < _; have := hI.out.spoken; have := hat.out; have := hT.out; omega) w1 F' hb'
      have hrd2 : speaks E (rd1 T.data.toList r) ⟨kd, n, nm⟩ = rd2 E T.data.toList r := by unfold rd2; rw [hwd.out]
      rw [hrd2] at hsp
      replace hsp := Lib.hid hsp
      replace hwok' := Lib.hid hwok'
      replace hwnm' := Lib.hid hwnm'
      clear hrd2 hwnm hwok
      refine (hon4.callA fun F' hb' => hsp.out _ F' hb').mono ?_
      rintro e w3 ⟨v, A', ⟨rfl, rfl⟩, rfl, hon5⟩
      rw [hbx] at hon5 ⊢
      clear hsp hon4 hon3
      obtain ⟨c5, f5, hg5⟩ := rd_cells hon5
      have hbk := hon5.swapA.blkA
      have x0 := hbk.cell 0
      have x1 := hbk.cell 1
      have x2 := hbk.cell 2
      simp at x0 x1 x2
      have hlx := hbk.lt
      clear hbk
      have hrl : (rd2 E T.data.toList r).list = r.list := rd2_list E T.data.toList r
      have hnd : ∀ w4, On F w (AllA [RdA g E kk T (rd2 E T.data.toList r) bt, BlkA bx 70 #[.int .i64 (kd : Int), .int .i64 (n : Int), .string ⟨nm.toArray⟩]]) w4 → Calls Tryz.prog 63 #[.pointer (some ⟨g, 0, none⟩), wordV ⟨kd, n, nm⟩] w4 (Fresh' (.int .i64 (needed E (rd2 E T.data.toList r).list ⟨kd, n, nm⟩ : Int)) w4) := by
        intro w4 h4
        obtain ⟨F4, h5⟩ := h4.firstA
        exact needF g E kk T _ bt _ (by rw [hrl]; exact hwok'.out) w4 F4 h5
      have hn32 : needed E r.list ⟨kd, n, nm⟩ < 32 := needed_lt hE.out hI.out.effs hwok'.out
      have hr32 : (rd2 E T.data.toList r).needs = r.needs := (speaks_keeps E (rd1 T.data.toList r) (rdW E T.data.toList r)).2.2.2.1
      have hor := or_nat (rd2 E T.data.toList r).needs (needed E (rd2 E T.data.toList r).list ⟨kd, n, nm⟩) (by rw [hr32]; have := hI.out.needs; exact Nat.lt_of_lt_of_le this (by decide)) (by rw [hrl]; exact Nat.lt_of_lt_of_le hn32 (by decide))
      have hrd3 : ({ rd2 E T.data.toList r with needs := (rd2 E T.data.toList r).needs ||| needed E (rd2 E T.data.toList r).list ⟨kd, n, nm⟩ } : Rd) = rd3 E T.data.toList r := by unfold rd3; rw [hwd.out]
      obtain ⟨nd, hndq⟩ : ∃ nd, needed E (rd2 E T.data.toList r).list ⟨kd, n, nm⟩ = nd := ⟨_, rfl⟩
      rw [hndq] at hnd hor hrd3
      replace hndq := Lib.hid hndq
      replace hnd := Lib.hid hnd
      replace hor := Lib.hid hor
      replace hrd3 := Lib.hid hrd3
      replace hn32 := Lib.hid hn32
      replace hrl := Lib.hid hrl
      replace hr32 := Lib.hid hr32
      replace hon5 := Lib.hid hon5
      replace hbx := Lib.hid hbx
      unfold wordV at hnd
      simp only [wordC] at hnd
      go_wp2_with fail
      go_upto_region 4 with fail
      go_cut [28] (fun a wx => a = .int .i64 (nd : Int) ∧ On F w (AllA [RdA g E kk T (rd3 E T.data.toList r) bt, BlkA bx 70 #[.int .i64 (kd : Int), .int .i64 (n : Int), .string ⟨nm.toArray⟩]]) wx)
      case first =>
        go_region_with ((go_at_call 63; refine (hnd.out _ hon5.out.drew).mono ?_; rintro e w4 ⟨rfl, hk⟩; have hon6 := hon5.out.drew.keptNob hk; obtain ⟨c5b, f5b, hg5b⟩ := rd_cells hon6; clear hk; replace hon6 := Lib.hid hon6))
        all_goals
          go_wp2_with fail
          go_meet
          rw [hor.out]
          exact ⟨rfl, hrd3.out ▸ rd_needs hon6.out _⟩
      case rest =>
        obtain ⟨rfl, hon7⟩ := hcut
        clear c5 f5 hg5 x0 x1 x2 hlx
        have hbk := hon7.swapA.blkA
        have x0 := hbk.cell 0
        have x1 := hbk.cell 1
        have x2 := hbk.cell 2
        simp at x0 x1 x2
        have hlx := hbk.lt
        clear hbk
        have hat3 : (rd3 E T.data.toList r).at_ ≤ T.size := by rw [rd3_at, ← hl.out]; exact wordEnd_le (by rw [hl.out]; exact hat.out)
        have hps := fun w1 F' hb' => passes_walk ⟨kd, n, nm⟩ g E kk T (by have := hT.out; omega) (rd3 E T.data.toList r) hat3 (by rw [rd3_list]; exact hwok'.out) bt w1 F' hb'
        rcases hp : passes T.data.toList (rd3 E T.data.toList r).at_ ⟨kd, n, nm⟩ with _ | i
        · rw [hp] at hps
          have hfin : rd3 E T.data.toList r = R := by rw [← hR.out]; exact (readAll_off (by rw [round_eq, if_neg hne2.out, hwd.out, hp])).symm
          replace hfin := Lib.hid hfin
          replace hps := Lib.hid hps
          replace hp := Lib.hid hp
          replace hat3 := Lib.hid hat3
          replace hon7 := Lib.hid hon7
          unfold wordV at hps
          simp only [wordC] at hps
          go_wp2_with fail
          refine (hon7.out.callA fun F' hb' => hps.out _ F' hb').mono ?_
          rintro e w5 ⟨v, A', ⟨rfl, rfl⟩, rfl, hon8⟩
          replace hon8 := Lib.hid hon8
          clear x0 x1 x2
          go_wp2_with fail
          go_end0
          exact (hfin.out ▸ hon8.out.headA).post ⟨rfl, rfl⟩
        · rw [hp] at hps
          have hrd4 : ({ rd3 E T.data.toList r with at_ := (some i).getD (rd3 E T.data.toList r).at_ } : Rd) = rd4 E T.data.toList r i := rfl
          rw [hrd4] at hps
          clear hrd4
          have hnm4 := fun w1 F' hb' => named_walk g E kk T (rd4 E T.data.toList r i) bt ⟨kd, n, nm⟩ (by show WOk E kk (rd3 E T.data.toList r).list _; rw [rd3_list]; exact hwok'.out) w1 F' hb'
          have hopen : (rd4 E T.data.toList r i).open_ = (rd3 E T.data.toList r).open_ := rfl
          rw [hopen] at hnm4
          obtain ⟨hi1, hi2⟩ := passes_at (by rw [hl.out]; exact hat3) hp
          replace hps := Lib.hid hps
          replace hp := Lib.hid hp
          replace hat3 := Lib.hid hat3
          replace hon7 := Lib.hid hon7
          replace hi1 := Lib.hid hi1
          replace hi2 := Lib.hid hi2
          replace hopen := Lib.hid hopen
          unfold wordV at hps hnm4
          simp only [wordC] at hps hnm4
          rcases hna : named (rd3 E T.data.toList r).open_.isSome ⟨kd, n, nm⟩ with _ | _
          all_goals
            rw [hna] at hnm4
            replace hnm4 := Lib.hid hnm4
            replace hna := Lib.hid hna
            go_wp2_with fail
            refine (hon7.out.callA fun F' hb' => hps.out _ F' hb').mono ?_
            rintro e w5 ⟨v, A', ⟨rfl, rfl⟩, rfl, hon8⟩
            clear x0 x1 x2
            have hbk := hon8.swapA.blkA
            have x0 := hbk.cell 0
            have x1 := hbk.cell 1
            have x2 := hbk.cell 2
            simp at x0 x1 x2
            clear hbk
            replace hon8 := Lib.hid hon8
            go_wp2_with fail
            refine (hon8.out.callA fun F' hb' => hnm4.out _ F' hb').mono ?_
            rintro e w6 ⟨v, A', ⟨rfl, rfl⟩, rfl, hon9⟩
            clear x0 x1 x2
            have hbk := hon9.swapA.blkA
            have x0 := hbk.cell 0
            have x1 := hbk.cell 1
            have x2 := hbk.cell 2
            simp at x0 x1 x2
            clear hbk
            replace hon9 := Lib.hid hon9
          · have hinv : RdB T.data.toList r.at_ 1 (rd4 E T.data.toList r i) := ((((hI.out.moved (i := wordEnd T.data.toList r.at_) (wordEnd_le (by rw [hl.out]; exact hat.out))).speaks E (rdW E T.data.toList r)).needed (n := needed E (rd2 E T.data.toList r).list (rdW E T.data.toList r)) (by rw [hrl.out, hwd.out]; exact hn32.out)).moved (i := i) hi2.out)
            have hxl : (rd4 E T.data.toList r i).list = r.list := by show (rd3 E T.data.toList r).list = r.list; exact rd3_list E T.data.toList r
            have hlt1 : r.at_ + 1 ≤ T.data.toList.length := Nat.le_trans (wordEnd_lt (by rw [hl.out]; exact hat.out) hne2.out) (wordEnd_le (by rw [hl.out]; exact hat.out))
            have hnml : ([] : List UInt8).length ≤ T.data.toList.length := by simp
            have hround : round E T.data.toList r = (does E (rd4 E T.data.toList r i) ⟨kd, n, nm⟩ [], true) := by rw [round_eq, if_neg hne2.out, hwd.out, hp.out]; simp only; rw [hna.out]; rfl
            have hdo := fun w1 F' hb' => does_walk g E kk T (rd4 E T.data.toList r i) bt ⟨kd, n, nm⟩ (by rw [hxl]; exact hwok'.out) (by rw [hxl]; exact Nat.lt_of_lt_of_le hn32.out (by decide)) (by have h1 := hinv.list; have h2 := hat.out; have h3 := hT.out; omega) hinv.wild (hinv.dok (by rw [hl.out]; have := hT.out; omega)) [] (by have := hnml; rw [hl.out] at this; have := hT.out; omega) w1 F' hb'
            have hinv2 := hinv.does (E := E) hlt1 (by omega) ⟨kd, n, nm⟩ (by rw [hxl]; exact hn32.out) hnml
            have hprog := round_on (by rw [hl.out]; exact hat.out) hround
            have hall := readAll_on (by rw [hl.out]; exact hat.out) hround
            obtain ⟨r9, hr9⟩ : ∃ r9, does E (rd4 E T.data.toList r i) ⟨kd, n, nm⟩ [] = r9 := ⟨_, rfl⟩
            rw [hr9] at hdo hinv2 hprog hall
            have hinv3 := hinv2.more hprog.1 hprog.2
            rw [hR.out] at hall
            clear hround hinv hinv2 hr9 hxl hlt1 hnml
            replace hdo := Lib.hid hdo
            replace hprog := Lib.hid hprog
            replace hall := Lib.hid hall
            replace hinv3 := Lib.hid hinv3
            unfold wordV at hdo
            simp only [wordC] at hdo
            go_wp2_with fail
            refine (hon9.out.callA fun F' hb' => hdo.out _ F' hb').mono ?_
            rintro e w9 ⟨v, A', ⟨rfl, rfl⟩, rfl, hon10⟩
            replace hon10 := Lib.hid hon10
            clear x0 x1 x2
            go_wp2_with fail
            go_roundw
            case rel => exact ⟨r9, hon10.out.headA, hinv3.out, hall.out.symm⟩
            case measure =>
              rw [atW_eq hon10.out.headA, hatw.out]
              have h1 := hprog.out
              rw [hl.out] at h1
              omega

          · obtain ⟨gs2, vl2, bl2, bsp2, bw2, vo2, c0b, hsrc2⟩ := rd_src hon9.out
            have hwd2 := fun w1 F' hb' => word_walk gs2 T (by have := hT.out; omega) i (by rw [← hl.out]; exact hi2.out) w1 F' hb'
            rw [extract_word] at hwd2
            obtain ⟨nw, hnw⟩ : ∃ nw, wordAt T.data.toList i = nw := ⟨_, rfl⟩
            rw [hnw] at hwd2
            replace hnw := Lib.hid hnw
            replace hwd2 := Lib.hid hwd2
            replace hsrc2 := Lib.hid hsrc2
            go_wp2_with fail
            refine (hsrc2.out.callA fun F' hb' => hwd2.out _ F' hb').mono ?_
            rintro e w7 ⟨v, A', ⟨rfl, rfl⟩, rfl, hon11⟩
            have hon12 := rd_back hon11
            have hr5 : ({ rd4 E T.data.toList r i with at_ := wordEnd T.data.toList i } : Rd) = rd5 E T.data.toList r i := rfl
            rw [hr5] at hon12
            clear hon11 hsrc2 hwd2 c0b hr5 x0 x1 x2
            have hbk := hon12.swapA.blkA
            have x0 := hbk.cell 0
            have x1 := hbk.cell 1
            have x2 := hbk.cell 2
            simp at x0 x1 x2
            clear hbk
            replace hon12 := Lib.hid hon12
            rcases hnn : nw with _ | ⟨y, nw'⟩
            · subst hnn
              have hfin : rd5 E T.data.toList r i = R := by rw [← hR.out]; exact (readAll_off (by rw [round_eq, if_neg hne2.out, hwd.out, hp.out]; simp only; rw [hna.out, if_pos rfl, if_pos hnw.out])).symm
              replace hfin := Lib.hid hfin
              clear x0 x1 x2
              go_wp2_with fail
              go_end0
              exact (hfin.out ▸ hon12.out.headA).post ⟨rfl, rfl⟩
            · rw [← hnn]
              have hne3 : nw.isEmpty = false := by rw [hnn]; rfl
              have hne4 : ¬ wordAt T.data.toList i = [] := by rw [hnw.out, hnn]; simp
              clear hnn
              replace hne4 := Lib.hid hne4
              have hnwl : nw.length ≤ T.data.toList.length := by rw [← hnw.out]; exact wordAt_len _ _
              by_cases htk : kd = 2 ∧ (n = 7 ∨ n = 8)
              · have hr6 : rd6 E T.data.toList r i = speaks E (rd5 E T.data.toList r i) (what E (rd5 E T.data.toList r i).list nw) := by unfold rd6; rw [hwd.out, if_pos htk, hnw.out]
                have hinv5 : RdB T.data.toList r.at_ 1 (rd5 E T.data.toList r i) := (((((hI.out.moved (i := wordEnd T.data.toList r.at_) (wordEnd_le (by rw [hl.out]; exact hat.out))).speaks E (rdW E T.data.toList r)).needed (n := needed E (rd2 E T.data.toList r).list (rdW E T.data.toList r)) (by rw [hrl.out, hwd.out]; exact hn32.out)).moved (i := i) hi2.out).moved (i := wordEnd T.data.toList i) (wordEnd_le hi2.out))
                have hwh := fun w1 F' hb' => what_walk g E kk T (rd5 E T.data.toList r i) bt ⟨nw.toArray⟩ (by show nw.toArray.size ≤ _; rw [List.size_toArray]; have h1 := hnwl; rw [hl.out] at h1; have := hT.out; omega) w1 F' hb'
                have hwdef : what E (rd5 E T.data.toList r i).list (⟨nw.toArray⟩ : ByteArray).data.toList = what E (rd5 E T.data.toList r i).list nw := rfl
                rw [hwdef] at hwh
                obtain ⟨hwok2, hwnm2⟩ := what_ok hE.out kk (rd5 E T.data.toList r i).list (by have := hinv5.list; have := hat.out; have := hT.out; omega) nw
                have hsp := fun w1 F' hb' => speaks_walk g E kk T (rd5 E T.data.toList r i) bt (what E (rd5 E T.data.toList r i).list nw) hwok2 hwnm2 (by have := hinv5.spoken; have := hat.out; have := hT.out; omega) w1 F' hb'
                rw [← hr6] at hsp
                have hinv6 : RdB T.data.toList r.at_ 2 (rd6 E T.data.toList r i) := by rw [hr6]; exact hinv5.speaks E _
                have hl6 : (rd6 E T.data.toList r i).list = r.list := by rw [hr6, (speaks_keeps E (rd5 E T.data.toList r i) _).2.1]; exact rd3_list E T.data.toList r
                generalize what E (rd5 E T.data.toList r i).list nw = wd2 at *
                obtain ⟨kd2, n2, nm2⟩ := wd2
                clear hr6 hinv5 hwdef hwok2 hwnm2
                replace hwh := Lib.hid hwh
                replace hsp := Lib.hid hsp
                replace hinv6 := Lib.hid hinv6
                replace hl6 := Lib.hid hl6
                unfold wordV at hwh hsp
                simp only [wordC] at hwh hsp
                obtain ⟨rfl, hn78⟩ := htk
                rcases hn78 with rfl | rfl
                · go_wp2_with fail
                  refine (hon12.out.callA fun F' hb' => hwh.out _ F' hb').mono ?_
                  rintro e w8 ⟨v, A', ⟨rfl, rfl⟩, rfl, hon13⟩
                  replace hon13 := Lib.hid hon13
                  clear x0 x1 x2
                  go_wp2_with fail
                  refine (hon13.out.callA fun F' hb' => hsp.out _ F' hb').mono ?_
                  rintro e w8b ⟨v, A', ⟨rfl, rfl⟩, rfl, hon14⟩
                  have hbk := hon14.swapA.blkA
                  have x0 := hbk.cell 0
                  have x1 := hbk.cell 1
                  have x2 := hbk.cell 2
                  simp at x0 x1 x2
                  clear hbk
                  replace hon14 := Lib.hid hon14
                  have hinv : RdB T.data.toList r.at_ 2 (rd6 E T.data.toList r i) := hinv6.out
                  have hxl : (rd6 E T.data.toList r i).list = r.list := by exact hl6.out
                  have hlt1 : r.at_ + 1 ≤ T.data.toList.length := Nat.le_trans (wordEnd_lt (by rw [hl.out]; exact hat.out) hne2.out) (wordEnd_le (by rw [hl.out]; exact hat.out))
                  have hnml : (nw : List UInt8).length ≤ T.data.toList.length := hnwl
                  have hround : round E T.data.toList r = (does E (rd6 E T.data.toList r i) ⟨2, 7, nm⟩ nw, true) := by rw [round_eq, if_neg hne2.out, hwd.out, hp.out]; simp only; rw [hna.out, if_pos rfl, if_neg hne4.out, hnw.out]
                  have hdo := fun w1 F' hb' => does_walk g E kk T (rd6 E T.data.toList r i) bt ⟨2, 7, nm⟩ (by rw [hxl]; exact hwok'.out) (by rw [hxl]; exact Nat.lt_of_lt_of_le hn32.out (by decide)) (by have h1 := hinv.list; have h2 := hat.out; have h3 := hT.out; omega) hinv.wild (hinv.dok (by rw [hl.out]; have := hT.out; omega)) nw (by have := hnml; rw [hl.out] at this; have := hT.out; omega) w1 F' hb'
                  have hinv2 := hinv.does (E := E) hlt1 (by omega) ⟨2, 7, nm⟩ (by rw [hxl]; exact hn32.out) hnml
                  have hprog := round_on (by rw [hl.out]; exact hat.out) hround
                  have hall := readAll_on (by rw [hl.out]; exact hat.out) hround
                  obtain ⟨r9, hr9⟩ : ∃ r9, does E (rd6 E T.data.toList r i) ⟨2, 7, nm⟩ nw = r9 := ⟨_, rfl⟩
                  rw [hr9] at hdo hinv2 hprog hall
                  have hinv3 := hinv2.more hprog.1 hprog.2
                  rw [hR.out] at hall
                  clear hround hinv hinv2 hr9 hxl hlt1 hnml
                  replace hdo := Lib.hid hdo
                  replace hprog := Lib.hid hprog
                  replace hall := Lib.hid hall
                  replace hinv3 := Lib.hid hinv3
                  unfold wordV at hdo
                  simp only [wordC] at hdo
                  go_wp2_with fail
                  refine (hon14.out.callA fun F' hb' => hdo.out _ F' hb').mono ?_
                  rintro e w9 ⟨v, A', ⟨rfl, rfl⟩, rfl, hon10⟩
                  replace hon10 := Lib.hid hon10
                  clear x0 x1 x2
                  go_wp2_with fail
                  go_roundw
                  case rel => exact ⟨r9, hon10.out.headA, hinv3.out, hall.out.symm⟩
                  case measure =>
                    rw [atW_eq hon10.out.headA, hatw.out]
                    have h1 := hprog.out
                    rw [hl.out] at h1
                    omega
                · go_wp2_with fail
                  refine (hon12.out.callA fun F' hb' => hwh.out _ F' hb').mono ?_
                  rintro e w8 ⟨v, A', ⟨rfl, rfl⟩, rfl, hon13⟩
                  replace hon13 := Lib.hid hon13
                  clear x0 x1 x2
                  go_wp2_with fail
                  refine (hon13.out.callA fun F' hb' => hsp.out _ F' hb').mono ?_
                  rintro e w8b ⟨v, A', ⟨rfl, rfl⟩, rfl, hon14⟩
                  have hbk := hon14.swapA.blkA
                  have x0 := hbk.cell 0
                  have x1 := hbk.cell 1
                  have x2 := hbk.cell 2
                  simp at x0 x1 x2
                  clear hbk
                  replace hon14 := Lib.hid hon14
                  have hinv : RdB T.data.toList r.at_ 2 (rd6 E T.data.toList r i) := hinv6.out
                  have hxl : (rd6 E T.data.toList r i).list = r.list := by exact hl6.out
                  have hlt1 : r.at_ + 1 ≤ T.data.toList.length := Nat.le_trans (wordEnd_lt (by rw [hl.out]; exact hat.out) hne2.out) (wordEnd_le (by rw [hl.out]; exact hat.out))
                  have hnml : (nw : List UInt8).length ≤ T.data.toList.length := hnwl
                  have hround : round E T.data.toList r = (does E (rd6 E T.data.toList r i) ⟨2, 8, nm⟩ nw, true) := by rw [round_eq, if_neg hne2.out, hwd.out, hp.out]; simp only; rw [hna.out, if_pos rfl, if_neg hne4.out, hnw.out]
                  have hdo := fun w1 F' hb' => does_walk g E kk T (rd6 E T.data.toList r i) bt ⟨2, 8, nm⟩ (by rw [hxl]; exact hwok'.out) (by rw [hxl]; exact Nat.lt_of_lt_of_le hn32.out (by decide)) (by have h1 := hinv.list; have h2 := hat.out; have h3 := hT.out; omega) hinv.wild (hinv.dok (by rw [hl.out]; have := hT.out; omega)) nw (by have := hnml; rw [hl.out] at this; have := hT.out; omega) w1 F' hb'
                  have hinv2 := hinv.does (E := E) hlt1 (by omega) ⟨2, 8, nm⟩ (by rw [hxl]; exact hn32.out) hnml
                  have hprog := round_on (by rw [hl.out]; exact hat.out) hround
                  have hall := readAll_on (by rw [hl.out]; exact hat.out) hround
                  obtain ⟨r9, hr9⟩ : ∃ r9, does E (rd6 E T.data.toList r i) ⟨2, 8, nm⟩ nw = r9 := ⟨_, rfl⟩
                  rw [hr9] at hdo hinv2 hprog hall
                  have hinv3 := hinv2.more hprog.1 hprog.2
                  rw [hR.out] at hall
                  clear hround hinv hinv2 hr9 hxl hlt1 hnml
                  replace hdo := Lib.hid hdo
                  replace hprog := Lib.hid hprog
                  replace hall := Lib.hid hall
                  replace hinv3 := Lib.hid hinv3
                  unfold wordV at hdo
                  simp only [wordC] at hdo
                  go_wp2_with fail
                  refine (hon14.out.callA fun F' hb' => hdo.out _ F' hb').mono ?_
                  rintro e w9 ⟨v, A', ⟨rfl, rfl⟩, rfl, hon10⟩
                  replace hon10 := Lib.hid hon10
                  clear x0 x1 x2
                  go_wp2_with fail
                  go_roundw
                  case rel => exact ⟨r9, hon10.out.headA, hinv3.out, hall.out.symm⟩
                  case measure =>
                    rw [atW_eq hon10.out.headA, hatw.out]
                    have h1 := hprog.out
                    rw [hl.out] at h1
                    omega
              · have hr6 : rd6 E T.data.toList r i = rd5 E T.data.toList r i := by unfold rd6; rw [hwd.out, if_neg htk]
                have htk2 : ((kd : Int) == 2 && ((n : Int) == 7 || (n : Int) == 8)) = false := by
                  rw [Bool.and_eq_false_iff, Bool.or_eq_false_iff, beq_eq_false_iff_ne, beq_eq_false_iff_ne, beq_eq_false_iff_ne]
                  omega
                have hinv5 : RdB T.data.toList r.at_ 2 (rd5 E T.data.toList r i) := by
                  have h := (((((hI.out.moved (i := wordEnd T.data.toList r.at_) (wordEnd_le (by rw [hl.out]; exact hat.out))).speaks E (rdW E T.data.toList r)).needed (n := needed E (rd2 E T.data.toList r).list (rdW E T.data.toList r)) (by rw [hrl.out, hwd.out]; exact hn32.out)).moved (i := i) hi2.out).moved (i := wordEnd T.data.toList i) (wordEnd_le hi2.out))
                  exact ⟨h.at_, h.m_le, h.list, h.wild, Nat.le_trans h.spoken (by omega), h.needs, h.effs, h.open_⟩
                have hon12b : On F w (AllA [RdA g E kk T (rd6 E T.data.toList r i) bt, BlkA bx 70 #[.int .i64 (kd : Int), .int .i64 (n : Int), .string ⟨nm.toArray⟩]]) w7 := hr6 ▸ hon12.out
                replace hon12 := Lib.hid hon12b
                clear hon12b
                by_cases hk2 : kd = 2
                · subst hk2
                  have hq7 : ((n : Int) == 7) = false := by rw [beq_eq_false_iff_ne]; omega
                  have hq8 : ((n : Int) == 8) = false := by rw [beq_eq_false_iff_ne]; omega
                  clear htk htk2
                  have hinv : RdB T.data.toList r.at_ 2 (rd6 E T.data.toList r i) := (hr6 ▸ hinv5 : RdB T.data.toList r.at_ 2 (rd6 E T.data.toList r i))
                  have hxl : (rd6 E T.data.toList r i).list = r.list := by rw [hr6]; exact rd3_list E T.data.toList r
                  have hlt1 : r.at_ + 1 ≤ T.data.toList.length := Nat.le_trans (wordEnd_lt (by rw [hl.out]; exact hat.out) hne2.out) (wordEnd_le (by rw [hl.out]; exact hat.out))
                  have hnml : (nw : List UInt8).length ≤ T.data.toList.length := hnwl
                  have hround : round E T.data.toList r = (does E (rd6 E T.data.toList r i) ⟨2, n, nm⟩ nw, true) := by rw [round_eq, if_neg hne2.out, hwd.out, hp.out]; simp only; rw [hna.out, if_pos rfl, if_neg hne4.out, hnw.out]
                  have hdo := fun w1 F' hb' => does_walk g E kk T (rd6 E T.data.toList r i) bt ⟨2, n, nm⟩ (by rw [hxl]; exact hwok'.out) (by rw [hxl]; exact Nat.lt_of_lt_of_le hn32.out (by decide)) (by have h1 := hinv.list; have h2 := hat.out; have h3 := hT.out; omega) hinv.wild (hinv.dok (by rw [hl.out]; have := hT.out; omega)) nw (by have := hnml; rw [hl.out] at this; have := hT.out; omega) w1 F' hb'
                  have hinv2 := hinv.does (E := E) hlt1 (by omega) ⟨2, n, nm⟩ (by rw [hxl]; exact hn32.out) hnml
                  have hprog := round_on (by rw [hl.out]; exact hat.out) hround
                  have hall := readAll_on (by rw [hl.out]; exact hat.out) hround
                  obtain ⟨r9, hr9⟩ : ∃ r9, does E (rd6 E T.data.toList r i) ⟨2, n, nm⟩ nw = r9 := ⟨_, rfl⟩
                  rw [hr9] at hdo hinv2 hprog hall
                  have hinv3 := hinv2.more hprog.1 hprog.2
                  rw [hR.out] at hall
                  clear hround hinv hinv2 hr9 hxl hlt1 hnml
                  replace hdo := Lib.hid hdo
                  replace hprog := Lib.hid hprog
                  replace hall := Lib.hid hall
                  replace hinv3 := Lib.hid hinv3
                  unfold wordV at hdo
                  simp only [wordC] at hdo
                  go_wp2_with fail
                  refine (hon12.out.callA fun F' hb' => hdo.out _ F' hb').mono ?_
                  rintro e w9 ⟨v, A', ⟨rfl, rfl⟩, rfl, hon10⟩
                  replace hon10 := Lib.hid hon10
                  clear x0 x1 x2
                  go_wp2_with fail
                  go_roundw
                  case rel => exact ⟨r9, hon10.out.headA, hinv3.out, hall.out.symm⟩
                  case measure =>
                    rw [atW_eq hon10.out.headA, hatw.out]
                    have h1 := hprog.out
                    rw [hl.out] at h1
                    omega
                · have hqk : ((kd : Int) == 2) = false := by rw [beq_eq_false_iff_ne]; omega
                  clear htk htk2 hk2
                  have hinv : RdB T.data.toList r.at_ 2 (rd6 E T.data.toList r i) := (hr6 ▸ hinv5 : RdB T.data.toList r.at_ 2 (rd6 E T.data.toList r i))
                  have hxl : (rd6 E T.data.toList r i).list = r.list := by rw [hr6]; exact rd3_list E T.data.toList r
                  have hlt1 : r.at_ + 1 ≤ T.data.toList.length := Nat.le_trans (wordEnd_lt (by rw [hl.out]; exact hat.out) hne2.out) (wordEnd_le (by rw [hl.out]; exact hat.out))
                  have hnml : (nw : List UInt8).length ≤ T.data.toList.length := hnwl
                  have hround : round E T.data.toList r = (does E (rd6 E T.data.toList r i) ⟨kd, n, nm⟩ nw, true) := by rw [round_eq, if_neg hne2.out, hwd.out, hp.out]; simp only; rw [hna.out, if_pos rfl, if_neg hne4.out, hnw.out]
                  have hdo := fun w1 F' hb' => does_walk g E kk T (rd6 E T.data.toList r i) bt ⟨kd, n, nm⟩ (by rw [hxl]; exact hwok'.out) (by rw [hxl]; exact Nat.lt_of_lt_of_le hn32.out (by decide)) (by have h1 := hinv.list; have h2 := hat.out; have h3 := hT.out; omega) hinv.wild (hinv.dok (by rw [hl.out]; have := hT.out; omega)) nw (by have := hnml; rw [hl.out] at this; have := hT.out; omega) w1 F' hb'
                  have hinv2 := hinv.does (E := E) hlt1 (by omega) ⟨kd, n, nm⟩ (by rw [hxl]; exact hn32.out) hnml
                  have hprog := round_on (by rw [hl.out]; exact hat.out) hround
                  have hall := readAll_on (by rw [hl.out]; exact hat.out) hround
                  obtain ⟨r9, hr9⟩ : ∃ r9, does E (rd6 E T.data.toList r i) ⟨kd, n, nm⟩ nw = r9 := ⟨_, rfl⟩
                  rw [hr9] at hdo hinv2 hprog hall
                  have hinv3 := hinv2.more hprog.1 hprog.2
                  rw [hR.out] at hall
                  clear hround hinv hinv2 hr9 hxl hlt1 hnml
                  replace hdo := Lib.hid hdo
                  replace hprog := Lib.hid hprog
                  replace hall := Lib.hid hall
                  replace hinv3 := Lib.hid hinv3
                  unfold wordV at hdo
                  simp only [wordC] at hdo
                  go_wp2_with fail
                  refine (hon12.out.callA fun F' hb' => hdo.out _ F' hb').mono ?_
                  rintro e w9 ⟨v, A', ⟨rfl, rfl⟩, rfl, hon10⟩
                  replace hon10 := Lib.hid hon10
                  clear x0 x1 x2
                  go_wp2_with fail
                  go_roundw
                  case rel => exact ⟨r9, hon10.out.headA, hinv3.out, hall.out.symm⟩
                  case measure =>
                    rw [atW_eq hon10.out.headA, hatw.out]
                    have h1 := hprog.out
                    rw [hl.out] at h1
                    omega

end Look
end Go.Proofs.YthejfkkmcbdlhaaGreatDoor
