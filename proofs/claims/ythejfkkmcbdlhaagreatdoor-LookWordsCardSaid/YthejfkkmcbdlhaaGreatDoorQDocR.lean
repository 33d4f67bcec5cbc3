/- The document's reader reads a text to its end: it has then read as the program's reader has. Conditions: the text is no longer than a source may be; the kernel's words are in order. -/
import Derived.Test.YthejfkkmcbdlhaaGreatDoorQDocF
import Derived.Test.YthejfkkmcbdlhaaGreatDoorQDocG
import Derived.Test.YthejfkkmcbdlhaaGreatDoorQDocH
import Derived.Test.YthejfkkmcbdlhaaGreatDoorQDocD
import Derived.Deep.RegionHeld
namespace Go.Proofs.YthejfkkmcbdlhaaGreatDoor
set_option linter.unusedVariables false
set_option maxRecDepth 100000
open Go.RowKit Go.Lib
namespace Look
/-- how far the document's reader has read, off memory -/
def atT (w : World) (g : Nat) : Nat := match w.cell? ⟨g, 1, none⟩ with
  | some v => (RowKit.intOf v).toNat
  | none => 0
/-- what a walk asks of the reader's struct -/
structure TF (w : World) (g : Nat) (op : Option (List UInt8 × List Open)) : Prop where
  c4 : ∃ b, w.cell? ⟨g, 4, none⟩ = some (.bool b)
  c5 : ∃ m, w.cell? ⟨g, 5, none⟩ = some (.int .i64 m)
  f2 : w.frozen? ⟨g, 2, none⟩ = false
  f4 : w.frozen? ⟨g, 4, none⟩ = false
  f5 : w.frozen? ⟨g, 5, none⟩ = false
  f7 : w.frozen? ⟨g, 7, none⟩ = false
  lt : g < w.heap.size
  p0 : op.isSome = false → w.cell? ⟨g, 7, none⟩ = some (.pointer none)
  p1 : op.isSome = true → ∃ gd, w.cell? ⟨g, 7, none⟩ = some (.pointer (some ⟨gd, 0, none⟩))
section
variable {g : Nat} {T : ByteArray} {src : List (List UInt8)} {x : Tx} {w w' : World} {F : Nat → Prop} {L : List Asr}
theorem atT_eq (h : On F w (AllA (TextA g T src x :: L)) w') : atT w' g = x.at_ := by
  obtain ⟨F', ha⟩ := h.firstA
  obtain ⟨vo, vs, lo, nd, vr, vp, hon⟩ := TextA.opened (On.refl ha)
  have c1 := hon.blkA.cell 1
  simp [txC] at c1
  unfold atT
  rw [c1]
  simp [RowKit.intOf]
theorem text_facts (h : On F w (AllA (TextA g T src x :: L)) w') : TF w' g x.op := by
  obtain ⟨F', ha⟩ := h.firstA
  obtain ⟨vo, vs, lo, nd, vr, vp, hon⟩ := TextA.opened (On.refl ha)
  have hB := hon.blkA
  obtain ⟨_, hO⟩ := hon.mem (A := OpenD vp x.op) (by simp [txL])
  have c4 := hB.cell 4
  have c5 := hB.cell 5
  have c7 := hB.cell 7
  simp [txC] at c4 c5 c7
  refine ⟨⟨_, c4⟩, ⟨_, c5⟩, hB.frozen 2, hB.frozen 4, hB.frozen 5, hB.frozen 7, hB.lt, fun h0 => ?_, fun h1 => ?_⟩
  · rcases openD_ptr hO with ⟨_, rfl⟩ | ⟨h2, _⟩
    · exact c7
    · rw [h0] at h2; cases h2
  · rcases openD_ptr hO with ⟨h2, _⟩ | ⟨_, gd, rfl⟩
    · rw [h1] at h2; cases h2
    · exact ⟨gd, c7⟩
theorem TextA.set4 (h : On F w (AllA (TextA g T src x :: L)) w') (b : Bool) : On F w (AllA (TextA g T src x :: L)) (w'.setCell ⟨g, 4, none⟩ (.bool b)) := by
  refine h.stepA fun F' ha => ?_
  obtain ⟨vo, vs, lo, nd, vr, vp, hon⟩ := TextA.opened (On.refl ha)
  exact TextA.close (vo := vo) (vs := vs) (lo := b) (nd := nd) (vr := vr) (vp := vp) (hon.setA 4 (.bool b))
theorem TextA.set5 (h : On F w (AllA (TextA g T src x :: L)) w') (m : Int) : On F w (AllA (TextA g T src x :: L)) (w'.setCell ⟨g, 5, none⟩ (.int .i64 m)) := by
  refine h.stepA fun F' ha => ?_
  obtain ⟨vo, vs, lo, nd, vr, vp, hon⟩ := TextA.opened (On.refl ha)
  exact TextA.close (vo := vo) (vs := vs) (lo := lo) (nd := m) (vr := vr) (vp := vp) (hon.setA 5 (.int .i64 m))
end
theorem onAt_name {T : List UInt8} {a k n a' : Nat} {o : Bool} {name : List UInt8} (h : onAt T a o k n = (a', true, name)) : name.length ≤ T.length ∧ (two o k n = true → name ≠ []) := by
  unfold onAt at h
  rcases hp : passes T a ⟨k, n, []⟩ with _ | i
  · rw [hp] at h; simp at h
  · rw [hp] at h
    simp only at h
    split at h
    · simp at h
      obtain ⟨-, h2, rfl⟩ := h
      exact ⟨wordAt_len T i, fun _ => h2⟩
    · next hn =>
      simp at h
      obtain ⟨-, rfl⟩ := h
      refine ⟨by simp, fun h2 => ?_⟩
      rw [two_no (by simpa using hn)] at h2
      cases h2
/-- names are short -/
structure Fine (x : Tx) : Prop where
  own : ∀ a ∈ x.own, a.length ≤ 100000
  op : ∀ nm l, x.op = some (nm, l) → nm.length ≤ 100000
theorem Fine.out {x : Tx} (h : Fine x) (k n : Nat) {name : List UInt8} (hn : name.length ≤ 100000) : Fine (outX x k n name) := by
  unfold outX
  split
  · refine ⟨fun a ha => ?_, h.op⟩
    rcases List.mem_append.1 ha with ha | ha
    · exact h.own a ha
    · rw [List.mem_singleton] at ha; subst ha; exact hn
  · split
    · exact ⟨h.own, fun nm l he => by cases he; exact hn⟩
    · exact h
theorem outX_at (x : Tx) (k n : Nat) (name : List UInt8) : (outX x k n name).at_ = x.at_ := by
  unfold outX
  split
  · rfl
  · split <;> rfl
/-- a round ends well: the state behind it -/
theorem round_rel {E : Env} {T : List UInt8} {r r' R : Rd} (hle : r.at_ ≤ T.length) (hr : round E T r = (r', true)) (hR : readAll E T r = R) : readAll E T r' = R := by rw [← readAll_on hle hr]; exact hR
/-- the open definition to the front, its struct and row -/
theorem On.defA {vp : Value} {nm : List UInt8} {l : List Open} {w w' : World} {F : Nat → Prop} {L : List Asr} (h : On F w (AllA (OpenD vp (some (nm, l)) :: L)) w') : ∃ gd vs, vp = .pointer (some ⟨gd, 0, none⟩) ∧ On F w (AllA (DdB gd nm l vs :: L)) w' := by
  obtain ⟨F', ⟨F1, F2, ⟨gd, vs, he, h1⟩, h2, hd, hF⟩, hk, hF'⟩ := h
  exact ⟨gd, vs, he, F', ⟨F1, F2, h1, h2, hd, hF⟩, hk, hF'⟩
theorem On.defC {gd : Nat} {nm : List UInt8} {l : List Open} {vs : Value} {w w' : World} {F : Nat → Prop} {L : List Asr} (h : On F w (AllA (DdB gd nm l vs :: L)) w') : On F w (AllA (OpenD (.pointer (some ⟨gd, 0, none⟩)) (some (nm, l)) :: L)) w' :=
  h.stepA fun F' h' => On.refl ⟨gd, vs, rfl, h'⟩
theorem TextA.loose {g : Nat} {T : ByteArray} {src : List (List UInt8)} {a : Nat} {own sp : List (List UInt8)} {nm : List UInt8} {l : List Open} {w w' : World} {F : Nat → Prop} {L : List Asr} (h : On F w (AllA (TextA g T src ⟨a, own, sp, some (nm, l)⟩ :: L)) w') : ∃ gd, w'.cell? ⟨g, 7, none⟩ = some (.pointer (some ⟨gd, 0, none⟩)) ∧ (∃ b, w'.cell? ⟨gd, 3, none⟩ = some (.bool b)) ∧ w'.frozen? ⟨gd, 3, none⟩ = false ∧ gd < w'.heap.size ∧ On F w (AllA (TextA g T src ⟨a, own, sp, some (nm, l)⟩ :: L)) (w'.setCell ⟨gd, 3, none⟩ (.bool true)) := by
  obtain ⟨gd, h7⟩ := (text_facts h).p1 rfl
  have key : ∀ F', (TextA g T src ⟨a, own, sp, some (nm, l)⟩).holds w' F' → (∃ b, w'.cell? ⟨gd, 3, none⟩ = some (.bool b)) ∧ w'.frozen? ⟨gd, 3, none⟩ = false ∧ gd < w'.heap.size ∧ On F' w' (TextA g T src ⟨a, own, sp, some (nm, l)⟩) (w'.setCell ⟨gd, 3, none⟩ (.bool true)) := by
    intro F' ha
    obtain ⟨vo, vs, lo, nd, vr, vp, hon⟩ := TextA.opened (On.refl ha)
    have c7 := hon.blkA.cell 7
    simp [txC] at c7
    rw [h7] at c7
    cases c7
    obtain ⟨gd', vd, he, hon1⟩ := On.defA (On.pullA (A := OpenD _ (some (nm, l))) (L2 := []) [_, _, _, _] hon)
    cases he
    obtain ⟨_, hD⟩ := hon1.firstA
    obtain ⟨kn, nd2, lo2, n0, h0, rr, dd, en, hh, hblk⟩ := hD.1
    have hon2 := DdB.setL hon1 3 (.bool true) (.b (by simp) _)
    have c3 := hblk.cell 3
    simp [ddC] at c3
    exact ⟨⟨_, c3⟩, hblk.frozen 3, hblk.lt, TextA.close (x := ⟨a, own, sp, some (nm, l)⟩) (On.pushA (A := OpenD _ (some (nm, l))) (L2 := []) [_, _, _, _] (On.defC hon2))⟩
  obtain ⟨F1, h1⟩ := h.firstA
  obtain ⟨k0, k1, k2, _⟩ := key F1 h1
  exact ⟨gd, h7, k0, k1, k2, h.stepA fun F' ha => (key F' ha).2.2.2⟩
set_option maxHeartbeats 16000000 in
theorem t_read (g : Nat) (T : ByteArray) (hT : T.size ≤ 60000) (src : List (List UInt8)) (hsrc : ∀ a ∈ src, a.length ≤ 100000) (N : Env) (hN : EnvD N src) (x0 : Tx) (r0 : Rd) (hrel0 : Rel r0 x0) (hfine0 : Fine x0) (hle0 : r0.at_ ≤ T.size) (w : World) (F : Nat → Prop) (hb : (TextA g T src x0).holds w F) :
    Calls Tryz.prog 29 #[.pointer (some ⟨g, 0, none⟩)] w (Post (fun u B => u = .tuple #[] ∧ ∃ x, Rel (readAll N T.data.toList r0) x ∧ B = TextA g T src x) F w) := by
  have hon0 := (On.refl hb).one
  have hl : T.data.toList.length = T.size := by rw [Lib.size_eq]
  obtain ⟨R, hR0⟩ : ∃ R, readAll N T.data.toList r0 = R := ⟨_, rfl⟩
  rw [hR0]
  clear hb
  replace hon0 := Lib.hid hon0
  replace hrel0 := Lib.hid hrel0
  replace hfine0 := Lib.hid hfine0
  replace hle0 := Lib.hid hle0
  replace hR0 := Lib.hid hR0
  replace hl := Lib.hid hl
  replace hN := Lib.hid hN
  replace hsrc := Lib.hid hsrc
  replace hT := Lib.hid hT
  go_enter Tryz.func29, Tryz.ntmps29
  go_wp2
  go_loopw [] (fun wr => ∃ (x : Tx) (r : Rd), On F w (AllA [TextA g T src x]) wr ∧ Rel r x ∧ Fine x ∧ r.at_ ≤ T.size ∧ readAll N T.data.toList r = R) (fun wr => T.size - atT wr g)
  case atStart => exact ⟨x0, r0, hon0.out, hrel0.out, hfine0.out, hle0.out, hR0.out⟩
  case round =>
    obtain ⟨⟨at0, own, sp, op⟩, r, hon, hrl, hfn, hat, hR⟩ := hrel
    clear hon0 hrel0 hfine0 hle0 hR0
    have hax : at0 ≤ T.size := by have := hrl.at_; simp only at this; rw [this]; exact hat
    have hatw := atT_eq hon
    simp only at hatw
    have hwd := fun w1 F' hb' => t_word g T hT.out src ⟨at0, own, sp, op⟩ hax w1 F' hb'
    have hlen := wordAt_len T.data.toList at0
    rw [hl.out] at hlen
    have hT60 := hT.out
    obtain ⟨S, hS⟩ : ∃ S, wordAt T.data.toList at0 = S := ⟨_, rfl⟩
    obtain ⟨E, hE⟩ : ∃ E, wordEnd T.data.toList at0 = E := ⟨_, rfl⟩
    have hEle : E ≤ T.size := by rw [← hE, ← hl.out]; exact wordEnd_le (by rw [hl.out]; exact hax)
    simp only [hS, hE] at hwd
    rw [hS] at hlen
    have hownl := hrl.ownl
    have hspl := hrl.spl
    simp only at hownl hspl
    replace hon := Lib.hid hon
    replace hrl := Lib.hid hrl
    replace hfn := Lib.hid hfn
    replace hat := Lib.hid hat
    replace hR := Lib.hid hR
    replace hatw := Lib.hid hatw
    replace hwd := Lib.hid hwd
    replace hS := Lib.hid hS
    replace hE := Lib.hid hE
    go_wp2_with fail
    refine (hon.out.callA fun F' hb' => hwd.out _ F' hb').mono ?_
    rintro e w1 ⟨v', A', ⟨rfl, rfl⟩, rfl, hon1⟩
    replace hon1 := Lib.hid hon1
    clear hwd hon
    rcases hsn : S with _ | ⟨c, S'⟩
    · subst hsn
      have hfin := rel_word (E := N) (T := T.data.toList) hrl.out (by rw [hl.out]; exact hat.out) hS.out
      simp only [hE.out, hR.out] at hfin
      replace hfin := Lib.hid hfin
      go_wp2_with fail
      go_end0
      exact hon1.out.headA.post ⟨rfl, _, by rw [hfin.out.1]; exact hfin.out.2, rfl⟩
    · rw [← hsn]
      have hne : S.isEmpty = false := by rw [hsn]; rfl
      have hne2 : S ≠ [] := by rw [hsn]; simp
      clear hsn
      have hwh := fun w1 F' hb' => t_what g T src ⟨E, own, sp, op⟩ hfn.out.own hsrc.out S (by omega) hne2 w1 F' hb'
      replace hwh := Lib.hid hwh
      replace hne2 := Lib.hid hne2
      go_wp2_with fail
      refine (hon1.out.callA fun F' hb' => hwh.out _ F' hb').mono ?_
      rintro e w2 ⟨v', A', ⟨⟨k, n, nm, en, i, o, kn, nd, lo, rfl, hdw⟩, rfl⟩, rfl, hon2⟩
      try simp only at hdw
      have hk5 := docW_kind hdw
      have hk2 : k = 2 → 1 ≤ n ∧ n ≤ 36 := fun h => by subst h; exact docW_two hdw
      have htf := text_facts hon2
      clear hwh hon1 hne
      have hon3 := (hon2.boxA (wdC k n nm en i o kn nd lo) 89).swapA
      obtain ⟨bx, hbx⟩ : ∃ bx, w2.heap.size = bx := ⟨_, rfl⟩
      have hsp := fun w1 F' hb' => t_speaks g T src ⟨E, own, sp, op⟩ (by show sp.length ≤ 200000; omega) k n hk5 nm en i o kn nd lo w1 F' hb'
      obtain ⟨sp1, hsp1⟩ : ∃ sp1, spk sp k nm = sp1 := ⟨_, rfl⟩
      simp only [hsp1] at hsp
      have hls := fun wi w => d_loose k n hk5 nm en i o kn nd lo wi w
      have hnd := fun w => d_needs k n hk5 nm en i o kn nd lo w
      have hpo := fun w1 F' hb' => t_on g T hT.out src ⟨E, own, sp1, op⟩ hEle k n hk5 nm en i o kn nd lo w1 F' hb'
      obtain ⟨wi, hwi⟩ : ∃ wi, op.isSome = wi := ⟨_, rfl⟩
      obtain ⟨⟨a, ok, name⟩, hoa⟩ : ∃ q, onAt T.data.toList E wi k n = q := ⟨_, rfl⟩
      simp only [hwi, hoa] at hpo
      have hout := fun (a : Nat) (sp3 : List (List UInt8)) (name : List UInt8) (hown : own.length ≤ 100000) w1 F' hb' => t_outside g T src ⟨a, own, sp3, op⟩ hown k n hk5 name nm en i o kn nd lo w1 F' hb'
      unfold wdV wdC at *
      replace hon3 := Lib.hid hon3
      replace hdw := Lib.hid hdw
      replace hk2 := Lib.hid hk2
      replace hsp := Lib.hid hsp
      replace hsp1 := Lib.hid hsp1
      replace hls := Lib.hid hls
      replace hnd := Lib.hid hnd
      replace hpo := Lib.hid hpo
      replace hout := Lib.hid hout
      replace hoa := Lib.hid hoa
      replace hbx := Lib.hid hbx
      have hlt2 := htf.lt
      simp only at htf
      replace htf := Lib.hid htf
      replace hwi := Lib.hid hwi
      go_upto_region 3 with fail
      go_cut [4] (fun av wx => av = .bool wi ∧ On F w (AllA [TextA g T src ⟨E, own, sp, op⟩, BlkA w2.heap.size 89 #[.int .i64 (k : Int), .int .i64 (n : Int), .string ⟨nm.toArray⟩, .string ⟨en.toArray⟩, .int .i64 i, .int .i64 o, .bool kn, .int .i64 nd, .bool lo]]) wx)
      case first =>
        rcases wi with _ | _
        · have k7 := htf.out.p0 hwi.out
          go_wp2_with fail
          go_meet
          exact ⟨rfl, hon3.out⟩
        · obtain ⟨gd, k7⟩ := htf.out.p1 hwi.out
          go_wp2_with fail
          go_meet
          exact ⟨rfl, hon3.out⟩
      case rest =>
        obtain ⟨rfl, hon3b⟩ := hcut
        rw [hbx.out] at hon3b
        simp only [hbx.out]
        clear htf hlt2 hon3
        have hbk := hon3b.swapA.blkA
        have x0 := hbk.cell 0
        have x1 := hbk.cell 1
        have x2 := hbk.cell 2
        have x3 := hbk.cell 3
        have x4 := hbk.cell 4
        have x5 := hbk.cell 5
        have x6 := hbk.cell 6
        have x7 := hbk.cell 7
        have x8 := hbk.cell 8
        simp at x0 x1 x2 x3 x4 x5 x6 x7 x8
        have hbl := hbk.lt
        clear hbk
        replace hon3b := Lib.hid hon3b
        go_wp2_with fail
        refine (hon3b.out.callA fun F' hb' => hsp.out _ F' hb').mono ?_
        rintro e w3 ⟨v', A', ⟨rfl, rfl⟩, rfl, hon4⟩
        clear hon3b hsp
        clear x0 x1 x2 x3 x4 x5 x6 x7 x8 hbl
        have hbk := hon4.swapA.blkA
        have x0 := hbk.cell 0
        have x1 := hbk.cell 1
        have x2 := hbk.cell 2
        have x3 := hbk.cell 3
        have x4 := hbk.cell 4
        have x5 := hbk.cell 5
        have x6 := hbk.cell 6
        have x7 := hbk.cell 7
        have x8 := hbk.cell 8
        simp at x0 x1 x2 x3 x4 x5 x6 x7 x8
        have hbl := hbk.lt
        clear hbk
        replace hon4 := Lib.hid hon4
        have hls1 := Lib.hid (hls.out wi)
        go_wp2_with fail
        refine (hls1.out _).mono ?_
        rintro e w4 ⟨⟨is, rfl⟩, hk4⟩
        have hon5 := hon4.out.keptNob hk4
        clear hk4 hls1 hon4
        clear x0 x1 x2 x3 x4 x5 x6 x7 x8 hbl
        have hbk := hon5.swapA.blkA
        have x0 := hbk.cell 0
        have x1 := hbk.cell 1
        have x2 := hbk.cell 2
        have x3 := hbk.cell 3
        have x4 := hbk.cell 4
        have x5 := hbk.cell 5
        have x6 := hbk.cell 6
        have x7 := hbk.cell 7
        have x8 := hbk.cell 8
        simp at x0 x1 x2 x3 x4 x5 x6 x7 x8
        have hbl := hbk.lt
        clear hbk
        obtain ⟨⟨b4, c4⟩, ⟨m5, c5⟩, f2, f4, f5, f7, hgl, -, -⟩ := text_facts hon5
        replace hon5 := Lib.hid hon5
        go_upto_if 28 with fail
        go_cut [5] (fun a wx => a = .bool is ∧ On F w (AllA [TextA g T src ⟨E, own, sp1, op⟩, BlkA bx 89 #[.int .i64 (k : Int), .int .i64 (n : Int), .string ⟨nm.toArray⟩, .string ⟨en.toArray⟩, .int .i64 i, .int .i64 o, .bool kn, .int .i64 nd, .bool lo]]) wx)
        case first =>
          cases is
          · go_wp2_with fail
            go_meet
            exact ⟨rfl, hon5.out⟩
          · go_wp2_with fail
            go_meet
            exact ⟨rfl, TextA.set4 hon5.out true⟩
        case rest =>
          obtain ⟨rfl, hon6⟩ := hcut
          clear hon5 c4 c5 f2 f4 f5 f7 hgl b4 m5
          clear x0 x1 x2 x3 x4 x5 x6 x7 x8 hbl
          have hbk := hon6.swapA.blkA
          have x0 := hbk.cell 0
          have x1 := hbk.cell 1
          have x2 := hbk.cell 2
          have x3 := hbk.cell 3
          have x4 := hbk.cell 4
          have x5 := hbk.cell 5
          have x6 := hbk.cell 6
          have x7 := hbk.cell 7
          have x8 := hbk.cell 8
          simp at x0 x1 x2 x3 x4 x5 x6 x7 x8
          have hbl := hbk.lt
          clear hbk
          obtain ⟨⟨b4, c4⟩, ⟨m5, c5⟩, f2, f4, f5, f7, hgl, -, -⟩ := text_facts hon6
          replace hon6 := Lib.hid hon6
          go_upto_region 8 with fail
          go_cut [] (fun wx => On F w (AllA [TextA g T src ⟨E, own, sp1, op⟩, BlkA bx 89 #[.int .i64 (k : Int), .int .i64 (n : Int), .string ⟨nm.toArray⟩, .string ⟨en.toArray⟩, .int .i64 i, .int .i64 o, .bool kn, .int .i64 nd, .bool lo]]) wx)
          case first =>
            go_region_with ((go_at_call 52; refine (hnd.out _).mono ?_; rintro e w5 ⟨⟨xv, rfl⟩, hk5b⟩; have hon7 := hon6.out.drew.keptNob hk5b; obtain ⟨⟨b4b, c4b⟩, ⟨m5b, c5b⟩, f2b, f4b, f5b, f7b, hglb, -, -⟩ := text_facts hon7; clear hk5b; replace hon7 := Lib.hid hon7))
            all_goals
              go_wp2_with fail
              go_meet
              exact TextA.set5 hon7.out _
          case rest =>
            have hon7 := hcut
            clear hon6 c4 c5 f2 f4 f5 f7 hgl b4 m5
            clear x0 x1 x2 x3 x4 x5 x6 x7 x8 hbl
            have hbk := hon7.swapA.blkA
            have x0 := hbk.cell 0
            have x1 := hbk.cell 1
            have x2 := hbk.cell 2
            have x3 := hbk.cell 3
            have x4 := hbk.cell 4
            have x5 := hbk.cell 5
            have x6 := hbk.cell 6
            have x7 := hbk.cell 7
            have x8 := hbk.cell 8
            simp at x0 x1 x2 x3 x4 x5 x6 x7 x8
            have hbl := hbk.lt
            clear hbk
            replace hon7 := Lib.hid hon7
            rcases ok with _ | _
            · have hfin := rel_stop hN.out (T := T.data.toList) hrl.out (by rw [hl.out]; exact hat.out) (by simp only; rw [hS.out]; exact hne2.out) (by simp only; rw [hS.out]; exact hdw.out) (by simp only; rw [hE.out, hwi.out]; exact hoa.out)
              simp only [hsp1.out, hR.out] at hfin
              replace hfin := Lib.hid hfin
              go_wp2_with fail
              refine (hon7.out.callA fun F' hb' => hpo.out _ F' hb').mono ?_
              rintro e w6 ⟨v', A', ⟨rfl, rfl⟩, rfl, hon8⟩
              replace hon8 := Lib.hid hon8
              clear x0 x1 x2 x3 x4 x5 x6 x7 x8 hbl
              go_wp2_with fail
              go_end0
              exact hon8.out.headA.post ⟨rfl, _, hfin.out, rfl⟩
            · obtain ⟨hnml, hnm2⟩ := onAt_name hoa.out
              rw [hl.out] at hnml
              have hgo := fun (k' n' : Nat) (nm' : List UInt8) (hw' : two _ k n = true → DocW own src name k' n' nm') => rel_on hN.out (T := T.data.toList) (k' := k') (n' := n') (nm' := nm') hrl.out (by rw [hl.out]; exact hat.out) (by simp only; rw [hS.out]; exact hne2.out) (by simp only; rw [hS.out]; exact hdw.out) (by simp only; rw [hE.out, hwi.out]; exact hoa.out) hw'
              simp only [sp2, hsp1.out, hwi.out] at hgo
              have hsp1l : sp1.length ≤ sp.length + 1 := by rw [← hsp1.out]; exact spk_len sp k nm
              replace hgo := Lib.hid hgo
              replace hnm2 := Lib.hid hnm2
              go_wp2_with fail
              refine (hon7.out.callA fun F' hb' => hpo.out _ F' hb').mono ?_
              rintro e w6 ⟨v', A', ⟨rfl, rfl⟩, rfl, hon8⟩
              clear x0 x1 x2 x3 x4 x5 x6 x7 x8 hbl
              have hbk := hon8.swapA.blkA
              have x0 := hbk.cell 0
              have x1 := hbk.cell 1
              have x2 := hbk.cell 2
              have x3 := hbk.cell 3
              have x4 := hbk.cell 4
              have x5 := hbk.cell 5
              have x6 := hbk.cell 6
              have x7 := hbk.cell 7
              have x8 := hbk.cell 8
              simp at x0 x1 x2 x3 x4 x5 x6 x7 x8
              have hbl := hbk.lt
              clear hbk
              obtain ⟨⟨b4, c4⟩, ⟨m5, c5⟩, f2, f4, f5, f7, hgl, -, -⟩ := text_facts hon8
              clear hon7 hpo
              replace hon8 := Lib.hid hon8
              obtain ⟨tw, htw⟩ : ∃ tw, two wi k n = tw := ⟨_, rfl⟩
              replace htw := Lib.hid htw
              go_upto_region 11 with fail
              go_cut [69] (fun av wx => av = .bool tw ∧ On F w (AllA [TextA g T src ⟨a, own, sp1, op⟩, BlkA bx 89 #[.int .i64 (k : Int), .int .i64 (n : Int), .string ⟨nm.toArray⟩, .string ⟨en.toArray⟩, .int .i64 i, .int .i64 o, .bool kn, .int .i64 nd, .bool lo]]) wx)
              case first =>
                clear_value *
                as_aux_lemma =>
                  rcases wi with _ | _
                  · by_cases hk : k = 2
                    · by_cases hn7 : n = 7
                      · subst hk
                        subst hn7
                        go_wp2_with fail
                        go_meet
                        exact ⟨by rw [← htw.out]; try rfl, hon8.out⟩
                      · by_cases hn8 : n = 8
                        · subst hk
                          subst hn8
                          clear hn7
                          go_wp2_with fail
                          go_meet
                          exact ⟨by rw [← htw.out]; try rfl, hon8.out⟩
                        · have htf : two false k n = false := by unfold two; simp; omega
                          rw [htf] at htw
                          have t7 : ((n : Int) == 7) = false := by rw [beq_eq_false_iff_ne]; omega
                          have t8 : ((n : Int) == 8) = false := by rw [beq_eq_false_iff_ne]; omega
                          subst hk
                          clear hn7 hn8 htf
                          go_wp2_with fail
                          go_meet
                          exact ⟨by rw [← htw.out]; try rfl, hon8.out⟩
                    · have htf : two false k n = false := by unfold two; simp [hk]
                      rw [htf] at htw
                      have t2 : ((k : Int) == 2) = false := by rw [beq_eq_false_iff_ne]; omega
                      clear htf
                      replace hk := Lib.hid hk
                      go_wp2_with fail
                      go_meet
                      exact ⟨by rw [← htw.out]; try rfl, hon8.out⟩
                  · by_cases hk : k = 2
                    · by_cases hn7 : n = 8
                      · subst hk
                        subst hn7
                        go_wp2_with fail
                        go_meet
                        exact ⟨by rw [← htw.out]; try rfl, hon8.out⟩
                      · by_cases hn8 : n = 7
                        · subst hk
                          subst hn8
                          clear hn7
                          go_wp2_with fail
                          go_meet
                          exact ⟨by rw [← htw.out]; try rfl, hon8.out⟩
                        · have htf : two true k n = false := by unfold two; simp; omega
                          rw [htf] at htw
                          have t7 : ((n : Int) == 7) = false := by rw [beq_eq_false_iff_ne]; omega
                          have t8 : ((n : Int) == 8) = false := by rw [beq_eq_false_iff_ne]; omega
                          subst hk
                          clear hn7 hn8 htf
                          go_wp2_with fail
                          go_meet
                          exact ⟨by rw [← htw.out]; try rfl, hon8.out⟩
                    · have htf : two true k n = false := by unfold two; simp [hk]
                      rw [htf] at htw
                      have t2 : ((k : Int) == 2) = false := by rw [beq_eq_false_iff_ne]; omega
                      clear htf
                      replace hk := Lib.hid hk
                      go_wp2_with fail
                      go_meet
                      exact ⟨by rw [← htw.out]; try rfl, hon8.out⟩
              case rest =>
                obtain ⟨rfl, hon8b⟩ := hcut
                clear hon8 c4 c5 f2 f4 f5 f7 hgl b4 m5
                clear x0 x1 x2 x3 x4 x5 x6 x7 x8 hbl
                have hbk := hon8b.swapA.blkA
                have x0 := hbk.cell 0
                have x1 := hbk.cell 1
                have x2 := hbk.cell 2
                have x3 := hbk.cell 3
                have x4 := hbk.cell 4
                have x5 := hbk.cell 5
                have x6 := hbk.cell 6
                have x7 := hbk.cell 7
                have x8 := hbk.cell 8
                simp at x0 x1 x2 x3 x4 x5 x6 x7 x8
                have hbl := hbk.lt
                clear hbk
                obtain ⟨⟨b4, c4⟩, ⟨m5, c5⟩, f2, f4, f5, f7, hgl, -, -⟩ := text_facts hon8b
                have hon8 := Lib.hid hon8b
                clear hon8b
                go_upto_if 69 with fail
                go_cut [5] (fun av wx => ∃ (is' : Bool) (sp3 : List (List UInt8)), av = .bool is' ∧ On F w (AllA [TextA g T src ⟨a, own, sp3, op⟩, BlkA bx 89 #[.int .i64 (k : Int), .int .i64 (n : Int), .string ⟨nm.toArray⟩, .string ⟨en.toArray⟩, .int .i64 i, .int .i64 o, .bool kn, .int .i64 nd, .bool lo]]) wx ∧ ∃ (r3 : Rd) (V : W), V.kind = k ∧ (k = 1 ∨ k = 2 → V.n = n) ∧ round N T.data.toList r = (does N r3 V name, true) ∧ Rel r3 ⟨a, own, sp3, op⟩ ∧ a ≤ T.size ∧ at0 + 1 ≤ a)
                case first =>
                  rcases tw with _ | _
                  · obtain ⟨r3, V, h1, h2, h3, h4, h5, h6, h7⟩ := hgo.out 0 0 [] (fun h => by have h9 := htw.out; rw [h] at h9; cases h9)
                    rw [htw.out] at h4 h7
                    simp only [Bool.false_eq_true, if_false] at h4
                    rw [hl.out] at h5
                    have hres : ∃ (r3 : Rd) (V : W), V.kind = k ∧ (k = 1 ∨ k = 2 → V.n = n) ∧ round N T.data.toList r = (does N r3 V name, true) ∧ Rel r3 ⟨a, own, sp1, op⟩ ∧ a ≤ T.size ∧ at0 + 1 ≤ a := ⟨r3, V, h1, h2, h3, h4, h5, h6⟩
                    clear h1 h2 h3 h4 h5 h6 h7
                    replace hres := Lib.hid hres
                    go_wp2_with fail
                    go_meet
                    exact ⟨is, sp1, rfl, hon8.out, hres.out⟩
                  · obtain ⟨hk, hn78⟩ : k = 2 ∧ (n = 7 ∨ n = 8) := by
                      have := htw.out
                      unfold two at this
                      simp at this
                      omega
                    have hnne := hnm2.out htw.out
                    have hwh2 := fun w1 F' hb' => t_what g T src ⟨a, own, sp1, op⟩ hfn.out.own hsrc.out name (by omega) hnne w1 F' hb'
                    replace hwh2 := Lib.hid hwh2
                    replace hnne := Lib.hid hnne
                    subst hk
                    go_wp2_with fail
                    refine (hon8.out.callA fun F' hb' => hwh2.out _ F' hb').mono ?_
                    rintro e w7 ⟨v', A', ⟨⟨k', n', nm', en', i', o', kn', nd', lo', rfl, hdw2⟩, rfl⟩, rfl, hon9⟩
                    try simp only at hdw2
                    have hk5' := docW_kind hdw2
                    obtain ⟨r3, V, h1, h2, h3, h4, h5, h6, h7⟩ := hgo.out k' n' nm' (fun _ => hdw2)
                    rw [htw.out] at h4
                    simp only [if_true] at h4
                    rw [hl.out] at h5
                    obtain ⟨sp3, hsp3⟩ : ∃ sp3, spk sp1 k' nm' = sp3 := ⟨_, rfl⟩
                    rw [hsp3] at h4
                    have hres : ∃ (r3 : Rd) (V : W), V.kind = 2 ∧ V.n = n ∧ round N T.data.toList r = (does N r3 V name, true) ∧ Rel r3 ⟨a, own, sp3, op⟩ ∧ a ≤ T.size ∧ at0 + 1 ≤ a := ⟨r3, V, h1, h2 (.inr (by trivial)), h3, h4, h5, h6⟩
                    clear h1 h2 h3 h4 h5 h6 h7 htw
                    have hon10 := (hon9.boxA (wdC k' n' nm' en' i' o' kn' nd' lo') 89).swapA
                    have hsp := fun w1 F' hb' => t_speaks g T src ⟨a, own, sp1, op⟩ (by show sp1.length ≤ 200000; omega) k' n' hk5' nm' en' i' o' kn' nd' lo' w1 F' hb'
                    simp only [hsp3] at hsp
                    have hls1 := fun w => d_loose k' n' hk5' nm' en' i' o' kn' nd' lo' wi w
                    obtain ⟨by_, hby⟩ : ∃ by_, w7.heap.size = by_ := ⟨_, rfl⟩
                    unfold wdV wdC at *
                    replace hres := Lib.hid hres
                    replace hon10 := Lib.hid hon10
                    replace hsp := Lib.hid hsp
                    replace hls1 := Lib.hid hls1
                    replace hby := Lib.hid hby
                    replace hdw2 := Lib.hid hdw2
                    replace hsp3 := Lib.hid hsp3
                    clear hon9 hon8 c4 c5 f2 f4 f5 f7 hgl
                    clear x0 x1 x2 x3 x4 x5 x6 x7 x8 hbl
                    go_wp2_with fail
                    refine (hon10.out.callA fun F' hb' => hsp.out _ F' hb').mono ?_
                    rintro e w8 ⟨v', A', ⟨rfl, rfl⟩, rfl, hon11⟩
                    rw [hby.out] at hon11 ⊢
                    have hbk := hon11.swapA.blkA
                    have x0 := hbk.cell 0
                    have x1 := hbk.cell 1
                    have x2 := hbk.cell 2
                    have x3 := hbk.cell 3
                    have x4 := hbk.cell 4
                    have x5 := hbk.cell 5
                    have x6 := hbk.cell 6
                    have x7 := hbk.cell 7
                    have x8 := hbk.cell 8
                    simp at x0 x1 x2 x3 x4 x5 x6 x7 x8
                    have hbl := hbk.lt
                    clear hbk
                    replace hon11 := Lib.hid hon11
                    go_wp2_with fail
                    refine (hls1.out _).mono ?_
                    rintro e w9 ⟨⟨is2, rfl⟩, hk9⟩
                    have hon12 := hon11.out.keptNob hk9
                    obtain ⟨⟨b4b, c4b⟩, ⟨m5b, c5b⟩, f2b, f4b, f5b, f7b, hglb, -, -⟩ := text_facts hon12
                    have hon13 := (On.swapA hon12).tailA
                    clear hon12 hon11 hk9
                    replace hon13 := Lib.hid hon13
                    clear x0 x1 x2 x3 x4 x5 x6 x7 x8 hbl
                    cases is <;> cases b4b
                    all_goals
                      go_wp2_with fail
                      go_meet
                      obtain ⟨r3, V, h1, h2, h3, h4, h5, h6⟩ := hres.out
                      exact ⟨_, sp3, rfl, TextA.set4 hon13.out _, r3, V, h1, fun _ => h2, h3, h4, h5, h6⟩
                case rest =>
                  obtain ⟨is', sp3, rfl, hon9, r3, V, hV1, hV2, hround, hrel3, hale, hage⟩ := hcut
                  clear hon8 hgo hnm2 hoa c4 c5 f2 f4 f5 f7 hgl b4 m5 htw
                  clear x0 x1 x2 x3 x4 x5 x6 x7 x8 hbl
                  have hbk := hon9.swapA.blkA
                  have x0 := hbk.cell 0
                  have x1 := hbk.cell 1
                  have x2 := hbk.cell 2
                  have x3 := hbk.cell 3
                  have x4 := hbk.cell 4
                  have x5 := hbk.cell 5
                  have x6 := hbk.cell 6
                  have x7 := hbk.cell 7
                  have x8 := hbk.cell 8
                  simp at x0 x1 x2 x3 x4 x5 x6 x7 x8
                  have hbl := hbk.lt
                  clear hbk
                  rcases op with _ | ⟨nm0, l0⟩
                  · obtain rfl : wi = false := hwi.out.symm
                    have hle1 : r.at_ ≤ T.data.toList.length := by rw [hl.out]; exact hat.out
                    have hro := rel_out (E := N) (y := ⟨a, own, sp3, none⟩) (k := k) (n := n) (name := name) hV1 hV2 hrel3 rfl (a0 := at0) hage hownl
                    have hfo := Fine.out (x := ⟨a, own, sp3, none⟩) ⟨hfn.out.own, fun _ _ h => by cases h⟩ k n (name := name) (by omega)
                    have hall := round_rel hle1 hround hR.out
                    have hato := outX_at ⟨a, own, sp3, none⟩ k n name
                    have ho1 := hout.out a sp3 name (by omega)
                    obtain ⟨y4, hy4⟩ : ∃ y4, outX ⟨a, own, sp3, none⟩ k n name = y4 := ⟨_, rfl⟩
                    rw [hy4] at hro hfo hato
                    simp only [hy4] at ho1
                    simp only at hato
                    replace hro := Lib.hid hro
                    replace hfo := Lib.hid hfo
                    replace hall := Lib.hid hall
                    replace hato := Lib.hid hato
                    replace ho1 := Lib.hid ho1
                    replace hon9 := Lib.hid hon9
                    clear hy4 hV1 hV2 hrel3 hround hout
                    go_wp2_with fail
                    refine (hon9.out.callA fun F' hb' => ho1.out _ F' hb').mono ?_
                    rintro e w10 ⟨v', A', ⟨rfl, rfl⟩, rfl, hon10⟩
                    replace hon10 := Lib.hid hon10
                    clear x0 x1 x2 x3 x4 x5 x6 x7 x8 hbl
                    go_wp2_with fail
                    go_roundw
                    case rel => exact ⟨y4, _, hon10.out.swapA.tailA, hro.out, hfo.out, by rw [← hro.out.at_, hato.out]; exact hale, hall.out⟩
                    case measure =>
                      rw [atT_eq hon10.out.swapA.tailA, hatw.out, hato.out]
                      omega
                  · obtain rfl : wi = true := hwi.out.symm
                    have hsl := TextA.loose hon9
                    obtain ⟨gd0, k70, ⟨bz, z3c⟩, z3, hgdl, hset⟩ := hsl
                    obtain ⟨⟨b4, c4⟩, ⟨m5, c5⟩, f2, f4, f5, f7, hgl, -, -⟩ := text_facts hon9
                    replace hon9 := Lib.hid hon9
                    replace hset := Lib.hid hset
                    replace hround := Lib.hid hround
                    replace hrel3 := Lib.hid hrel3
                    replace hV1 := Lib.hid hV1
                    replace hV2 := Lib.hid hV2
                    go_upto_if 99 with fail
                    go_cut [] (fun wx => On F w (AllA [TextA g T src ⟨a, own, sp3, (some (nm0, l0))⟩, BlkA bx 89 #[.int .i64 (k : Int), .int .i64 (n : Int), .string ⟨nm.toArray⟩, .string ⟨en.toArray⟩, .int .i64 i, .int .i64 o, .bool kn, .int .i64 nd, .bool lo]]) wx)
                    case first =>
                      cases is'
                      · go_wp2_with fail
                        go_meet
                        exact hon9.out
                      · go_wp2_with fail
                        go_meet
                        exact hset.out
                    case rest =>
                      have hon9b := hcut
                      clear hon9 hset k70 z3c bz z3 hgdl c4 c5 f2 f4 f5 f7 hgl b4 m5 gd0
                      clear x0 x1 x2 x3 x4 x5 x6 x7 x8 hbl
                      obtain ⟨vo, vs, lo2, nd2, vr, vp, hon10⟩ := TextA.openL [_] hon9b.swapA
                      obtain ⟨gd, vd, rfl, hon11⟩ := On.defA (On.pullA (A := OpenD vp (some (nm0, l0))) (L2 := []) [_, _, _, _, _] hon10)
                      clear hon10 hon9b
                      obtain ⟨_, hB⟩ := hon11.mem (A := BlkA g 55 (txC T a vo vs lo2 nd2 vr (.pointer (some ⟨gd, 0, none⟩)))) (by simp)
                      have k2 := hB.1.cell 2
                      have k7 := hB.1.cell 7
                      have f2 := hB.1.frozen 2
                      have f7 := hB.1.frozen 7
                      have hgl := hB.1.lt
                      simp [txC] at k2 k7
                      obtain ⟨_, hX⟩ := hon11.mem (A := BlkA bx 89 #[.int .i64 (k : Int), .int .i64 (n : Int), .string ⟨nm.toArray⟩, .string ⟨en.toArray⟩, .int .i64 i, .int .i64 o, .bool kn, .int .i64 nd, .bool lo]) (by simp)
                      have x0 := hX.1.cell 0
                      have x1 := hX.1.cell 1
                      have x2 := hX.1.cell 2
                      have x3 := hX.1.cell 3
                      have x4 := hX.1.cell 4
                      have x5 := hX.1.cell 5
                      have x6 := hX.1.cell 6
                      have x7 := hX.1.cell 7
                      have x8 := hX.1.cell 8
                      simp at x0 x1 x2 x3 x4 x5 x6 x7 x8
                      have hbl := hX.1.lt
                      clear hB hX
                      have hl0 : l0.length ≤ at0 := (hrl.out.ok nm0 l0 rfl).2
                      have hok0 : OkD l0 := (hrl.out.ok nm0 l0 rfl).1
                      have hle1 : r.at_ ≤ T.data.toList.length := by rw [hl.out]; exact hat.out
                      have hall := round_rel hle1 hround.out hR.out
                      have hnm0 : nm0.length ≤ 100000 := hfn.out.op nm0 l0 rfl
                      replace hall := Lib.hid hall
                      replace hok0 := Lib.hid hok0
                      obtain ⟨sm, hsm⟩ : ∃ sm, decide (k = 2 ∧ n = 2) = sm := ⟨_, rfl⟩
                      replace hsm := Lib.hid hsm
                      replace hon11 := Lib.hid hon11
                      go_upto_region 21 with fail
                      go_cut [113] (fun av wx => av = .bool sm ∧ wx = wc)
                      case first =>
                        clear_value *
                        as_aux_lemma =>
                          by_cases hk : k = 2
                          · by_cases hn2 : n = 2
                            · subst hk
                              subst hn2
                              go_wp2_with fail
                              go_meet
                              exact ⟨by rw [← hsm.out]; rfl, rfl⟩
                            · have htf : decide (k = 2 ∧ n = 2) = false := by rw [decide_eq_false_iff_not]; exact fun h => hn2 h.2
                              rw [htf] at hsm
                              have t2 : ((n : Int) == 2) = false := by rw [beq_eq_false_iff_ne]; omega
                              clear htf
                              subst hk
                              replace hn2 := Lib.hid hn2
                              go_wp2_with fail
                              go_meet
                              exact ⟨by rw [← hsm.out], rfl⟩
                          · have htf : decide (k = 2 ∧ n = 2) = false := by rw [decide_eq_false_iff_not]; exact fun h => hk h.1
                            rw [htf] at hsm
                            have t2 : ((k : Int) == 2) = false := by rw [beq_eq_false_iff_ne]; omega
                            clear htf
                            replace hk := Lib.hid hk
                            go_wp2_with fail
                            go_meet
                            exact ⟨by rw [← hsm.out], rfl⟩
                      case rest =>
                        obtain ⟨rfl, rfl⟩ := hcut
                        rcases sm with _ | _
                        · have hsemi : ¬ (k = 2 ∧ n = 2) := by have := hsm.out; rw [decide_eq_false_iff_not] at this; exact this
                          have hit := fun w1 F' hb' => d_item gd nm0 l0 vd (by omega) hok0.out k n hk5 hk2.out nm en i o kn nd lo w1 F' hb'
                          have hro := fun (l' : List Open) (hw : Went l0 l') => rel_in (E := N) (y := ⟨a, own, sp3, (some (nm0, l0))⟩) (k := k) (n := n) (name := name) hV1.out hV2.out hrel3.out rfl hsemi hw (a0 := at0) hage hl0
                          simp only at hro
                          unfold wdV wdC at hit
                          replace hro := Lib.hid hro
                          replace hit := Lib.hid hit
                          clear hV1 hV2 hrel3 hround hout
                          replace hsemi := Lib.hid hsemi
                          go_wp2_with fail
                          go_region_held (fun w' => w'.cell? ⟨bx, 0, none⟩ = some (.int .i64 (k : Int)) ∧ w'.cell? ⟨bx, 1, none⟩ = some (.int .i64 (n : Int)) ∧ w'.cell? ⟨bx, 2, none⟩ = some (.string ⟨nm.toArray⟩) ∧ w'.cell? ⟨bx, 3, none⟩ = some (.string ⟨en.toArray⟩) ∧ w'.cell? ⟨bx, 4, none⟩ = some (.int .i64 i) ∧ w'.cell? ⟨bx, 5, none⟩ = some (.int .i64 o) ∧ w'.cell? ⟨bx, 6, none⟩ = some (.bool kn) ∧ w'.cell? ⟨bx, 7, none⟩ = some (.int .i64 nd) ∧ w'.cell? ⟨bx, 8, none⟩ = some (.bool lo) ∧ w'.cell? ⟨g, 7, none⟩ = some (.pointer (some ⟨gd, 0, none⟩))) (go_keep) ((go_at_call 56; refine ((hon11.out.drew).callA fun F' hb' => hit.out _ F' hb').mono ?_; rintro e w11 ⟨v', A', ⟨rfl, l', v2, hwt, rfl⟩, rfl, hon12⟩; obtain ⟨_, hX2⟩ := hon12.mem (A := BlkA bx 89 #[.int .i64 (k : Int), .int .i64 (n : Int), .string ⟨nm.toArray⟩, .string ⟨en.toArray⟩, .int .i64 i, .int .i64 o, .bool kn, .int .i64 nd, .bool lo]) (by simp); obtain ⟨_, hB2⟩ := hon12.mem (A := BlkA g 55 (txC T a vo vs lo2 nd2 vr (.pointer (some ⟨gd, 0, none⟩)))) (by simp); have m7 := hB2.1.cell 7; have z0 := hX2.1.cell 0; have z1 := hX2.1.cell 1; have z2 := hX2.1.cell 2; have z3 := hX2.1.cell 3; have z4 := hX2.1.cell 4; have z5 := hX2.1.cell 5; have z6 := hX2.1.cell 6; have z7 := hX2.1.cell 7; have z8 := hX2.1.cell 8; simp [txC] at m7; simp at z0 z1 z2 z3 z4 z5 z6 z7 z8; clear hX2 hB2; replace hon12 := Lib.hid hon12; replace hwt := Lib.hid hwt))
                          all_goals
                            have hon13 := TextA.close (x := ⟨a, own, sp3, some (nm0, l')⟩) (On.pushA (A := OpenD (.pointer (some ⟨gd, 0, none⟩)) (some (nm0, l'))) (L2 := []) [_, _, _, _, _] (On.defC hon12.out)).tailA
                            have hro2 := hro.out l' hwt.out
                            replace hon13 := Lib.hid hon13
                            replace hro2 := Lib.hid hro2
                            go_wp2_with fail
                            go_roundw
                            case rel => exact ⟨⟨a, own, sp3, some (nm0, l')⟩, _, hon13.out.one, hro2.out, ⟨hfn.out.own, fun _ _ h => by cases h; exact hnm0⟩, by rw [← hro2.out.at_]; exact hale, hall.out⟩
                            case measure =>
                              rw [atT_eq hon13.out.one, hatw.out]
                              simp only
                              omega
                        · have hsemi : k = 2 ∧ n = 2 := by have := hsm.out; rw [decide_eq_true_eq] at this; exact this
                          have hon11 := hon11.out
                          have hro := rel_semi (E := N) (y := ⟨a, own, sp3, (some (nm0, l0))⟩) (k := k) (n := n) (name := name) hV1.out hV2.out hrel3.out rfl hsemi (a0 := at0) hage hownl
                          have hfo : Fine ⟨a, own ++ [nm0], sp3, none⟩ := ⟨fun q hq => by
                            rcases List.mem_append.1 hq with hq | hq
                            · exact hfn.out.own q hq
                            · rw [List.mem_singleton] at hq; subst hq; exact hnm0, fun _ _ h => by cases h⟩
                          obtain ⟨hk, hn2⟩ := hsemi
                          have hend := fun w1 F' hb' => d_end gd nm0 l0 vd w1 F' hb'
                          simp only at hro
                          replace hro := Lib.hid hro
                          replace hfo := Lib.hid hfo
                          replace hend := Lib.hid hend
                          clear hV1 hV2 hrel3 hround hout
                          subst hk
                          subst hn2
                          obtain ⟨el, hel, hon12⟩ := On.effsA (On.pullA (A := EffsN vo own) (L2 := [RowS vs sp3, EffsN vr src]) [_, _, _] hon11)
                          clear hon11
                          obtain ⟨_, hR⟩ := hon12.firstA
                          obtain ⟨A0, c0, rfl⟩ := ownsRow_slice hR.1
                          obtain ⟨M, hM⟩ : ∃ M, el.length = M := ⟨_, rfl⟩
                          have hell : el.length = own.length := by rw [← hel, List.length_map]
                          rw [hM] at k2 hell
                          have hon13 : On F w (AllA [DdB gd nm0 l0 vd, RowK 87 6 (.slice A0 M c0) M (el.flatMap dEffC), BlkA bx 89 #[.int .i64 ((2 : Nat) : Int), .int .i64 ((2 : Nat) : Int), .string ⟨nm.toArray⟩, .string ⟨en.toArray⟩, .int .i64 i, .int .i64 o, .bool kn, .int .i64 nd, .bool lo], BlkA g 55 (txC T a (.slice A0 M c0) vs lo2 nd2 vr (.pointer (some ⟨gd, 0, none⟩))), RowS vs sp3, EffsN vr src]) wc := by rw [← hM]; exact hon12.swapA
                          have hMb : M + 1 ≤ maxLen ∧ (M + 1) * 56 ≤ 140737488355328 := by unfold maxLen; omega
                          have hneg : (Value.slice A0 M c0).ownBlock ≠ some g := by
                            obtain ⟨F1, F2, h1, h2, hd⟩ := On.apart (B := BlkA g 55 (txC T a (.slice A0 M c0) vs lo2 nd2 vr (.pointer (some ⟨gd, 0, none⟩)))) hon13.swapA (by simp)
                            intro he
                            exact hd g ((h1.2 g).2 he) ((h2.2 g).2 rfl)
                          obtain ⟨i0, hi, hz0, hz1, hz2⟩ := info_parts info_deff
                          clear hR hon12
                          replace hi := Lib.hid hi
                          replace hz0 := Lib.hid hz0
                          replace hz1 := Lib.hid hz1
                          replace hz2 := Lib.hid hz2
                          replace hMb := Lib.hid hMb
                          replace hneg := Lib.hid hneg
                          replace hon13 := Lib.hid hon13
                          replace hM := Lib.hid hM
                          replace hel := Lib.hid hel
                          replace hell := Lib.hid hell
                          go_upto_region 22 with fail
                          go_cut [] (fun wx => ∃ sg cap, On F w (AllA [BlkA g 55 (txC T a (.slice (some ⟨sg, 0, none⟩) (M + 1) cap) vs lo2 nd2 vr (.pointer (some ⟨gd, 0, none⟩))), EffsN (.slice (some ⟨sg, 0, none⟩) (M + 1) cap) (own ++ [nm0]), RowS vs sp3, EffsN vr src]) wx)
                          case first =>
                           go_region_law ((first | (refine step_append_lies _ rfl (.tmp 118) (.tmp 124) 52 rfl 0 87 i0 (.agg #[.string ⟨#[]⟩, .int .i64 0, .int .i64 0, .bool false, .int .i64 0, .bool false]) 6 56 ?_ ?_ ?_ ?_ ?_ ?_ ?_ (.slice A0 M c0) M (el.flatMap dEffC) ?_ ?_ ⟨w11.heap.size, 0, none⟩ 1 1 (dEffC (⟨nm0, ei, eo, ek, ed, eb⟩ : DEff)) ?_ ?_ ?_ ?_ ?_ ?_ ?_ ?_ (w11.heap.size + 1) ?_ ?_; exact Tryz.underlying52; exact hi.out; exact hz0.out; exact hz1.out; exact hz2.out; rfl; omega; rfl; exact (hrow.out.alloc _); rfl; rfl; refine (deff_news (e := (⟨nm0, ei, eo, ek, ed, eb⟩ : DEff)) (t := 87) ?_); refine (Blk.new' ?_); simp; exact deff_one _; omega; exact hMb.out.1; exact hMb.out.2; omega; simp; intro sg cap w12 hG hgrow hat hlt1; have hB1 := Blk.grown (hbk.out.alloc _) hgrow (fun e => hneg.out e.symm); have n2 := hB1.cell 2; have z2 := hB1.frozen 2; have z7 := hB1.frozen 7; have n7 := hB1.cell 7; have hg12 := hB1.lt; simp [txC] at n2 n7; clear hB1) | (go_simp; go_at_call 55; refine ((hon13.out.drew).callA fun F' hb' => hend.out _ F' hb').mono ?_; rintro e w11 ⟨v', A', ⟨⟨ei, eo, ek, ed, eb, rfl⟩, rfl⟩, rfl, hon14⟩; obtain ⟨_, hR14⟩ := hon14.swapA.firstA; obtain ⟨_, hB14⟩ := hon14.mem (A := BlkA g 55 (txC T a (.slice A0 M c0) vs lo2 nd2 vr (.pointer (some ⟨gd, 0, none⟩)))) (by simp); have m2 := hB14.1.cell 2; have hg14 := hB14.1.lt; simp [txC] at m2; have hbk := Lib.hid hB14.1; have hrow := Lib.hid hR14.1; clear hB14 hR14; replace hon14 := Lib.hid hon14)))
                           all_goals
                             have hon15 := hon14.out.swapA.stepA (A' := RowK 87 6 (.slice (some ⟨sg, 0, none⟩) (el ++ [(⟨nm0, ei, eo, ek, ed, eb⟩ : DEff)]).length cap) (el ++ [(⟨nm0, ei, eo, ek, ed, eb⟩ : DEff)]).length ((el ++ [(⟨nm0, ei, eo, ek, ed, eb⟩ : DEff)]).flatMap dEffC)) (w'' := w12) (fun F' h' => by
                               have q1 : (el ++ [(⟨nm0, ei, eo, ek, ed, eb⟩ : DEff)]).length = M + 1 := by rw [List.length_append, hM.out]; rfl
                               have q2 : (el ++ [(⟨nm0, ei, eo, ek, ed, eb⟩ : DEff)]).flatMap dEffC = el.flatMap dEffC ++ dEffC (⟨nm0, ei, eo, ek, ed, eb⟩ : DEff) := by rw [List.flatMap_append]; rfl
                               rw [q1, q2]
                               exact RowK.grew h' ((Kept.refl Nob _).alloc _) hgrow hG (grew_at hat))
                             have hon16 := On.effsC (el ++ [(⟨nm0, ei, eo, ek, ed, eb⟩ : DEff)]) hon15
                             have q3 : (el ++ [(⟨nm0, ei, eo, ek, ed, eb⟩ : DEff)]).map (·.name) = own ++ [nm0] := by rw [List.map_append, hel.out]; rfl
                             have q4 : (el ++ [(⟨nm0, ei, eo, ek, ed, eb⟩ : DEff)]).length = M + 1 := by rw [List.length_append, hM.out]; rfl
                             rw [q3, q4] at hon16
                             have hon17 := (On.pullA (A := BlkA bx 89 #[.int .i64 ((2 : Nat) : Int), .int .i64 ((2 : Nat) : Int), .string ⟨nm.toArray⟩, .string ⟨en.toArray⟩, .int .i64 i, .int .i64 o, .bool kn, .int .i64 nd, .bool lo]) (L2 := [BlkA g 55 (txC T a (.slice A0 M c0) vs lo2 nd2 vr (.pointer (some ⟨gd, 0, none⟩))), RowS vs sp3, EffsN vr src]) [_] (On.pullA (A := DdB gd nm0 l0 vd) (L2 := [BlkA bx 89 #[.int .i64 ((2 : Nat) : Int), .int .i64 ((2 : Nat) : Int), .string ⟨nm.toArray⟩, .string ⟨en.toArray⟩, .int .i64 i, .int .i64 o, .bool kn, .int .i64 nd, .bool lo], BlkA g 55 (txC T a (.slice A0 M c0) vs lo2 nd2 vr (.pointer (some ⟨gd, 0, none⟩))), RowS vs sp3, EffsN vr src]) [_] hon16).tailA).tailA.swapA.setA 2 (.slice (some ⟨sg, 0, none⟩) (M + 1) cap)
                             clear hon15 hon16 hG hgrow hat hlt1 q3 q4
                             replace hon17 := Lib.hid hon17
                             go_wp2_with fail
                             go_meet
                             exact ⟨sg, cap, hon17.out⟩
                          case rest =>
                           obtain ⟨sg, cap, hon17⟩ := hcut
                           have hB17 := hon17.blkA
                           have z7 := hB17.frozen 7
                           have n7 := hB17.cell 7
                           have hg17 := hB17.lt
                           simp [txC] at n7
                           have hon18 := TextA.close (x := ⟨a, own ++ [nm0], sp3, none⟩) (On.pushA (A := OpenD (.pointer none) none) (L2 := []) [_, _, _, _] (On.addA (hon17.setA 7 (.pointer none)) (A := OpenD (.pointer none) none) ⟨rfl, fun _ h => h⟩))
                           clear hB17 hon17 hon13 k2 k7 f2 f7
                           replace hon18 := Lib.hid hon18
                           go_wp2_with fail
                           go_roundw
                           case rel => exact ⟨⟨a, own ++ [nm0], sp3, none⟩, _, hon18.out.one, hro.out, hfo.out, by rw [← hro.out.at_]; exact hale, hall.out⟩
                           case measure =>
                             rw [atT_eq hon18.out.one, hatw.out]
                             simp only
                             omega
end Look
end Go.Proofs.YthejfkkmcbdlhaaGreatDoor
