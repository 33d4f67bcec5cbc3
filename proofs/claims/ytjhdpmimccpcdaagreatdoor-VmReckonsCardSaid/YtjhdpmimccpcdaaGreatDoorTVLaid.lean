/- Chapter 11: a word laid into both lists. Conditions: as written. Printed by gen_vlaid.py. -/
import Derived.Test.YtjhdpmimccpcdaaGreatDoorT21
import Derived.Test.YtjhdpmimccpcdaaGreatDoorT23
namespace Go.Proofs.YtjhdpmimccpcdaaGreatDoor
set_option linter.unusedVariables false
set_option maxRecDepth 100000
open Go.RowKit Go.Lib Go.Deep
namespace Vm
/-- the program's list and image, the document's world, list and bytes -/
def laidL (gI g gW : Nat) (wcs : Array Value) (gr gb bg en cap : Nat) (q p : Img × Dc) : List Asr :=
  [DcA gI g (bg + 8) en q.2, ImgA gI q.1, BlkA gW 77 wcs, RDicA gr gb bg en cap false p.2, RbA gb p.1]
theorem Grew.at8 {q q' : Img × Dc} {fr en : Nat} (h : Grew q q') (h8 : At8 q.1 q.2 fr en) : At8 q'.1 q'.2 fr en := h8.next h.img h.dc h.al h.rg
section
variable {w W : World} {F : Nat → Prop} {B : Asr} {gI g gW gr gb bg en cap : Nat} {wcs : Array Value} {q p : Img × Dc}
theorem lp_create (h : On F w (AllA (B :: laidL gI g gW wcs gr gb bg en cap q p)) W) (h8 : At8 q.1 q.2 (bg + 8) en) (s : ByteArray) (hsz : s.size ≤ 9223372036854775807) :
    Calls Tryz.prog 92 #[.pointer (some ⟨g, 0, none⟩), .string s] W (Got (.returned (.tuple #[.int .i64 (q.2.createV q.1 s.data.toList), .int .i64 (q.2.createF q.1 s.data.toList)])) (AllA (B :: laidL gI g gW wcs gr gb bg en cap (q.2.createS q.1 s.data.toList, q.2.createD q.1 s.data.toList) p)) F w) :=
  h.callAt2G 1 2 (by decide) rfl rfl fun F' hb => d_create hb h8 s hsz
theorem lr_create (h : On F w (AllA (B :: laidL gI g gW wcs gr gb bg en cap q p)) W) (h8 : At8 p.1 p.2 (bg + 8) en) (hs : p.2.shut p.1 = false) (s : ByteArray) (hsz : s.size ≤ 9223372036854775807) :
    Calls Tryz.prog 93 #[.pointer (some ⟨gr, 0, none⟩), .string s] W (Got (.returned (.tuple #[.int .i64 (p.2.createV p.1 s.data.toList), .int .i64 (p.2.createF p.1 s.data.toList)])) (AllA (B :: laidL gI g gW wcs gr gb bg en cap q (p.2.createS p.1 s.data.toList, p.2.createD p.1 s.data.toList))) F w) :=
  h.callAt2G 4 5 (by decide) rfl rfl fun F' hb => rd_create (On.refl hb) h8 hs s hsz
theorem lp_show (h : On F w (AllA (B :: laidL gI g gW wcs gr gb bg en cap q p)) W) (h8 : At8 q.1 q.2 (bg + 8) en) :
    Calls Tryz.prog 94 #[.pointer (some ⟨g, 0, none⟩)] W (Got (.returned (.tuple #[])) (AllA (B :: laidL gI g gW wcs gr gb bg en cap (q.2.turnS q.1 showT, q.2) p)) F w) :=
  h.callAt2G 1 2 (by decide) rfl rfl fun F' hb => d_show hb h8
theorem lp_imm (h : On F w (AllA (B :: laidL gI g gW wcs gr gb bg en cap q p)) W) (h8 : At8 q.1 q.2 (bg + 8) en) :
    Calls Tryz.prog 96 #[.pointer (some ⟨g, 0, none⟩)] W (Got (.returned (.tuple #[])) (AllA (B :: laidL gI g gW wcs gr gb bg en cap (q.2.turnS q.1 immT, q.2) p)) F w) :=
  h.callAt2G 1 2 (by decide) rfl rfl fun F' hb => d_immediate hb h8
theorem lr_show (h : On F w (AllA (B :: laidL gI g gW wcs gr gb bg en cap q p)) W) (h8 : At8 p.1 p.2 (bg + 8) en) (hs : p.2.shut p.1 = false) :
    Calls Tryz.prog 95 #[.pointer (some ⟨gr, 0, none⟩), .int .i64 32, .int .i64 0] W (Got (.returned (.tuple #[])) (AllA (B :: laidL gI g gW wcs gr gb bg en cap q (p.2.turnS p.1 showT, p.2))) F w) :=
  h.callAt2G 4 5 (by decide) rfl rfl fun F' hb => rd_flag (On.refl hb) h8 hs 32 0 showT flags_show (by omega) (by omega)
theorem lr_imm (h : On F w (AllA (B :: laidL gI g gW wcs gr gb bg en cap q p)) W) (h8 : At8 p.1 p.2 (bg + 8) en) (hs : p.2.shut p.1 = false) :
    Calls Tryz.prog 95 #[.pointer (some ⟨gr, 0, none⟩), .int .i64 0, .int .i64 64] W (Got (.returned (.tuple #[])) (AllA (B :: laidL gI g gW wcs gr gb bg en cap q (p.2.turnS p.1 immT, p.2))) F w) :=
  h.callAt2G 4 5 (by decide) rfl rfl fun F' hb => rd_flag (On.refl hb) h8 hs 0 64 immT flags_imm (by omega) (by omega)
theorem lp_comma (h : On F w (AllA (B :: laidL gI g gW wcs gr gb bg en cap q p)) W) (h8 : At8 q.1 q.2 (bg + 8) en) (v : Int) (hv : V64 v) :
    Calls Tryz.prog 97 #[.pointer (some ⟨g, 0, none⟩), .int .i64 v] W (Got (.returned (.int .i64 (q.2.commaF q.1))) (AllA (B :: laidL gI g gW wcs gr gb bg en cap (q.2.commaS q.1 v, q.2.commaD q.1) p)) F w) :=
  h.callAt2G 1 2 (by decide) rfl rfl fun F' hb => d_comma hb h8 v hv
theorem lr_comma (h : On F w (AllA (B :: laidL gI g gW wcs gr gb bg en cap q p)) W) (h8 : At8 p.1 p.2 (bg + 8) en) (hs : p.2.shut p.1 = false) (v : Int) (hv : V64 v) :
    Calls Tryz.prog 98 #[.pointer (some ⟨gr, 0, none⟩), .int .i64 v] W (Got (.returned (.int .i64 (p.2.commaF p.1))) (AllA (B :: laidL gI g gW wcs gr gb bg en cap q (p.2.commaS p.1 v, p.2.commaD p.1))) F w) :=
  h.callAt2G 4 5 (by decide) rfl rfl fun F' hb => rd_comma (On.refl hb) h8 hs v hv
/-- the box of the word -/
def wrdC (x : Wrd) (A : Option Addr) (cp : Nat) : Array Value := #[.string x.name, .bool x.hid, .bool x.imm, .slice A x.cells.length cp]
theorem wrd_cells {L : List Asr} {x : Wrd} {A : Option Addr} {cp bx : Nat} (h : On F w (AllA (BlkA bx 27 (wrdC x A cp) :: L)) W) : W.cell? ⟨bx, 0, none⟩ = some (.string x.name) ∧ W.cell? ⟨bx, 1, none⟩ = some (.bool x.hid) ∧ W.cell? ⟨bx, 2, none⟩ = some (.bool x.imm) ∧ W.cell? ⟨bx, 3, none⟩ = some (.slice A x.cells.length cp) :=
  let hb := h.blkAt 0 rfl
  ⟨hb.cell 0, hb.cell 1, hb.cell 2, hb.cell 3⟩
/-- Create fails alike in both -/
theorem laid_bad (hb : (AllA (laidL gI g gW wcs gr gb bg en cap q q)).holds w F) (h8 : At8 q.1 q.2 (bg + 8) en) (hsh : q.2.shut q.1 = false) (x : Wrd) (A : Option Addr) (cp : Nat) (hsz : x.name.size ≤ 9223372036854775807)
    (kernel : Bool) (gk gs : Nat) (hw1 : wcs[1]? = some (.pointer (some ⟨gk, 0, none⟩))) (hw2 : wcs[2]? = some (.pointer (some ⟨gs, 0, none⟩))) (hgr : gr = if kernel then gk else gs) (hf : q.2.createF q.1 x.name.data.toList ≠ 0) :
    Calls Tryz.prog 70 #[.pointer (some ⟨g, 0, none⟩), .pointer (some ⟨gW, 0, none⟩), .bool kernel, .agg #[.string x.name, .bool x.hid, .bool x.imm, .slice A x.cells.length cp]] w (Got (.returned (.bool true)) (AllA (laidL gI g gW wcs gr gb bg en cap q q)) F w) := by
  have hon := (On.refl hb).box (wrdC x A cp) 27
  have e1 : (q.2.createS q.1 x.name.data.toList, q.2.createD q.1 x.name.data.toList) = q := by
    unfold Dc.createS Dc.createD
    rw [if_neg hf, if_neg hf]
  have hp := lp_create hon h8 x.name hsz
  rw [e1] at hp
  have hr := fun W (h : On F w (AllA (BlkA w.heap.size 27 (wrdC x A cp) :: laidL gI g gW wcs gr gb bg en cap q q)) W) => lr_create h h8 hsh x.name hsz
  rw [e1] at hr
  have hz := fun W (h : On F w (AllA (BlkA w.heap.size 27 (wrdC x A cp) :: laidL gI g gW wcs gr gb bg en cap q q)) W) => wrd_cells h
  have hwb : Blk w gW 77 wcs := (On.refl hb).blkAt 2 rfl
  have cw1 := (hwb.cell 1).trans hw1
  have cw2 := (hwb.cell 2).trans hw2
  have hf2 : (q.2.createF q.1 x.name.data.toList != 0) = true := by simpa using hf
  have hf3 : (q.2.createF q.1 x.name.data.toList != q.2.createF q.1 x.name.data.toList) = false := by simp
  generalize q.2.createV q.1 x.name.data.toList = cv at *
  generalize q.2.createF q.1 x.name.data.toList = cf at *
  have hwlt := hwb.lt
  unfold wrdC at hp hr hz hon
  replace hon := Lib.hid hon
  replace hp := Lib.hid hp
  replace hr := Lib.hid hr
  replace hz := Lib.hid hz
  clear hb hwb hf h8 hsh e1 hw1 hw2
  cases kernel with
  | true =>
    simp only [if_true] at hgr
    subst hgr
    go_enter Tryz.func70, Tryz.ntmps70
    go_wp2_with fail
    refine hp.out.mono ?_
    rintro e w1 ⟨rfl, h1⟩
    obtain ⟨z0, z1, z2, z3⟩ := hz.out _ h1
    have hr1 := Lib.hid (hr.out _ h1)
    clear h1
    go_wp2_with fail
    refine hr1.out.mono ?_
    rintro e w2 ⟨rfl, h2⟩
    replace h2 := Lib.hid h2
    go_wp2
    go_ret
    exact ⟨rfl, h2.out.tail⟩
  | false =>
    simp only [Bool.false_eq_true, if_false] at hgr
    subst hgr
    go_enter Tryz.func70, Tryz.ntmps70
    go_wp2_with fail
    refine hp.out.mono ?_
    rintro e w1 ⟨rfl, h1⟩
    obtain ⟨z0, z1, z2, z3⟩ := hz.out _ h1
    have hr1 := Lib.hid (hr.out _ h1)
    clear h1
    go_wp2_with fail
    refine hr1.out.mono ?_
    rintro e w2 ⟨rfl, h2⟩
    replace h2 := Lib.hid h2
    go_wp2
    go_ret
    exact ⟨rfl, h2.out.tail⟩
theorem commasS_cons (v : Int) (l : List Int) (q : Img × Dc) : commasS (v :: l) q = if q.2.commaF q.1 = 0 then commasS l (q.2.commaS q.1 v, q.2.commaD q.1) else q := rfl
def showQ (hid : Bool) (q : Img × Dc) : Img × Dc := if hid then q else (q.2.turnS q.1 showT, q.2)
def immQ (imm : Bool) (q : Img × Dc) : Img × Dc := if imm then (q.2.turnS q.1 immT, q.2) else q
theorem mark_eq (x : Wrd) (q : Img × Dc) : (markS x q.1 q.2, q.2) = immQ x.imm (showQ x.hid q) := by
  unfold markS immQ showQ
  cases x.imm <;> cases x.hid <;> rfl
theorem grew_showQ (hid : Bool) {q : Img × Dc} (h1 : q.1.Ok) (h2 : q.2.Ok q.1) : Grew q (showQ hid q) := by
  unfold showQ
  split
  · exact Grew.refl h1 h2
  · exact grew_show h1 h2
theorem grew_immQ (imm : Bool) {q : Img × Dc} (h1 : q.1.Ok) (h2 : q.2.Ok q.1) : Grew q (immQ imm q) := by
  unfold immQ
  split
  · exact grew_imm h1 h2
  · exact Grew.refl h1 h2
set_option maxHeartbeats 4000000 in
theorem laid_good (hb : (AllA (laidL gI g gW wcs gr gb bg en cap q q)).holds w F) (h8 : At8 q.1 q.2 (bg + 8) en) (hsh : q.2.shut q.1 = false) (x : Wrd) (A : Option Addr) (cp : Nat) (hsz : x.name.size ≤ 9223372036854775807)
    (hi : Ints w A x.cells) (hfar : Far F A) (hv : ∀ v ∈ x.cells, V64 v) (hcl : x.cells.length ≤ 1000000000)
    (kernel : Bool) (gk gs : Nat) (hw1 : wcs[1]? = some (.pointer (some ⟨gk, 0, none⟩))) (hw2 : wcs[2]? = some (.pointer (some ⟨gs, 0, none⟩))) (hgr : gr = if kernel then gk else gs) (hf : q.2.createF q.1 x.name.data.toList = 0) :
    Calls Tryz.prog 70 #[.pointer (some ⟨g, 0, none⟩), .pointer (some ⟨gW, 0, none⟩), .bool kernel, .agg #[.string x.name, .bool x.hid, .bool x.imm, .slice A x.cells.length cp]] w (Got (.returned (.bool true)) (AllA (laidL gI g gW wcs gr gb bg en cap (laidS x q) (laidS x q))) F w) := by
  have hon := (On.refl hb).box (wrdC x A cp) 27
  have hp := lp_create hon h8 x.name hsz
  have hr := fun W (q1 : Img × Dc) (h : On F w (AllA (BlkA w.heap.size 27 (wrdC x A cp) :: laidL gI g gW wcs gr gb bg en cap q1 q)) W) => lr_create h h8 hsh x.name hsz
  have g1 := grew_create (S := q.1) (D := q.2) h8.img h8.ok x.name.data.toList
  have e0 : laidS x q = commasS x.cells (immQ x.imm (showQ x.hid (q.2.createS q.1 x.name.data.toList, q.2.createD q.1 x.name.data.toList))) := by
    unfold laidS
    rw [if_neg (by rw [hf]; decide), ← mark_eq]
  have g1' : Grew q (q.2.createS q.1 x.name.data.toList, q.2.createD q.1 x.name.data.toList) := g1
  generalize (q.2.createS q.1 x.name.data.toList, q.2.createD q.1 x.name.data.toList) = q1 at *
  have h81 := g1'.at8 h8
  have hs1 : q1.2.shut q1.1 = false := g1'.shut.trans hsh
  have g2 := grew_showQ x.hid h81.img h81.ok
  have h82 := g2.at8 h81
  have hs2 := g2.shut.trans hs1
  have g3 := grew_immQ x.imm h82.img h82.ok
  have h83 := g3.at8 h82
  have hs3 := g3.shut.trans hs2
  have hz := fun W (q1 q2 : Img × Dc) (h : On F w (AllA (BlkA w.heap.size 27 (wrdC x A cp) :: laidL gI g gW wcs gr gb bg en cap q1 q2)) W) => wrd_cells h
  have hwb : Blk w gW 77 wcs := (On.refl hb).blkAt 2 rfl
  have cw1 := (hwb.cell 1).trans hw1
  have cw2 := (hwb.cell 2).trans hw2
  have hwlt := hwb.lt
  rw [e0]
  rw [hf] at hp hr
  have hshow := fun W (h : On F w (AllA (BlkA w.heap.size 27 (wrdC x A cp) :: laidL gI g gW wcs gr gb bg en cap q1 q1)) W) => lp_show h h81
  have hshow2 := fun W (h : On F w (AllA (BlkA w.heap.size 27 (wrdC x A cp) :: laidL gI g gW wcs gr gb bg en cap (q1.2.turnS q1.1 showT, q1.2) q1)) W) => lr_show h h81 hs1
  generalize q.2.createV q.1 x.name.data.toList = cv at *
  clear hf g1 e0 hw1 hw2 hwb
  unfold wrdC at hp hr hz hon hshow hshow2
  obtain ⟨nm, hid, imm, cells⟩ := x
  simp only at *
  replace hon := Lib.hid hon
  replace hp := Lib.hid hp
  replace hr := Lib.hid hr
  replace hz := Lib.hid hz
  replace hshow := Lib.hid hshow
  replace hshow2 := Lib.hid hshow2
  replace h82 := Lib.hid h82
  replace h83 := Lib.hid h83
  replace hs2 := Lib.hid hs2
  replace hs3 := Lib.hid hs3
  replace hi := Lib.hid hi
  replace hfar := Lib.hid hfar
  replace hv := Lib.hid hv
  replace hgr := Lib.hid hgr
  clear hb h8 hsh g1' g2 g3 h81 hs1
  go_enter Tryz.func70, Tryz.ntmps70
  go_upto_if 21 with fail
  go_cut [9] (fun r wx => r = .pointer (some ⟨gr, 0, none⟩) ∧ wx = w.alloc (.cells #[.string nm, .bool hid, .bool imm, .slice A cells.length cp] 27))
  case first =>
    have hg := hgr.out
    cases kernel with
    | true =>
      simp only [if_true] at hg
      subst hg
      go_wp2_with fail
      go_meet
      exact ⟨rfl, rfl⟩
    | false =>
      simp only [Bool.false_eq_true, if_false] at hg
      subst hg
      go_wp2_with fail
      go_meet
      exact ⟨rfl, rfl⟩
  case rest =>
    obtain ⟨rfl, rfl⟩ := hcut
    clear cw1 cw2
    go_wp2_with fail
    refine hp.out.mono ?_
    rintro e w1 ⟨rfl, h1⟩
    obtain ⟨z0, z1, z2, z3⟩ := hz.out _ _ _ h1
    have hr1 := Lib.hid (hr.out _ _ h1)
    clear h1
    go_wp2_with fail
    refine hr1.out.mono ?_
    rintro e w2 ⟨rfl, h2⟩
    clear z0 z1 z2 z3
    obtain ⟨z0, z1, z2, z3⟩ := hz.out _ _ _ h2
    go_upto_if 47 with fail
    go_cut [] (fun wx => On F w (AllA (BlkA w.heap.size 27 #[.string nm, .bool hid, .bool imm, .slice A cells.length cp] :: laidL gI g gW wcs gr gb bg en cap (showQ hid q1) (showQ hid q1))) wx)
    case first =>
      cases hid with
      | true =>
        replace h2 := Lib.hid h2
        go_wp2_with fail
        go_meet
        exact h2.out
      | false =>
        have hs := Lib.hid (hshow.out _ h2)
        clear h2 z0 z1 z2 z3
        go_wp2_with fail
        refine hs.out.mono ?_
        rintro e w3 ⟨rfl, h3⟩
        have hq := Lib.hid (hshow2.out _ h3)
        clear h3
        go_wp2_with fail
        refine hq.out.mono ?_
        rintro e w4 ⟨rfl, h4⟩
        replace h4 := Lib.hid h4
        go_wp2_with fail
        go_meet
        exact h4.out
    case rest =>
      have h3 := hcut
      clear hshow hshow2 h2 z0 z1 z2 z3 hp hr hr1
      have him := lp_imm h3 h82.out
      have him2 := fun W (h : On F w (AllA (BlkA w.heap.size 27 #[.string nm, .bool hid, .bool imm, .slice A cells.length cp] :: laidL gI g gW wcs gr gb bg en cap ((showQ hid q1).2.turnS (showQ hid q1).1 immT, (showQ hid q1).2) (showQ hid q1))) W) => lr_imm h h82.out hs2.out
      generalize showQ hid q1 = q2 at *
      obtain ⟨z0, z1, z2, z3⟩ := hz.out _ _ _ h3
      replace h3 := Lib.hid h3
      replace him := Lib.hid him
      replace him2 := Lib.hid him2
      clear hcut
      go_upto_if 53 with fail
      go_cut [] (fun wx => On F w (AllA (BlkA w.heap.size 27 #[.string nm, .bool hid, .bool imm, .slice A cells.length cp] :: laidL gI g gW wcs gr gb bg en cap (immQ imm q2) (immQ imm q2))) wx)
      case first =>
        cases imm with
        | false =>
          go_wp2_with fail
          go_meet
          exact h3.out
        | true =>
          clear z0 z1 z2 z3
          go_wp2_with fail
          refine him.out.mono ?_
          rintro e w3 ⟨rfl, h3⟩
          have hq := Lib.hid (him2.out _ h3)
          clear h3
          go_wp2_with fail
          refine hq.out.mono ?_
          rintro e w4 ⟨rfl, h4⟩
          replace h4 := Lib.hid h4
          go_wp2_with fail
          go_meet
          exact h4.out
      case rest =>
        have h4 := hcut
        clear hcut h3 him him2 z0 z1 z2 z3
        generalize immQ imm q2 = q3 at *
        replace h4 := Lib.hid h4
        go_wp2_with fail
        go_loopg [14] cells.length (fun k t wr => ∃ (j : Nat) (qj : Img × Dc), j + k = cells.length ∧ t = .int .i64 (j : Int) ∧ Grew q3 qj ∧ commasS cells q3 = commasS (cells.drop j) qj ∧ On F w (AllA (BlkA w.heap.size 27 #[.string nm, .bool hid, .bool imm, .slice A cells.length cp] :: laidL gI g gW wcs gr gb bg en cap qj qj)) wr)
        case atStart => exact ⟨0, q3, by omega, rfl, Grew.refl h83.out.img h83.out.ok, rfl, h4.out⟩
        case round =>
          obtain ⟨j, qj, hj, rfl, hgq, hcq, hoj⟩ := hrel
          obtain ⟨z0, z1, z2, z3⟩ := hz.out _ _ _ hoj
          by_cases hjl : j < cells.length
          · obtain ⟨v, hvj⟩ : ∃ v, cells[j]? = some v := ⟨cells[j], by simp [hjl]⟩
            have hvv := hv.out v (List.mem_of_getElem? hvj)
            obtain ⟨a, ha, hca⟩ := (hoj.ints hi.out hfar.out) j v hvj
            have h8j := hgq.at8 h83.out
            have hsj := hgq.shut.trans hs3.out
            have hdr : cells.drop j = v :: cells.drop (j + 1) := by
              rw [List.drop_eq_getElem_cons hjl]
              congr 1
              rw [List.getElem?_eq_getElem hjl] at hvj
              exact Option.some.inj hvj
            rw [hdr, commasS_cons] at hcq
            have hg2 : Grew qj (qj.2.commaS qj.1 v, qj.2.commaD qj.1) := grew_comma h8j.img h8j.ok v
            have hpc := lp_comma hoj h8j v hvv
            have hrc := fun W (h : On F w (AllA (BlkA w.heap.size 27 #[.string nm, .bool hid, .bool imm, .slice A cells.length cp] :: laidL gI g gW wcs gr gb bg en cap (qj.2.commaS qj.1 v, qj.2.commaD qj.1) qj)) W) => lr_comma h h8j hsj v hvv
            subst ha
            have hca2 := fun W (h : On F w (AllA (BlkA w.heap.size 27 #[.string nm, .bool hid, .bool imm, .slice (some a) cells.length cp] :: laidL gI g gW wcs gr gb bg en cap (qj.2.commaS qj.1 v, qj.2.commaD qj.1) qj)) W) => (by
              obtain ⟨b, hb, hcb⟩ := (h.ints hi.out hfar.out) j v hvj
              cases hb
              exact hcb : W.cell? (a.add j) = some (.int .i64 v))
            have hff : (qj.2.commaF qj.1 != qj.2.commaF qj.1) = false := by simp
            by_cases hf0 : qj.2.commaF qj.1 = 0
            · rw [if_pos hf0] at hcq
              rw [hf0] at hpc hrc
              generalize (qj.2.commaS qj.1 v, qj.2.commaD qj.1) = qn at *
              replace hpc := Lib.hid hpc
              replace hrc := Lib.hid hrc
              replace hca2 := Lib.hid hca2
              replace hcq := Lib.hid hcq
              replace hg2 := Lib.hid hg2
              replace hgq := Lib.hid hgq
              clear hoj h8j hsj hdr hvv hff hf0 hvj
              go_wp2_with fail
              refine hpc.out.mono ?_
              rintro e w5 ⟨rfl, h5⟩
              have hrq := Lib.hid (hrc.out _ h5)
              have hc5 := hca2.out _ h5
              clear z0 z1 z2 z3 hca
              obtain ⟨z0, z1, z2, z3⟩ := hz.out _ _ _ h5
              clear h5
              go_wp2_with fail
              refine hrq.out.mono ?_
              rintro e w6 ⟨rfl, h6⟩
              replace h6 := Lib.hid h6
              go_wp2
              go_roundg (gk - 1)
              case measure => omega
              case rel => exact ⟨j + 1, qn, by omega, by go_num, hgq.out.trans hg2.out, hcq.out, h6.out⟩
            · rw [if_neg hf0] at hcq
              have e1 : (qj.2.commaS qj.1 v, qj.2.commaD qj.1) = qj := by
                unfold Dc.commaS Dc.commaD
                rw [if_neg hf0, if_neg hf0]
              rw [e1] at hpc hrc hca2
              have hft : (qj.2.commaF qj.1 != 0) = true := by simpa using hf0
              generalize qj.2.commaF qj.1 = ff at *
              replace hpc := Lib.hid hpc
              replace hrc := Lib.hid hrc
              replace hca2 := Lib.hid hca2
              replace hcq := Lib.hid hcq
              clear hoj h8j hsj hdr hvv hf0 hvj hg2 e1 hgq
              go_wp2_with fail
              refine hpc.out.mono ?_
              rintro e w5 ⟨rfl, h5⟩
              have hrq := Lib.hid (hrc.out _ h5)
              have hc5 := hca2.out _ h5
              clear z0 z1 z2 z3 hca
              obtain ⟨z0, z1, z2, z3⟩ := hz.out _ _ _ h5
              clear h5
              go_wp2_with fail
              refine hrq.out.mono ?_
              rintro e w6 ⟨rfl, h6⟩
              replace h6 := Lib.hid h6
              go_wp2
              go_ret
              refine ⟨rfl, ?_⟩
              rw [hcq.out]
              exact h6.out.tail
          · have hjj : j = cells.length := by omega
            subst hjj
            rw [List.drop_length] at hcq
            replace hcq := Lib.hid hcq
            replace hgq := Lib.hid hgq
            replace hoj := Lib.hid hoj
            have hdl : decide ((cells.length : Int) < (cells.length : Int)) = false := by simp
            go_wp2
            go_ret
            refine ⟨rfl, ?_⟩
            rw [hcq.out]
            exact hoj.out.tail
/-- a word laid into both lists -/
theorem laid_walk (hb : (AllA (laidL gI g gW wcs gr gb bg en cap q q)).holds w F) (h8 : At8 q.1 q.2 (bg + 8) en) (hsh : q.2.shut q.1 = false) (x : Wrd) (A : Option Addr) (cp : Nat) (hsz : x.name.size ≤ 9223372036854775807)
    (hi : Ints w A x.cells) (hfar : Far F A) (hv : ∀ v ∈ x.cells, V64 v) (hcl : x.cells.length ≤ 1000000000)
    (kernel : Bool) (gk gs : Nat) (hw1 : wcs[1]? = some (.pointer (some ⟨gk, 0, none⟩))) (hw2 : wcs[2]? = some (.pointer (some ⟨gs, 0, none⟩))) (hgr : gr = if kernel then gk else gs) :
    Calls Tryz.prog 70 #[.pointer (some ⟨g, 0, none⟩), .pointer (some ⟨gW, 0, none⟩), .bool kernel, .agg #[.string x.name, .bool x.hid, .bool x.imm, .slice A x.cells.length cp]] w (Got (.returned (.bool true)) (AllA (laidL gI g gW wcs gr gb bg en cap (laidS x q) (laidS x q))) F w) := by
  by_cases hf : q.2.createF q.1 x.name.data.toList = 0
  · exact laid_good hb h8 hsh x A cp hsz hi hfar hv hcl kernel gk gs hw1 hw2 hgr hf
  · have e : laidS x q = q := by unfold laidS; rw [if_pos hf]
    rw [e]
    exact laid_bad hb h8 hsh x A cp hsz kernel gk gs hw1 hw2 hgr hf
end
end Vm
end Go.Proofs.YtjhdpmimccpcdaaGreatDoor
