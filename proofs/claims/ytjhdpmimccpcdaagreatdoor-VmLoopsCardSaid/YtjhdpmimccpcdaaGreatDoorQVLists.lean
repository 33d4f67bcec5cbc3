/- Chapter 11: the words of both lists. Conditions: as written. -/
import Derived.Test.YtjhdpmimccpcdaaGreatDoorQVLaid
import Derived.Test.YtjhdpmimccpcdaaGreatDoorQ26
import Derived.Test.YtjhdpmimccpcdaaGreatDoorQ29
import Derived.Deep.CutBlock
namespace Go.Proofs.YtjhdpmimccpcdaaGreatDoor
set_option linter.unusedVariables false
set_option maxRecDepth 100000
open Go.RowKit Go.Lib Go.Deep
namespace Vm
/-- a word of a law's list in memory, far from the blocks F -/
structure WrdIn (n0 : Nat) (w : World) (F : Nat → Prop) (A : Option Addr) (j : Nat) (x : Wrd) (rb o : Nat) (Ax : Option Addr) (cp : Nat) : Prop where
  at_ : A = some ⟨rb, o, none⟩
  far : ¬ F rb
  c0 : w.cell? ⟨rb, o + j * 4, none⟩ = some (.string x.name)
  c1 : w.cell? ⟨rb, o + j * 4 + 1, none⟩ = some (.bool x.hid)
  c2 : w.cell? ⟨rb, o + j * 4 + 2, none⟩ = some (.bool x.imm)
  c3 : w.cell? ⟨rb, o + j * 4 + 3, none⟩ = some (.slice Ax x.cells.length cp)
  ints : Ints w Ax x.cells
  farx : ∀ a, Ax = some a → ¬ F a.block ∧ a.block < n0
  name : x.name.size ≤ 9223372036854775807
  v64 : ∀ v ∈ x.cells, V64 v
  len : x.cells.length ≤ 1000000000
def WordsIn (n0 : Nat) (w : World) (F : Nat → Prop) (A : Option Addr) (xs : List Wrd) : Prop := ∀ j x, xs[j]? = some x → ∃ rb o Ax cp, WrdIn n0 w F A j x rb o Ax cp
theorem WrdIn.on {n0 : Nat} {w W : World} {F : Nat → Prop} {X : Asr} {A Ax : Option Addr} {j rb o cp : Nat} {x : Wrd} (h : WrdIn n0 w F A j x rb o Ax cp) (hon : On F w X W) : WrdIn n0 W F A j x rb o Ax cp :=
  ⟨h.at_, h.far, hon.cellOut h.c0 h.far, hon.cellOut h.c1 h.far, hon.cellOut h.c2 h.far, hon.cellOut h.c3 h.far, hon.ints h.ints (fun a ha => (h.farx a ha).1), h.farx, h.name, h.v64, h.len⟩
/-- what a law gives, as a value -/
structure Sl where
  kA : Option Addr
  kc : Nat
  sA : Option Addr
  sc : Nat
  dA : Option Addr
  dc : Nat
  rA : Option Addr
  rc : Nat
def setupC (s : Setup) (m : Sl) : Array Value :=
  #[.int .i64 s.caps, .int .i64 s.room, .string s.input, .string s.hidden, .bool s.opened, .slice m.kA s.kernel.length m.kc, .slice m.sA s.student.length m.sc, .int .i64 s.base, .slice m.dA s.data.length m.dc, .slice m.rA s.ret.length m.rc, .int .i64 s.fault, .int .i64 s.used, .int .i64 s.hiddenAs]
/-- the objects, the kernel's list behind; the student's behind -/
def lsK (b : Bc) (r : Rc) (wcs : Array Value) (D : Dc) (q : Img × Dc) : List Asr :=
  BlkA b.gB 39 (bothC b (.slice none 0 0)) :: DcA b.gI b.gS 16456 16960 D :: RDicA r.gS r.gb 16448 16960 704 false D :: laidL b.gI b.gK b.gW wcs r.gK r.gb 0 16384 17152 q q
def lsS (b : Bc) (r : Rc) (wcs : Array Value) (K : Dc) (q : Img × Dc) : List Asr :=
  BlkA b.gB 39 (bothC b (.slice none 0 0)) :: DcA b.gI b.gK 8 16384 K :: RDicA r.gK r.gb 0 16384 17152 false K :: laidL b.gI b.gS b.gW wcs r.gS r.gb 16448 16960 704 q q
section
variable {w W : World} {F : Nat → Prop} {b : Bc} {r : Rc} {wcs sc : Array Value} {K D : Dc} {S : Img} {s : Setup} {m : Sl} {q : Img × Dc} {bx : Nat}
/-- from the one order to the other -/
theorem ls_turn {B : Asr} (h : On F w (AllA (B :: lsK b r wcs D (S, K))) W) : On F w (AllA (B :: lsS b r wcs K (S, D))) W := by
  have h1 : On F w (AllA [B, BlkA b.gB 39 (bothC b (.slice none 0 0)), DcA b.gI b.gS 16456 16960 D, RDicA r.gS r.gb 16448 16960 704 false D, DcA b.gI b.gK 8 16384 K, ImgA b.gI S, BlkA b.gW 77 wcs, RDicA r.gK r.gb 0 16384 17152 false K, RbA r.gb S]) W := h
  exact (((((((((h1.front 8 rfl).front 4 rfl).front 7 rfl).front 7 rfl).front 6 rfl).front 8 rfl).front 8 rfl).front 8 rfl).front 8 rfl)
theorem fold_take (xs : List Wrd) (q : Img × Dc) (j : Nat) (x : Wrd) (hx : xs[j]? = some x) : (xs.take (j + 1)).foldl (fun q x => laidS x q) q = laidS x ((xs.take j).foldl (fun q x => laidS x q) q) := by
  rw [List.take_add_one, hx]
  simp
theorem fold_min (xs : List Wrd) (q : Img × Dc) : (xs.take (min xs.length 20)).foldl (fun q x => laidS x q) q = listS xs q := by
  unfold listS
  congr 1
  by_cases h : xs.length ≤ 20
  · rw [Nat.min_eq_left h, List.take_of_length_le (Nat.le_refl _), List.take_of_length_le h]
  · rw [Nat.min_eq_right (by omega)]
theorem fold_grew (xs : List Wrd) (q : Img × Dc) (j : Nat) (h1 : q.1.Ok) (h2 : q.2.Ok q.1) : Grew q ((xs.take j).foldl (fun q x => laidS x q) q) := grew_fold _ q h1 h2
theorem laid_kernel (h : On F w (AllA (BlkA bx 30 sc :: lsK b r wcs D q)) W) (h8 : At8 q.1 q.2 8 16384) (hsh : q.2.shut q.1 = false) (x : Wrd) {A Ax : Option Addr} {j rb o cp : Nat} (hx : WrdIn w.heap.size W F A j x rb o Ax cp)
    (hw1 : wcs[1]? = some (.pointer (some ⟨r.gK, 0, none⟩))) (hw2 : wcs[2]? = some (.pointer (some ⟨r.gS, 0, none⟩))) :
    Calls Tryz.prog 70 #[.pointer (some ⟨b.gK, 0, none⟩), .pointer (some ⟨b.gW, 0, none⟩), .bool true, .agg #[.string x.name, .bool x.hid, .bool x.imm, .slice Ax x.cells.length cp]] W (Got (.returned (.bool true)) (AllA (BlkA bx 30 sc :: lsK b r wcs D (laidS x q))) F w) :=
  h.callDrop 4 (by simp [lsK]) fun F' hb _ hs => laid_walk (bg := 0) hb h8 hsh x Ax cp hx.name hx.ints (fun a ha hk => by
    obtain ⟨h1, h2⟩ := hx.farx a ha
    rcases hs a.block hk with h3 | h3
    · exact h1 h3
    · omega) hx.v64 hx.len true r.gK r.gS hw1 hw2 rfl
theorem laid_student (h : On F w (AllA (BlkA bx 30 sc :: lsS b r wcs K q)) W) (h8 : At8 q.1 q.2 16456 16960) (hsh : q.2.shut q.1 = false) (x : Wrd) {A Ax : Option Addr} {j rb o cp : Nat} (hx : WrdIn w.heap.size W F A j x rb o Ax cp)
    (hw1 : wcs[1]? = some (.pointer (some ⟨r.gK, 0, none⟩))) (hw2 : wcs[2]? = some (.pointer (some ⟨r.gS, 0, none⟩))) :
    Calls Tryz.prog 70 #[.pointer (some ⟨b.gS, 0, none⟩), .pointer (some ⟨b.gW, 0, none⟩), .bool false, .agg #[.string x.name, .bool x.hid, .bool x.imm, .slice Ax x.cells.length cp]] W (Got (.returned (.bool true)) (AllA (BlkA bx 30 sc :: lsS b r wcs K (laidS x q))) F w) :=
  h.callDrop 4 (by simp [lsS]) fun F' hb _ hs => laid_walk (bg := 16448) hb h8 hsh x Ax cp hx.name hx.ints (fun a ha hk => by
    obtain ⟨h1, h2⟩ := hx.farx a ha
    rcases hs a.block hk with h3 | h3
    · exact h1 h3
    · omega) hx.v64 hx.len false r.gK r.gS hw1 hw2 rfl
theorem both_cells {L : List Asr} {bx : Nat} {t : TypeId} {cs : Array Value} (h : On F w (AllA (BlkA bx t cs :: BlkA b.gB 39 (bothC b (.slice none 0 0)) :: L)) W) :
    W.cell? ⟨b.gB, 0, none⟩ = some (.pointer (some ⟨b.gI, 0, none⟩)) ∧ W.cell? ⟨b.gB, 1, none⟩ = some (.pointer (some ⟨b.gK, 0, none⟩)) ∧ W.cell? ⟨b.gB, 2, none⟩ = some (.pointer (some ⟨b.gS, 0, none⟩)) ∧ W.cell? ⟨b.gB, 5, none⟩ = some (.pointer (some ⟨b.gM, 0, none⟩)) ∧ W.cell? ⟨b.gB, 6, none⟩ = some (.pointer (some ⟨b.gW, 0, none⟩)) :=
  let hb := h.blkAt 1 rfl
  ⟨hb.cell 0, hb.cell 1, hb.cell 2, hb.cell 5, hb.cell 6⟩
theorem setup_cells {L : List Asr} {bx : Nat} (h : On F w (AllA (BlkA bx 30 (setupC s m) :: L)) W) :
    W.cell? ⟨bx, 5, none⟩ = some (.slice m.kA s.kernel.length m.kc) ∧ W.cell? ⟨bx, 6, none⟩ = some (.slice m.sA s.student.length m.sc) ∧ W.cell? ⟨bx, 7, none⟩ = some (.int .i64 s.base) ∧ W.cell? ⟨bx, 8, none⟩ = some (.slice m.dA s.data.length m.dc) ∧ W.cell? ⟨bx, 9, none⟩ = some (.slice m.rA s.ret.length m.rc) :=
  let hb := h.blkAt 0 rfl
  ⟨hb.cell 5, hb.cell 6, hb.cell 7, hb.cell 8, hb.cell 9⟩
set_option maxHeartbeats 4000000 in
theorem b_lists (hb : (AllA (lsK b r wcs D q)).holds w F) (h8 : At8 q.1 q.2 8 16384) (hsh : q.2.shut q.1 = false) (h8d : At8 q.1 D 16456 16960) (hshd : D.shut q.1 = false) (hk : WordsIn w.heap.size w F m.kA s.kernel) (hst : WordsIn w.heap.size w F m.sA s.student)
    (hkl : s.kernel.length ≤ 1000000000) (hsl : s.student.length ≤ 1000000000) (hw1 : wcs[1]? = some (.pointer (some ⟨r.gK, 0, none⟩))) (hw2 : wcs[2]? = some (.pointer (some ⟨r.gS, 0, none⟩))) :
    Calls Tryz.prog 39 #[.pointer (some ⟨b.gB, 0, none⟩), .agg (setupC s m)] w (Got (.returned (.bool true)) (AllA (lsS b r wcs (listS s.kernel q).2 (listS s.student ((listS s.kernel q).1, D)))) F w) := by
  have hon := (On.refl hb).box (setupC s m) 30
  have hbc := fun W q (h : On F w (AllA (BlkA w.heap.size 30 (setupC s m) :: lsK b r wcs D q)) W) => both_cells h
  have hsc := fun W q (h : On F w (AllA (BlkA w.heap.size 30 (setupC s m) :: lsK b r wcs D q)) W) => setup_cells h
  have hbc2 := fun W (p : Img × Dc) (h : On F w (AllA (BlkA w.heap.size 30 (setupC s m) :: lsS b r wcs (listS s.kernel q).2 p)) W) => both_cells h
  have hsc2 := fun W (p : Img × Dc) (h : On F w (AllA (BlkA w.heap.size 30 (setupC s m) :: lsS b r wcs (listS s.kernel q).2 p)) W) => setup_cells h
  replace hsc2 := Lib.hid hsc2
  replace hbc2 := Lib.hid hbc2
  replace hon := Lib.hid hon
  replace hbc := Lib.hid hbc
  replace hsc := Lib.hid hsc
  replace h8 := Lib.hid h8
  replace hsh := Lib.hid hsh
  replace h8d := Lib.hid h8d
  replace hshd := Lib.hid hshd
  replace hk := Lib.hid hk
  replace hst := Lib.hid hst
  unfold setupC
  go_enter Tryz.func39, Tryz.ntmps39
  go_upto_block 0 with fail
  go_cut [] (fun wx => On F w (AllA (BlkA w.heap.size 30 (setupC s m) :: lsS b r wcs (listS s.kernel q).2 ((listS s.kernel q).1, D))) wx)
  case first =>
    go_wp2_with fail
    go_loopg [5] (min s.kernel.length 20) (fun k t wr => ∃ j : Nat, j + k = min s.kernel.length 20 ∧ t = .int .i64 (j : Int) ∧ On F w (AllA (BlkA w.heap.size 30 (setupC s m) :: lsK b r wcs D ((s.kernel.take j).foldl (fun q x => laidS x q) q))) wr)
    case atStart => exact ⟨0, by omega, rfl, hon.out⟩
    case round =>
      obtain ⟨j, hj, rfl, hoj⟩ := hrel
      obtain ⟨z0, z1, z2, z3, z4⟩ := hbc.out _ _ hoj
      obtain ⟨y5, y6, y7, y8, y9⟩ := hsc.out _ _ hoj
      by_cases hjl : j < min s.kernel.length 20
      · obtain ⟨x, hx⟩ : ∃ x, s.kernel[j]? = some x := ⟨s.kernel[j]'(by omega), by rw [List.getElem?_eq_getElem]⟩
        obtain ⟨rb, o, Ax, cp, hxi⟩ := hk.out j x hx
        have hxo := hxi.on hoj
        have hg := fold_grew s.kernel q j h8.out.img h8.out.ok
        have hl := laid_kernel hoj.drew (hg.at8 h8.out) (hg.shut.trans hsh.out) x (hxi.on hoj.drew) hw1 hw2
        rw [← fold_take s.kernel q j x hx] at hl
        have hA := hxi.at_
        have x0 := hxo.c0
        have x1 := hxo.c1
        have x2 := hxo.c2
        have x3 := hxo.c3
        have hxk := fun W (p : Img × Dc) (h : On F w (AllA (BlkA w.heap.size 30 (setupC s m) :: lsK b r wcs D p)) W) => hxi.on h
        have d1 : decide ((j : Int) < (s.kernel.length : Int)) = true := decide_eq_true (by omega)
        have d2 : decide ((j : Int) < 20) = true := decide_eq_true (by omega)
        rw [hA] at y5
        have hjn : j < s.kernel.length := by omega
        generalize hqn : (s.kernel.take (j + 1)).foldl (fun q x => laidS x q) q = qn at *
        replace hqn := Lib.hid hqn
        obtain ⟨nm, hid, imm, cs⟩ := x
        simp only at hl x0 x1 x2 x3
        replace hl := Lib.hid hl
        replace hoj := Lib.hid hoj
        replace hxk := Lib.hid hxk
        replace hA := Lib.hid hA
        clear hxo hg hx hxi
        go_wp2_with fail
        go_region_held (fun w' => w'.cell? ⟨b.gB, 1, none⟩ = some (.pointer (some ⟨b.gK, 0, none⟩)) ∧ w'.cell? ⟨b.gB, 6, none⟩ = some (.pointer (some ⟨b.gW, 0, none⟩)) ∧ w'.cell? ⟨w.heap.size, 5, none⟩ = some (.slice (some ⟨rb, o, none⟩) s.kernel.length m.kc) ∧ w'.cell? ⟨rb, o + j * 4, none⟩ = some (.string nm) ∧ w'.cell? ⟨rb, o + j * 4 + 1, none⟩ = some (.bool hid) ∧ w'.cell? ⟨rb, o + j * 4 + 2, none⟩ = some (.bool imm) ∧ w'.cell? ⟨rb, o + j * 4 + 3, none⟩ = some (.slice Ax cs.length cp)) (go_keep)
          ((go_at_call 70; refine hl.out.mono ?_; rintro e w1 ⟨rfl, h⟩; obtain ⟨m0, m1, m2, m3, m4⟩ := hbc.out _ _ h; obtain ⟨n5, n6, n7, n8, n9⟩ := hsc.out _ _ h; rw [hA.out] at n5; have hxw := hxk.out _ _ h; have v0 := hxw.c0; have v1 := hxw.c1; have v2 := hxw.c2; have v3 := hxw.c3; simp only at v0 v1 v2 v3; replace h := Lib.hid h; replace hxw := Lib.hid hxw))
        go_wp2
        go_roundg (gk - 1)
        case measure => omega
        case rel => exact ⟨j + 1, by omega, by go_num, by rw [hqn.out]; exact h.out⟩
      · have hjj : j = min s.kernel.length 20 := by omega
        have hfin := hoj
        rw [hjj, fold_min] at hfin
        have hmid := ls_turn (D := D) (S := (listS s.kernel q).1) (K := (listS s.kernel q).2) hfin
        have hw3 : (decide ((j : Int) < (s.kernel.length : Int)) = true ∧ decide ((j : Int) < 20) = false) ∨ decide ((j : Int) < (s.kernel.length : Int)) = false := by
          by_cases h20 : j < s.kernel.length
          · exact .inl ⟨decide_eq_true (by omega), decide_eq_false (by omega)⟩
          · exact .inr (decide_eq_false (by omega))
        replace hfin := Lib.hid hfin
        replace hmid := Lib.hid hmid
        replace hoj := Lib.hid hoj
        replace hjj := Lib.hid hjj
        rcases hw3 with ⟨d1, d2⟩ | d1
        all_goals go_wp2_with fail
        all_goals go_meet
        all_goals exact hmid.out
  case rest =>
    have hmid := hcut
    have hgl := grew_list s.kernel q h8.out.img h8.out.ok
    have h8s : At8 (listS s.kernel q).1 D 16456 16960 := h8d.out.next hgl.img (h8d.out.ok.alike hgl.al) hgl.al rfl
    have hshs : D.shut (listS s.kernel q).1 = false := (Dc.shut_alike hgl.al).trans hshd.out
    replace hmid := Lib.hid hmid
    replace h8s := Lib.hid h8s
    replace hshs := Lib.hid hshs
    clear hgl hcut hbc hsc
    go_wp2_with fail
    go_loopg [7] (min s.student.length 20) (fun k t wr => ∃ j : Nat, j + k = min s.student.length 20 ∧ t = .int .i64 (j : Int) ∧ On F w (AllA (BlkA w.heap.size 30 (setupC s m) :: lsS b r wcs (listS s.kernel q).2 ((s.student.take j).foldl (fun q x => laidS x q) ((listS s.kernel q).1, D)))) wr)
    case atStart => exact ⟨0, by omega, rfl, hmid.out⟩
    case round =>
      obtain ⟨j, hj, rfl, hoj⟩ := hrel
      obtain ⟨z0, z1, z2, z3, z4⟩ := hbc2.out _ _ hoj
      obtain ⟨y5, y6, y7, y8, y9⟩ := hsc2.out _ _ hoj
      by_cases hjl : j < min s.student.length 20
      · obtain ⟨x, hx⟩ : ∃ x, s.student[j]? = some x := ⟨s.student[j]'(by omega), by rw [List.getElem?_eq_getElem]⟩
        obtain ⟨rb, o, Ax, cp, hxi⟩ := hst.out j x hx
        have hxo := hxi.on hoj
        have hg := fold_grew s.student ((listS s.kernel q).1, D) j h8s.out.img h8s.out.ok
        have hl := laid_student hoj.drew (hg.at8 h8s.out) (hg.shut.trans hshs.out) x (hxi.on hoj.drew) hw1 hw2
        rw [← fold_take s.student ((listS s.kernel q).1, D) j x hx] at hl
        have hA := hxi.at_
        have x0 := hxo.c0
        have x1 := hxo.c1
        have x2 := hxo.c2
        have x3 := hxo.c3
        have hxk := fun W (p : Img × Dc) (h : On F w (AllA (BlkA w.heap.size 30 (setupC s m) :: lsS b r wcs (listS s.kernel q).2 p)) W) => hxi.on h
        have d1 : decide ((j : Int) < (s.student.length : Int)) = true := decide_eq_true (by omega)
        have d2 : decide ((j : Int) < 20) = true := decide_eq_true (by omega)
        rw [hA] at y6
        have hjn : j < s.student.length := by omega
        generalize hqn : (s.student.take (j + 1)).foldl (fun q x => laidS x q) ((listS s.kernel q).1, D) = qn at *
        replace hqn := Lib.hid hqn
        obtain ⟨nm, hid, imm, cs⟩ := x
        simp only at hl x0 x1 x2 x3
        replace hl := Lib.hid hl
        replace hoj := Lib.hid hoj
        replace hxk := Lib.hid hxk
        replace hA := Lib.hid hA
        clear hxo hg hx hxi
        go_wp2_with fail
        go_region_held (fun w' => w'.cell? ⟨b.gB, 2, none⟩ = some (.pointer (some ⟨b.gS, 0, none⟩)) ∧ w'.cell? ⟨b.gB, 6, none⟩ = some (.pointer (some ⟨b.gW, 0, none⟩)) ∧ w'.cell? ⟨w.heap.size, 6, none⟩ = some (.slice (some ⟨rb, o, none⟩) s.student.length m.sc) ∧ w'.cell? ⟨rb, o + j * 4, none⟩ = some (.string nm) ∧ w'.cell? ⟨rb, o + j * 4 + 1, none⟩ = some (.bool hid) ∧ w'.cell? ⟨rb, o + j * 4 + 2, none⟩ = some (.bool imm) ∧ w'.cell? ⟨rb, o + j * 4 + 3, none⟩ = some (.slice Ax cs.length cp)) (go_keep)
          ((go_at_call 70; refine hl.out.mono ?_; rintro e w1 ⟨rfl, h⟩; obtain ⟨m0, m1, m2, m3, m4⟩ := hbc2.out _ _ h; obtain ⟨n5, n6, n7, n8, n9⟩ := hsc2.out _ _ h; rw [hA.out] at n6; have hxw := hxk.out _ _ h; have v0 := hxw.c0; have v1 := hxw.c1; have v2 := hxw.c2; have v3 := hxw.c3; simp only at v0 v1 v2 v3; replace h := Lib.hid h; replace hxw := Lib.hid hxw))
        go_wp2
        go_roundg (gk - 1)
        case measure => omega
        case rel => exact ⟨j + 1, by omega, by go_num, by rw [hqn.out]; exact h.out⟩
      · have hjj : j = min s.student.length 20 := by omega
        have hfin := hoj
        rw [hjj, fold_min] at hfin
        have hw3 : (decide ((j : Int) < (s.student.length : Int)) = true ∧ decide ((j : Int) < 20) = false) ∨ decide ((j : Int) < (s.student.length : Int)) = false := by
          by_cases h20 : j < s.student.length
          · exact .inl ⟨decide_eq_true (by omega), decide_eq_false (by omega)⟩
          · exact .inr (decide_eq_false (by omega))
        replace hfin := Lib.hid hfin
        replace hoj := Lib.hid hoj
        replace hjj := Lib.hid hjj
        rcases hw3 with ⟨d1, d2⟩ | d1
        all_goals go_wp2
        all_goals go_ret
        all_goals exact ⟨rfl, hfin.out.tail⟩
end
end Vm
end Go.Proofs.YtjhdpmimccpcdaaGreatDoor
