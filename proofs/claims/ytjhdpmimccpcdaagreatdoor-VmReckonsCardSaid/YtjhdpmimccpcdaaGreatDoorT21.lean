/- Chapter 11: what is made ahead of each law, as plain functions; the code of a word in an image. No condition. -/
import Derived.Test.YtjhdpmimccpcdaaGreatDoorT19
import Derived.Test.YtjhdpmimccpcdaaGreatDoorT20
import Derived.Test.YtjhdpmimccpcdaaGreatDoorT18
import Derived.Test.YtjhdpmimccpcdaaGreatDoorT00
import Derived.Test.YtjhdpmimccpcdaaGreatDoorT14
import Derived.Test.YtjhdpmimccpcdaaGreatDoorT06
namespace Go.Proofs.YtjhdpmimccpcdaaGreatDoor
set_option linter.unusedVariables false
open Go.RowKit Go.Lib
namespace Vm
/-- a word of a list, as a law gives it -/
structure Wrd where
  name : ByteArray
  hid : Bool
  imm : Bool
  cells : List Int
/-- cells laid one behind the other, up to the first fault -/
def commasS : List Int → Img × Dc → Img × Dc
  | [], q => q
  | v :: l, q => if q.2.commaF q.1 = 0 then commasS l (q.2.commaS q.1 v, q.2.commaD q.1) else q
def markS (x : Wrd) (S : Img) (D : Dc) : Img :=
  if x.imm then D.turnS (if x.hid then S else D.turnS S showT) immT else if x.hid then S else D.turnS S showT
def laidS (x : Wrd) (q : Img × Dc) : Img × Dc :=
  if q.2.createF q.1 x.name.data.toList ≠ 0 then q
  else commasS x.cells (markS x (q.2.createS q.1 x.name.data.toList) (q.2.createD q.1 x.name.data.toList), q.2.createD q.1 x.name.data.toList)
def listS (xs : List Wrd) (q : Img × Dc) : Img × Dc := (xs.take 20).foldl (fun q x => laidS x q) q
/-- an image and a wordlist, grown out of others -/
structure Grew (q q' : Img × Dc) : Prop where
  img : q'.1.Ok
  dc : q'.2.Ok q'.1
  al : Alike q.1 q'.1
  rg : q'.2.rg = q.2.rg
theorem Grew.refl {q : Img × Dc} (h1 : q.1.Ok) (h2 : q.2.Ok q.1) : Grew q q := ⟨h1, h2, Alike.refl _, rfl⟩
theorem Grew.trans {a b c : Img × Dc} (h : Grew a b) (g : Grew b c) : Grew a c := ⟨g.img, g.dc, h.al.trans g.al, g.rg.trans h.rg⟩
theorem show_flag (b : UInt8) : showT b = (b &&& ~~~(32 : UInt8) ||| 0) := by
  unfold showT
  rw [UInt8.or_zero]
  rfl
theorem imm_flag (b : UInt8) : immT b = (b &&& ~~~(0 : UInt8) ||| 64) := by
  unfold immT
  have h : b &&& ~~~(0 : UInt8) = b := by
    rw [show ~~~(0 : UInt8) = 255 from rfl]
    apply UInt8.toNat_inj.1
    rw [UInt8.toNat_and]
    have h1 : ∀ n : Fin 256, n.val &&& 255 = n.val := by decide +kernel
    exact h1 ⟨b.toNat, b.toNat_lt⟩
  rw [h]
theorem turn_show (S : Img) (D : Dc) : D.turnS S showT = D.flagS S 32 0 := by
  unfold Dc.turnS Dc.flagS
  split
  · rfl
  · rw [show_flag]
theorem turn_imm (S : Img) (D : Dc) : D.turnS S immT = D.flagS S 0 64 := by
  unfold Dc.turnS Dc.flagS
  split
  · rfl
  · rw [imm_flag]
section
variable {S : Img} {D : Dc}
theorem grew_show (hS : S.Ok) (hD : D.Ok S) : Grew (S, D) (D.turnS S showT, D) := by
  rw [turn_show]
  have h := Dc.ok_flag hS hD 32 0
  exact ⟨h.1, h.2, Dc.alike_flag _ _ _ _, rfl⟩
theorem grew_imm (hS : S.Ok) (hD : D.Ok S) : Grew (S, D) (D.turnS S immT, D) := by
  rw [turn_imm]
  have h := Dc.ok_flag hS hD 0 64
  exact ⟨h.1, h.2, Dc.alike_flag _ _ _ _, rfl⟩
theorem grew_comma (hS : S.Ok) (hD : D.Ok S) (v : Int) : Grew (S, D) (D.commaS S v, D.commaD S) := by
  have h := Dc.ok_comma hS hD v
  refine ⟨h.1, h.2, Dc.alike_comma _ _ _, ?_⟩
  show (D.commaD S).rg = D.rg
  unfold Dc.commaD
  split <;> rfl
theorem grew_create (hS : S.Ok) (hD : D.Ok S) (n : List UInt8) : Grew (S, D) (D.createS S n, D.createD S n) := by
  have h := Dc.ok_create hS hD n
  refine ⟨h.1, h.2, Dc.alike_create _ _ _, ?_⟩
  show (D.createD S n).rg = D.rg
  unfold Dc.createD
  split <;> rfl
theorem grew_mark (x : Wrd) (hS : S.Ok) (hD : D.Ok S) : Grew (S, D) (markS x S D, D) := by
  have h1 : Grew (S, D) (if x.hid then S else D.turnS S showT, D) := by
    split
    · exact Grew.refl hS hD
    · exact grew_show hS hD
  unfold markS
  split
  · exact h1.trans (grew_imm h1.img h1.dc)
  · exact h1
end
theorem grew_commas : ∀ (l : List Int) (q : Img × Dc), q.1.Ok → q.2.Ok q.1 → Grew q (commasS l q)
  | [], q, h1, h2 => Grew.refl h1 h2
  | v :: l, q, h1, h2 => by
    unfold commasS
    split
    · have h := grew_comma (S := q.1) (D := q.2) h1 h2 v
      exact h.trans (grew_commas l _ h.img h.dc)
    · exact Grew.refl h1 h2
theorem grew_laid (x : Wrd) (q : Img × Dc) (h1 : q.1.Ok) (h2 : q.2.Ok q.1) : Grew q (laidS x q) := by
  unfold laidS
  split
  · exact Grew.refl h1 h2
  · have h := grew_create (S := q.1) (D := q.2) h1 h2 x.name.data.toList
    have g := grew_mark x h.img h.dc
    exact (h.trans g).trans (grew_commas _ _ g.img g.dc)
theorem grew_fold : ∀ (xs : List Wrd) (q : Img × Dc), q.1.Ok → q.2.Ok q.1 → Grew q (xs.foldl (fun q x => laidS x q) q)
  | [], q, h1, h2 => Grew.refl h1 h2
  | x :: xs, q, h1, h2 => by
    have h := grew_laid x q h1 h2
    exact h.trans (grew_fold xs _ h.img h.dc)
theorem grew_list (xs : List Wrd) (q : Img × Dc) (h1 : q.1.Ok) (h2 : q.2.Ok q.1) : Grew q (listS xs q) := grew_fold _ q h1 h2
theorem Grew.shut {q q' : Img × Dc} (h : Grew q q') : q'.2.shut q'.1 = q.2.shut q.1 := by
  unfold Dc.shut
  rw [h.al.cl, h.rg]
/-! ### what a law gives -/
structure Setup where
  caps : Int
  room : Int
  input : ByteArray
  hidden : ByteArray
  opened : Bool
  kernel : List Wrd
  student : List Wrd
  base : Int
  data : List Int
  ret : List Int
  fault : Int
  used : Int
  hiddenAs : Int
def pickS (c n : Int) : Int := (if c < 0 then -(c + 1) else c) % n
def img0 : Img := newImg 16384 64 512 128 64
def ker0 : Dc := ⟨1, 8, 0⟩
def stu0 : Dc := ⟨3, 16456, 0⟩
theorem img0_fits : Fits 16384 64 512 128 64 := ⟨by omega, by omega, by omega, by omega, by omega, by omega, by omega, by omega, by omega, by omega, by omega, by omega, by omega, by omega⟩
theorem img0_ok : img0.Ok := newImg_ok img0_fits
theorem ker0_ok {S : Img} (h : Alike img0 S) : ker0.Ok S :=
  Dc.Ok.alike (S := img0) ⟨.inl rfl, by decide, by decide, .inl rfl, by decide, by decide⟩ h
theorem stu0_ok {S : Img} (h : Alike img0 S) : stu0.Ok S :=
  Dc.Ok.alike (S := img0) ⟨.inr rfl, by decide, by decide, .inl rfl, by decide, by decide⟩ h
namespace Setup
variable (s : Setup)
def tooLong : Bool := decide (4096 < s.input.size) || decide (64 < s.hidden.size)
def inp : ByteArray := if s.tooLong then ⟨#[]⟩ else s.input
def hid : ByteArray := if s.tooLong then ⟨#[]⟩ else s.hidden
/-- the kernel's words, the student's -/
def k1 : Img × Dc := listS s.kernel (img0, ker0)
def t1 : Img × Dc := listS s.student (s.k1.1, stu0)
def load (S : Img) (l : List UInt8) : Img := S.put (S.beg 2) (l ++ List.replicate (S.s - l.length) 0)
def i2 : Img := if s.opened then s.t1.1.opened else s.t1.1
def i3 : Img := (load s.i2 s.hid.data.toList).sealed
def m0 : Mt := ⟨s.i3, ⟨16960, 16, 1, 2⟩, ⟨17088, 8, 3, 4⟩, 0, 0, Caps.made (pickS s.caps 32) (pickS s.room 65537) s.inp, s.t1.2.h, s.t1.2.l, s.k1.2.h, s.k1.2.l, 0, 0, 0, false, [], Ext.zero⟩
def m1 : Mt := (s.m0.pushD (s.data.take 16)).pushR (s.ret.take 8)
/-- the machine -/
def mt : Mt := { s.m1 with S := s.m1.S.setCell 0 16448 s.base, fault := s.fault, used := s.used, hidden := s.hiddenAs, tells := true }
/-- the document's image -/
def ri : Img := s.i3.setCell 0 16448 s.base
end Setup
/-! ### cells behind one another -/
def cellsB (l : List Int) : List UInt8 := l.flatMap toB
theorem cellsB_len (l : List Int) : (cellsB l).length = 8 * l.length := by
  induction l with
  | nil => rfl
  | cons v l ih =>
    show (toB v ++ cellsB l).length = _
    rw [List.length_append, toB_len, ih, List.length_cons]
    omega
theorem cellsB_at : ∀ (l : List Int) (i : Nat) (v : Int), l[i]? = some v → ((cellsB l).drop (8 * i)).take 8 = toB v
  | [], i, v, h => by simp at h
  | u :: l, 0, v, h => by
    obtain rfl : u = v := by simpa using h
    show (toB u ++ cellsB l).take 8 = _
    rw [List.take_append_of_le_length (by rw [toB_len]; exact Nat.le_refl _), List.take_of_length_le (by rw [toB_len]; exact Nat.le_refl _)]
  | u :: l, i + 1, v, h => by
    show ((toB u ++ cellsB l).drop (8 * (i + 1))).take 8 = _
    rw [List.drop_append, List.drop_eq_nil_of_le (by rw [toB_len]; omega), List.nil_append, toB_len, show 8 * (i + 1) - 8 = 8 * i by omega]
    exact cellsB_at l i v (by simpa using h)
theorem commas_put : ∀ (l : List Int) (S : Img) (D : Dc), S.Ok → D.Ok S → D.h % 8 = 0 → D.h + 8 * l.length ≤ D.lim S → D.shut S = false →
    commasS l (S, D) = (S.put D.h (cellsB l), { D with h := D.h + 8 * l.length })
  | [], S, D, _, _, _, _, _ => by
    show (S, D) = (S.put D.h [], D)
    rw [Img.put_nil]
  | v :: l, S, D, hS, hD, h8, hl, hsh => by
    have hl1 : 8 * (v :: l).length = 8 + 8 * l.length := by rw [List.length_cons]; omega
    have e : D.commaF S = 0 := by
      unfold Dc.commaF
      rw [if_neg (by omega), if_neg (by omega), if_neg (by rw [hsh]; decide)]
    have g := grew_comma hS hD v
    have e1 : D.commaS S v = S.put D.h (toB v) := by unfold Dc.commaS; rw [if_pos e]
    have e2 : D.commaD S = { D with h := D.h + 8 } := by unfold Dc.commaD; rw [if_pos e]
    rw [e1, e2] at g
    unfold commasS
    rw [if_pos e, e1, e2, commas_put l _ _ g.img g.dc (by show (D.h + 8) % 8 = 0; omega) (by
      show D.h + 8 + 8 * l.length ≤ _
      rw [Dc.lim_alike (D := { D with h := D.h + 8 }) (Alike.put S D.h (toB v))]
      show D.h + 8 + 8 * l.length ≤ D.lim S
      omega) (by
      rw [Dc.shut_alike (D := { D with h := D.h + 8 }) (Alike.put S D.h (toB v))]
      exact hsh)]
    have hp : (S.put D.h (toB v)).put (D.h + 8) (cellsB l) = S.put D.h (toB v ++ cellsB l) := by
      have := S.put_append D.h (toB v) (cellsB l) (by rw [toB_len, hS.len]; have := hD.all; omega)
      rw [toB_len] at this
      exact this
    rw [show ({ D with h := D.h + 8 } : Dc).h = D.h + 8 from rfl, hp, hl1, show D.h + (8 + 8 * l.length) = D.h + 8 + 8 * l.length by omega]
    rfl
/-- the code of a word -/
structure CodeAt (S : Img) (a : Nat) (cs : List Int) : Prop where
  al : a % 8 = 0
  lo : S.beg 3 ≤ a
  hi : a + 8 * cs.length ≤ S.beg 4
  at_ : ∀ i v, cs[i]? = some v → ofB (S.bytes ((a + 8 * i : Nat) : Int) 8) = v
theorem CodeAt.put {S : Img} {a : Nat} {cs : List Int} (h : CodeAt S a cs) (hS : S.Ok) (k : Nat) (l : List UInt8) (hk : k + l.length ≤ S.beg 6) (hf : k + l.length ≤ a ∨ a + 8 * cs.length ≤ k) : CodeAt (S.put k l) a cs := by
  have hb := Alike.put S k l
  have h64 : S.beg 4 ≤ S.beg 6 := S.beg_mono (by omega) (by omega) (by omega)
  have hhi := h.hi
  refine ⟨h.al, by rw [hb.beg]; exact h.lo, by rw [hb.beg]; exact h.hi, fun i v hv => ?_⟩
  have hi : i < cs.length := (List.getElem?_eq_some_iff.1 hv).1
  rw [S.bytes_put_far k _ 8 l (by rw [hS.len]; exact hk) (by rw [hS.len]; omega) (by omega)]
  exact h.at_ i v hv
theorem CodeAt.cell {S : Img} {a : Nat} {cs : List Int} (h : CodeAt S a cs) (m : Int) (hm : 0 ≤ m ∧ m ≤ 2) (i : Nat) (v : Int) (hv : cs[i]? = some v) : S.cellF m ((a : Int) + 8 * (i : Int)) false = 0 ∧ S.cellV m ((a : Int) + 8 * (i : Int)) = v := by
  have hi : i < cs.length := (List.getElem?_eq_some_iff.1 hv).1
  have h1 := h.lo
  have h2 := h.hi
  have h3 := h.al
  rw [show (a : Int) + 8 * (i : Int) = ((a + 8 * i : Nat) : Int) by omega]
  have hr : S.region ((a + 8 * i : Nat) : Int) = 3 := S.region_eq (by omega) (by omega) (by omega) (by omega) (by show _ < ((S.beg 4 : Nat) : Int); omega)
  have hrow : S.rowOk m ((a + 8 * i : Nat) : Int) 8 false = true := by
    unfold Img.rowOk Img.lets Img.may
    rw [hr]
    have hb4 : S.beg (3 + 1) = S.beg 4 := rfl
    have h4 : decide (((8 : Nat) : Int) ≤ (S.beg (3 + 1) : Int) - ((a + 8 * i : Nat) : Int)) = true := decide_eq_true (by rw [hb4]; omega)
    rw [h4]
    rcases (show m = 0 ∨ m = 1 ∨ m = 2 by omega) with rfl | rfl | rfl <;> simp
  have hF : S.cellF m ((a + 8 * i : Nat) : Int) false = 0 := by
    unfold Img.cellF
    rw [if_neg (by omega), if_pos hrow]
  refine ⟨hF, ?_⟩
  unfold Img.cellV
  rw [if_pos hF]
  exact h.at_ i v hv
theorem codeAt_put (S : Img) (hS : S.Ok) (a : Nat) (cs : List Int) (hc : ∀ v ∈ cs, V64 v) (h8 : a % 8 = 0) (hlo : S.beg 3 ≤ a) (hhi : a + 8 * cs.length ≤ S.beg 4) : CodeAt (S.put a (cellsB cs)) a cs := by
  have hb := Alike.put S a (cellsB cs)
  have h64 : S.beg 4 ≤ S.beg 6 := S.beg_mono (by omega) (by omega) (by omega)
  refine ⟨h8, by rw [hb.beg]; exact hlo, by rw [hb.beg]; exact hhi, fun i v hv => ?_⟩
  have hi : i < cs.length := (List.getElem?_eq_some_iff.1 hv).1
  rw [S.bytes_put_in a (8 * i) 8 _ (by rw [cellsB_len, hS.len]; omega) (by rw [cellsB_len]; omega), cellsB_at cs i v hv]
  exact ofB_toB v (hc v (List.mem_of_getElem? hv))
/-- what is fetched there: an operation without a cell behind it -/
theorem CodeAt.fetch {S : Img} {a : Nat} {cs : List Int} (h : CodeAt S a cs) (m : Int) (hm : 0 ≤ m ∧ m ≤ 2) (i : Nat) (v op arg : Int) (hv : cs[i]? = some v) (hu : Code.unpack v = (op, arg, true)) (h2 : op ≠ 2) (h19 : op ≠ 19) : S.fetch m ((a : Int) + 8 * (i : Int)) = (⟨op, arg, 0, 1⟩, 0) := by
  obtain ⟨h3, h4⟩ := h.cell m hm i v hv
  unfold Img.fetch
  rw [if_neg (by rw [h3]; decide), h4, hu, if_neg (by simp), if_neg h2, if_neg h19]
/-- .. (lit) -/
theorem CodeAt.fetchLit {S : Img} {a : Nat} {cs : List Int} (h : CodeAt S a cs) (m : Int) (hm : 0 ≤ m ∧ m ≤ 2) (i : Nat) (v : Int) (hv : cs[i]? = some 2) (hv2 : cs[i + 1]? = some v) : S.fetch m ((a : Int) + 8 * (i : Int)) = (⟨2, 0, v, 2⟩, 0) := by
  obtain ⟨h3, h4⟩ := h.cell m hm i 2 hv
  obtain ⟨h5, h6⟩ := h.cell m hm (i + 1) v hv2
  rw [show (a : Int) + 8 * ((i + 1 : Nat) : Int) = (a : Int) + 8 * (i : Int) + 8 by omega] at h5 h6
  have hu : Code.unpack 2 = (2, 0, true) := by decide
  unfold Img.fetch
  rw [if_neg (by rw [h3]; decide), h4, hu, if_neg (by simp), if_pos rfl, if_neg (by rw [h5]; decide), h6]
end Vm
end Go.Proofs.YtjhdpmimccpcdaaGreatDoor
/- Chapter 8: the document's wordlist: filled up to a cell; a cell; marks. Conditions: as written. -/
namespace Go.Proofs.YtjhdpmimccpcdaaGreatDoor
set_option linter.unusedVariables false
set_option maxRecDepth 100000
open Go.RowKit Go.Lib Go.Deep
namespace Vm
section
variable {w w1 : World} {F : Nat → Prop} {g gb bg en cap : Nat} {cl : Bool} {D : Dc} {S : Img}
theorem zero_u8 : (((0 : UInt8).toNat : Nat) : Int) = 0 := rfl
set_option maxHeartbeats 2000000 in
theorem rd_align (l : List UInt8) (hb : On F w (RLaidA g gb bg en cap false D S l) w1) (h8 : At8 S D (bg + 8) en) (n : Nat) (hn : n = up (D.h + l.length) - (D.h + l.length)) (hl : D.h + l.length ≤ en) :
    Calls Tryz.prog 134 #[.pointer (some ⟨g, 0, none⟩)] w1 (Got (.returned (.int .i64 0)) (RLaidA g gb bg en cap false D S (l ++ List.replicate n 0)) F w) := by
  have hle := h8.le
  have hlo := h8.lo
  have h2 := h8.ok.al.1
  rw [h8.lim] at h2
  have hu := up_ge (D.h + l.length)
  have hin := fun wr l (h : On F w (RLaidA g gb bg en cap false D S l) wr) => rl_in l h
  have hbt := fun wr l (hl : D.h + l.length < en) (h : On F w (RLaidA g gb bg en cap false D S l) wr) => rl_byte l h8 hl h
  have hmo := fun wr l (hl : D.h + l.length < en) (h : On F w (RLaidA g gb bg en cap false D S l) wr) n hn => rl_more l 0 h8 hl h n hn
  have htt : ∀ j, j < n → ((((D.h + l.length + j : Nat) : Int) % 8) != 0) = true := fun j hj => by rw [bne_iff_ne]; unfold up at hn; omega
  have htf : ((((D.h + l.length + n : Nat) : Int) % 8) != 0) = false := by rw [bne_eq_false_iff_eq]; omega
  have hnl : D.h + l.length + n ≤ en := by omega
  have hlen : ∀ j, (l ++ List.replicate j (0 : UInt8)).length = l.length + j := fun j => by simp
  have hsn : ∀ j, (l ++ List.replicate j (0 : UInt8)) ++ [0] = l ++ List.replicate (j + 1) 0 := fun j => by rw [List.append_assoc, replicate_snoc]
  replace hb := Lib.hid hb
  replace hin := Lib.hid hin
  replace hbt := Lib.hid hbt
  replace hmo := Lib.hid hmo
  replace htt := Lib.hid htt
  replace hlen := Lib.hid hlen
  replace hsn := Lib.hid hsn
  clear h8 h2 hn hu
  go_enter Tryz.func134, Tryz.ntmps134
  go_wp2
  go_loopg [2] n (fun m t wr => ∃ j : Nat, j + m = n ∧ t = .int .i64 0 ∧ On F w (RLaidA g gb bg en cap false D S (l ++ List.replicate j 0)) wr)
  case atStart => exact ⟨0, by omega, rfl, by rw [show List.replicate 0 (0 : UInt8) = [] from rfl, List.append_nil]; exact hb.out⟩
  case round =>
    obtain ⟨j, hj, rfl, hon⟩ := hrel
    obtain ⟨c0, c1, c2, c3, c4, cf⟩ := hin.out _ _ hon
    have c3' : wr.cell? ⟨g, 3, none⟩ = some (.int .i64 ((D.h + l.length + j : Nat) : Int)) := by rw [c3]; unfold laidB; rw [hlen.out, Nat.add_assoc]
    by_cases hjn : j < n
    · have ht := htt.out j hjn
      obtain ⟨⟨xo, cx⟩, cfr, hne⟩ := hbt.out _ _ (by rw [hlen.out]; omega) hon
      have hfin := hmo.out wr _ (by rw [hlen.out]; omega) hon _ rfl
      rw [hsn.out, zero_u8] at hfin
      rw [hlen.out, ← Nat.add_assoc] at cx hfin
      obtain ⟨k, hk⟩ : ∃ k, D.h + l.length + j = k := ⟨_, rfl⟩
      rw [hk] at c3' cx hfin ht
      have hk1 : bg ≤ k := by omega
      have hk2 : k < en := by omega
      have f3 := cf 3
      have fk := cfr k
      replace hfin := Lib.hid hfin
      clear c3 c4 cf cfr hon hk
      go_wp2
      go_region
      go_wp2
      go_roundg (gk - 1)
      case measure => omega
      case rel => exact ⟨j + 1, by omega, rfl, hfin.out.drew⟩
    · have hjj : j = n := by omega
      subst hjj
      replace hon := Lib.hid hon
      clear c0 c1 c2 c3 c4 cf
      go_wp2
      go_ret
      exact ⟨rfl, hon.out⟩
theorem rl_of (hb : On F w (AllA [RDicA g gb bg en cap cl D, RbA gb S]) w1) : On F w (RLaidA g gb bg en cap cl D S []) w1 := by
  unfold RLaidA
  rw [Img.put_nil]
  exact hb
theorem rl_to (l : List UInt8) (n : Nat) (hn : l.length = n) (hb : On F w (RLaidA g gb bg en cap cl D S l) w1) : On F w (AllA [RDicA g gb bg en cap cl (laidB D n), RbA gb (S.put D.h l)]) w1 := by
  subst hn
  exact hb
/-- a cell, in a list that is not closed -/
theorem rd_comma (hb : On F w (AllA [RDicA g gb bg en cap false D, RbA gb S]) w1) (h8 : At8 S D (bg + 8) en) (hsh : D.shut S = false) (v : Int) (hv : V64 v) :
    Calls Tryz.prog 98 #[.pointer (some ⟨g, 0, none⟩), .int .i64 v] w1 (Got (.returned (.int .i64 (D.commaF S))) (AllA [RDicA g gb bg en cap false (D.commaD S), RbA gb (D.commaS S v)]) F w) := by
  have hle := h8.le
  have hlo := h8.lo
  have hin := fun wr (h : On F w (AllA [RDicA g gb bg en cap false D, RbA gb S]) wr) => rd_in h
  have hto := fun n => rd_to ((hin _ hb).drewN n) (by omega) (by omega)
  have hlay := fun wr (hl : D.h + 8 ≤ en) (h : On F w (AllA [RDicA g gb bg en cap false D, RbA gb S]) wr) => rd_lay [] (rl_of h) h8 (by simpa using hl) v hv
  have hend := fun wr (h : On F w (RLaidA g gb bg en cap false D S ([] ++ toB v)) wr) => rl_to _ 8 (by rw [List.nil_append, toB_len]) h
  obtain ⟨c0, c1, c2, c3, c4, cf⟩ := hin _ hb
  have hF : D.commaF S = if en < D.h + 8 then 9 else if D.h % 8 ≠ 0 then 6 else 0 := by
    unfold Dc.commaF
    rw [h8.lim, hsh]
    simp
  have hzero : D.commaF S = 0 → D.commaD S = laidB D 8 ∧ D.commaS S v = S.put D.h ([] ++ toB v) := fun h => by
    unfold Dc.commaD Dc.commaS
    rw [if_pos h, if_pos h]
    exact ⟨rfl, rfl⟩
  have hone : D.commaF S ≠ 0 → D.commaD S = D ∧ D.commaS S v = S := fun h => by
    unfold Dc.commaD Dc.commaS
    rw [if_neg h, if_neg h]
    exact ⟨rfl, rfl⟩
  by_cases h1 : en < D.h + 8
  · rw [if_pos h1] at hF
    obtain ⟨e1, e2⟩ := hone (by rw [hF]; decide)
    rw [hF, e1, e2]
    have ht : decide ((en : Int) - 8 < (D.h : Int)) = true := decide_eq_true (by omega)
    replace hb := Lib.hid hb
    replace hto := Lib.hid hto
    clear hin hlay hend hzero hone hF e1 e2 h8
    go_enter Tryz.func98, Tryz.ntmps98
    go_wp2_with fail
    go_quiet ((go_at_call 85; exact Calls.quiet_of (hto.out _)))
    have hb2 := Lib.hid (hb.out.drewN nq)
    go_wp2
    go_ret
    exact ⟨rfl, hb2.out⟩
  · rw [if_neg h1] at hF
    have ht : decide ((en : Int) - 8 < (D.h : Int)) = false := decide_eq_false (by omega)
    by_cases h2 : D.h % 8 ≠ 0
    · rw [if_pos h2] at hF
      obtain ⟨e1, e2⟩ := hone (by rw [hF]; decide)
      rw [hF, e1, e2]
      have ht2 : ((D.h : Int) % 8 != 0) = true := by rw [bne_iff_ne]; omega
      replace hb := Lib.hid hb
      replace hto := Lib.hid hto
      replace hin := Lib.hid hin
      clear hlay hend hzero hone hF e1 e2 h8 h2
      go_enter Tryz.func98, Tryz.ntmps98
      go_wp2_with fail
      go_quiet ((go_at_call 85; exact Calls.quiet_of (hto.out _)))
      have hb2 := hb.out.drewN nq
      obtain ⟨w2, hw2⟩ : ∃ w2, w1.drewN nq = w2 := ⟨_, rfl⟩
      rw [hw2] at hb2 ⊢
      clear hw2 c0 c1 c2 c3 c4 cf
      obtain ⟨c0, c1, c2, c3, c4, cf⟩ := hin.out _ hb2
      replace hb2 := Lib.hid hb2
      go_wp2
      go_ret
      exact ⟨rfl, hb2.out⟩
    · rw [if_neg h2] at hF
      obtain ⟨e1, e2⟩ := hzero hF
      rw [hF, e1, e2]
      have ht2 : ((D.h : Int) % 8 != 0) = false := by rw [bne_eq_false_iff_eq]; omega
      replace hlay := Lib.hid (fun wr => hlay wr (by omega))
      replace hb := Lib.hid hb
      replace hto := Lib.hid hto
      replace hin := Lib.hid hin
      replace hend := Lib.hid hend
      clear hzero hone hF e1 e2 h8 h2
      go_enter Tryz.func98, Tryz.ntmps98
      go_wp2_with fail
      go_quiet ((go_at_call 85; exact Calls.quiet_of (hto.out _)))
      have hb2 := hb.out.drewN nq
      obtain ⟨w2, hw2⟩ : ∃ w2, w1.drewN nq = w2 := ⟨_, rfl⟩
      rw [hw2] at hb2 ⊢
      clear hw2 c0 c1 c2 c3 c4 cf
      obtain ⟨c0, c1, c2, c3, c4, cf⟩ := hin.out _ hb2
      replace hlay := Lib.hid (hlay.out _ hb2)
      clear hb2
      go_wp2_with fail
      refine hlay.out.mono ?_
      rintro e w3 ⟨rfl, h3⟩
      have h4 := Lib.hid (hend.out _ h3)
      clear h3
      go_wp2
      go_ret
      exact ⟨rfl, h4.out⟩
end
end Vm
end Go.Proofs.YtjhdpmimccpcdaaGreatDoor
/- Chapter 8: the document's wordlist: marks. Conditions: as written. -/
namespace Go.Proofs.YtjhdpmimccpcdaaGreatDoor
set_option linter.unusedVariables false
set_option maxRecDepth 100000
open Go.RowKit Go.Lib Go.Deep
namespace Vm
/-- what Flag does to a byte -/
def Flags (off on : Int) (t : UInt8 → UInt8) : Prop := ∀ c : UInt8, bits .or .u8 (bits .andNot .u8 (c.toNat : Int) off) on = ((t c).toNat : Int)
theorem flags_show : Flags 32 0 showT := fun c => by
  have h : ∀ b : Fin 256, bits .or .u8 (bits .andNot .u8 (b.val : Int) 32) 0 = ((b.val &&& 223 : Nat) : Int) := by decide +kernel
  rw [h ⟨c.toNat, c.toNat_lt⟩]
  unfold showT
  rw [UInt8.toNat_and]
  rfl
theorem flags_imm : Flags 0 64 immT := fun c => by
  have h : ∀ b : Fin 256, bits .or .u8 (bits .andNot .u8 (b.val : Int) 0) 64 = ((b.val ||| 64 : Nat) : Int) := by decide +kernel
  rw [h ⟨c.toNat, c.toNat_lt⟩]
  unfold immT
  rw [UInt8.toNat_or]
  rfl
section
variable {w w1 : World} {F : Nat → Prop} {g gb bg en cap : Nat} {D : Dc} {S : Img}
theorem rd_flag_none (hb : On F w (AllA [RDicA g gb bg en cap false D, RbA gb S]) w1) (hl : D.l = 0) (off on : Int) :
    Calls Tryz.prog 95 #[.pointer (some ⟨g, 0, none⟩), .int .i64 off, .int .i64 on] w1 (Got (.returned (.tuple #[])) (AllA [RDicA g gb bg en cap false D, RbA gb S]) F w) := by
  obtain ⟨c0, c1, c2, c3, c4, cf⟩ := rd_in hb
  rw [hl] at c4
  replace hb := Lib.hid hb
  clear hl
  go_enter Tryz.func95, Tryz.ntmps95
  go_wp2_with fail
  go_quiet (fail)
  have hb2 := Lib.hid (hb.out.drewN nq)
  go_wp2
  go_end0
  exact ⟨rfl, hb2.out⟩
set_option maxHeartbeats 2000000 in
theorem rd_flag_some (hb : On F w (AllA [RDicA g gb bg en cap false D, RbA gb S]) w1) (h8 : At8 S D (bg + 8) en) (hsh : D.shut S = false) (hl : D.l ≠ 0) (off on : Int) (t : UInt8 → UInt8) (ht : Flags off on t) (ho : 0 ≤ off ∧ off ≤ 255) (hn : 0 ≤ on ∧ on ≤ 255) :
    Calls Tryz.prog 95 #[.pointer (some ⟨g, 0, none⟩), .int .i64 off, .int .i64 on] w1 (Got (.returned (.tuple #[])) (AllA [RDicA g gb bg en cap false D, RbA gb (D.turnS S t)]) F w) := by
  have hle := h8.le
  have hlo := h8.lo
  have hll : D.l % 8 = 0 ∧ bg + 8 ≤ D.l ∧ D.l + 16 ≤ en := by
    rcases h8.ok.l with h | h
    · exact absurd h hl
    · rw [h8.fr, h8.lim] at h; exact h
  have hall := h8.ok.all
  rw [h8.lim] at hall
  have hin := fun wr (h : On F w (AllA [RDicA g gb bg en cap false D, RbA gb S]) wr) => rd_in h
  have hto := fun n => rd_to ((hin _ hb).drewN n) (by omega) (by omega)
  have hbl := fun wr (h : On F w (AllA [RDicA g gb bg en cap false D, RbA gb S]) wr) => (by
    have hb : Blk wr gb 5 (bcells S.b).toArray := h.blkAt 1 rfl
    have hg : Blk wr g 132 (rdicC gb bg en cap false D) := h.blkAt 0 rfl
    have h2 : D.l + 8 < S.b.length := by rw [h8.img.len]; omega
    refine ⟨?_, hb.frozen _, hg.ne_ hb (by decide)⟩
    rw [hb.cell]
    simp [bcells, h2] : wr.cell? ⟨gb, D.l + 8, none⟩ = some (.int .u8 ((S.b.getD (D.l + 8) 0).toNat : Int)) ∧ wr.frozen? ⟨gb, D.l + 8, none⟩ = false ∧ g ≠ gb)
  have hfin := fun wr (h : On F w (AllA [RDicA g gb bg en cap false D, RbA gb S]) wr) => (by
    have h2 := On.setAt 1 (g := gb) (t := 5) (cs := (bcells S.b).toArray) h rfl (D.l + 8) (.int .u8 ((t (S.b.getD (D.l + 8) 0)).toNat : Int))
    rw [set_put _ _ (t (S.b.getD (D.l + 8) 0)) (by rw [h8.img.len]; omega)] at h2
    have e : D.turnS S t = S.put (D.l + 8) [t (S.b.getD (D.l + 8) 0)] := by
      unfold Dc.turnS
      rw [if_neg (by rintro (h | h); exact hl h; rw [hsh] at h; cases h)]
    rw [e]
    exact h2 : On F w (AllA [RDicA g gb bg en cap false D, RbA gb (D.turnS S t)]) (wr.setCell ⟨gb, D.l + 8, none⟩ (.int .u8 ((t (S.b.getD (D.l + 8) 0)).toNat : Int))))
  have htc := ht (S.b.getD (D.l + 8) 0)
  generalize (S.b.getD (D.l + 8) 0) = bc at *
  generalize ((t bc).toNat : Int) = tc at *
  generalize D.turnS S t = S' at *
  have hbc : (bc.toNat : Int) ≤ 255 := by have := bc.toNat_lt; omega
  generalize (bc.toNat : Int) = b0 at *
  obtain ⟨c0, c1, c2, c3, c4, cf⟩ := hin _ hb
  have hz : ((D.l : Int) == 0) = false := by simpa using hl
  have hd : decide ((en : Int) ≤ (D.l : Int) + 8) = false := decide_eq_false (by omega)
  replace hb := Lib.hid hb
  replace hin := Lib.hid hin
  replace hto := Lib.hid hto
  replace hbl := Lib.hid hbl
  replace hfin := Lib.hid hfin
  clear h8 hsh ht
  go_enter Tryz.func95, Tryz.ntmps95
  go_wp2_with fail
  go_quiet ((go_at_call 85; exact Calls.quiet_of (hto.out _)))
  have hb2 := hb.out.drewN nq
  obtain ⟨w2, hw2⟩ : ∃ w2, w1.drewN nq = w2 := ⟨_, rfl⟩
  rw [hw2] at hb2 ⊢
  clear hw2 c0 c1 c2 c3 c4 cf hb hto
  obtain ⟨c0, c1, c2, c3, c4, cf⟩ := hin.out _ hb2
  replace hb2 := Lib.hid hb2
  go_wp2_with fail
  go_quiet (fail)
  have hb3 := hb2.out.drewN nq
  obtain ⟨w3, hw3⟩ : ∃ w3, w2.drewN nq = w3 := ⟨_, rfl⟩
  rw [hw3] at hb3 ⊢
  clear hw3 c0 c1 c2 c3 c4 cf hb2
  obtain ⟨c0, c1, c2, c3, c4, cf⟩ := hin.out _ hb3
  obtain ⟨cb, fb, hne⟩ := hbl.out _ hb3
  have hfin2 := Lib.hid (hfin.out _ hb3)
  replace hb3 := Lib.hid hb3
  clear hin hbl hfin
  have he : bg + (D.l + 8 - bg) = D.l + 8 := by omega
  have hi1 : (bg : Int) ≤ (D.l : Int) + 8 := by omega
  have hi2 : (D.l : Int) + 8 - (bg : Int) < ((en - bg : Nat) : Int) := by omega
  go_wp2_with fail
  go_region
  go_wp2
  go_end0
  exact ⟨rfl, hfin2.out.drew⟩
theorem rd_flag (hb : On F w (AllA [RDicA g gb bg en cap false D, RbA gb S]) w1) (h8 : At8 S D (bg + 8) en) (hsh : D.shut S = false) (off on : Int) (t : UInt8 → UInt8) (ht : Flags off on t) (ho : 0 ≤ off ∧ off ≤ 255) (hn : 0 ≤ on ∧ on ≤ 255) :
    Calls Tryz.prog 95 #[.pointer (some ⟨g, 0, none⟩), .int .i64 off, .int .i64 on] w1 (Got (.returned (.tuple #[])) (AllA [RDicA g gb bg en cap false D, RbA gb (D.turnS S t)]) F w) := by
  by_cases h0 : D.l = 0
  · have e : D.turnS S t = S := by unfold Dc.turnS; rw [if_pos (.inl h0)]
    rw [e]
    exact rd_flag_none hb h0 off on
  · exact rd_flag_some hb h8 hsh h0 off on t ht ho hn
end
end Vm
end Go.Proofs.YtjhdpmimccpcdaaGreatDoor
/- Chapter 8: the document's wordlist: Create. Conditions: as written. -/
namespace Go.Proofs.YtjhdpmimccpcdaaGreatDoor
set_option linter.unusedVariables false
set_option maxRecDepth 100000
open Go.RowKit Go.Lib Go.Deep
namespace Vm
section
variable {w w1 : World} {F : Nat → Prop} {g gb bg en cap : Nat} {D : Dc} {S : Img}
theorem rd_create_bad (hb : On F w (AllA [RDicA g gb bg en cap false D, RbA gb S]) w1) (s : ByteArray) (hsz : s.size ≤ 9223372036854775807) (hn : Dc.nameB s.data.toList = false) :
    Calls Tryz.prog 93 #[.pointer (some ⟨g, 0, none⟩), .string s] w1 (Got (.returned (.tuple #[.int .i64 0, .int .i64 15])) (AllA [RDicA g gb bg en cap false D, RbA gb S]) F w) := by
  have hnm := name_walk s hsz w1
  rw [hn] at hnm
  replace hb := Lib.hid hb
  replace hnm := Lib.hid hnm
  clear hn
  go_enter Tryz.func93, Tryz.ntmps93
  go_wp2_with fail
  refine hnm.out.mono ?_
  rintro e w2 ⟨rfl, rfl⟩
  go_wp2
  go_ret2
  exact ⟨rfl, hb.out⟩
set_option maxHeartbeats 1000000 in
theorem rd_create_full (hb : On F w (AllA [RDicA g gb bg en cap false D, RbA gb S]) w1) (h8 : At8 S D (bg + 8) en) (s : ByteArray) (hn : Dc.nameB s.data.toList = true) (hf : en < up D.h + (8 + up (1 + s.size))) :
    Calls Tryz.prog 93 #[.pointer (some ⟨g, 0, none⟩), .string s] w1 (Got (.returned (.tuple #[.int .i64 0, .int .i64 9])) (AllA [RDicA g gb bg en cap false D, RbA gb S]) F w) := by
  have hs2 := name_size hn
  have hnm := name_walk s (by omega) w1
  rw [hn] at hnm
  have h1 := h8.lo
  have hle := h8.le
  have hu1 := up_ge D.h
  have hu2 := up_ge (1 + s.size)
  have hup1 := fun w => rd_up D.h (by omega) w
  have hup2 := fun w => rd_up (1 + s.size) (by omega) w
  rw [show ((1 + s.size : Nat) : Int) = 1 + (s.size : Int) by omega] at hup2
  have hto := fun W (h : On F w (AllA [RDicA g gb bg en cap false D, RbA gb S]) W) => rd_to (rd_in h) (by omega) (by omega)
  obtain ⟨c0, c1, c2, c3, c4, cf⟩ := rd_in hb
  replace hb := Lib.hid hb
  replace hnm := Lib.hid hnm
  replace hup1 := Lib.hid hup1
  replace hup2 := Lib.hid hup2
  replace hto := Lib.hid hto
  generalize up (1 + s.size) = u2 at *
  generalize hU1 : up D.h = u1 at *
  clear hn h8 hU1
  have ht : decide ((en : Int) - (u1 : Int) < 8 + (u2 : Int)) = true := decide_eq_true (by omega)
  go_enter Tryz.func93, Tryz.ntmps93
  go_wp2_with fail
  refine hnm.out.mono ?_
  rintro e w2 ⟨rfl, rfl⟩
  go_wp2_with fail
  refine (hup1.out _).mono ?_
  rintro e w3 ⟨rfl, rfl⟩
  go_wp2_with fail
  refine (hto.out _ hb.out).mono ?_
  rintro e w4 ⟨rfl, nq, rfl⟩
  have hb2 := Lib.hid (hb.out.drewN nq)
  go_wp2_with fail
  refine (hup2.out _).mono ?_
  rintro e w4 ⟨rfl, rfl⟩
  go_wp2
  go_ret2
  exact ⟨rfl, hb2.out⟩
theorem rl_ccomma_f (l : List UInt8) (c : UInt8) (v : Int) (hv : v = (c.toNat : Int)) (hb : On F w (RLaidA g gb bg en cap false D S l) w1) (h8 : At8 S D (bg + 8) en) (hl : D.h + l.length < en) :
    Calls Tryz.prog 136 #[.pointer (some ⟨g, 0, none⟩), .int .u8 v] w1 (Got (.returned (.int .i64 0)) (RLaidA g gb bg en cap false D S (l ++ [c])) F w) := by
  subst hv
  exact rd_ccomma l hb h8 hl c
set_option maxHeartbeats 2000000 in
theorem rd_create_ok (hb : On F w (AllA [RDicA g gb bg en cap false D, RbA gb S]) w1) (h8 : At8 S D (bg + 8) en) (s : ByteArray) (hn : Dc.nameB s.data.toList = true) (hf : ¬ en < up D.h + (8 + up (1 + s.size))) (hsh : D.shut S = false) :
    Calls Tryz.prog 93 #[.pointer (some ⟨g, 0, none⟩), .string s] w1 (Got (.returned (.tuple #[.int .i64 ((up D.h + (8 + up (1 + s.size)) : Nat) : Int), .int .i64 0])) (AllA [RDicA g gb bg en cap false { D with h := up D.h + (8 + up (1 + s.size)), l := up D.h }, RbA gb (S.put D.h (D.headB s.data.toList))]) F w) := by
  have hon := rl_of hb
  have hs2 := name_size hn
  have hnl : s.data.toList.length = s.size := by rw [Lib.size_eq]
  have hnm := name_walk s (by omega) w1
  rw [hn] at hnm
  have h1 := h8.lo
  have hle := h8.le
  have hu1 := up_ge D.h
  have hu2 := up_ge (1 + s.size)
  have hup1 := fun w => rd_up D.h (by omega) w
  have hup2 := fun w => rd_up (1 + s.size) (by omega) w
  rw [show ((1 + s.size : Nat) : Int) = 1 + (s.size : Int) by omega] at hup2
  have hto := fun W (h : On F w (RLaidA g gb bg en cap false D S []) W) => rd_to (rl_in [] h) (by omega) (by omega)
  have hc := fun W l (h : On F w (RLaidA g gb bg en cap false D S l) W) => rl_in l h
  -- what is laid, step by step
  obtain ⟨za, hza⟩ : ∃ za : List UInt8, za = List.replicate (up D.h - D.h) 0 := ⟨_, rfl⟩
  have hzl : za.length = up D.h - D.h := by rw [hza]; simp
  have hal1 := fun W (h : On F w (RLaidA g gb bg en cap false D S []) W) => rd_align [] h h8 _ rfl (by simp; omega)
  simp only [List.length_nil, Nat.add_zero, List.nil_append] at hal1
  rw [← hza] at hal1
  have hvl : V64 (D.l : Int) := by have := h8.ok.l; rw [h8.lim] at this; unfold V64; omega
  have hcm := fun W (h : On F w (RLaidA g gb bg en cap false D S za) W) => rd_lay za h h8 (by rw [hzl]; omega) (D.l : Int) hvl
  have hl2 : (za ++ toB (D.l : Int)).length = up D.h - D.h + 8 := by simp [toB_len, hzl]
  have hby : (32 : Int) + (s.size : Int) = (((UInt8.ofNat (s.size + 32)).toNat : Nat) : Int) := by rw [UInt8.toNat_ofNat']; omega
  have hcb := fun W (h : On F w (RLaidA g gb bg en cap false D S (za ++ toB (D.l : Int))) W) => rl_ccomma_f (za ++ toB (D.l : Int)) (UInt8.ofNat (s.size + 32)) (32 + (s.size : Int)) hby h h8 (by rw [hl2]; omega)
  obtain ⟨l3, hl3⟩ : ∃ l3 : List UInt8, l3 = za ++ toB (D.l : Int) ++ [UInt8.ofNat (s.size + 32)] := ⟨_, rfl⟩
  have hl3l : l3.length = up D.h - D.h + 9 := by rw [hl3, List.length_append, hl2]; rfl
  rw [← hl3] at hcb
  have hcn := fun W (j : Nat) (hj : j < s.size) (h : On F w (RLaidA g gb bg en cap false D S (l3 ++ s.data.toList.take j)) W) => rd_ccomma (l3 ++ s.data.toList.take j) h h8 (by rw [List.length_append, hl3l, List.length_take, hnl]; omega) (s.data.toList.getD j 0)
  have htk : ∀ j, j < s.size → (l3 ++ s.data.toList.take j) ++ [s.data.toList.getD j 0] = l3 ++ s.data.toList.take (j + 1) := fun j hj => by
    rw [List.append_assoc, take_snoc _ _ (by rw [hnl]; exact hj)]
  have hl4l : (l3 ++ s.data.toList).length = up D.h - D.h + 9 + s.size := by rw [List.length_append, hl3l, hnl]
  have hal2 := fun W (h : On F w (RLaidA g gb bg en cap false D S (l3 ++ s.data.toList)) W) => rd_align (l3 ++ s.data.toList) h h8 (up (1 + s.size) - (1 + s.size)) (by rw [hl4l]; unfold up at *; omega) (by rw [hl4l]; omega)
  have hlast : l3 ++ s.data.toList ++ List.replicate (up (1 + s.size) - (1 + s.size)) 0 = D.headB s.data.toList := by
    unfold Dc.headB
    rw [hl3, hza, hnl]
    simp [List.append_assoc]
  rw [hlast] at hal2
  have hfl : (D.headB s.data.toList).length = up D.h - D.h + (8 + up (1 + s.size)) := by rw [Dc.head_len, hnl]
  have hend := fun W (h : On F w (RLaidA g gb bg en cap false D S (D.headB s.data.toList)) W) => (by
    have h1 := rl_to _ _ hfl h
    have h2 := h1.setAt 0 rfl 4 (.int .i64 (up D.h : Nat))
    rw [rdicC_latest gb bg en cap false _ (up D.h) _ rfl] at h2
    have e : ({ laidB D (up D.h - D.h + (8 + up (1 + s.size))) with l := up D.h } : Dc) = { D with h := up D.h + (8 + up (1 + s.size)), l := up D.h } := by unfold laidB; simp; omega
    rw [e] at h2
    exact h2 : On F w (AllA [RDicA g gb bg en cap false { D with h := up D.h + (8 + up (1 + s.size)), l := up D.h }, RbA gb (S.put D.h (D.headB s.data.toList))]) (W.setCell ⟨g, 4, none⟩ (.int .i64 (up D.h : Nat))))
  have hix := fun (j : Nat) (h : j < s.size) => idx_str s j h
  generalize D.headB s.data.toList = lf at *
  have hhf : ((laidB D lf.length).h : Int) = ((up D.h + (8 + up (1 + s.size)) : Nat) : Int) := by unfold laidB; simp only [hfl]; omega
  have hh0 : ((laidB D ([] : List UInt8).length).h : Int) = (D.h : Int) := rfl
  replace hon := Lib.hid hon
  replace hnm := Lib.hid hnm
  replace hup1 := Lib.hid hup1
  replace hup2 := Lib.hid hup2
  replace hto := Lib.hid hto
  replace hc := Lib.hid hc
  replace hal1 := Lib.hid hal1
  replace hcm := Lib.hid hcm
  replace hcb := Lib.hid hcb
  replace hcn := Lib.hid hcn
  replace htk := Lib.hid htk
  replace hal2 := Lib.hid hal2
  replace hend := Lib.hid hend
  replace hix := Lib.hid hix
  replace hhf := Lib.hid hhf
  replace hnl := Lib.hid hnl
  generalize up (1 + s.size) = u2 at *
  generalize hU1 : up D.h = u1 at *
  clear hb hn h8 hsh hza hzl hvl hl2 hby hl3 hl3l hl4l hlast hfl hU1
  obtain ⟨c0, c1, c2, c3, c4, cf⟩ := hc.out _ _ hon.out
  rw [hh0] at c3
  have ht : decide ((en : Int) - (u1 : Int) < 8 + (u2 : Int)) = false := decide_eq_false (by omega)
  go_enter Tryz.func93, Tryz.ntmps93
  go_wp2_with fail
  refine hnm.out.mono ?_
  rintro e w2 ⟨rfl, rfl⟩
  go_wp2_with fail
  refine (hup1.out _).mono ?_
  rintro e w3 ⟨rfl, rfl⟩
  go_wp2_with fail
  refine (hto.out _ hon.out).mono ?_
  rintro e w4 ⟨rfl, nq, rfl⟩
  have hon2 := hon.out.drewN nq
  obtain ⟨w4, hw4⟩ : ∃ w4, w3.drewN nq = w4 := ⟨_, rfl⟩
  rw [hw4] at hon2 ⊢
  clear hw4 c0 c1 c2 c3 c4 cf hon
  obtain ⟨c0, c1, c2, c3, c4, cf⟩ := hc.out _ _ hon2
  replace hal1 := Lib.hid (hal1.out _ hon2)
  clear hon2 hto
  go_wp2_with fail
  refine (hup2.out _).mono ?_
  rintro e w5 ⟨rfl, rfl⟩
  go_wp2_with fail
  refine hal1.out.mono ?_
  rintro e w5 ⟨rfl, h5⟩
  clear c0 c1 c2 c3 c4 cf
  obtain ⟨c0, c1, c2, c3, c4, cf⟩ := hc.out _ _ h5
  have c4' : w5.cell? ⟨g, 4, none⟩ = some (.int .i64 (D.l : Int)) := c4
  replace hcm := Lib.hid (hcm.out _ h5)
  clear h5 c4
  go_wp2_with fail
  refine hcm.out.mono ?_
  rintro e w6 ⟨rfl, h6⟩
  replace hcb := Lib.hid (hcb.out _ h6)
  clear h6 c0 c1 c2 c3 c4' cf
  go_wp2_with fail
  refine hcb.out.mono ?_
  rintro e w7 ⟨rfl, h7⟩
  replace h7 := Lib.hid h7
  go_wp2_with fail
  go_loopg [8] s.size (fun k t wr => ∃ j : Nat, j + k = s.size ∧ t = .int .i64 (j : Int) ∧ On F w (RLaidA g gb bg en cap false D S (l3 ++ s.data.toList.take j)) wr)
  case atStart => exact ⟨0, by omega, rfl, by rw [List.take_zero, List.append_nil]; exact h7.out⟩
  case round =>
    obtain ⟨j, hj, rfl, hj7⟩ := hrel
    by_cases hjl : j < s.size
    · have hq := hcn.out _ j hjl hj7
      have hx := hix.out j hjl wr
      rw [htk.out j hjl] at hq
      generalize s.data.toList.getD j 0 = c at *
      replace hq := Lib.hid hq
      replace hj7 := Lib.hid hj7
      go_wp2_with fail
      refine hq.out.mono ?_
      rintro e w8 ⟨rfl, h8⟩
      replace h8 := Lib.hid h8
      go_wp2
      go_roundg (gk - 1)
      case measure => omega
      case rel => exact ⟨j + 1, by omega, by go_num, h8.out⟩
    · have hjj : j = s.size := by omega
      subst hjj
      rw [List.take_of_length_le (by rw [hnl.out]; exact Nat.le_refl _)] at hj7
      replace hal2 := Lib.hid (hal2.out _ hj7)
      have hdec2 : decide ((s.size : Int) < (s.size : Int)) = false := by simp
      clear hj7
      go_wp2_with fail
      refine hal2.out.mono ?_
      rintro e w8 ⟨rfl, h8⟩
      obtain ⟨c0, c1, c2, c3, c4, cf⟩ := hc.out _ _ h8
      have c4' : w8.cell? ⟨g, 4, none⟩ = some (.int .i64 (D.l : Int)) := c4
      have f4 := cf 4
      replace hend := Lib.hid (hend.out _ h8)
      rw [hhf.out] at c3
      clear h8 c4 cf
      go_wp2
      go_ret2
      exact ⟨rfl, hend.out⟩
/-- Create, in a list that is not closed -/
theorem rd_create (hb : On F w (AllA [RDicA g gb bg en cap false D, RbA gb S]) w1) (h8 : At8 S D (bg + 8) en) (hsh : D.shut S = false) (s : ByteArray) (hsz : s.size ≤ 9223372036854775807) :
    Calls Tryz.prog 93 #[.pointer (some ⟨g, 0, none⟩), .string s] w1 (Got (.returned (.tuple #[.int .i64 (D.createV S s.data.toList), .int .i64 (D.createF S s.data.toList)])) (AllA [RDicA g gb bg en cap false (D.createD S s.data.toList), RbA gb (D.createS S s.data.toList)]) F w) := by
  have hnl : s.data.toList.length = s.size := by rw [Lib.size_eq]
  have hF : D.createF S s.data.toList = if Dc.nameB s.data.toList = false then 15 else if en < up D.h + (8 + up (1 + s.size)) then 9 else 0 := by
    unfold Dc.createF
    rw [h8.lim, hnl, hsh]
    simp
  unfold Dc.createV Dc.createD Dc.createS
  rw [hF]
  by_cases h1 : Dc.nameB s.data.toList = false
  · rw [if_pos h1, if_neg (by decide), if_neg (by decide), if_neg (by decide)]
    exact rd_create_bad hb s hsz h1
  rw [if_neg h1]
  have h1' : Dc.nameB s.data.toList = true := by simpa using h1
  by_cases h2 : en < up D.h + (8 + up (1 + s.size))
  · rw [if_pos h2, if_neg (by decide), if_neg (by decide), if_neg (by decide)]
    exact rd_create_full hb h8 s h1' h2
  rw [if_neg h2, if_pos rfl, if_pos rfl, if_pos rfl, hnl]
  exact rd_create_ok hb h8 s h1' h2 hsh
end
end Vm
end Go.Proofs.YtjhdpmimccpcdaaGreatDoor
/- Chapters 8, 10, 11: the document's world: what is made. Conditions: as written. -/
namespace Go.Proofs.YtjhdpmimccpcdaaGreatDoor
set_option linter.unusedVariables false
set_option maxRecDepth 100000
open Go.RowKit Go.Lib Go.Deep
namespace Vm
section
variable {w w1 : World} {F : Nat → Prop}
theorem rd_new (gb bg en cap : Nat) (hle : bg ≤ en) (hen : en ≤ 143360) (rg : Nat) (w : World) : Calls Tryz.prog 67 #[.slice (some ⟨gb, bg, none⟩) (en - bg) cap, .int .i64 (bg : Int)] w
    (PostE (fun e B => ∃ g, e = .returned (.pointer (some ⟨g, 0, none⟩)) ∧ B = RDicA g gb bg en cap false ⟨rg, bg + 8, 0⟩) Nob w) := by
  have hon := (On.refl (A := AllA []) (F := Nob) (w := w) (fun _ h => h)).box (rdicC gb bg en cap false ⟨rg, bg + 8, 0⟩) 132
  have e : (((bg + 8 : Nat)) : Int) = (bg : Int) + 8 := by omega
  have hc : rdicC gb bg en cap false ⟨rg, bg + 8, 0⟩ = #[.slice (some ⟨gb, bg, none⟩) (en - bg) cap, .int .i64 (bg : Int), .bool false, .int .i64 ((bg : Int) + 8), .int .i64 0] := by
    unfold rdicC
    rw [e]
    rfl
  rw [hc] at hon
  replace hon := Lib.hid hon
  replace hc := Lib.hid hc
  clear e
  go_enter Tryz.func67, Tryz.ntmps67
  go_wp2
  go_ret
  have h := hon.out.ofOne
  rw [← hc.out] at h
  exact ⟨_, ⟨w.heap.size, rfl, rfl⟩, h⟩
/-- the document's turtle -/
def rturC (x y p q : Int) (d : Bool) : Array Value := #[.int .i64 x, .int .i64 y, .int .i64 p, .int .i64 q, .bool d, .slice none 0 0]
theorem rt_new (w : World) : Calls Tryz.prog 66 #[] w (PostE (fun e B => ∃ g, e = .returned (.pointer (some ⟨g, 0, none⟩)) ∧ B = BlkA g 198 (rturC 0 0 1 0 true)) Nob w) := by
  have hon := (On.refl (A := AllA []) (F := Nob) (w := w) (fun _ h => h)).box (rturC 0 0 1 0 true) 198
  unfold rturC at hon
  replace hon := Lib.hid hon
  go_enter Tryz.func66, Tryz.ntmps66
  go_wp2
  go_ret
  exact ⟨_, ⟨w.heap.size, rfl, rfl⟩, hon.out.ofOne⟩
/-- the program's -/
def turC : Array Value := #[.complex .f64 0 0, .complex .f64 4607182418800017408 0, .bool true, .slice none 0 0]
theorem n_turtle (w : World) : Calls Tryz.prog 38 #[] w (PostE (fun e B => ∃ g, e = .returned (.pointer (some ⟨g, 0, none⟩)) ∧ B = BlkA g 170 turC) Nob w) := by
  have hon := (On.refl (A := AllA []) (F := Nob) (w := w) (fun _ h => h)).box turC 170
  unfold turC at hon
  replace hon := Lib.hid hon
  go_enter Tryz.func38, Tryz.ntmps38
  go_wp2
  go_ret
  exact ⟨_, ⟨w.heap.size, rfl, rfl⟩, hon.out.ofOne⟩
end
end Vm
end Go.Proofs.YtjhdpmimccpcdaaGreatDoor
/- Chapter 11: the document's world: a new one. Condition: the laws' layout. -/
namespace Go.Proofs.YtjhdpmimccpcdaaGreatDoor
set_option linter.unusedVariables false
set_option maxRecDepth 100000
open Go.RowKit Go.Lib Go.Deep
namespace Vm
/-- where the document's world lies -/
structure Rc where
  gW : Nat
  gM : Nat
  gb : Nat
  gK : Nat
  gS : Nat
  gD : Nat
  gDr : Nat
  gR : Nat
  gRr : Nat
  gC : Nat
  gT : Nat
def worldC (r : Rc) (list : Nat) (ws : Value) (f u h : Int) (t : Bool) : Array Value :=
  #[.pointer (some ⟨r.gM, 0, none⟩), .pointer (some ⟨r.gK, 0, none⟩), .pointer (some ⟨r.gS, 0, none⟩), .pointer (some ⟨list, 0, none⟩), ws, .pointer (some ⟨r.gD, 0, none⟩), .pointer (some ⟨r.gR, 0, none⟩), .pointer (some ⟨r.gC, 0, none⟩), .pointer (some ⟨r.gT, 0, none⟩), .int .i64 f, .int .i64 u, .int .i64 h, .bool t, .slice none 0 0]
theorem r3_new (k s u d r : Nat) (hf : Fits k s u d r) (w : World) : Calls Tryz.prog 65 #[layoutV k s u d r] w
    (PostE (fun e B => ∃ g gb, e = .returned (.tuple #[.pointer (some ⟨g, 0, none⟩), .bool true]) ∧ B = AllA [BlkA g 152 (rimgCells gb (newImg k s u d r)), RbA gb (newImg k s u d r)]) Nob w) := by
  refine (ir_new k s u d r hf w).mono ?_
  rintro e w' ⟨g, gb, he, h1, h2, hr, hb⟩
  refine ⟨_, ⟨g, gb, he, rfl⟩, fun k => k = g ∨ k = gb, ?_, Kept.ofBelow0 hb, fun i hi => by rcases hi with rfl | rfl <;> exact .inr (by assumption)⟩
  have hne := hr.blk.ne_ hr.row (by decide)
  exact ⟨fun k => k = g, fun k => k = gb, ⟨hr.blk, fun _ => Iff.rfl⟩, All.one (A := RbA gb (newImg k s u d r)) ⟨hr.row, fun _ => Iff.rfl⟩, fun k a b => hne (a.symm.trans b), fun _ => Iff.rfl⟩
def smallV : Value := .agg #[.int .i64 16384, .int .i64 64, .int .i64 512, .int .i64 128, .int .i64 64]
theorem small_walk (w : World) : Calls Tryz.prog 33 #[] w (Quiet smallV w) := by
  unfold smallV
  go_enter Tryz.func33, Tryz.ntmps33
  go_wp2
  have hb := Blk.new w 90 #[.int .i64 16384, .int .i64 64, .int .i64 512, .int .i64 128, .int .i64 64]
  have c0 := hb.cell 0
  have c1 := hb.cell 1
  have c2 := hb.cell 2
  have c3 := hb.cell 3
  have c4 := hb.cell 4
  exact bodyPost_ret (v := .agg #[.int .i64 16384, .int .i64 64, .int .i64 512, .int .i64 128, .int .i64 64]) (by simp [results, Tryz.results33, go_sem, c0, c1, c2, c3, c4]) rfl ⟨rfl, (Below.refl _ _).alloc (Nat.le_refl _) _⟩
/-- the objects of a new world, by where they lie -/
def newL (r : Rc) : List Asr :=
  [RefA r.gC (Caps.made 0 0 ⟨#[]⟩), AllA (rstkL r.gR r.gRr 0 3 4 (List.replicate 8 0)), AllA (rstkL r.gD r.gDr 0 1 2 (List.replicate 16 0)),
    RDicA r.gS r.gb 16448 16960 704 false stu0, RDicA r.gK r.gb 0 16384 17152 false ker0, BlkA r.gT 198 (rturC 0 0 1 0 true),
    BlkA r.gM 152 (rimgCells r.gb img0), RbA r.gb img0]
def Made11 (e : Ending) (B : Asr) : Prop := ∃ (r : Rc) (gws : Nat), e = .returned (.tuple #[.pointer (some ⟨r.gW, 0, none⟩), .bool true]) ∧
  B = AllA (BlkA r.gW 77 (worldC r r.gK (.slice (some ⟨gws, 0, none⟩) 1 1) 0 0 0 false) :: BlkA gws 71 #[.pointer (some ⟨r.gK, 0, none⟩)] :: newL r)
def wC0 (gM gT : Nat) (a1 a2 a3 a4 a5 a6 a7 : Value) : Array Value := #[.pointer (some ⟨gM, 0, none⟩), a1, a2, a3, a4, a5, a6, a7, .pointer (some ⟨gT, 0, none⟩), .int .i64 0, .int .i64 0, .int .i64 0, .bool false, .slice none 0 0]
def nilP : Value := .pointer none
def nilS : Value := .slice none 0 0
theorem rep_of {w W : World} {F : Nat → Prop} {L : List Asr} {gM gb : Nat} {S : Img} (h : On F w (AllA L) W) (i j : Nat) (hi : L[i]? = some (BlkA gM 152 (rimgCells gb S))) (hj : L[j]? = some (RbA gb S)) (hS : S.Ok) : IRRep W gM gb S :=
  ⟨h.blkAt i hi, h.blkAt j hj, hS⟩
theorem span_of {w W : World} {F : Nat → Prop} {L : List Asr} {gM gb : Nat} (h : On F w (AllA L) W) (i j : Nat) (hi : L[i]? = some (BlkA gM 152 (rimgCells gb img0))) (hj : L[j]? = some (RbA gb img0)) (r a b : Int) (ha : spanFrom img0 r = a) (hb : spanTo img0 r = b) :
    Calls Tryz.prog 52 #[.pointer (some ⟨gM, 0, none⟩), .int .i64 r] W (Got (.returned (.tuple #[.int .i64 a, .int .i64 b])) (AllA L) F w) := by
  have hs := r_span (rep_of h i j hi hj img0_ok) r
  rw [ha, hb] at hs
  refine hs.mono ?_
  rintro e w' ⟨he, hb⟩
  exact ⟨he, h.below hb⟩
theorem err0 : Caps.newErr 0 0 ⟨#[]⟩ = 0 := by decide
set_option maxHeartbeats 4000000 in
theorem w_new (w : World) : Calls Tryz.prog 32 #[smallV] w (PostE Made11 Nob w) := by
  have hon0 := (On.refl (A := AllA []) (F := Nob) (w := w) (fun _ h => h)).box #[.int .i64 16384, .int .i64 64, .int .i64 512, .int .i64 128, .int .i64 64] 90
  have hr3 := fun W => (r3_new 16384 64 512 128 64 img0_fits W : Calls Tryz.prog 65 #[smallV] W (PostE (fun e B => ∃ g gb, e = .returned (.tuple #[.pointer (some ⟨g, 0, none⟩), .bool true]) ∧ B = AllA [BlkA g 152 (rimgCells gb img0), RbA gb img0]) Nob W))
  unfold smallV at hr3 ⊢
  replace hr3 := Lib.hid hr3
  replace hon0 := Lib.hid hon0
  go_enter Tryz.func32, Tryz.ntmps32
  go_wp2_with fail
  refine (hon0.out.make (hr3.out _)).mono ?_
  rintro e w1 ⟨B, ⟨gM, gb, rfl, rfl⟩, hon1⟩
  replace hon1 := Lib.hid hon1.flat
  clear hon0 hr3
  go_wp2_with fail
  refine (hon1.out.make (rt_new _)).mono ?_
  rintro e w2 ⟨B, ⟨gT, rfl, rfl⟩, hon2⟩
  have hon3 := hon2.box (wC0 gM gT nilP nilP nilP nilS nilP nilP nilP) 77
  obtain ⟨gW, hgW⟩ : ∃ gW, w2.heap.size = gW := ⟨_, rfl⟩
  rw [hgW] at hon3
  unfold wC0 nilP nilS at hon3
  replace hon3 := Lib.hid hon3
  clear hon1 hon2
  go_wp2_with fail
  generalize w2.alloc (Obj.cells _ 77) = w3 at *
  clear hgW
  refine (span_of hon3.out 2 3 rfl rfl 1 0 16384 rfl rfl).mono ?_
  rintro e w4 ⟨rfl, hon4⟩
  have b5 : w4.cell? ⟨gM, 5, none⟩ = some (.slice (some ⟨gb, 0, none⟩) 17152 17152) := (hon4.blkAt 2 rfl).cell 5
  have hk := (rd_new gb 0 16384 17152 (by omega) (by omega) 1 w4 : Calls Tryz.prog 67 #[.slice (some ⟨gb, 0, none⟩) 16384 17152, .int .i64 0] w4 (PostE (fun e B => ∃ g, e = .returned (.pointer (some ⟨g, 0, none⟩)) ∧ B = RDicA g gb 0 16384 17152 false ker0) Nob w4))
  have hk2 := Lib.hid (hon4.make hk)
  replace hon4 := Lib.hid hon4
  clear hon3 hk
  go_wp2_with fail
  refine hk2.out.mono ?_
  rintro e w5 ⟨B, ⟨gK, rfl, rfl⟩, hon5⟩
  have fW := (hon5.blkAt 1 rfl).frozen 1
  have cW : w5.cell? ⟨gW, 1, none⟩ = some (.pointer none) := (hon5.blkAt 1 rfl).cell 1
  have hon6 := Lib.hid (hon5.setAt 1 rfl 1 (.pointer (some ⟨gK, 0, none⟩)))
  clear hk2 hon4 b5
  replace hon5 := Lib.hid hon5
  go_wp2_with fail
  generalize w5.setCell ⟨gW, 1, none⟩ (.pointer (some ⟨gK, 0, none⟩)) = w6 at *
  clear fW cW hon5
  refine (span_of hon6.out 3 4 rfl rfl 3 16448 16960 rfl rfl).mono ?_
  rintro e w7 ⟨rfl, hon7⟩
  have b5 : w7.cell? ⟨gM, 5, none⟩ = some (.slice (some ⟨gb, 0, none⟩) 17152 17152) := (hon7.blkAt 3 rfl).cell 5
  have hk := (rd_new gb 16448 16960 704 (by omega) (by omega) 3 w7 : Calls Tryz.prog 67 #[.slice (some ⟨gb, 16448, none⟩) 512 704, .int .i64 16448] w7 (PostE (fun e B => ∃ g, e = .returned (.pointer (some ⟨g, 0, none⟩)) ∧ B = RDicA g gb 16448 16960 704 false stu0) Nob w7))
  have hk2 := Lib.hid (hon7.make hk)
  replace hon7 := Lib.hid hon7
  clear hon6 hk
  go_wp2_with fail
  refine hk2.out.mono ?_
  rintro e w8 ⟨B, ⟨gS, rfl, rfl⟩, hon8⟩
  clear hk2 hon7 b5
  have f2 := (hon8.blkAt 2 rfl).frozen 2
  have c2 : w8.cell? ⟨gW, 2, none⟩ = some (.pointer none) := (hon8.blkAt 2 rfl).cell 2
  have f3 := (hon8.blkAt 2 rfl).frozen 3
  have c3 : w8.cell? ⟨gW, 3, none⟩ = some (.pointer none) := (hon8.blkAt 2 rfl).cell 3
  have f4 := (hon8.blkAt 2 rfl).frozen 4
  have c4 : w8.cell? ⟨gW, 4, none⟩ = some (.slice none 0 0) := (hon8.blkAt 2 rfl).cell 4
  have c1 : w8.cell? ⟨gW, 1, none⟩ = some (.pointer (some ⟨gK, 0, none⟩)) := (hon8.blkAt 2 rfl).cell 1
  have l0 := (hon8.blkAt 4 rfl).lt
  have hlW := (hon8.blkAt 2 rfl).lt
  have hlw : w.heap.size < w8.heap.size := (hon8.blkAt 6 rfl).lt
  have x3 : w8.cell? ⟨w.heap.size, 3, none⟩ = some (.int .i64 128) := (hon8.blkAt 6 rfl).cell 3
  have x4 : w8.cell? ⟨w.heap.size, 4, none⟩ = some (.int .i64 64) := (hon8.blkAt 6 rfl).cell 4
  have hneW := hon8.neAt 2 6 (by decide) rfl rfl
  have hon9 := (((hon8.setAt 2 rfl 2 (.pointer (some ⟨gS, 0, none⟩))).setAt 2 rfl 3 (.pointer (some ⟨gK, 0, none⟩))).setAt 2 rfl 4 (.slice (some ⟨w8.heap.size, 0, none⟩) 1 1)).box #[.pointer (some ⟨gK, 0, none⟩)] 71
  have hsz : (((w8.setCell ⟨gW, 2, none⟩ (.pointer (some ⟨gS, 0, none⟩))).setCell ⟨gW, 3, none⟩ (.pointer (some ⟨gK, 0, none⟩))).setCell ⟨gW, 4, none⟩ (.slice (some ⟨w8.heap.size, 0, none⟩) 1 1)).heap.size = w8.heap.size := by simp
  rw [hsz] at hon9
  replace hon9 := Lib.hid hon9
  replace hon8 := Lib.hid hon8
  clear hsz
  go_wp2_with fail
  clear f2 c2 f3 c3 f4 c4 c1 x3 x4
  generalize (((w8.setCell ⟨gW, 2, none⟩ (.pointer (some ⟨gS, 0, none⟩))).setCell ⟨gW, 3, none⟩ (.pointer (some ⟨gK, 0, none⟩))).setCell ⟨gW, 4, none⟩ (.slice (some ⟨w8.heap.size, 0, none⟩) 1 1)).alloc (.cells #[.pointer (some ⟨gK, 0, none⟩)] 71) = w9 at *
  have hs4 := (rs_new 4 16 (by omega) 1 2 (.inl ⟨rfl, rfl, rfl⟩) w9 : Calls Tryz.prog 68 #[.int .i64 4, .int .i64 128] w9 (PostE (fun e B => ∃ g gr, e = .returned (.tuple #[.pointer (some ⟨g, 0, none⟩), .bool true]) ∧ B = AllA (rstkL g gr 0 1 2 (List.replicate 16 0))) Nob w9))
  replace hs4 := hon9.out.make hs4
  refine hs4.mono ?_
  rintro e w10 ⟨B, ⟨gD, gDr, rfl, rfl⟩, hon10⟩
  have f5 := (hon10.blkAt 4 rfl).frozen 5
  have c5 : w10.cell? ⟨gW, 5, none⟩ = some (.pointer none) := (hon10.blkAt 4 rfl).cell 5
  have hon11 := Lib.hid (hon10.setAt 4 rfl 5 (.pointer (some ⟨gD, 0, none⟩)))
  have x4 : (w10.setCell ⟨gW, 5, none⟩ (.pointer (some ⟨gD, 0, none⟩))).cell? ⟨w.heap.size, 4, none⟩ = some (.int .i64 64) := (hon11.out.blkAt 8 rfl).cell 4
  clear hs4 hon9
  replace hon10 := Lib.hid hon10
  go_wp2_with fail
  generalize w10.setCell ⟨gW, 5, none⟩ (.pointer (some ⟨gD, 0, none⟩)) = w11 at *
  have hs5 := (rs_new 5 8 (by omega) 3 4 (.inr ⟨rfl, rfl, rfl⟩) w11 : Calls Tryz.prog 68 #[.int .i64 5, .int .i64 64] w11 (PostE (fun e B => ∃ g gr, e = .returned (.tuple #[.pointer (some ⟨g, 0, none⟩), .bool true]) ∧ B = AllA (rstkL g gr 0 3 4 (List.replicate 8 0))) Nob w11))
  replace hs5 := hon11.out.make hs5
  refine hs5.mono ?_
  rintro e w12 ⟨B, ⟨gR, gRr, rfl, rfl⟩, hon12⟩
  clear hs5 hon11 f5 c5 x4
  have f6 := (hon12.blkAt 5 rfl).frozen 6
  have c6 : w12.cell? ⟨gW, 6, none⟩ = some (.pointer none) := (hon12.blkAt 5 rfl).cell 6
  have hon13 := Lib.hid (hon12.setAt 5 rfl 6 (.pointer (some ⟨gR, 0, none⟩)))
  replace hon12 := Lib.hid hon12
  go_wp2_with fail
  generalize w12.setCell ⟨gW, 6, none⟩ (.pointer (some ⟨gR, 0, none⟩)) = w13 at *
  clear f6 c6 hon12
  have hc9 := make_of_at (w := w13) (R := fun e B => ∃ g, e = .returned (.tuple #[.pointer (some ⟨g, 0, none⟩), .int .i64 0]) ∧ B = RefA g (Caps.made 0 0 ⟨#[]⟩)) (fun w0 L h => (r_new h 0 0 ⟨#[]⟩ err0).mono fun e w' ⟨g, he, h2⟩ => ⟨_, ⟨g, he, rfl⟩, h2⟩)
  replace hc9 := hon13.out.make hc9
  refine hc9.mono ?_
  rintro e w14 ⟨B, ⟨gC, rfl, rfl⟩, hon14⟩
  clear hc9 hon13
  have f7 := (hon14.blkAt 6 rfl).frozen 7
  have c7 : w14.cell? ⟨gW, 7, none⟩ = some (.pointer none) := (hon14.blkAt 6 rfl).cell 7
  have hon15 := hon14.setAt 6 rfl 7 (.pointer (some ⟨gC, 0, none⟩))
  have hd := ((hon15.drop 10 rfl).front 3 rfl).front 6 rfl
  replace hd := Lib.hid hd
  clear hon15
  replace hon14 := Lib.hid hon14
  go_wp2
  go_ret2
  exact ⟨_, ⟨⟨gW, gM, gb, gK, gS, gD, gDr, gR, gRr, gC, gT⟩, w8.heap.size, rfl, rfl⟩, hd.out⟩
end Vm
end Go.Proofs.YtjhdpmimccpcdaaGreatDoor
/- Chapter 11: the document's world: its methods. Conditions: as written. -/
namespace Go.Proofs.YtjhdpmimccpcdaaGreatDoor
set_option linter.unusedVariables false
set_option maxRecDepth 100000
open Go.RowKit Go.Lib Go.Deep
namespace Vm
/-- the document's world, in plain words -/
structure Rw where
  S : Img
  K : Dc
  D : Dc
  kcl : Bool
  T : Caps.Tab
  dd : Nat
  da : List Int
  rd : Nat
  ra : List Int
  fault : Int
  used : Int
  hidden : Int
  tells : Bool
/-- the world in memory: l is the list that is worked on, ws the lists that are looked through -/
def docL (r : Rc) (l : Nat) (ws : Value) (x : Rw) : List Asr :=
  [BlkA r.gW 77 (worldC r l ws x.fault x.used x.hidden x.tells), RefA r.gC x.T, AllA (rstkL r.gR r.gRr x.rd 3 4 x.ra), AllA (rstkL r.gD r.gDr x.dd 1 2 x.da),
    RDicA r.gS r.gb 16448 16960 704 false x.D, RDicA r.gK r.gb 0 16384 17152 x.kcl x.K, BlkA r.gT 198 (rturC 0 0 1 0 true),
    BlkA r.gM 152 (rimgCells r.gb x.S), RbA r.gb x.S]
def DocA (r : Rc) (l : Nat) (ws : Value) (x : Rw) : Asr := AllA (docL r l ws x)
theorem rimg_alike (gb : Nat) {S S' : Img} (h : Alike S S') : rimgCells gb S' = rimgCells gb S := by
  unfold rimgCells
  rw [h.k, h.s, h.u, h.d, h.r, h.op, h.cl, h.beg]
section
variable {w w1 : World} {F : Nat → Prop} {r : Rc} {l : Nat} {ws : Value} {x : Rw}
theorem doc_world (h : On F w (DocA r l ws x) w1) : Blk w1 r.gW 77 (worldC r l ws x.fault x.used x.hidden x.tells) := On.blkAt (L := docL r l ws x) 0 h rfl
theorem doc_rep (h : On F w (DocA r l ws x) w1) (hS : x.S.Ok) : IRRep w1 r.gM r.gb x.S := rep_of (L := docL r l ws x) h 7 8 rfl rfl hS
theorem w_caps (hb : (DocA r l ws x).holds w F) (p rm : Int) (s : ByteArray) (h0 : Caps.newErr p rm s = 0) : Calls Tryz.prog 36 #[.pointer (some ⟨r.gW, 0, none⟩), .int .i64 p, .int .i64 rm, .string s] w
    (PostE (fun e B => ∃ g, e = .returned (.int .i64 0) ∧ B = DocA { r with gC := g } l ws { x with T := Caps.made p rm s }) F w) := by
  have hon : On F w (AllA (docL r l ws x)) w := On.refl hb
  have hc9 := make_of_at (w := w) (R := fun e B => ∃ g, e = .returned (.tuple #[.pointer (some ⟨g, 0, none⟩), .int .i64 0]) ∧ B = RefA g (Caps.made p rm s)) (fun w0 L h => (r_new h p rm s h0).mono fun e w' ⟨g, he, h2⟩ => ⟨_, ⟨g, he, rfl⟩, h2⟩)
  replace hc9 := Lib.hid (hon.make hc9)
  clear hb hon h0
  go_enter Tryz.func36, Tryz.ntmps36
  go_wp2_with fail
  refine hc9.out.mono ?_
  rintro e w2 ⟨B, ⟨g, rfl, rfl⟩, hon2⟩
  have f7 := (On.blkAt 1 hon2 rfl).frozen 7
  have c7 : w2.cell? ⟨r.gW, 7, none⟩ = some (.pointer (some ⟨r.gC, 0, none⟩)) := (On.blkAt 1 hon2 rfl).cell 7
  have hon3 := On.setAt 1 hon2 rfl 7 (.pointer (some ⟨g, 0, none⟩))
  have hd : On F w (AllA (docL { r with gC := g } l ws { x with T := Caps.made p rm s })) _ := (On.drop (On.front 1 hon3 rfl) 2 rfl)
  replace hd := Lib.hid hd
  replace hon2 := Lib.hid hon2
  clear hon3
  go_wp2
  go_ret
  exact ⟨_, ⟨g, rfl, rfl⟩, hd.out⟩
theorem w_open (hb : (DocA r l ws x).holds w F) (hS : x.S.Ok) (hc : x.S.cl = false) : Calls Tryz.prog 41 #[.pointer (some ⟨r.gW, 0, none⟩)] w (Got (.returned (.tuple #[])) (DocA r l ws { x with S := { x.S with op := true } }) F w) := by
  have hon : On F w (DocA r l ws x) w := On.refl hb
  have hop := r_open (doc_rep hon hS) hc
  have c0 : w.cell? ⟨r.gW, 0, none⟩ = some (.pointer (some ⟨r.gM, 0, none⟩)) := (doc_world hon).cell 0
  have hfin : On F w (AllA (docL r l ws { x with S := { x.S with op := true } })) (w.setCell ⟨r.gM, 6, none⟩ (.bool true)) := On.setAt (L := docL r l ws x) 7 hon rfl 6 (.bool true)
  replace hop := Lib.hid hop
  replace hfin := Lib.hid hfin
  clear hb hon hS hc
  go_enter Tryz.func41, Tryz.ntmps41
  go_wp2_with fail
  refine hop.out.mono ?_
  rintro e w2 ⟨rfl, rfl⟩
  go_wp2
  go_end0
  exact ⟨rfl, hfin.out⟩
theorem w_seal (hb : (DocA r l ws x).holds w F) (hS : x.S.Ok) (hc : x.S.cl = false) : Calls Tryz.prog 45 #[.pointer (some ⟨r.gW, 0, none⟩)] w (Got (.returned (.tuple #[])) (DocA r l ws { x with S := x.S.sealed, kcl := true }) F w) := by
  have hon : On F w (DocA r l ws x) w := On.refl hb
  have hop := r_seal (doc_rep hon hS) hc
  have c0 : w.cell? ⟨r.gW, 0, none⟩ = some (.pointer (some ⟨r.gM, 0, none⟩)) := (doc_world hon).cell 0
  have hmid : On F w (AllA (docL r l ws { x with S := x.S.sealed })) (w.setCell ⟨r.gM, 7, none⟩ (.bool true)) := On.setAt (L := docL r l ws x) 7 hon rfl 7 (.bool true)
  have c1 : (w.setCell ⟨r.gM, 7, none⟩ (.bool true)).cell? ⟨r.gW, 1, none⟩ = some (.pointer (some ⟨r.gK, 0, none⟩)) := (doc_world (x := { x with S := x.S.sealed }) hmid).cell 1
  have hbk : Blk (w.setCell ⟨r.gM, 7, none⟩ (.bool true)) r.gK 132 (rdicC r.gb 0 16384 17152 x.kcl x.K) := On.blkAt (L := docL r l ws { x with S := x.S.sealed }) 5 hmid rfl
  have ck : (w.setCell ⟨r.gM, 7, none⟩ (.bool true)).cell? ⟨r.gK, 2, none⟩ = some (.bool x.kcl) := hbk.cell 2
  have fk := hbk.frozen 2
  have hfin : On F w (AllA (docL r l ws { x with S := x.S.sealed, kcl := true })) _ := On.setAt (L := docL r l ws { x with S := x.S.sealed }) 5 hmid rfl 2 (.bool true)
  replace hop := Lib.hid hop
  replace hfin := Lib.hid hfin
  clear hb hon hS hc hmid hbk
  generalize w.setCell ⟨r.gM, 7, none⟩ (.bool true) = wm at *
  go_enter Tryz.func45, Tryz.ntmps45
  go_wp2_with fail
  refine hop.out.mono ?_
  rintro e w2 ⟨rfl, rfl⟩
  go_wp2
  go_end0
  exact ⟨rfl, hfin.out⟩
end
end Vm
end Go.Proofs.YtjhdpmimccpcdaaGreatDoor
/- Chapter 3: the document's image: the secret laid; a cell. Conditions: as written. -/
namespace Go.Proofs.YtjhdpmimccpcdaaGreatDoor
set_option linter.unusedVariables false
set_option maxRecDepth 100000
open Go.RowKit Go.Lib Go.Deep
namespace Vm
/-- the document's image: the struct, the bytes -/
def rimL (gM gb : Nat) (S : Img) : List Asr := [BlkA gM 152 (rimgCells gb S), RbA gb S]
section
variable {w w1 : World} {F : Nat → Prop} {gM gb : Nat} {S : Img}
theorem rim_rep (h : On F w (AllA (rimL gM gb S)) w1) (hS : S.Ok) : IRRep w1 gM gb S := rep_of (L := rimL gM gb S) h 0 1 rfl rfl hS
theorem rim_put {k : Nat} {l : List UInt8} (h : On F w (AllA [BlkA gM 152 (rimgCells gb S), RbA gb (S.put k l)]) w1) : On F w (AllA (rimL gM gb (S.put k l))) w1 := by
  unfold rimL
  rw [rimg_alike gb (Alike.put S k l)]
  exact h
theorem fill_len (S : Img) (l : List UInt8) (h : l.length ≤ S.s) : (l ++ List.replicate (S.s - l.length) (0 : UInt8)).length = S.s := by simp; omega
set_option maxHeartbeats 2000000 in
theorem r_load (h : On F w (AllA (rimL gM gb S)) w1) (hS : S.Ok) (s : ByteArray) (hs : s.size ≤ S.s) (hs2 : S.s ≤ 4096) :
    Calls Tryz.prog 43 #[.pointer (some ⟨gM, 0, none⟩), .string s] w1 (Got (.returned (.int .i64 0)) (AllA (rimL gM gb (Setup.load S s.data.toList))) F w) := by
  have hnl : s.data.toList.length = s.size := by rw [Lib.size_eq]
  have hspan := r_span (rim_rep h hS) 2
  have ha : spanFrom S 2 = (S.beg 2 : Int) := by unfold spanFrom; rw [if_pos (by omega)]; rfl
  have hb : spanTo S 2 = ((S.beg 2 + S.s : Nat) : Int) := by unfold spanTo; rw [if_pos (by omega)]; rfl
  rw [ha, hb] at hspan
  have hfl := fill_len S s.data.toList (by rw [hnl]; exact hs)
  have hall : S.beg 2 + S.s ≤ S.beg 6 := by simp only [Img.beg]; omega
  have hsm := hS.small
  have hlen := hS.len
  have e : Setup.load S s.data.toList = S.put (S.beg 2) (s.data.toList ++ List.replicate (S.s - s.data.toList.length) 0) := rfl
  rw [e]
  have hgl : ∀ j, j < s.size → (s.data.toList ++ List.replicate (S.s - s.data.toList.length) (0 : UInt8)).getD j 0 = s.data.toList.getD j 0 := fun j hj => by
    rw [List.getD_eq_getElem?_getD, List.getElem?_append_left (by rw [hnl]; exact hj), List.getD_eq_getElem?_getD]
  have hgz : ∀ j, s.size ≤ j → (s.data.toList ++ List.replicate (S.s - s.data.toList.length) (0 : UInt8)).getD j 0 = 0 := fun j hj => by
    rw [List.getD_eq_getElem?_getD, List.getElem?_append_right (by rw [hnl]; exact hj), List.getElem?_replicate]
    split <;> rfl
  have hix := fun (j : Nat) (h : j < s.size) => idx_str s j h
  generalize hfull : s.data.toList ++ List.replicate (S.s - s.data.toList.length) (0 : UInt8) = full at *
  have hB : ∀ (j : Nat) W, j < S.s → On F w (AllA [BlkA gM 152 (rimgCells gb S), RbA gb (S.put (S.beg 2) (full.take j))]) W →
      (W.cell? ⟨gM, 1, none⟩ = some (.int .i64 (S.s : Int)) ∧ W.cell? ⟨gM, 5, none⟩ = some (.slice (some ⟨gb, 0, none⟩) (S.beg 6) (S.beg 6))) ∧ (∃ x, W.cell? ⟨gb, S.beg 2 + j, none⟩ = some (.int .u8 x)) ∧ W.frozen? ⟨gb, S.beg 2 + j, none⟩ = false ∧ gM ≠ gb := fun j W hj h => by
    have h1 : Blk W gM 152 (rimgCells gb S) := h.blkAt 0 rfl
    have h2 : Blk W gb 5 (bcells (S.put (S.beg 2) (full.take j)).b).toArray := h.blkAt 1 rfl
    have hl2 : (S.put (S.beg 2) (full.take j)).b.length = S.b.length := S.put_len _ _ (by rw [List.length_take, hlen]; omega)
    refine ⟨⟨h1.cell 1, h1.cell 5⟩, ⟨((S.put (S.beg 2) (full.take j)).b.getD (S.beg 2 + j) 0).toNat, ?_⟩, h2.frozen _, h1.ne_ h2 (by decide)⟩
    rw [h2.cell]
    have h3 : S.beg 2 + j < (S.put (S.beg 2) (full.take j)).b.length := by omega
    simp [bcells, h3]
  have hset : ∀ (j : Nat) W, j < S.s → On F w (AllA [BlkA gM 152 (rimgCells gb S), RbA gb (S.put (S.beg 2) (full.take j))]) W → ∀ (W2 : World), On F w (AllA [BlkA gM 152 (rimgCells gb S), BlkA gb 5 ((bcells (S.put (S.beg 2) (full.take j)).b).toArray.setIfInBounds (S.beg 2 + j) (.int .u8 ((full.getD j 0).toNat : Int)))]) W2 →
      On F w (AllA [BlkA gM 152 (rimgCells gb S), RbA gb (S.put (S.beg 2) (full.take (j + 1)))]) W2 := fun j W hj h W2 h2 => by
    have e := putL_snoc S.b (S.beg 2) full j (by rw [hfl]; exact hj) (by rw [hlen]; omega)
    have e2 : (bcells (S.put (S.beg 2) (full.take j)).b).toArray.setIfInBounds (S.beg 2 + j) (.int .u8 ((full.getD j 0).toNat : Int)) = (bcells (S.put (S.beg 2) (full.take (j + 1))).b).toArray := e
    rw [e2] at h2
    exact h2
  have hone : ∀ (j : Nat) W, j < S.s → On F w (AllA [BlkA gM 152 (rimgCells gb S), RbA gb (S.put (S.beg 2) (full.take j))]) W → s.size ≤ j → On F w (AllA [BlkA gM 152 (rimgCells gb S), RbA gb (S.put (S.beg 2) (full.take (j + 1)))]) (W.setCell ⟨gb, S.beg 2 + j, none⟩ (.int .u8 0)) := fun j W hj h hz => by
    have h2 := h.setAt 1 rfl (S.beg 2 + j) (.int .u8 0)
    refine hset j W hj h _ ?_
    rw [hgz j hz]
    exact h2
  have htwo : ∀ (j : Nat) W, j < S.s → On F w (AllA [BlkA gM 152 (rimgCells gb S), RbA gb (S.put (S.beg 2) (full.take j))]) W → j < s.size → On F w (AllA [BlkA gM 152 (rimgCells gb S), RbA gb (S.put (S.beg 2) (full.take (j + 1)))]) ((W.setCell ⟨gb, S.beg 2 + j, none⟩ (.int .u8 0)).setCell ⟨gb, S.beg 2 + j, none⟩ (.int .u8 ((s.data.toList.getD j 0).toNat : Int))) := fun j W hj h hz => by
    have h1 := h.setAt 1 rfl (S.beg 2 + j) (.int .u8 0)
    have h2 := h1.setAt 1 rfl (S.beg 2 + j) (.int .u8 ((s.data.toList.getD j 0).toNat : Int))
    refine hset j W hj h _ ?_
    rw [hgl j hz]
    rw [Array.setIfInBounds_setIfInBounds] at h2
    exact h2
  have hend := fun W (h : On F w (AllA [BlkA gM 152 (rimgCells gb S), RbA gb (S.put (S.beg 2) (full.take S.s))]) W) => (by
    rw [List.take_of_length_le (by rw [hfl]; exact Nat.le_refl _)] at h
    exact rim_put h : On F w (AllA (rimL gM gb (S.put (S.beg 2) full))) W)
  have hst : ∀ W, On F w (AllA (rimL gM gb S)) W → On F w (AllA [BlkA gM 152 (rimgCells gb S), RbA gb (S.put (S.beg 2) (full.take 0))]) W := fun W h => by
    rw [List.take_zero, Img.put_nil]
    exact h
  have c1 : w1.cell? ⟨gM, 1, none⟩ = some (.int .i64 (S.s : Int)) := (rim_rep h hS).cells.2.1
  generalize S.put (S.beg 2) full = Sf at *
  generalize S.beg 2 = b at *
  generalize S.beg 6 = N at *
  generalize S.s = n at *
  replace h := Lib.hid h
  replace hspan := Lib.hid hspan
  replace hix := Lib.hid hix
  replace hB := Lib.hid hB
  replace hone := Lib.hid hone
  replace htwo := Lib.hid htwo
  replace hend := Lib.hid hend
  replace hst := Lib.hid hst
  clear hset hgl hgz ha hb hfl e hnl hfull hlen hS
  go_enter Tryz.func43, Tryz.ntmps43
  go_wp2_with fail
  refine hspan.out.mono ?_
  rintro e w2 ⟨rfl, hbl⟩
  have h2 := Lib.hid (hst.out _ (h.out.below hbl))
  clear hbl h c1
  go_wp2
  go_loopg [7] n (fun k t wr => ∃ j : Nat, j + k = n ∧ t = .int .i64 (j : Int) ∧ On F w (AllA [BlkA gM 152 (rimgCells gb S), RbA gb (S.put b (full.take j))]) wr)
  case atStart => exact ⟨0, by omega, rfl, h2.out⟩
  case round =>
    obtain ⟨j, hj, rfl, hon⟩ := hrel
    by_cases hjn : j < n
    · obtain ⟨⟨c1, c5⟩, ⟨xo, cx⟩, fx, hne⟩ := hB.out j wr hjn hon
      by_cases hz : j < s.size
      · have hf := Lib.hid (htwo.out j wr hjn hon hz)
        have hx := hix.out j hz (wr.setCell ⟨gb, b + j, none⟩ (.int .u8 0)).drew
        replace hon := Lib.hid hon
        generalize ((s.data.toList.getD j 0).toNat : Int) = c at *
        go_wp2_with fail
        go_region
        go_wp2
        go_roundg (gk - 1)
        case measure => omega
        case rel => exact ⟨j + 1, by omega, by go_num, hf.out.drew⟩
      · have hf := Lib.hid (hone.out j wr hjn hon (by omega))
        replace hon := Lib.hid hon
        go_wp2
        go_roundg (gk - 1)
        case measure => omega
        case rel => exact ⟨j + 1, by omega, by go_num, hf.out⟩
    · have hjj : j = n := by omega
      subst hjj
      replace hon := Lib.hid (hend.out _ hon)
      go_wp2
      go_ret
      exact ⟨rfl, hon.out⟩
end
end Vm
end Go.Proofs.YtjhdpmimccpcdaaGreatDoor
/- Chapter 11: a machine whose stacks hold some cells, in plain words; one step of a run. Plain lemmas. Conditions: as written. -/
namespace Go.Proofs.YtjhdpmimccpcdaaGreatDoor
set_option linter.unusedVariables false
open Go.RowKit Go.Lib
namespace Vm
/-- the laws' layout -/
structure Lay0 (S : Img) : Prop where
  k : S.k = 16384
  s : S.s = 64
  u : S.u = 512
  d : S.d = 128
  r : S.r = 64
theorem Lay0.begs {S : Img} (h : Lay0 S) : S.beg 2 = 16384 ∧ S.beg 3 = 16448 ∧ S.beg 4 = 16960 ∧ S.beg 5 = 17088 ∧ S.beg 6 = 17152 := by
  simp [Img.beg, h.k, h.s, h.u, h.d, h.r]
theorem Lay0.alike {S T : Img} (h : Lay0 S) (ha : Alike S T) : Lay0 T := ⟨ha.k.trans h.k, ha.s.trans h.s, ha.u.trans h.u, ha.d.trans h.d, ha.r.trans h.r⟩
theorem lay0_img : Lay0 img0 := ⟨rfl, rfl, rfl, rfl, rfl⟩
theorem sysF {S : Img} (hL : Lay0 S) (x : Nat) (h1 : 16960 ≤ x) (h2 : x + 8 ≤ 17152) (h8 : x % 8 = 0) (w : Bool) : S.cellF 0 (x : Int) w = 0 := by
  obtain ⟨b2, b3, b4, b5, b6⟩ := hL.begs
  have hr : ∃ j, (j = 4 ∨ j = 5) ∧ S.region (x : Int) = j ∧ x + 8 ≤ S.beg (j + 1) := by
    by_cases h : x < 17088
    · exact ⟨4, .inl rfl, S.region_eq (by omega) (by omega) (by omega) (by omega) (by show (x : Int) < S.beg 5; omega), by show x + 8 ≤ S.beg 5; omega⟩
    · exact ⟨5, .inr rfl, S.region_eq (by omega) (by omega) (by omega) (by omega) (by show (x : Int) < S.beg 6; omega), by show x + 8 ≤ S.beg 6; omega⟩
  obtain ⟨j, hj, hr, hle⟩ := hr
  have hrow : S.rowOk 0 (x : Int) 8 w = true := by
    unfold Img.rowOk Img.lets Img.may
    rw [hr]
    have h4 : decide (((8 : Nat) : Int) ≤ (S.beg (j + 1) : Int) - (x : Int)) = true := decide_eq_true (by omega)
    rw [h4]
    rcases hj with rfl | rfl <;> cases w <;> simp
  unfold Img.cellF
  rw [if_neg (by omega), if_pos hrow]
/-- a cell of one of the stacks -/
def InStk (fr i : Nat) : Prop := (fr = 16960 ∧ i < 16) ∨ (fr = 17088 ∧ i < 8)
theorem sset_put {S : Img} (hL : Lay0 S) {fr i : Nat} (h : InStk fr i) (v : Int) : sset S fr i v = S.put (fr + 8 * i) (toB v) := by
  unfold InStk at h
  unfold sset Img.setCell
  rw [show (fr : Int) + 8 * (i : Int) = ((fr + 8 * i : Nat) : Int) by omega, if_pos (sysF hL _ (by omega) (by omega) (by omega) true), Int.toNat_natCast]
theorem sget_same {S : Img} (hS : S.Ok) (hL : Lay0 S) {fr i : Nat} (h : InStk fr i) (v : Int) (hv : V64 v) : sget (S.put (fr + 8 * i) (toB v)) fr i = v := by
  obtain ⟨b2, b3, b4, b5, b6⟩ := hL.begs
  unfold InStk at h
  unfold sget
  have hc := sysF hL (fr + 8 * i) (by omega) (by omega) (by omega) false
  rw [show (fr : Int) + 8 * (i : Int) = ((fr + 8 * i + 0 : Nat) : Int) by omega, cellV_put_in S hS 0 (fr + 8 * i) 0 (toB v) (by rw [toB_len]; omega) (by rw [toB_len]; omega) hc]
  rw [List.drop_zero, List.take_of_length_le (by rw [toB_len]; omega)]
  exact ofB_toB v hv
theorem sget_far {S : Img} (hS : S.Ok) (hL : Lay0 S) {fr i fr' i' : Nat} (h : InStk fr i) (h' : InStk fr' i') (hne : fr + 8 * i ≠ fr' + 8 * i') (v : Int) : sget (S.put (fr + 8 * i) (toB v)) fr' i' = sget S fr' i' := by
  obtain ⟨b2, b3, b4, b5, b6⟩ := hL.begs
  unfold InStk at h h'
  unfold sget
  exact cellV_put_far S hS 0 _ (fr + 8 * i) (toB v) (by rw [toB_len]; omega) (by rw [toB_len]; omega)
theorem spush_ok : ∀ (l : List Int) (S : Img) (fr d : Nat), S.Ok → Lay0 S → (fr = 16960 ∧ d + l.length ≤ 16 ∨ fr = 17088 ∧ d + l.length ≤ 8) → (spush S fr d l).Ok
  | [], S, fr, d, hS, _, _ => hS
  | v :: l, S, fr, d, hS, hL, h => by
    rw [List.length_cons] at h
    have hi : InStk fr d := by
      rcases h with ⟨h1, h2⟩ | ⟨h1, h2⟩
      · exact .inl ⟨h1, by omega⟩
      · exact .inr ⟨h1, by omega⟩
    obtain ⟨b2, b3, b4, b5, b6⟩ := hL.begs
    have e := sset_put hL hi v
    have hok : (S.put (fr + 8 * d) (toB v)).Ok := put_ok hS _ _ (by rw [toB_len]; omega)
    show (spush (sset S fr d v) fr (d + 1) l).Ok
    rw [e]
    exact spush_ok l (S.put (fr + 8 * d) (toB v)) fr (d + 1) hok (hL.alike (Alike.put _ _ _)) (by omega)
/-- a machine with such code, and such stacks (the lowest cell first) -/
structure Rep (s : Mt) (a : Nat) (cs ds rs : List Int) : Prop where
  img : s.S.Ok
  lay : Lay0 s.S
  pd : s.pd = ⟨16960, 16, 1, 2⟩
  pr : s.pr = ⟨17088, 8, 3, 4⟩
  code : CodeAt s.S a cs
  d : s.d = ds.length
  r : s.r = rs.length
  dle : ds.length ≤ 16
  rle : rs.length ≤ 8
  dv : ∀ i v, ds[i]? = some v → sget s.S 16960 i = v
  rv : ∀ i v, rs[i]? = some v → sget s.S 17088 i = v
section
variable {s : Mt} {a : Nat} {cs ds rs : List Int}
theorem Rep.ok (h : Rep s a cs ds rs) : s.Ok := by
  refine ⟨?_, ?_, ?_, ?_, ?_, ?_, ?_, ?_⟩
  · rw [h.pd]; exact ⟨by decide, by decide⟩
  · rw [h.pr]; exact ⟨by decide, by decide⟩
  · rw [h.pd, h.d]; exact h.dle
  · rw [h.pr, h.r]; exact h.rle
  · rw [h.pd]
  · rw [h.pd]
  · rw [h.pr]
  · rw [h.pr]
theorem Rep.top (h : Rep s a cs ds rs) (n : Nat) (v : Int) (hn : n < ds.length) (hv : ds[ds.length - 1 - n]? = some v) : s.top (n : Int) = v := by
  unfold Mt.top stopv
  rw [h.d, h.pd, if_pos ⟨by omega, by omega⟩, Int.toNat_natCast]
  exact h.dv _ _ hv
theorem Rep.rtop (h : Rep s a cs ds rs) (n : Nat) (v : Int) (hn : n < rs.length) (hv : rs[rs.length - 1 - n]? = some v) : s.rtop (n : Int) = v := by
  unfold Mt.rtop stopv
  rw [h.r, h.pr, if_pos ⟨by omega, by omega⟩, Int.toNat_natCast]
  exact h.rv _ _ hv
theorem Rep.arv (h : Rep s a cs ds rs) (n j : Nat) (v : Int) (hj : j < n) (hn : n ≤ ds.length) (hv : ds[ds.length - n + j]? = some v) : ar s n j = v := by
  have e : ar s n j = s.top ((n - 1 - j : Nat) : Int) := by simp [Vm.ar, Mt.args, hj]
  rw [e]
  exact h.top _ _ (by omega) (by rw [← hv]; congr 1; omega)
theorem stk_code {S : Img} (hS : S.Ok) (hL : Lay0 S) {fr i : Nat} (h : InStk fr i) (v : Int) (hc : CodeAt S a cs) : CodeAt (S.put (fr + 8 * i) (toB v)) a cs := by
  obtain ⟨b2, b3, b4, b5, b6⟩ := hL.begs
  have h1 := hc.hi
  unfold InStk at h
  exact hc.put hS _ _ (by rw [toB_len]; omega) (by rw [toB_len]; omega)
theorem get_snoc {l : List Int} {v u : Int} {i : Nat} (h : (l ++ [v])[i]? = some u) : (i = l.length ∧ u = v) ∨ (i < l.length ∧ l[i]? = some u) := by
  rw [List.getElem?_append] at h
  split at h
  · exact .inr ⟨by assumption, h⟩
  · left
    rcases hk : i - l.length with _ | k
    · rw [hk] at h
      simp at h
      exact ⟨by omega, h.symm⟩
    · rw [hk] at h
      simp at h
theorem Rep.pushD1 (h : Rep s a cs ds rs) (v : Int) (hv : V64 v) (hr : ds.length < 16) : Rep (s.pushD [v]) a cs (ds ++ [v]) rs := by
  have hi : InStk 16960 ds.length := .inl ⟨rfl, hr⟩
  have hlen := h.img.len
  obtain ⟨b2, b3, b4, b5, b6⟩ := h.lay.begs
  have e : (s.pushD [v]).S = s.S.put (16960 + 8 * ds.length) (toB v) := by
    show sset s.S s.pd.fr s.d v = _
    rw [h.pd, h.d]
    exact sset_put h.lay hi v
  refine ⟨?_, ?_, h.pd, h.pr, ?_, ?_, h.r, by simp; omega, h.rle, ?_, ?_⟩
  · rw [e]; exact put_ok h.img _ _ (by rw [toB_len]; omega)
  · rw [e]; exact h.lay.alike (Alike.put _ _ _)
  · rw [e]; exact stk_code h.img h.lay hi v h.code
  · show s.d + 1 = _
    rw [h.d]; simp
  · intro i u hu
    rw [e]
    rcases get_snoc hu with ⟨rfl, rfl⟩ | ⟨hlt, hu⟩
    · exact sget_same h.img h.lay hi _ hv
    · rw [sget_far h.img h.lay hi (.inl ⟨rfl, by omega⟩) (by omega) v]
      exact h.dv i u hu
  · intro i u hu
    have hlt : i < rs.length := (List.getElem?_eq_some_iff.1 hu).1
    have := h.rle
    rw [e, sget_far h.img h.lay hi (.inr ⟨rfl, by omega⟩) (by omega) v]
    exact h.rv i u hu
theorem Rep.pushR1 (h : Rep s a cs ds rs) (v : Int) (hv : V64 v) (hr : rs.length < 8) : Rep (s.pushR [v]) a cs ds (rs ++ [v]) := by
  have hi : InStk 17088 rs.length := .inr ⟨rfl, hr⟩
  obtain ⟨b2, b3, b4, b5, b6⟩ := h.lay.begs
  have e : (s.pushR [v]).S = s.S.put (17088 + 8 * rs.length) (toB v) := by
    show sset s.S s.pr.fr s.r v = _
    rw [h.pr, h.r]
    exact sset_put h.lay hi v
  refine ⟨?_, ?_, h.pd, h.pr, ?_, h.d, ?_, h.dle, by simp; omega, ?_, ?_⟩
  · rw [e]; exact put_ok h.img _ _ (by rw [toB_len]; omega)
  · rw [e]; exact h.lay.alike (Alike.put _ _ _)
  · rw [e]; exact stk_code h.img h.lay hi v h.code
  · show s.r + 1 = _
    rw [h.r]; simp
  · intro i u hu
    have hlt : i < ds.length := (List.getElem?_eq_some_iff.1 hu).1
    have := h.dle
    rw [e, sget_far h.img h.lay hi (.inl ⟨rfl, by omega⟩) (by omega) v]
    exact h.dv i u hu
  · intro i u hu
    rw [e]
    rcases get_snoc hu with ⟨rfl, rfl⟩ | ⟨hlt, hu⟩
    · exact sget_same h.img h.lay hi _ hv
    · rw [sget_far h.img h.lay hi (.inr ⟨rfl, by omega⟩) (by omega) v]
      exact h.rv i u hu
theorem pushD_cons (s : Mt) (v : Int) (l : List Int) : s.pushD (v :: l) = (s.pushD [v]).pushD l := by
  unfold Mt.pushD
  congr 1
  show s.d + (l.length + 1) = s.d + 1 + l.length
  omega
theorem pushR_cons (s : Mt) (v : Int) (l : List Int) : s.pushR (v :: l) = (s.pushR [v]).pushR l := by
  unfold Mt.pushR
  congr 1
  show s.r + (l.length + 1) = s.r + 1 + l.length
  omega
end
theorem Rep.pushD {a : Nat} {cs rs : List Int} : ∀ {l ds : List Int} {s : Mt}, Rep s a cs ds rs → (∀ v ∈ l, V64 v) → ds.length + l.length ≤ 16 → Rep (s.pushD l) a cs (ds ++ l) rs
  | [], ds, s, h, _, _ => by rw [List.append_nil]; exact h
  | v :: l, ds, s, h, hv, hl => by
    rw [List.length_cons] at hl
    have h1 := h.pushD1 v (hv v (by simp)) (by omega)
    have h2 := Rep.pushD (l := l) h1 (fun u hu => hv u (by simp [hu])) (by rw [List.length_append, List.length_singleton]; omega)
    rw [List.append_assoc] at h2
    rw [pushD_cons]
    exact h2
theorem Rep.pushR {a : Nat} {cs ds : List Int} : ∀ {l rs : List Int} {s : Mt}, Rep s a cs ds rs → (∀ v ∈ l, V64 v) → rs.length + l.length ≤ 8 → Rep (s.pushR l) a cs ds (rs ++ l)
  | [], rs, s, h, _, _ => by rw [List.append_nil]; exact h
  | v :: l, rs, s, h, hv, hl => by
    rw [List.length_cons] at hl
    have h1 := h.pushR1 v (hv v (by simp)) (by omega)
    have h2 := Rep.pushR (l := l) h1 (fun u hu => hv u (by simp [hu])) (by rw [List.length_append, List.length_singleton]; omega)
    rw [List.append_assoc] at h2
    rw [pushR_cons]
    exact h2
section
variable {s : Mt} {a : Nat} {cs ds rs : List Int}
theorem Rep.cutD (h : Rep s a cs ds rs) (n : Nat) (hn : n ≤ ds.length) : Rep (s.cutD n) a cs (ds.take n) rs :=
  ⟨h.img, h.lay, h.pd, h.pr, h.code, by show n = _; rw [List.length_take]; omega, h.r, by rw [List.length_take]; have := h.dle; omega, h.rle, fun i v hv => h.dv i v (by
    rw [List.getElem?_take] at hv
    split at hv
    · exact hv
    · cases hv), h.rv⟩
theorem Rep.cutR (h : Rep s a cs ds rs) (n : Nat) (hn : n ≤ rs.length) : Rep (s.cutR n) a cs ds (rs.take n) :=
  ⟨h.img, h.lay, h.pd, h.pr, h.code, h.d, by show n = _; rw [List.length_take]; omega, h.dle, by rw [List.length_take]; have := h.rle; omega, h.dv, fun i v hv => h.rv i v (by
    rw [List.getElem?_take] at hv
    split at hv
    · exact hv
    · cases hv)⟩
theorem Rep.lays (h : Rep s a cs ds rs) (n : Nat) (hn : n ≤ ds.length) (l : List Int) (hl : ∀ v ∈ l, V64 v) (hr : ds.length - n + l.length ≤ 16) : (s.lays n l).1 = 0 ∧ Rep (s.lays n l).2 a cs (ds.take (ds.length - n) ++ l) rs ∧ (s.lays n l).2.seen = s.seen := by
  have h1 := h.d
  have h2 : s.pd.rm = 16 := by rw [h.pd]
  have hc : ¬ s.pd.rm - (s.d - n) < l.length := by omega
  unfold Mt.lays
  rw [if_neg hc]
  refine ⟨rfl, ?_, rfl⟩
  rw [h1]
  exact (h.cutD (ds.length - n) (by omega)).pushD hl (by rw [List.length_take]; omega)
theorem Rep.told (h : Rep s a cs ds rs) (x : Rn) (op : Int) : Rep (s.told x op) a cs ds rs := by
  unfold Mt.told
  split
  · exact ⟨h.img, h.lay, h.pd, h.pr, h.code, h.d, h.r, h.dle, h.rle, h.dv, h.rv⟩
  · exact h
theorem told_len (s : Mt) (x : Rn) (op : Int) : (s.told x op).seen.length = s.seen.length + (if s.tells then 1 else 0) := by
  unfold Mt.told
  split <;> simp
/-- is all there that an instruction asks -/
theorem Rep.asked (h : Rep s a cs ds rs) (i : Inst) (x : Rn) (hn : needs i.op = 0) (h1 : (Code.wants i.op).1 ≤ ds.length) (h26 : i.op ≠ 26) (h2 : (ds.length : Int) - (Code.wants i.op).1 + (Code.wants i.op).2 ≤ 16)
    (h3 : (returns i.op i.arg s.same).1 ≤ (rs.length : Int) - x.base) (h4 : (rs.length : Int) - (returns i.op i.arg s.same).1 + (returns i.op i.arg s.same).2 ≤ 8) : asks i x s = 0 := by
  unfold Vm.asks
  rw [h.d, h.r, h.pd, h.pr, if_neg (by omega), if_neg (by omega), if_neg (by
    rw [if_neg (by rintro ⟨h, _⟩; exact h26 h)]
    show ¬ ((16 : Nat) : Int) < _
    omega), if_neg (by show ¬ ((8 : Nat) : Int) < _; omega), if_neg (by rintro ⟨h, _⟩; exact h hn)]
end
end Vm
end Go.Proofs.YtjhdpmimccpcdaaGreatDoor
/- Chapter 11: the machine that a law makes of one word "x" and some cells, in plain words. No condition but those written. -/
namespace Go.Proofs.YtjhdpmimccpcdaaGreatDoor
set_option linter.unusedVariables false
set_option maxRecDepth 100000
open Go.RowKit Go.Lib
namespace Vm
def nameX : ByteArray := ⟨#[120]⟩
/-- the head of x: where the words end, one letter, x -/
def headX : List UInt8 := [0, 0, 0, 0, 0, 0, 0, 0, 1, 120]
def HeadX (S : Img) : Prop := ∀ i, i < 10 → S.b.getD (16456 + i) 0 = headX.getD i 0
theorem HeadX.put {S : Img} (h : HeadX S) (k : Nat) (l : List UInt8) (hk : k + l.length ≤ S.b.length) (hf : k + l.length ≤ 16456 ∨ 16466 ≤ k) : HeadX (S.put k l) := by
  intro i hi
  rw [S.put_getD k _ l hk, if_neg (by omega)]
  exact h i hi
def wordX : Wd := ⟨[120], 16456, 16472, false, false, false⟩
theorem take_getD (b : List UInt8) (k : Nat) : ∀ (l : List UInt8), k + l.length ≤ b.length → (∀ i, i < l.length → b.getD (k + i) 0 = l.getD i 0) → (b.drop k).take l.length = l := by
  intro l hk h
  apply List.ext_getElem
  · simp; omega
  · intro i h1 h2
    have e := h i h2
    rw [List.getD_eq_getElem?_getD, List.getD_eq_getElem?_getD, List.getElem?_eq_getElem (by omega), List.getElem?_eq_getElem h2] at e
    simpa using e
theorem headW_x {S : Img} {D : Dc} (hS : S.Ok) (hL : Lay0 S) (h : HeadX S) (hrg : D.rg = 3) : headW S D 16456 = some (wordX, 0) := by
  obtain ⟨b2, b3, b4, b5, b6⟩ := hL.begs
  have hlen := hS.len
  have hfr : D.fr S = 16456 := by unfold Dc.fr; rw [hrg, b3]
  have hlim : D.lim S = 16960 := by unfold Dc.lim; rw [hrg]; exact b4
  have h8 : S.b.getD (16456 + 8) 0 = 1 := h 8 (by omega)
  have e1 : (S.b.drop 16456).take 8 = [0, 0, 0, 0, 0, 0, 0, 0] := take_getD S.b 16456 [0, 0, 0, 0, 0, 0, 0, 0] (by simp; omega) (fun i hi => by
    have hi : i < 8 := hi
    rw [h i (by omega)]
    have : i = 0 ∨ i = 1 ∨ i = 2 ∨ i = 3 ∨ i = 4 ∨ i = 5 ∨ i = 6 ∨ i = 7 := by omega
    rcases this with rfl | rfl | rfl | rfl | rfl | rfl | rfl | rfl <;> rfl)
  have e2 : (S.b.drop 16465).take 1 = [120] := take_getD S.b 16465 [120] (by simp; omega) (fun i hi => by
    have hi : i < 1 := hi
    obtain rfl : i = 0 := by omega
    exact h 9 (by omega))
  unfold headW
  rw [hfr, hlim, if_neg (by omega)]
  have e3 : (16456 : Int).toNat = 16456 := rfl
  simp only [e3, h8]
  rw [if_neg (by decide), show (1 : UInt8).toNat % 32 = 1 from rfl, e2, e1]
  have hz : ofB [0, 0, 0, 0, 0, 0, 0, 0] = 0 := by decide +kernel
  have hu : up (16456 + 9 + 1) = 16472 := by decide
  rw [hz, hu]
  rfl
theorem words_x {S : Img} {D : Dc} (hS : S.Ok) (hL : Lay0 S) (h : HeadX S) (hrg : D.rg = 3) (hl : D.l = 16456) : words S D = [wordX] := by
  unfold words
  rw [hl]
  unfold wordsF
  rw [show ((16456 : Nat) : Int) = 16456 from rfl, headW_x hS hL h hrg]
  simp only
  rw [if_neg (by omega)]
  obtain ⟨b2, b3, b4, b5, b6⟩ := hL.begs
  have hfr : D.fr S = 16456 := by unfold Dc.fr; rw [hrg, b3]
  unfold wordsF
  have : headW S D 0 = none := by
    unfold headW
    rw [if_pos (.inr (.inl (by rw [hfr]; omega)))]
  rw [this]
theorem find_x {S : Img} {D : Dc} (hS : S.Ok) (hL : Lay0 S) (h : HeadX S) (hrg : D.rg = 3) (hl : D.l = 16456) : findW S D nameX.data.toList = some wordX := by
  unfold findW
  rw [words_x hS hL h hrg hl]
  rfl
/-- what a law gives: one word x -/
def setupX (cs : List Int) (data : List Int) (base : Int) : Setup := ⟨0, 0, ⟨#[]⟩, ⟨#[]⟩, false, [], [⟨nameX, false, false, cs⟩], base, data, [], 0, 0, 0⟩
def headB0 : List UInt8 := [0, 0, 0, 0, 0, 0, 0, 0, 33, 120, 0, 0, 0, 0, 0, 0]
theorem stu_create : stu0.createF img0 [120] = 0 := by decide
theorem stu_head : stu0.headB [120] = headB0 := by decide
theorem lay_put {S : Img} (h : Lay0 S) (k : Nat) (l : List UInt8) : Lay0 (S.put k l) := h.alike (Alike.put S k l)
def iHead : Img := (img0.put 16456 headB0).put 16464 [1]
theorem iHead_ok : iHead.Ok := put_ok (put_ok img0_ok _ _ (by decide)) _ _ (by decide)
theorem iHead_lay : Lay0 iHead := lay_put (lay_put lay0_img _ _) _ _
theorem img0_len : img0.b.length = 17152 := by rw [img0_ok.len]; rfl
theorem iHead_x : HeadX iHead := by
  intro i hi
  have h1 : (img0.put 16456 headB0).b.length = 17152 := by rw [img0.put_len _ _ (by rw [img0_len]; decide), img0_len]
  unfold iHead
  rw [Img.put_getD _ _ _ _ (by rw [h1]; decide)]
  by_cases h8 : i = 8
  · subst h8
    rw [if_pos (by simp)]
    rfl
  · rw [if_neg (by simp; omega), Img.put_getD _ _ _ _ (by rw [img0_len]; decide), if_pos (by
      have : headB0.length = 16 := rfl
      omega), show 16456 + i - 16456 = i by omega]
    have : i = 0 ∨ i = 1 ∨ i = 2 ∨ i = 3 ∨ i = 4 ∨ i = 5 ∨ i = 6 ∨ i = 7 ∨ i = 9 := by omega
    rcases this with rfl | rfl | rfl | rfl | rfl | rfl | rfl | rfl | rfl <;> rfl
def dHead : Dc := ⟨3, 16472, 16456⟩
theorem laid_x (cs : List Int) (hc : 16472 + 8 * cs.length ≤ 16960) : laidS ⟨nameX, false, false, cs⟩ (img0, stu0) = (iHead.put 16472 (cellsB cs), ⟨3, 16472 + 8 * cs.length, 16456⟩) := by
  have e1 : stu0.createS img0 [120] = img0.put 16456 headB0 := by
    unfold Dc.createS
    rw [if_pos stu_create, stu_head]
    rfl
  have e2 : stu0.createD img0 [120] = dHead := by
    unfold Dc.createD
    rw [if_pos stu_create]
    rfl
  have e3 : markS ⟨nameX, false, false, cs⟩ (img0.put 16456 headB0) dHead = iHead := by
    unfold markS
    simp only [Bool.false_eq_true, if_false]
    unfold Dc.turnS
    rw [if_neg (by decide)]
    have h0 : (img0.put 16456 headB0).b.getD 16464 0 = 33 := by
      rw [Img.put_getD _ _ _ _ (by rw [img0_len]; decide), if_pos (by decide)]
      rfl
    show (img0.put 16456 headB0).put 16464 [showT ((img0.put 16456 headB0).b.getD 16464 0)] = _
    rw [h0]
    rfl
  unfold laidS
  rw [show nameX.data.toList = [120] from rfl, stu_create, if_neg (by decide), e1, e2, e3]
  have hD : dHead.Ok iHead := by
    refine Dc.Ok.alike (S := img0) ⟨.inr rfl, by decide, by decide, .inr (by decide), by decide, by decide⟩ ((Alike.put _ _ _).trans (Alike.put _ _ _))
  have hlm : dHead.lim iHead = 16960 := by decide
  have hhh : dHead.h = 16472 := rfl
  have := commas_put cs iHead dHead iHead_ok hD (by decide) (by rw [hlm, hhh]; omega) (by decide)
  exact this
section
variable (cs data : List Int) (base : Int)
theorem setupX_hid : (setupX cs data base).hid = ⟨#[]⟩ := by unfold Setup.hid; split <;> rfl
theorem setupX_t1 (hc : 16472 + 8 * cs.length ≤ 16960) : (setupX cs data base).t1 = (iHead.put 16472 (cellsB cs), ⟨3, 16472 + 8 * cs.length, 16456⟩) := laid_x cs hc
theorem CodeAt.seal {S : Img} {a : Nat} {cs : List Int} (h : CodeAt S a cs) : CodeAt S.sealed a cs := ⟨h.al, h.lo, h.hi, h.at_⟩
theorem Img.Ok.seal {S : Img} (h : S.Ok) : S.sealed.Ok := ⟨h.len, h.small⟩
theorem Lay0.seal {S : Img} (h : Lay0 S) : Lay0 S.sealed := ⟨h.k, h.s, h.u, h.d, h.r⟩
theorem HeadX.seal {S : Img} (h : HeadX S) : HeadX S.sealed := h
/-- all that is known of it -/
structure MadeX (S : Img) (cs : List Int) : Prop where
  ok : S.Ok
  lay : Lay0 S
  head : HeadX S
  code : CodeAt S 16472 cs
theorem setupX_i3 (hc : 16472 + 8 * cs.length ≤ 16960) (hv : ∀ v ∈ cs, V64 v) : MadeX (setupX cs data base).i3 cs := by
  have e : (setupX cs data base).i3 = (((iHead.put 16472 (cellsB cs)).put 16384 (List.replicate 64 0)).sealed) := by
    have eo : (setupX cs data base).opened = false := rfl
    have hz : Setup.load (iHead.put 16472 (cellsB cs)) (⟨#[]⟩ : ByteArray).data.toList = (iHead.put 16472 (cellsB cs)).put 16384 (List.replicate 64 0) := by
      unfold Setup.load
      rw [show (iHead.put 16472 (cellsB cs)).beg 2 = 16384 from rfl, show (iHead.put 16472 (cellsB cs)).s = 64 from rfl]
      rfl
    unfold Setup.i3 Setup.i2
    rw [setupX_hid, setupX_t1 cs data base hc, eo]
    simp only [Bool.false_eq_true, if_false]
    rw [hz]
  have hl := cellsB_len cs
  have hle : iHead.b.length = 17152 := by rw [iHead_ok.len]; rfl
  have h1 : (iHead.put 16472 (cellsB cs)).Ok := put_ok iHead_ok _ _ (by rw [hl]; have : iHead.beg 6 = 17152 := rfl; omega)
  have hle1 : (iHead.put 16472 (cellsB cs)).b.length = 17152 := by rw [h1.len]; rfl
  have h2 : ((iHead.put 16472 (cellsB cs)).put 16384 (List.replicate 64 0)).Ok := put_ok h1 _ _ (by show 16384 + (List.replicate 64 (0 : UInt8)).length ≤ 17152; simp)
  have c1 : CodeAt (iHead.put 16472 (cellsB cs)) 16472 cs := codeAt_put iHead iHead_ok 16472 cs hv (by decide) (by decide) (by have : iHead.beg 4 = 16960 := rfl; omega)
  have c2 := c1.put h1 16384 (List.replicate 64 0) (by show 16384 + (List.replicate 64 (0 : UInt8)).length ≤ 17152; simp) (.inl (by simp))
  rw [e]
  refine ⟨Img.Ok.seal h2, Lay0.seal (lay_put (lay_put iHead_lay _ _) _ _), HeadX.seal ?_, CodeAt.seal c2⟩
  have g1 : HeadX (iHead.put 16472 (cellsB cs)) := iHead_x.put _ _ (by rw [hl, hle]; omega) (.inr (by omega))
  exact g1.put 16384 (List.replicate 64 0) (by rw [hle1]; simp) (.inl (by simp))
end
/-! ### the stacks leave what lies below them -/
theorem spush_low : ∀ (l : List Int) (S : Img) (fr d : Nat), S.Ok → Lay0 S → (fr = 16960 ∧ d + l.length ≤ 16 ∨ fr = 17088 ∧ d + l.length ≤ 8) → (spush S fr d l).Ok ∧ ∀ i, i < 16960 → (spush S fr d l).b.getD i 0 = S.b.getD i 0
  | [], S, fr, d, hS, _, _ => ⟨hS, fun _ _ => rfl⟩
  | v :: l, S, fr, d, hS, hL, h => by
    rw [List.length_cons] at h
    have hi : InStk fr d := by
      rcases h with ⟨h1, h2⟩ | ⟨h1, h2⟩
      · exact .inl ⟨h1, by omega⟩
      · exact .inr ⟨h1, by omega⟩
    obtain ⟨b2, b3, b4, b5, b6⟩ := hL.begs
    have e := sset_put hL hi v
    have hfr : 16960 ≤ fr ∧ fr + 8 * d + 8 ≤ 17152 := by omega
    have hok : (S.put (fr + 8 * d) (toB v)).Ok := put_ok hS _ _ (by rw [toB_len]; omega)
    have hr := spush_low l (S.put (fr + 8 * d) (toB v)) fr (d + 1) hok (lay_put hL _ _) (by omega)
    show (spush (sset S fr d v) fr (d + 1) l).Ok ∧ ∀ i, i < 16960 → (spush (sset S fr d v) fr (d + 1) l).b.getD i 0 = S.b.getD i 0
    rw [e]
    refine ⟨hr.1, fun i hi2 => ?_⟩
    rw [hr.2 i hi2, Img.put_getD _ _ _ _ (by rw [toB_len, hS.len]; omega), if_neg (by omega)]
theorem baseF {S : Img} (hL : Lay0 S) (w : Bool) : S.cellF 0 16448 w = 0 := by
  obtain ⟨b2, b3, b4, b5, b6⟩ := hL.begs
  have hr : S.region (16448 : Int) = 3 := S.region_eq (by omega) (by omega) (by omega) (by omega) (by show (16448 : Int) < S.beg 4; omega)
  have hrow : S.rowOk 0 (16448 : Int) 8 w = true := by
    unfold Img.rowOk Img.lets Img.may
    rw [hr]
    have h4 : decide (((8 : Nat) : Int) ≤ (S.beg (3 + 1) : Int) - 16448) = true := decide_eq_true (by show ((8 : Nat) : Int) ≤ (S.beg 4 : Int) - _; omega)
    rw [h4]
    cases w <;> simp
  unfold Img.cellF
  rw [if_neg (by omega), if_pos hrow]
theorem base_put {S : Img} (hL : Lay0 S) (v : Int) : S.setCell 0 16448 v = S.put 16448 (toB v) := by
  unfold Img.setCell
  rw [if_pos (baseF hL true)]
  rfl
/-- BASE is set -/
theorem Rep.base {s : Mt} {a : Nat} {cs ds rs : List Int} (h : Rep s a cs ds rs) (ha : 16456 ≤ a) (v f u n : Int) (t : Bool) : Rep { s with S := s.S.setCell 0 16448 v, fault := f, used := u, hidden := n, tells := t } a cs ds rs := by
  obtain ⟨b2, b3, b4, b5, b6⟩ := h.lay.begs
  have e := base_put h.lay v
  have hd := h.dle
  have hr := h.rle
  have far : ∀ fr i, InStk fr i → sget (s.S.put 16448 (toB v)) fr i = sget s.S fr i := fun fr i hi => by
    unfold InStk at hi
    exact cellV_put_far s.S h.img 0 _ 16448 (toB v) (by rw [toB_len]; omega) (by rw [toB_len]; omega)
  refine ⟨?_, ?_, h.pd, h.pr, ?_, h.d, h.r, h.dle, h.rle, fun i u hu => ?_, fun i u hu => ?_⟩
  · show (s.S.setCell 0 16448 v).Ok
    rw [e]; exact put_ok h.img _ _ (by rw [toB_len]; omega)
  · show Lay0 (s.S.setCell 0 16448 v)
    rw [e]; exact lay_put h.lay _ _
  · show CodeAt (s.S.setCell 0 16448 v) a cs
    rw [e]; exact h.code.put h.img _ _ (by rw [toB_len]; omega) (.inl (by rw [toB_len]; omega))
  · show sget (s.S.setCell 0 16448 v) 16960 i = u
    have hlt : i < ds.length := (List.getElem?_eq_some_iff.1 hu).1
    rw [e, far 16960 i (.inl ⟨rfl, by omega⟩)]
    exact h.dv i u hu
  · show sget (s.S.setCell 0 16448 v) 17088 i = u
    have hlt : i < rs.length := (List.getElem?_eq_some_iff.1 hu).1
    rw [e, far 17088 i (.inr ⟨rfl, by omega⟩)]
    exact h.rv i u hu
/-- the law's machine -/
theorem setupX_rep (cs data : List Int) (base : Int) (hc : 16472 + 8 * cs.length ≤ 16960) (hv : ∀ v ∈ cs, V64 v) (hdl : data.length ≤ 16) (hdv : ∀ v ∈ data, V64 v) :
    Rep (setupX cs data base).mt 16472 cs data [] ∧ HeadX (setupX cs data base).mt.S ∧ (setupX cs data base).mt.seen = [] ∧ (setupX cs data base).mt.tells = true := by
  have hM := setupX_i3 cs data base hc hv
  have h0 : Rep (setupX cs data base).m0 16472 cs [] [] := ⟨hM.ok, hM.lay, rfl, rfl, hM.code, rfl, rfl, by simp, by simp, fun i v h => by simp at h, fun i v h => by simp at h⟩
  have ht : data.take 16 = data := List.take_of_length_le hdl
  have h1 := h0.pushD (l := data.take 16) (by rw [ht]; exact hdv) (by rw [ht]; simpa using hdl)
  rw [List.nil_append, ht] at h1
  have h2 := h1.pushR (l := []) (fun v h => by cases h) (by simp)
  have e1 : (setupX cs data base).m1 = ((setupX cs data base).m0.pushD data).pushR [] := by
    unfold Setup.m1
    show ((setupX cs data base).m0.pushD (data.take 16)).pushR [] = _
    rw [ht]
  have hS : (setupX cs data base).m1.S = spush (setupX cs data base).i3 16960 0 data := by rw [e1]; rfl
  have hlow := spush_low data (setupX cs data base).i3 16960 0 hM.ok hM.lay (.inl ⟨rfl, by omega⟩)
  have hh : HeadX (setupX cs data base).m1.S := fun i hi => by
    rw [hS, hlow.2 _ (by omega)]
    exact hM.head i hi
  rw [List.append_nil, ← e1] at h2
  have h3 := h2.base (by omega) base 0 0 0 true
  refine ⟨h3, ?_, by show (setupX cs data base).m1.seen = []; rw [e1]; rfl, rfl⟩
  show HeadX ((setupX cs data base).m1.S.setCell 0 16448 base)
  rw [base_put h2.lay base]
  exact hh.put _ _ (by rw [toB_len, h2.img.len]; have := h2.lay.begs; omega) (.inl (by rw [toB_len]; omega))
end Vm
end Go.Proofs.YtjhdpmimccpcdaaGreatDoor
