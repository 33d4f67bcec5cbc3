/- Chapter 11: back, args, of a run. Conditions: as written. -/
import Derived.Test.YtjhdpmimccpcdaaGreatDoorQVRun
import Derived.Deep.DeepCutAuto
import Derived.Test.YtjhdpmimccpcdaaGreatDoorQ07
import Derived.Test.YtjhdpmimccpcdaaGreatDoorQ06
import Derived.BigRegion
namespace Go.Proofs.YtjhdpmimccpcdaaGreatDoor
set_option linter.unusedVariables false
set_option maxRecDepth 100000
open Go.RowKit Go.Lib Go.Deep
namespace Vm
section
variable {w w' : World} {F : Nat → Prop} {c : Vc} {g : Nat} {x : Rn} {src : Value} {s : Mt}
theorem run_set4 (n : Int) : (runC c x src).setIfInBounds 4 (.int .i64 n) = runC c { x with next := n } src := rfl
theorem run_set5 (b : Bool) : (runC c x src).setIfInBounds 5 (.bool b) = runC c { x with over := b } src := rfl
theorem run_set3 (n : Int) : (runC c x src).setIfInBounds 3 (.int .i64 n) = runC c { x with pc := n } src := rfl
theorem run_set2 (n : Int) : (runC c x src).setIfInBounds 2 (.int .i64 n) = runC c { x with left := n } src := rfl
theorem On.setNext (h : On F w (VA c g x src s) w') (n : Int) : On F w (VA c g { x with next := n } src s) (w'.setCell ⟨g, 4, none⟩ (.int .i64 n)) := h.setAt 0 rfl 4 (.int .i64 n)
theorem On.setOver (h : On F w (VA c g x src s) w') (b : Bool) : On F w (VA c g { x with over := b } src s) (w'.setCell ⟨g, 5, none⟩ (.bool b)) := h.setAt 0 rfl 5 (.bool b)
theorem On.setPc (h : On F w (VA c g x src s) w') (n : Int) : On F w (VA c g { x with pc := n } src s) (w'.setCell ⟨g, 3, none⟩ (.int .i64 n)) := h.setAt 0 rfl 3 (.int .i64 n)
theorem On.setLeft (h : On F w (VA c g x src s) w') (n : Int) : On F w (VA c g { x with left := n } src s) (w'.setCell ⟨g, 2, none⟩ (.int .i64 n)) := h.setAt 0 rfl 2 (.int .i64 n)
theorem v_popR (h : On F w (VA c g x src s) w') (hs : s.Ok) (h0 : 0 < s.r) : Calls Tryz.prog 195 #[.pointer (some ⟨c.gR, 0, none⟩)] w' (Got (.returned (.tuple #[.int .i64 (s.rtop 0), .int .i64 0])) (VA c g x src { s with r := s.r - 1 }) F w) := by
  have e : s.rtop 0 = sget s.S s.pr.fr (s.r - 1) := by unfold Mt.rtop stopv; rw [if_pos (by omega)]; rfl
  rw [e]
  exact h.callAt2G 4 2 (by decide) rfl rfl fun F' ha => k_pop ha hs.pr h0 hs.r
/-- goes on where the return stack says -/
theorem v_back (hb : (VA c g x src s).holds w F) (hs : s.Ok) (h0 : 0 < s.r) : Calls Tryz.prog 144 #[.pointer (some ⟨g, 0, none⟩)] w (Got (.returned (.tuple #[])) (VA c g (back x s).x src (back x s).s) F w) := by
  have hon := On.refl hb
  have r0 := hon.r0
  have m6 := hon.m6
  have hpop := v_popR hon hs h0
  have hres : back x s = ⟨0, { x with next := s.rtop 0, over := s.rtop 0 == 0 }, { s with r := s.r - 1 }⟩ := by unfold back; rw [if_neg (by omega)]
  rw [hres]
  generalize s.rtop 0 = a at *
  generalize ({ s with r := s.r - 1 } : Mt) = s2 at *
  replace hpop := Lib.hid hpop
  clear hb hs hres hon h0
  go_enter Tryz.func144, Tryz.ntmps144
  go_wp2_with fail
  refine hpop.out.mono ?_
  rintro e w1 ⟨rfl, h⟩
  have f4 := h.rf 4
  have f5 := h.rf 5
  have hfin := (h.setNext a).setOver (a == 0)
  replace hfin := Lib.hid hfin
  have k0 := h.r0
  have hg := h.r4
  have hg5 := h.r5
  clear h
  go_wp2_with fail
  refine (try_ok _).mono ?_
  rintro e w3 ⟨rfl, rfl⟩
  go_wp2
  go_end0
  exact ⟨rfl, hfin.out⟩
/-- the cells of args, k of them laid -/
def argsK (s : Mt) (n k : Nat) : Array Value := ((List.range n).map fun j => Value.int .i64 (if n - 1 - j < k then s.top ((n - 1 - j : Nat) : Int) else 0)).toArray
theorem argsK0 (s : Mt) (n : Nat) : madeCells #[Value.int .i64 0] n = argsK s n 0 := by
  unfold argsK
  apply Array.ext'
  simp [madeCells, Nat.mod_one]
theorem argsK_at (s : Mt) (n k : Nat) (hk : k < n) : ∃ v, (argsK s n k)[n - 1 - k]? = some (.int .i64 v) := by
  unfold argsK
  simp [show n - 1 - k < n by omega]
theorem argsK_set (s : Mt) (n k : Nat) (hk : k < n) : (argsK s n k).setIfInBounds (n - 1 - k) (.int .i64 (s.top (k : Int))) = argsK s n (k + 1) := by
  unfold argsK
  apply Array.ext'
  simp only [Array.toList_setIfInBounds]
  apply List.ext_getElem?
  intro i
  rw [List.getElem?_set]
  by_cases hi : i < n
  · by_cases e : n - 1 - k = i
    · subst e
      have e2 : n - 1 - (n - 1 - k) = k := by omega
      simp [show n - 1 - k < n by omega, e2]
    · have e2 : (n - 1 - i < k + 1) ↔ (n - 1 - i < k) := by omega
      simp [hi, e, e2]
  · simp [hi, show ¬ (n - 1 - k = i) by omega]
set_option maxHeartbeats 1000000 in
theorem v_args (hb : (VA c g x src s).holds w F) (hs : s.Ok) (n : Nat) (hn : n ≤ 8) :
    Calls Tryz.prog 113 #[.pointer (some ⟨g, 0, none⟩), .int .i64 (n : Int)] w (fun e w' => e = .returned (.slice (some ⟨w.heap.size, 0, none⟩) n n) ∧ On F w (AllA (BlkA w.heap.size 3 (argsK s n n) :: vL c g x src s)) w') := by
  have hon := On.refl hb
  have hmk := run_make_row' (P := Tryz.prog) 25 3 (.int .i64 0) 8 Tryz.underlying25 (by kernel_rfl) rfl .i64 .i64 n (by omega) (by omega) w
  rw [argsK0 s n] at hmk
  have hon0 := hon.box (argsK s n 0) 3
  have hlt := hon.rlt
  replace hon := Lib.hid hon
  replace hon0 := Lib.hid hon0
  clear hb
  go_enter Tryz.func113, Tryz.ntmps113
  go_wp2
  go_loopg [11] n (fun k t wr => ∃ j : Nat, j + k = n ∧ t = .int .i64 (j : Int) ∧ On F w (AllA (BlkA w.heap.size 3 (argsK s n j) :: vL c g x src s)) wr)
  case atStart => exact ⟨0, by omega, rfl, hon0.out⟩
  case round =>
    obtain ⟨j, hj, rfl, honj⟩ := hrel
    by_cases hjl : j < n
    · have ht := v_top honj.tail hs (j : Int)
      have hset := argsK_set s n j hjl
      have hw1 : IntKind.i64.wrap ((n : Int) - 1 - (j : Int)) = ((n - 1 - j : Nat) : Int) := by rw [IntWalk.i64_in _ (by omega)]; omega
      generalize s.top (j : Int) = v at *
      replace ht := Lib.hid ht
      replace hset := Lib.hid hset
      replace honj := Lib.hid honj
      go_wp2_with fail
      refine ht.out.mono ?_
      rintro e w1 ⟨rfl, hbl⟩
      have hon1 := honj.out.below hbl
      have hblk := hon1.blkAt 0 rfl
      have ff := hblk.frozen (n - 1 - j)
      obtain ⟨v0, cc⟩ := argsK_at s n j hjl
      replace cc := (hblk.cell (n - 1 - j)).trans cc
      have hfin := hon1.setAt 0 rfl (n - 1 - j) (.int .i64 v)
      rw [hset.out] at hfin
      replace hfin := Lib.hid hfin
      clear hblk
      replace hon1 := Lib.hid hon1
      clear hbl
      go_wp2
      go_roundg (gk - 1)
      case measure => omega
      case rel => exact ⟨j + 1, by omega, by go_num, hfin.out⟩
    · have hjn : j = n := by omega
      subst hjn
      have hdec : decide ((j : Int) < (j : Int)) = false := by simp
      replace honj := Lib.hid honj
      go_wp2
      go_ret
      exact ⟨rfl, honj.out⟩
theorem argsK_cells (s : Mt) (n : Nat) : argsK s n n = ((s.args n).map (Value.int .i64)).toArray := by
  unfold argsK Mt.args
  congr 1
  rw [List.map_map]
  apply List.map_congr_left
  intro j hj
  have : j < n := by simpa using hj
  simp [show n - 1 - j < n by omega]
end
end Vm
end Go.Proofs.YtjhdpmimccpcdaaGreatDoor
/- Chapter 8: cells and bytes laid into the program's wordlist. Conditions: as written. -/
namespace Go.Proofs.YtjhdpmimccpcdaaGreatDoor
set_option linter.unusedVariables false
set_option maxRecDepth 100000
open Go.RowKit Go.Lib Go.Deep
namespace Vm
/-- a wordlist in memory, by its plain words -/
def DcA (gI g fr en : Nat) (D : Dc) : Asr := DictA gI g fr en (D.h : Int) (D.l : Int)
/-- where its region lies -/
structure At8 (S : Img) (D : Dc) (fr en : Nat) : Prop where
  ok : D.Ok S
  img : S.Ok
  fr : D.fr S = fr
  lim : D.lim S = en
theorem At8.le {S : Img} {D : Dc} {fr en : Nat} (h : At8 S D fr en) : en ≤ 143360 := by rw [← h.lim]; exact h.ok.le h.img
theorem At8.lo {S : Img} {D : Dc} {fr en : Nat} (h : At8 S D fr en) : fr ≤ D.h ∧ D.h ≤ en := by rw [← h.lim, ← h.fr]; exact ⟨h.ok.lo, h.ok.hi⟩
theorem At8.next {S S' : Img} {D D' : Dc} {fr en : Nat} (h : At8 S D fr en) (hS : S'.Ok) (hD : D'.Ok S') (ha : Alike S S') (hr : D'.rg = D.rg) : At8 S' D' fr en := by
  refine ⟨hD, hS, ?_, ?_⟩
  · rw [← h.fr]
    unfold Dc.fr
    rw [hr, ha.beg]
  · rw [← h.lim]
    unfold Dc.lim
    rw [hr, ha.beg]
section
variable {w : World} {F : Nat → Prop} {g gI fr en : Nat} {D : Dc} {S : Img}
theorem dictC_here (gI fr en : Nat) (h l n : Int) : (dictC gI fr en h l).setIfInBounds 3 (.int .i64 n) = dictC gI fr en n l := rfl
theorem dictC_latest (gI fr en : Nat) (h l n : Int) : (dictC gI fr en h l).setIfInBounds 4 (.int .i64 n) = dictC gI fr en h n := rfl
theorem d_here (hb : Blk w g 146 (dictC gI fr en (D.h : Int) (D.l : Int))) : Calls Tryz.prog 161 #[.pointer (some ⟨g, 0, none⟩)] w (Same (.int .i64 (D.h : Int)) w) := by
  have c3 : w.cell? ⟨g, 3, none⟩ = some (.int .i64 (D.h : Int)) := hb.cell 3
  clear hb
  go_enter Tryz.func161, Tryz.ntmps161
  go_wp2
  go_ret
  exact ⟨rfl, rfl⟩
theorem d_latest (hb : Blk w g 146 (dictC gI fr en (D.h : Int) (D.l : Int))) : Calls Tryz.prog 31 #[.pointer (some ⟨g, 0, none⟩)] w (Same (.int .i64 (D.l : Int)) w) := by
  have c3 : w.cell? ⟨g, 4, none⟩ = some (.int .i64 (D.l : Int)) := hb.cell 4
  clear hb
  go_enter Tryz.func31, Tryz.ntmps31
  go_wp2
  go_ret
  exact ⟨rfl, rfl⟩
theorem comma_full (hb : (AllA [DcA gI g fr en D, ImgA gI S]).holds w F) (h8 : At8 S D fr en) (hf : en < D.h + 8) (v : Int) :
    Calls Tryz.prog 97 #[.pointer (some ⟨g, 0, none⟩), .int .i64 v] w (Got (.returned (.int .i64 9)) (AllA [DcA gI g fr en D, ImgA gI S]) F w) := by
  have hon := On.refl hb
  have hs : Blk w g 146 (dictC gI fr en (D.h : Int) (D.l : Int)) := hon.blkAt 0 rfl
  have c2 : w.cell? ⟨g, 2, none⟩ = some (.int .i64 (en : Int)) := hs.cell 2
  have c3 : w.cell? ⟨g, 3, none⟩ = some (.int .i64 (D.h : Int)) := hs.cell 3
  have h1 := h8.le
  have h2 := h8.lo.2
  have ht : decide ((en : Int) - 8 < (D.h : Int)) = true := decide_eq_true (by omega)
  replace hon := Lib.hid hon
  clear hs hb h8
  go_enter Tryz.func97, Tryz.ntmps97
  go_wp2
  go_quiet (fail)
  go_wp2
  go_ret
  exact ⟨rfl, hon.out.drewN _⟩
theorem comma_try (hb : (AllA [DcA gI g fr en D, ImgA gI S]).holds w F) (h8 : At8 S D fr en) (hf : ¬ en < D.h + 8) (v : Int) (hv : V64 v) (f : Int) (hF : S.cellF 0 (D.h : Int) true = f) (hne : f ≠ 0) :
    Calls Tryz.prog 97 #[.pointer (some ⟨g, 0, none⟩), .int .i64 v] w (Got (.returned (.int .i64 f)) (AllA [DcA gI g fr en D, ImgA gI S]) F w) := by
  have hon := On.refl hb
  have hs : Blk w g 146 (dictC gI fr en (D.h : Int) (D.l : Int)) := hon.blkAt 0 rfl
  have c0 : w.cell? ⟨g, 0, none⟩ = some (.pointer (some ⟨gI, 0, none⟩)) := hs.cell 0
  have c2 : w.cell? ⟨g, 2, none⟩ = some (.int .i64 (en : Int)) := hs.cell 2
  have c3 : w.cell? ⟨g, 3, none⟩ = some (.int .i64 (D.h : Int)) := hs.cell 3
  have h1 := h8.le
  have h2 := h8.lo.2
  have ht : decide ((en : Int) - 8 < (D.h : Int)) = false := decide_eq_false (by omega)
  have hz : (f == 0) = false := by simpa using hne
  have hset := fun n => (hon.drewN n).drew.callAtG 1 rfl (fun F' ha => g_setCell ha 0 (D.h : Int) v hv)
  have e2 : S.setCell 0 (D.h : Int) v = S := by unfold Img.setCell; rw [if_neg (by rw [hF]; exact hne)]
  rw [hF, e2] at hset
  replace hon := Lib.hid hon
  replace hset := Lib.hid hset
  clear hs hb h8 hF hv hne e2 hf
  go_enter Tryz.func97, Tryz.ntmps97
  go_wp2
  go_quiet (fail)
  go_wp2_with fail
  go_region_held (fun w' => w'.cell? ⟨g, 0, none⟩ = some (.pointer (some ⟨gI, 0, none⟩)) ∧ w'.cell? ⟨g, 3, none⟩ = some (.int .i64 (D.h : Int))) (go_keep)
    ((go_at_call 28; refine (hset.out _).mono ?_; rintro e w1 ⟨rfl, h⟩; have m0 : w1.cell? ⟨g, 0, none⟩ = some (.pointer (some ⟨gI, 0, none⟩)) := (h.blkAt 0 rfl).cell 0; have m3 : w1.cell? ⟨g, 3, none⟩ = some (.int .i64 (D.h : Int)) := (h.blkAt 0 rfl).cell 3; replace h := Lib.hid h))
  go_wp2
  go_ret
  exact ⟨rfl, h.out⟩
set_option maxHeartbeats 1000000 in
theorem comma_yes (hb : (AllA [DcA gI g fr en D, ImgA gI S]).holds w F) (h8 : At8 S D fr en) (hf : ¬ en < D.h + 8) (v : Int) (hv : V64 v) (hF : S.cellF 0 (D.h : Int) true = 0) :
    Calls Tryz.prog 97 #[.pointer (some ⟨g, 0, none⟩), .int .i64 v] w (Got (.returned (.int .i64 0)) (AllA [DcA gI g fr en { D with h := D.h + 8 }, ImgA gI (S.put D.h (toB v))]) F w) := by
  have hon := On.refl hb
  have hs : Blk w g 146 (dictC gI fr en (D.h : Int) (D.l : Int)) := hon.blkAt 0 rfl
  have c0 : w.cell? ⟨g, 0, none⟩ = some (.pointer (some ⟨gI, 0, none⟩)) := hs.cell 0
  have c2 : w.cell? ⟨g, 2, none⟩ = some (.int .i64 (en : Int)) := hs.cell 2
  have c3 : w.cell? ⟨g, 3, none⟩ = some (.int .i64 (D.h : Int)) := hs.cell 3
  have h1 := h8.le
  have h2 := h8.lo.2
  have ht : decide ((en : Int) - 8 < (D.h : Int)) = false := decide_eq_false (by omega)
  have hset := fun n => (hon.drewN n).drew.callAtG 1 rfl (fun F' ha => g_setCell ha 0 (D.h : Int) v hv)
  have e2 : S.setCell 0 (D.h : Int) v = S.put D.h (toB v) := by unfold Img.setCell; rw [if_pos hF]; rfl
  rw [hF, e2] at hset
  generalize S.put D.h (toB v) = S' at *
  replace hon := Lib.hid hon
  replace hset := Lib.hid hset
  clear hs hb h8 hF hv e2 hf
  go_enter Tryz.func97, Tryz.ntmps97
  go_wp2
  go_quiet (fail)
  go_wp2_with fail
  go_region_held (fun w' => w'.cell? ⟨g, 0, none⟩ = some (.pointer (some ⟨gI, 0, none⟩)) ∧ w'.cell? ⟨g, 3, none⟩ = some (.int .i64 (D.h : Int))) (go_keep)
    ((go_at_call 28; refine (hset.out _).mono ?_; rintro e w1 ⟨rfl, h⟩; have m0 : w1.cell? ⟨g, 0, none⟩ = some (.pointer (some ⟨gI, 0, none⟩)) := (h.blkAt 0 rfl).cell 0; have m3 : w1.cell? ⟨g, 3, none⟩ = some (.int .i64 (D.h : Int)) := (h.blkAt 0 rfl).cell 3; have f3 : w1.frozen? ⟨g, 3, none⟩ = false := (h.blkAt 0 rfl).frozen 3; have hfin := h.setAt 0 rfl 3 (.int .i64 ((D.h : Int) + 8)); rw [dictC_here] at hfin; replace h := Lib.hid h; replace hfin := Lib.hid hfin))
  go_wp2
  go_ret
  exact ⟨rfl, hfin.out⟩
theorem d_comma (hb : (AllA [DcA gI g fr en D, ImgA gI S]).holds w F) (h8 : At8 S D fr en) (v : Int) (hv : V64 v) :
    Calls Tryz.prog 97 #[.pointer (some ⟨g, 0, none⟩), .int .i64 v] w (Got (.returned (.int .i64 (D.commaF S))) (AllA [DcA gI g fr en (D.commaD S), ImgA gI (D.commaS S v)]) F w) := by
  have h2 := h8.lo
  by_cases hf : en < D.h + 8
  · have e : D.commaF S = 9 := by unfold Dc.commaF; rw [h8.lim, if_pos hf]
    unfold Dc.commaD Dc.commaS
    rw [e, if_neg (by decide), if_neg (by decide)]
    exact comma_full hb h8 hf v
  · have hc := h8.ok.cellW D.h (by rw [h8.fr]; exact h2.1) (by rw [h8.lim]; omega)
    have e : D.commaF S = S.cellF 0 (D.h : Int) true := by rw [hc]; unfold Dc.commaF; rw [h8.lim, if_neg hf]
    unfold Dc.commaD Dc.commaS
    rw [e]
    by_cases h0 : S.cellF 0 (D.h : Int) true = 0
    · rw [h0, if_pos rfl, if_pos rfl]
      exact comma_yes hb h8 hf v hv h0
    · rw [if_neg h0, if_neg h0]
      exact comma_try hb h8 hf v hv _ rfl h0
end
end Vm
end Go.Proofs.YtjhdpmimccpcdaaGreatDoor
/- Chapter 8: bytes laid into the program's wordlist; filled up to a cell. Conditions: as written. -/
namespace Go.Proofs.YtjhdpmimccpcdaaGreatDoor
set_option linter.unusedVariables false
set_option maxRecDepth 100000
open Go.RowKit Go.Lib Go.Deep
namespace Vm
section
variable {w : World} {F : Nat → Prop} {g gI fr en : Nat} {D : Dc} {S : Img}
theorem ccomma_full (hb : (AllA [DcA gI g fr en D, ImgA gI S]).holds w F) (h8 : At8 S D fr en) (hf : en ≤ D.h) (b : Int) :
    Calls Tryz.prog 132 #[.pointer (some ⟨g, 0, none⟩), .int .u8 b] w (Got (.returned (.int .i64 9)) (AllA [DcA gI g fr en D, ImgA gI S]) F w) := by
  have hon := On.refl hb
  have hs : Blk w g 146 (dictC gI fr en (D.h : Int) (D.l : Int)) := hon.blkAt 0 rfl
  have c2 : w.cell? ⟨g, 2, none⟩ = some (.int .i64 (en : Int)) := hs.cell 2
  have c3 : w.cell? ⟨g, 3, none⟩ = some (.int .i64 (D.h : Int)) := hs.cell 3
  have ht : decide ((en : Int) ≤ (D.h : Int)) = true := decide_eq_true (by omega)
  have ht' : decide (en ≤ D.h) = true := decide_eq_true hf
  replace hon := Lib.hid hon
  clear hs hb h8
  go_enter Tryz.func132, Tryz.ntmps132
  go_wp2
  go_quiet (fail)
  go_wp2
  go_ret
  exact ⟨rfl, hon.out.drewN _⟩
theorem ccomma_shut (hb : (AllA [DcA gI g fr en D, ImgA gI S]).holds w F) (h8 : At8 S D fr en) (hf : ¬ en ≤ D.h) (b : UInt8) (hF : S.byteF 0 (D.h : Int) true = 5) :
    Calls Tryz.prog 132 #[.pointer (some ⟨g, 0, none⟩), .int .u8 (b.toNat : Int)] w (Got (.returned (.int .i64 5)) (AllA [DcA gI g fr en D, ImgA gI S]) F w) := by
  have hon := On.refl hb
  have hs : Blk w g 146 (dictC gI fr en (D.h : Int) (D.l : Int)) := hon.blkAt 0 rfl
  have c0 : w.cell? ⟨g, 0, none⟩ = some (.pointer (some ⟨gI, 0, none⟩)) := hs.cell 0
  have c2 : w.cell? ⟨g, 2, none⟩ = some (.int .i64 (en : Int)) := hs.cell 2
  have c3 : w.cell? ⟨g, 3, none⟩ = some (.int .i64 (D.h : Int)) := hs.cell 3
  have ht : decide ((en : Int) ≤ (D.h : Int)) = false := decide_eq_false (by omega)
  have ht' : decide (en ≤ D.h) = false := decide_eq_false hf
  have hset := fun n => (hon.drewN n).drew.callAtG 1 rfl (fun F' ha => g_setByte ha 0 (D.h : Int) b)
  have e2 : S.setByte 0 (D.h : Int) b = S := by
    unfold Img.byteF at hF
    unfold Img.setByte
    split
    · rename_i h
      rw [if_pos h] at hF
      cases hF
    · rfl
  rw [hF, e2] at hset
  replace hon := Lib.hid hon
  replace hset := Lib.hid hset
  clear hs hb h8 hF e2 hf
  go_enter Tryz.func132, Tryz.ntmps132
  go_wp2
  go_quiet (fail)
  go_wp2_with fail
  go_region_held (fun w' => w'.cell? ⟨g, 0, none⟩ = some (.pointer (some ⟨gI, 0, none⟩)) ∧ w'.cell? ⟨g, 3, none⟩ = some (.int .i64 (D.h : Int))) (go_keep)
    ((go_at_call 157; refine (hset.out _).mono ?_; rintro e w1 ⟨rfl, h⟩; have m0 : w1.cell? ⟨g, 0, none⟩ = some (.pointer (some ⟨gI, 0, none⟩)) := (h.blkAt 0 rfl).cell 0; have m3 : w1.cell? ⟨g, 3, none⟩ = some (.int .i64 (D.h : Int)) := (h.blkAt 0 rfl).cell 3; replace h := Lib.hid h))
  go_wp2
  go_ret
  exact ⟨rfl, h.out⟩
set_option maxHeartbeats 1000000 in
theorem ccomma_yes (hb : (AllA [DcA gI g fr en D, ImgA gI S]).holds w F) (h8 : At8 S D fr en) (hf : ¬ en ≤ D.h) (b : UInt8) (hF : S.byteF 0 (D.h : Int) true = 0) :
    Calls Tryz.prog 132 #[.pointer (some ⟨g, 0, none⟩), .int .u8 (b.toNat : Int)] w (Got (.returned (.int .i64 0)) (AllA [DcA gI g fr en { D with h := D.h + 1 }, ImgA gI (S.put D.h [b])]) F w) := by
  have hon := On.refl hb
  have hs : Blk w g 146 (dictC gI fr en (D.h : Int) (D.l : Int)) := hon.blkAt 0 rfl
  have c0 : w.cell? ⟨g, 0, none⟩ = some (.pointer (some ⟨gI, 0, none⟩)) := hs.cell 0
  have c2 : w.cell? ⟨g, 2, none⟩ = some (.int .i64 (en : Int)) := hs.cell 2
  have c3 : w.cell? ⟨g, 3, none⟩ = some (.int .i64 (D.h : Int)) := hs.cell 3
  have h1 := h8.le
  have h2 := h8.lo.2
  have ht : decide ((en : Int) ≤ (D.h : Int)) = false := decide_eq_false (by omega)
  have ht' : decide (en ≤ D.h) = false := decide_eq_false hf
  have hset := fun n => (hon.drewN n).drew.callAtG 1 rfl (fun F' ha => g_setByte ha 0 (D.h : Int) b)
  have e2 : S.setByte 0 (D.h : Int) b = S.put D.h [b] := by
    unfold Img.byteF at hF
    unfold Img.setByte
    split
    · rfl
    · rename_i h
      rw [if_neg h] at hF
      cases hF
  rw [hF, e2] at hset
  generalize S.put D.h [b] = S' at *
  replace hon := Lib.hid hon
  replace hset := Lib.hid hset
  clear hs hb h8 hF e2 hf
  go_enter Tryz.func132, Tryz.ntmps132
  go_wp2
  go_quiet (fail)
  go_wp2_with fail
  go_region_held (fun w' => w'.cell? ⟨g, 0, none⟩ = some (.pointer (some ⟨gI, 0, none⟩)) ∧ w'.cell? ⟨g, 3, none⟩ = some (.int .i64 (D.h : Int))) (go_keep)
    ((go_at_call 157; refine (hset.out _).mono ?_; rintro e w1 ⟨rfl, h⟩; have m0 : w1.cell? ⟨g, 0, none⟩ = some (.pointer (some ⟨gI, 0, none⟩)) := (h.blkAt 0 rfl).cell 0; have m3 : w1.cell? ⟨g, 3, none⟩ = some (.int .i64 (D.h : Int)) := (h.blkAt 0 rfl).cell 3; have f3 : w1.frozen? ⟨g, 3, none⟩ = false := (h.blkAt 0 rfl).frozen 3; have hfin := h.setAt 0 rfl 3 (.int .i64 ((D.h : Int) + 1)); rw [dictC_here] at hfin; replace h := Lib.hid h; replace hfin := Lib.hid hfin))
  go_wp2
  go_ret
  exact ⟨rfl, hfin.out⟩
theorem d_ccomma (hb : (AllA [DcA gI g fr en D, ImgA gI S]).holds w F) (h8 : At8 S D fr en) (b : UInt8) :
    Calls Tryz.prog 132 #[.pointer (some ⟨g, 0, none⟩), .int .u8 (b.toNat : Int)] w (Got (.returned (.int .i64 (D.ccommaF S))) (AllA [DcA gI g fr en (D.ccommaD S), ImgA gI (D.ccommaS S b)]) F w) := by
  have h2 := h8.lo
  by_cases hf : en ≤ D.h
  · have e : D.ccommaF S = 9 := by unfold Dc.ccommaF; rw [h8.lim, if_pos hf]
    unfold Dc.ccommaD Dc.ccommaS
    rw [e, if_neg (by decide), if_neg (by decide)]
    exact ccomma_full hb h8 hf _
  · have hc := h8.ok.byteW D.h (by rw [h8.fr]; exact h2.1) (by rw [h8.lim]; omega)
    have e : D.ccommaF S = S.byteF 0 (D.h : Int) true := by rw [hc]; unfold Dc.ccommaF; rw [h8.lim, if_neg hf]
    unfold Dc.ccommaD Dc.ccommaS
    rw [e]
    by_cases h0 : D.shut S = true
    · rw [if_pos h0] at hc
      rw [hc, if_neg (by decide), if_neg (by decide)]
      exact ccomma_shut hb h8 hf b hc
    · rw [if_neg h0] at hc
      rw [hc, if_pos rfl, if_pos rfl]
      exact ccomma_yes hb h8 hf b hc
/-- bytes laid one behind the other -/
def laidB (D : Dc) (n : Nat) : Dc := { D with h := D.h + n }
theorem at8_laid (h8 : At8 S D fr en) (hs : D.shut S = false) (l : List UInt8) (hl : D.h + l.length ≤ en) : At8 (S.put D.h l) (laidB D l.length) fr en := by
  have h2 := h8.lo
  have ha := Alike.put S D.h l
  refine h8.next (put_ok h8.img _ _ (by have := h8.ok.all; rw [h8.lim] at this; omega)) (Dc.Ok.alike (h8.ok.with _ _ (by rw [h8.fr]; omega) (by rw [h8.lim]; exact hl) h8.ok.l) ha) ha rfl
/-- one more, behind some -/
theorem ccomma_more (h8 : At8 S D fr en) (hs : D.shut S = false) (l : List UInt8) (b : UInt8) (hl : D.h + l.length < en) (hb : (AllA [DcA gI g fr en (laidB D l.length), ImgA gI (S.put D.h l)]).holds w F) :
    Calls Tryz.prog 132 #[.pointer (some ⟨g, 0, none⟩), .int .u8 (b.toNat : Int)] w (Got (.returned (.int .i64 0)) (AllA [DcA gI g fr en (laidB D (l.length + 1)), ImgA gI (S.put D.h (l ++ [b]))]) F w) := by
  have h := d_ccomma hb (at8_laid h8 hs l (by omega)) b
  have hsh : (laidB D l.length).shut (S.put D.h l) = false := by rw [← hs]; rfl
  have h9 := at8_laid h8 hs l (by omega)
  have e : (laidB D l.length).ccommaF (S.put D.h l) = 0 := by
    unfold Dc.ccommaF
    rw [h9.lim, hsh, if_neg (by show ¬ en ≤ D.h + l.length; omega)]
    rfl
  unfold Dc.ccommaD Dc.ccommaS at h
  rw [e, if_pos rfl, if_pos rfl] at h
  have h2 := h8.lo
  have e2 : (S.put D.h l).put (laidB D l.length).h [b] = S.put D.h (l ++ [b]) := S.put_append D.h l [b] (by rw [h8.img.len]; have := h8.ok.all; rw [h8.lim] at this; omega)
  rw [e2] at h
  exact h
theorem u8_0 : (((0 : UInt8).toNat : Nat) : Int) = 0 := rfl
theorem DcA.c3 {w' : World} {L : List Asr} (h : On F w (AllA (DcA gI g fr en D :: L)) w') : w'.cell? ⟨g, 3, none⟩ = some (.int .i64 (D.h : Int)) := (show Blk w' g 146 (dictC gI fr en (D.h : Int) (D.l : Int)) from h.blkAt 0 rfl).cell 3
set_option maxHeartbeats 1000000 in
theorem d_align_shut (hb : (AllA [DcA gI g fr en D, ImgA gI S]).holds w F) (h8 : At8 S D fr en) (h0 : D.h % 8 ≠ 0) (hs : D.shut S = true) :
    Calls Tryz.prog 131 #[.pointer (some ⟨g, 0, none⟩)] w (Got (.returned (.int .i64 5)) (AllA [DcA gI g fr en D, ImgA gI S]) F w) := by
  have hon := On.refl hb
  have h1 := h8.lo
  have h2 := h8.ok.al.1
  rw [h8.lim] at h2
  have hcc := hon.callG (fun F' ha => d_ccomma ha h8 0)
  have e : D.ccommaF S = 5 := by unfold Dc.ccommaF; rw [h8.lim, if_neg (by omega), if_pos hs]
  unfold Dc.ccommaD Dc.ccommaS at hcc
  rw [e, if_neg (by decide), if_neg (by decide), u8_0] at hcc
  have hc3 := fun w1 (h : On F w (AllA [DcA gI g fr en D, ImgA gI S]) w1) => DcA.c3 h
  have ht : (((D.h : Int) % 8) != 0) = true := by rw [bne_iff_ne]; omega
  generalize D.h = k at *
  replace hcc := Lib.hid hcc
  replace hon := Lib.hid hon
  replace hc3 := Lib.hid hc3
  clear hb h8 hs e h2 h0
  go_enter Tryz.func131, Tryz.ntmps131
  go_wp2
  go_loopg [3] 1 (fun m t wr => (m = 1 ∧ t = .int .i64 0 ∧ wr = w) ∨ (m = 0 ∧ t = .int .i64 5 ∧ On F w (AllA [DcA gI g fr en D, ImgA gI S]) wr))
  case atStart => exact .inl ⟨rfl, rfl, rfl⟩
  case round =>
    rcases hrel with ⟨hm, rfl, rfl⟩ | ⟨hm, rfl, h⟩
    · have c3 := hc3.out _ hon.out
      replace hm := Lib.hid hm
      go_wp2_with fail
      refine hcc.out.mono ?_
      rintro e w1 ⟨rfl, h⟩
      replace h := Lib.hid h
      go_wp2
      go_roundg 0
      case measure => rw [hm.out]; omega
      case rel => exact .inr ⟨rfl, rfl, h.out⟩
    · have c3 := hc3.out _ h
      replace h := Lib.hid h
      replace hm := Lib.hid hm
      go_wp2
      go_ret
      exact ⟨rfl, h.out⟩
set_option maxHeartbeats 1000000 in
theorem d_align_yes (hb : (AllA [DcA gI g fr en D, ImgA gI S]).holds w F) (h8 : At8 S D fr en) (hs : D.h % 8 = 0 ∨ D.shut S = false) :
    Calls Tryz.prog 131 #[.pointer (some ⟨g, 0, none⟩)] w (Got (.returned (.int .i64 0)) (AllA [DcA gI g fr en (laidB D (up D.h - D.h)), ImgA gI (S.put D.h (List.replicate (up D.h - D.h) 0))]) F w) := by
  have hon := On.refl hb
  have h1 := h8.lo
  have hle := h8.le
  have h2 := h8.ok.al.1
  rw [h8.lim] at h2
  have hup := up_ge D.h
  have hmore := fun (j : Nat) (hj : j < up D.h - D.h) w1 (h : On F w (AllA [DcA gI g fr en (laidB D j), ImgA gI (S.put D.h (List.replicate j 0))]) w1) =>
    h.callG (fun F' ha => by
      have hj1 : D.h + j < en := by omega
      have hsh : D.shut S = false := by
        rcases hs with hs | hs
        · rw [up_id _ hs] at hj; omega
        · exact hs
      have hl : (List.replicate j (0 : UInt8)).length = j := by simp
      have hq := ccomma_more (w := w1) (F := F') h8 hsh (List.replicate j 0) 0 (by rw [hl]; exact hj1) (by rw [hl]; exact ha)
      rw [hl, replicate_snoc, u8_0] at hq
      exact hq)
  have hc3 := fun j w1 (h : On F w (AllA [DcA gI g fr en (laidB D j), ImgA gI (S.put D.h (List.replicate j 0))]) w1) => DcA.c3 h
  have h00 : On F w (AllA [DcA gI g fr en (laidB D 0), ImgA gI (S.put D.h (List.replicate 0 0))]) w := by
    rw [show List.replicate 0 (0 : UInt8) = [] from rfl, Img.put_nil]
    exact hon
  have hk : ∀ j, (((laidB D j).h : Nat) : Int) = (D.h : Int) + (j : Int) := fun j => by unfold laidB; simp
  have htt : ∀ j, j < up D.h - D.h → ((((D.h : Int) + (j : Int)) % 8) != 0) = true := fun j hj => by rw [bne_iff_ne]; unfold up at hj; omega
  have htf : ((((D.h : Int) + ((up D.h - D.h : Nat) : Int)) % 8) != 0) = false := by rw [bne_eq_false_iff_eq]; omega
  generalize hn : up D.h - D.h = n at *
  have hn8 : n ≤ 8 := by omega
  have hk0 : D.h ≤ 143360 := by omega
  generalize D.h = k at *
  replace hmore := Lib.hid hmore
  replace hc3 := Lib.hid hc3
  replace h00 := Lib.hid h00
  replace hk := Lib.hid hk
  replace htt := Lib.hid htt
  clear hb h8 hs h2 hup hon hn h1 hle
  go_enter Tryz.func131, Tryz.ntmps131
  go_wp2
  go_loopg [3] n (fun m t wr => ∃ j : Nat, j + m = n ∧ t = .int .i64 0 ∧ On F w (AllA [DcA gI g fr en (laidB D j), ImgA gI (S.put k (List.replicate j 0))]) wr)
  case atStart => exact ⟨0, by omega, rfl, h00.out⟩
  case round =>
    obtain ⟨j, hj, rfl, h⟩ := hrel
    have c3 := hc3.out j _ h
    rw [hk.out] at c3
    by_cases hjn : j < n
    · have ht := htt.out j hjn
      have hq := Lib.hid (hmore.out j hjn _ h)
      replace h := Lib.hid h
      go_wp2_with fail
      refine hq.out.mono ?_
      rintro e w1 ⟨rfl, h2⟩
      replace h2 := Lib.hid h2
      go_wp2
      go_roundg (gk - 1)
      case measure => omega
      case rel => exact ⟨j + 1, by omega, rfl, h2.out⟩
    · have hjj : j = n := by omega
      subst hjj
      replace h := Lib.hid h
      go_wp2
      go_ret
      exact ⟨rfl, h.out⟩
theorem d_align (hb : (AllA [DcA gI g fr en D, ImgA gI S]).holds w F) (h8 : At8 S D fr en) :
    Calls Tryz.prog 131 #[.pointer (some ⟨g, 0, none⟩)] w (Got (.returned (.int .i64 (D.alignF S))) (AllA [DcA gI g fr en (D.alignD S), ImgA gI (D.alignS S)]) F w) := by
  unfold Dc.alignD Dc.alignS
  by_cases h : D.h % 8 ≠ 0 ∧ D.shut S = true
  · have e : D.alignF S = 5 := by unfold Dc.alignF; rw [if_pos h]
    rw [e, if_neg (by decide), if_neg (by decide)]
    exact d_align_shut hb h8 h.1 h.2
  · have e : D.alignF S = 0 := by unfold Dc.alignF; rw [if_neg h]
    rw [e, if_pos rfl, if_pos rfl]
    have hup := up_ge D.h
    have h2 := d_align_yes hb h8 (by
      by_cases h0 : D.h % 8 = 0
      · exact .inl h0
      · right
        rcases hs : D.shut S with _ | _
        · rfl
        · exact absurd ⟨h0, hs⟩ h)
    have e2 : laidB D (up D.h - D.h) = { D with h := up D.h } := by
      unfold laidB
      congr 1
      omega
    rw [e2] at h2
    exact h2
end
end Vm
end Go.Proofs.YtjhdpmimccpcdaaGreatDoor
/- Chapter 8: the document's wordlist over the bytes of its region: cells and bytes laid; filled up to a cell. Conditions: as written. -/
namespace Go.Proofs.YtjhdpmimccpcdaaGreatDoor
set_option linter.unusedVariables false
set_option maxRecDepth 100000
open Go.RowKit Go.Lib Go.Deep
namespace Vm
/-- the document's wordlist: its region goes from bg to en in the row gb -/
def rdicC (gb bg en cap : Nat) (cl : Bool) (D : Dc) : Array Value := #[.slice (some ⟨gb, bg, none⟩) (en - bg) cap, .int .i64 (bg : Int), .bool cl, .int .i64 (D.h : Int), .int .i64 (D.l : Int)]
def RDicA (g gb bg en cap : Nat) (cl : Bool) (D : Dc) : Asr := BlkA g 132 (rdicC gb bg en cap cl D)
/-- the document's bytes -/
def RbA (gb : Nat) (S : Img) : Asr := BlkA gb 5 (bcells S.b).toArray
theorem rdicC_here (gb bg en cap : Nat) (cl : Bool) (D : Dc) (n : Nat) (v : Int) (h : v = n) : (rdicC gb bg en cap cl D).setIfInBounds 3 (.int .i64 v) = rdicC gb bg en cap cl { D with h := n } := by subst h; rfl
theorem rdicC_latest (gb bg en cap : Nat) (cl : Bool) (D : Dc) (n : Nat) (v : Int) (h : v = n) : (rdicC gb bg en cap cl D).setIfInBounds 4 (.int .i64 v) = rdicC gb bg en cap cl { D with l := n } := by subst h; rfl
section
variable {w w1 : World} {F : Nat → Prop} {g gb bg en cap : Nat} {cl : Bool} {D : Dc} {S : Img}
/-- what is in the struct -/
structure RdIn (w : World) (g gb bg en cap : Nat) (cl : Bool) (D : Dc) : Prop where
  c0 : w.cell? ⟨g, 0, none⟩ = some (.slice (some ⟨gb, bg, none⟩) (en - bg) cap)
  c1 : w.cell? ⟨g, 1, none⟩ = some (.int .i64 (bg : Int))
  c2 : w.cell? ⟨g, 2, none⟩ = some (.bool cl)
  c3 : w.cell? ⟨g, 3, none⟩ = some (.int .i64 (D.h : Int))
  c4 : w.cell? ⟨g, 4, none⟩ = some (.int .i64 (D.l : Int))
  fr : ∀ i, w.frozen? ⟨g, i, none⟩ = false
theorem rd_in {L : List Asr} (h : On F w (AllA (RDicA g gb bg en cap cl D :: L)) w1) : RdIn w1 g gb bg en cap cl D :=
  have hb : Blk w1 g 132 (rdicC gb bg en cap cl D) := h.blkAt 0 rfl
  ⟨hb.cell 0, hb.cell 1, hb.cell 2, hb.cell 3, hb.cell 4, fun i => hb.frozen i⟩
theorem RdIn.drewN (h : RdIn w g gb bg en cap cl D) (n : Nat) : RdIn (w.drewN n) g gb bg en cap cl D := ⟨h.c0, h.c1, h.c2, h.c3, h.c4, h.fr⟩
theorem rd_to (h : RdIn w g gb bg en cap cl D) (hbg : bg ≤ en) (hen : en ≤ 143360) : Calls Tryz.prog 85 #[.pointer (some ⟨g, 0, none⟩)] w (fun e w' => e = .returned (.int .i64 (en : Int)) ∧ ∃ n, w' = w.drewN n) := by
  obtain ⟨c0, c1, _, _, _, _⟩ := h
  have e : (bg : Int) + ((en - bg : Nat) : Int) = (en : Int) := by omega
  replace e := Lib.hid e
  go_enter Tryz.func85, Tryz.ntmps85
  go_wp2
  go_quiet (fail)
  go_wp2
  go_ret
  exact ⟨congrArg (fun n => Ending.returned (Value.int .i64 n)) e.out, _, rfl⟩
theorem rd_up (n : Nat) (hn : n ≤ 1000000) (w : World) : Calls Tryz.prog 86 #[.int .i64 (n : Int)] w (Same (.int .i64 (up n : Int)) w) := by
  have hu := up_ge n
  have hall : ∀ j : Nat, n ≤ j → j ≤ up n → ((((j : Int) % 8 != 0) = true ∧ j < up n) ∨ (((j : Int) % 8 != 0) = false ∧ j = up n)) := fun j h1 h2 => by
    by_cases hj : j = up n
    · right
      exact ⟨by rw [bne_eq_false_iff_eq]; omega, hj⟩
    · left
      exact ⟨by rw [bne_iff_ne]; unfold up at *; omega, by omega⟩
  generalize up n = m at *
  replace hall := Lib.hid hall
  go_enter Tryz.func86, Tryz.ntmps86
  go_wp2
  go_loopg [0] (m - n) (fun k t wr => ∃ j : Nat, n ≤ j ∧ j + k = m ∧ t = .int .i64 (j : Int) ∧ wr = w)
  case atStart => exact ⟨n, by omega, by omega, rfl, rfl⟩
  case round =>
    obtain ⟨j, h1, h2, rfl, rfl⟩ := hrel
    rcases hall.out j h1 (by omega) with ⟨ht, hlt⟩ | ⟨ht, rfl⟩
    · go_wp2
      go_roundg (gk - 1)
      case measure => omega
      case rel => exact ⟨j + 1, by omega, by omega, by go_num, rfl⟩
    · go_wp2
      go_ret
      exact ⟨rfl, rfl⟩
/-- the wordlist and the bytes behind some bytes laid -/
def RLaidA (g gb bg en cap : Nat) (cl : Bool) (D : Dc) (S : Img) (l : List UInt8) : Asr := AllA [RDicA g gb bg en cap cl (laidB D l.length), RbA gb (S.put D.h l)]
theorem rl_start (hb : (AllA [RDicA g gb bg en cap cl D, RbA gb S]).holds w F) : On F w (RLaidA g gb bg en cap cl D S []) w := by
  unfold RLaidA
  rw [Img.put_nil]
  exact On.refl hb
theorem rl_in (l : List UInt8) (h : On F w (RLaidA g gb bg en cap cl D S l) w1) : RdIn w1 g gb bg en cap cl (laidB D l.length) := rd_in h
/-- where a byte will lie -/
theorem rl_byte (l : List UInt8) (h8 : At8 S D (bg + 8) en) (hl : D.h + l.length < en) (h : On F w (RLaidA g gb bg en cap cl D S l) w1) : (∃ x, w1.cell? ⟨gb, D.h + l.length, none⟩ = some (.int .u8 x)) ∧ (∀ i, w1.frozen? ⟨gb, i, none⟩ = false) ∧ g ≠ gb := by
  have hb : Blk w1 gb 5 (bcells (S.put D.h l).b).toArray := h.blkAt 1 rfl
  have hg : Blk w1 g 132 (rdicC gb bg en cap cl (laidB D l.length)) := h.blkAt 0 rfl
  have hall := h8.ok.all
  rw [h8.lim] at hall
  have hlen : (S.put D.h l).b.length = S.beg 6 := by rw [S.put_len D.h l (by rw [h8.img.len]; omega), h8.img.len]
  refine ⟨⟨((S.put D.h l).b.getD (D.h + l.length) 0).toNat, ?_⟩, fun i => hb.frozen i, hg.ne_ hb (by decide)⟩
  rw [hb.cell]
  have h2 : D.h + l.length < (S.put D.h l).b.length := by omega
  simp [bcells, h2]
/-- a byte more -/
theorem rl_more (l : List UInt8) (b : UInt8) (h8 : At8 S D (bg + 8) en) (hl : D.h + l.length < en) (h : On F w (RLaidA g gb bg en cap cl D S l) w1) (n : Int) (hn : n = ((D.h + l.length : Nat) : Int) + 1) :
    On F w (RLaidA g gb bg en cap cl D S (l ++ [b])) ((w1.setCell ⟨gb, D.h + l.length, none⟩ (.int .u8 (b.toNat : Int))).setCell ⟨g, 3, none⟩ (.int .i64 n)) := by
  have hall := h8.ok.all
  rw [h8.lim] at hall
  have hlen : (S.put D.h l).b.length = S.beg 6 := by rw [S.put_len D.h l (by rw [h8.img.len]; omega), h8.img.len]
  have h1 : On F w (AllA [RDicA g gb bg en cap cl (laidB D l.length), RbA gb (S.put D.h (l ++ [b]))]) (w1.setCell ⟨gb, D.h + l.length, none⟩ (.int .u8 (b.toNat : Int))) := by
    have h2 := On.setAt 1 (g := gb) (t := 5) (cs := (bcells (S.put D.h l).b).toArray) h rfl (D.h + l.length) (.int .u8 (b.toNat : Int))
    rw [set_put _ _ b (by omega)] at h2
    have e : putL (S.put D.h l).b (D.h + l.length) [b] = (S.put D.h (l ++ [b])).b := by
      rw [← S.put_append D.h l [b] (by rw [h8.img.len]; omega)]
      rfl
    rw [e] at h2
    exact h2
  have h3 := h1.setAt 0 rfl 3 (.int .i64 n)
  rw [rdicC_here gb bg en cap cl (laidB D l.length) (D.h + l.length + 1) n (by omega)] at h3
  have e2 : ({ laidB D l.length with h := D.h + l.length + 1 } : Dc) = laidB D (l ++ [b]).length := by
    unfold laidB
    simp
    omega
  rw [e2] at h3
  exact h3
end
end Vm
end Go.Proofs.YtjhdpmimccpcdaaGreatDoor
/- Chapter 8: the document's wordlist: a cell laid byte by byte; a byte; filled up. Conditions: as written. -/
namespace Go.Proofs.YtjhdpmimccpcdaaGreatDoor
set_option linter.unusedVariables false
set_option maxRecDepth 100000
open Go.RowKit Go.Lib Go.Deep
namespace Vm
/-- what is left of a cell when j bytes are laid -/
def uJ (v : Int) (j : Nat) : Int := v % 18446744073709551616 / (256 : Int) ^ j
theorem uJ_zero (v : Int) : uJ v 0 = v % 18446744073709551616 := by unfold uJ; simp
theorem uJ_step (v : Int) (j : Nat) : uJ v j / 256 = uJ v (j + 1) := by
  unfold uJ
  rw [Int.pow_succ, Int.ediv_ediv_of_nonneg (Int.le_of_lt (Int.pow_pos (by omega)))]
theorem uJ_byte (v : Int) (j : Nat) (hj : j < 8) : uJ v j % 256 = (((toB v).getD j 0).toNat : Int) := by
  have e : (toB v).getD j 0 = byteAt v j := by simp [toB, List.getD, hj]
  rw [e, byteAt_nat]
  unfold uJ
  have h : j = 0 ∨ j = 1 ∨ j = 2 ∨ j = 3 ∨ j = 4 ∨ j = 5 ∨ j = 6 ∨ j = 7 := by omega
  rcases h with rfl | rfl | rfl | rfl | rfl | rfl | rfl | rfl <;> simp <;> omega
theorem uJ_range (v : Int) (j : Nat) : 0 ≤ uJ v j ∧ uJ v j ≤ 18446744073709551615 := by
  unfold uJ
  have h1 : 0 ≤ v % 18446744073709551616 := Int.emod_nonneg _ (by omega)
  have h2 : v % 18446744073709551616 < 18446744073709551616 := Int.emod_lt_of_pos _ (by omega)
  have hp : (0 : Int) < 256 ^ j := Int.pow_pos (by omega)
  refine ⟨Int.ediv_nonneg h1 (by omega), ?_⟩
  have := Int.ediv_le_self (256 ^ j) h1
  omega
section
variable {w w1 : World} {F : Nat → Prop} {g gb bg en cap : Nat} {cl : Bool} {D : Dc} {S : Img}
theorem take_snoc (l : List UInt8) (j : Nat) (hj : j < l.length) : l.take j ++ [l.getD j 0] = l.take (j + 1) := by
  rw [List.take_succ_eq_append_getElem hj, List.getD_eq_getElem?_getD, List.getElem?_eq_getElem hj]
  rfl
set_option maxHeartbeats 2000000 in
theorem rd_lay (l0 : List UInt8) (hb : On F w (RLaidA g gb bg en cap cl D S l0) w1) (h8 : At8 S D (bg + 8) en) (hl : D.h + l0.length + 8 ≤ en) (v : Int) (hv : V64 v) :
    Calls Tryz.prog 135 #[.pointer (some ⟨g, 0, none⟩), .int .i64 v] w1 (Got (.returned (.tuple #[])) (RLaidA g gb bg en cap cl D S (l0 ++ toB v)) F w) := by
  have hle := h8.le
  have hlo := h8.lo
  have hin := fun wr l (h : On F w (RLaidA g gb bg en cap cl D S l) wr) => rl_in l h
  have hbt := fun wr l (hl : D.h + l.length < en) (h : On F w (RLaidA g gb bg en cap cl D S l) wr) => rl_byte l h8 hl h
  have hmo := fun wr l b (hl : D.h + l.length < en) (h : On F w (RLaidA g gb bg en cap cl D S l) wr) n hn => rl_more l b h8 hl h n hn
  have htl := toB_len v
  have huz := uJ_zero v
  have hby := uJ_byte v
  have hst := uJ_step v
  have hra := uJ_range v
  have htk := fun j (hj : j < 8) => take_snoc (toB v) j (by rw [htl]; exact hj)
  unfold V64 at hv
  have hwr : IntKind.u64.wrap v = uJ v 0 := by rw [huz]; rfl
  replace hin := Lib.hid hin
  replace hbt := Lib.hid hbt
  replace hmo := Lib.hid hmo
  replace htl := Lib.hid htl
  replace hby := Lib.hid hby
  replace hst := Lib.hid hst
  replace hra := Lib.hid hra
  replace htk := Lib.hid htk
  replace hb := Lib.hid hb
  clear h8 huz
  go_enter Tryz.func135, Tryz.ntmps135
  go_wp2
  go_loopg [4, 5] 8 (fun k u i wr => ∃ j : Nat, j + k = 8 ∧ u = .int .u64 (uJ v j) ∧ i = .int .i64 (j : Int) ∧ On F w (RLaidA g gb bg en cap cl D S (l0 ++ (toB v).take j)) wr)
  case atStart => exact ⟨0, by omega, rfl, rfl, by rw [List.take_zero, List.append_nil]; exact hb.out⟩
  case round =>
    obtain ⟨j, hj, rfl, rfl, hon⟩ := hrel
    by_cases hjl : j < 8
    · have hlj : (l0 ++ (toB v).take j).length = l0.length + j := by rw [List.length_append, List.length_take, htl.out]; omega
      obtain ⟨c0, c1, c2, c3, c4, cf⟩ := hin.out _ _ hon
      obtain ⟨⟨xo, cx⟩, cfr, hne⟩ := hbt.out _ _ (by rw [hlj]; omega) hon
      have hfin := fun n hn => hmo.out wr _ ((toB v).getD j 0) (by rw [hlj]; omega) hon n hn
      rw [List.append_assoc, htk.out j hjl] at hfin
      have c3' : wr.cell? ⟨g, 3, none⟩ = some (.int .i64 ((D.h + (l0.length + j) : Nat) : Int)) := by rw [c3]; unfold laidB; rw [hlj]
      rw [hlj] at cx hfin
      have hb8 := hby.out j hjl
      have hs8 := hst.out j
      have hr8 := hra.out j
      generalize (((toB v).getD j 0).toNat : Int) = cb at *
      generalize hu2 : uJ v (j + 1) = u2 at *
      replace hu2 := Lib.hid hu2
      generalize uJ v j = u1 at *
      obtain ⟨k, hk⟩ : ∃ k, D.h + (l0.length + j) = k := ⟨_, rfl⟩
      rw [hk] at c3' cx hfin
      have hk1 : bg ≤ k := by omega
      have hk2 : k < en := by omega
      have hfin2 := hfin _ rfl
      have f3 := cf 3
      have fk := cfr k
      replace hfin2 := Lib.hid hfin2
      clear c2 c3 c4 cf cfr hfin hlj hon hk
      go_wp2
      go_region
      go_wp2
      go_roundg (gk - 1)
      case measure => omega
      case rel => exact ⟨j + 1, by omega, by rw [hu2.out], by go_num, hfin2.out.drew⟩
    · have hjj : j = 8 := by omega
      subst hjj
      rw [List.take_of_length_le (by rw [htl.out]; exact Nat.le_refl _)] at hon
      replace hon := Lib.hid hon
      go_wp2
      go_end0
      exact ⟨rfl, hon.out⟩
/-- a byte, where there is room -/
theorem rd_ccomma (l : List UInt8) (hb : On F w (RLaidA g gb bg en cap false D S l) w1) (h8 : At8 S D (bg + 8) en) (hl : D.h + l.length < en) (b : UInt8) :
    Calls Tryz.prog 136 #[.pointer (some ⟨g, 0, none⟩), .int .u8 (b.toNat : Int)] w1 (Got (.returned (.int .i64 0)) (RLaidA g gb bg en cap false D S (l ++ [b])) F w) := by
  have hle := h8.le
  have hlo := h8.lo
  have hin := fun wr (h : On F w (RLaidA g gb bg en cap false D S l) wr) => rl_in l h
  have hbt := fun wr (h : On F w (RLaidA g gb bg en cap false D S l) wr) => rl_byte l h8 hl h
  have hmo := fun wr (h : On F w (RLaidA g gb bg en cap false D S l) wr) n hn => rl_more l b h8 hl h n hn
  have hto := fun n => rd_to ((hin _ hb).drewN n) (by omega) (by omega)
  obtain ⟨c0, c1, c2, c3, c4, cf⟩ := hin _ hb
  have c3' : w1.cell? ⟨g, 3, none⟩ = some (.int .i64 ((D.h + l.length : Nat) : Int)) := c3
  obtain ⟨k, hk⟩ : ∃ k, D.h + l.length = k := ⟨_, rfl⟩
  rw [hk] at c3'
  replace hb := Lib.hid hb
  replace hin := Lib.hid hin
  replace hbt := Lib.hid hbt
  replace hmo := Lib.hid hmo
  replace hto := Lib.hid hto
  clear h8 c0 c1 c2 c3 c4 cf
  have ht : decide ((en : Int) ≤ (k : Int)) = false := decide_eq_false (by omega)
  generalize (b.toNat : Int) = cb at *
  go_enter Tryz.func136, Tryz.ntmps136
  go_wp2_with fail
  go_quiet ((go_at_call 85; exact Calls.quiet_of (hto.out _)))
  have hb2 := hb.out.drewN nq
  obtain ⟨w2, hw2⟩ : ∃ w2, w1.drewN nq = w2 := ⟨_, rfl⟩
  rw [hw2] at hb2 ⊢
  clear hw2 hb hto c3'
  obtain ⟨c0, c1, c2, c3, c4, cf⟩ := hin.out _ hb2
  have c3' : w2.cell? ⟨g, 3, none⟩ = some (.int .i64 ((D.h + l.length : Nat) : Int)) := c3
  obtain ⟨⟨xo, cx⟩, cfr, hne⟩ := hbt.out _ hb2
  have hfin := hmo.out _ hb2 _ rfl
  rw [hk] at c3' cx hfin
  have hk1 : bg ≤ k := by omega
  have hk2 : k < en := by omega
  have f3 := cf 3
  have fk := cfr k
  replace hfin := Lib.hid hfin
  replace hb2 := Lib.hid hb2
  replace hk := Lib.hid hk
  clear c3 c4 cf cfr hin hbt hmo
  go_wp2_with fail
  go_region
  go_wp2
  go_ret
  trace_state
  exact ⟨rfl, hfin.out.drew⟩
end
end Vm
end Go.Proofs.YtjhdpmimccpcdaaGreatDoor
