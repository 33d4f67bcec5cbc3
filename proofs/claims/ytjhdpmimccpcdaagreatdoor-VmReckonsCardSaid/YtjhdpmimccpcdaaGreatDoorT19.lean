/- Chapter 11: a machine and all that it works on, as a list of objects. No condition. -/
import Derived.Test.YtjhdpmimccpcdaaGreatDoorT18
import Derived.Recover
import Derived.Deep.DeepCutAuto
import Derived.ScopeJumps
import Derived.WalkMore
import Derived.Deep.RegionHeld
import Derived.BigQuiet
namespace Go.Proofs.YtjhdpmimccpcdaaGreatDoor
set_option linter.unusedVariables false
open Go.RowKit Go.Lib Go.Deep
namespace Vm
/-- a machine, and all that it works on -/
def mL (c : Vc) (s : Mt) : List Asr := MachA c s :: ImgA c.gI s.S :: StkA c.gI c.gD s.pd s.d :: StkA c.gI c.gR s.pr s.r :: TabA c.gT s.T :: DictA c.gI c.gS c.sfr c.sto s.hs s.ls :: DictA c.gI c.gK c.kfr c.kto s.hk s.lk :: c.tl s.seen :: c.rest s.ext
theorem ofB_v64 (l : List UInt8) : V64 (ofB l) := by unfold ofB V64 wrap64; omega
theorem cellV_v64 (S : Img) (m a : Int) : V64 (S.cellV m a) := by
  unfold Img.cellV
  split
  · exact ofB_v64 _
  · unfold V64; omega
theorem stopv_v64 (S : Img) (fr d : Nat) (n : Int) : V64 (stopv S fr d n) := by
  unfold stopv
  split
  · exact cellV_v64 _ _ _
  · unfold V64; omega
theorem wrap_v64 (n : Int) : V64 (wrap64 n) := by unfold V64 wrap64; omega
end Vm
end Go.Proofs.YtjhdpmimccpcdaaGreatDoor
/- Chapters 4, 8, 10, 11: what is made: stacks, wordlists, a turtle. Conditions: as written. -/
namespace Go.Proofs.YtjhdpmimccpcdaaGreatDoor
set_option linter.unusedVariables false
set_option maxRecDepth 100000
open Go.RowKit Go.Lib Go.Deep
namespace Vm
section
variable {w w' : World} {F : Nat → Prop} {gI gb : Nat} {S : Img}
/-- where the stacks lie in an image -/
def pdOf (S : Img) : Pl := ⟨S.beg 4, S.d / 8, 1, 2⟩
def prOf (S : Img) : Pl := ⟨S.beg 5, S.r / 8, 3, 4⟩
def MadeStk (gI : Nat) (p : Pl) (e : Ending) (B : Asr) : Prop := ∃ g, e = .returned (.tuple #[.pointer (some ⟨g, 0, none⟩), .int .i64 0]) ∧ B = StkA gI g p 0
theorem n_stackD (hi : IRep w gI gb S) (hd : S.d ≤ 4096) : Calls Tryz.prog 50 #[.pointer (some ⟨gI, 0, none⟩), .int .i64 4] w (PostE (MadeStk gI (pdOf S)) Nob w) := by
  have hbx := (On.refl (A := AllA []) (F := Nob) (w := w) (fun _ h => h)).box (stkC gI ⟨0, 0, 1, 2⟩ 0) 113
  have hsp := i_span (w := w.alloc (.cells (stkC gI ⟨0, 0, 1, 2⟩ 0) 113)) ⟨hi.blk.alloc _, hi.row.alloc _, hi.ok⟩ 4 (by omega) (by omega)
  have e5 : S.beg (4 + 1) = S.beg 4 + S.d := by simp [Img.beg]
  have hsm : S.beg 4 ≤ 143360 := Nat.le_trans (S.beg_mono (by omega) (by omega) (by omega)) hi.ok.small
  rw [e5] at hsp
  have hp : pdOf S = ⟨S.beg 4, S.d / 8, 1, 2⟩ := rfl
  rw [hp]
  generalize S.beg 4 = b at *
  generalize S.d = d at *
  have hst : stkC gI ⟨0, 0, 1, 2⟩ 0 = #[.pointer (some ⟨gI, 0, none⟩), .int .i64 0, .int .i64 0, .int .i64 0, .int .i64 1, .int .i64 2] := rfl
  rw [hst] at hsp hbx
  replace hsp := Lib.hid hsp
  replace hbx := Lib.hid hbx
  clear hi hp hst e5
  go_enter Tryz.func50, Tryz.ntmps50
  go_wp2_with fail
  refine hsp.out.mono ?_
  rintro e w1 ⟨rfl, n, rfl⟩
  have hon := hbx.out.drewN n
  have f1 := (hon.blkAt 0 rfl).frozen 1
  have f2 := (hon.blkAt 0 rfl).frozen 2
  have c1 : ((w.alloc (.cells #[.pointer (some ⟨gI, 0, none⟩), .int .i64 0, .int .i64 0, .int .i64 0, .int .i64 1, .int .i64 2] 113)).drewN n).cell? ⟨w.heap.size, 1, none⟩ = some (.int .i64 0) := (hon.blkAt 0 rfl).cell 1
  have c2 : ((w.alloc (.cells #[.pointer (some ⟨gI, 0, none⟩), .int .i64 0, .int .i64 0, .int .i64 0, .int .i64 1, .int .i64 2] 113)).drewN n).cell? ⟨w.heap.size, 2, none⟩ = some (.int .i64 0) := (hon.blkAt 0 rfl).cell 2
  have hq : ((b : Int) + (d : Int) - (b : Int)) / 8 = ((d / 8 : Nat) : Int) := by omega
  have hcs : ((#[.pointer (some ⟨gI, 0, none⟩), .int .i64 0, .int .i64 0, .int .i64 0, .int .i64 1, .int .i64 2] : Array Value).setIfInBounds 1 (.int .i64 (b : Int))).setIfInBounds 2 (.int .i64 (((b : Int) + (d : Int) - (b : Int)) / 8)) = stkC gI ⟨b, d / 8, 1, 2⟩ 0 := by rw [hq]; rfl
  have hfin2 : On Nob w (AllA [BlkA w.heap.size 113 (((#[.pointer (some ⟨gI, 0, none⟩), .int .i64 0, .int .i64 0, .int .i64 0, .int .i64 1, .int .i64 2] : Array Value).setIfInBounds 1 (.int .i64 (b : Int))).setIfInBounds 2 (.int .i64 (((b : Int) + (d : Int) - (b : Int)) / 8)))]) _ := (hon.setAt 0 rfl 1 (.int .i64 (b : Int))).setAt 0 rfl 2 (.int .i64 (((b : Int) + (d : Int) - (b : Int)) / 8))
  rw [hcs] at hfin2
  replace hfin2 := Lib.hid hfin2
  clear hon hq hcs
  go_wp2
  go_ret2
  exact ⟨_, ⟨w.heap.size, rfl, rfl⟩, hfin2.out.ofOne⟩
theorem n_stackR (hi : IRep w gI gb S) (hd : S.r ≤ 4096) : Calls Tryz.prog 50 #[.pointer (some ⟨gI, 0, none⟩), .int .i64 5] w (PostE (MadeStk gI (prOf S)) Nob w) := by
  have hbx := (On.refl (A := AllA []) (F := Nob) (w := w) (fun _ h => h)).box (stkC gI ⟨0, 0, 3, 4⟩ 0) 113
  have hsp := i_span (w := w.alloc (.cells (stkC gI ⟨0, 0, 3, 4⟩ 0) 113)) ⟨hi.blk.alloc _, hi.row.alloc _, hi.ok⟩ 5 (by omega) (by omega)
  have e5 : S.beg (5 + 1) = S.beg 5 + S.r := by simp [Img.beg]
  have hsm : S.beg 5 ≤ 143360 := Nat.le_trans (S.beg_mono (by omega) (by omega) (by omega)) hi.ok.small
  rw [e5] at hsp
  have hp : prOf S = ⟨S.beg 5, S.r / 8, 3, 4⟩ := rfl
  rw [hp]
  generalize S.beg 5 = b at *
  generalize S.r = d at *
  have hst : stkC gI ⟨0, 0, 3, 4⟩ 0 = #[.pointer (some ⟨gI, 0, none⟩), .int .i64 0, .int .i64 0, .int .i64 0, .int .i64 3, .int .i64 4] := rfl
  rw [hst] at hsp hbx
  replace hsp := Lib.hid hsp
  replace hbx := Lib.hid hbx
  clear hi hp hst e5
  go_enter Tryz.func50, Tryz.ntmps50
  go_wp2_with fail
  refine hsp.out.mono ?_
  rintro e w1 ⟨rfl, n, rfl⟩
  have hon := hbx.out.drewN n
  have f1 := (hon.blkAt 0 rfl).frozen 1
  have f2 := (hon.blkAt 0 rfl).frozen 2
  have c1 : ((w.alloc (.cells #[.pointer (some ⟨gI, 0, none⟩), .int .i64 0, .int .i64 0, .int .i64 0, .int .i64 3, .int .i64 4] 113)).drewN n).cell? ⟨w.heap.size, 1, none⟩ = some (.int .i64 0) := (hon.blkAt 0 rfl).cell 1
  have c2 : ((w.alloc (.cells #[.pointer (some ⟨gI, 0, none⟩), .int .i64 0, .int .i64 0, .int .i64 0, .int .i64 3, .int .i64 4] 113)).drewN n).cell? ⟨w.heap.size, 2, none⟩ = some (.int .i64 0) := (hon.blkAt 0 rfl).cell 2
  have hq : ((b : Int) + (d : Int) - (b : Int)) / 8 = ((d / 8 : Nat) : Int) := by omega
  have hcs : ((#[.pointer (some ⟨gI, 0, none⟩), .int .i64 0, .int .i64 0, .int .i64 0, .int .i64 3, .int .i64 4] : Array Value).setIfInBounds 1 (.int .i64 (b : Int))).setIfInBounds 2 (.int .i64 (((b : Int) + (d : Int) - (b : Int)) / 8)) = stkC gI ⟨b, d / 8, 3, 4⟩ 0 := by rw [hq]; rfl
  have hfin2 : On Nob w (AllA [BlkA w.heap.size 113 (((#[.pointer (some ⟨gI, 0, none⟩), .int .i64 0, .int .i64 0, .int .i64 0, .int .i64 3, .int .i64 4] : Array Value).setIfInBounds 1 (.int .i64 (b : Int))).setIfInBounds 2 (.int .i64 (((b : Int) + (d : Int) - (b : Int)) / 8)))]) _ := (hon.setAt 0 rfl 1 (.int .i64 (b : Int))).setAt 0 rfl 2 (.int .i64 (((b : Int) + (d : Int) - (b : Int)) / 8))
  rw [hcs] at hfin2
  replace hfin2 := Lib.hid hfin2
  clear hon hq hcs
  go_wp2
  go_ret2
  exact ⟨_, ⟨w.heap.size, rfl, rfl⟩, hfin2.out.ofOne⟩
end
end Vm
end Go.Proofs.YtjhdpmimccpcdaaGreatDoor
/- Chapter 11: what goes elsewhere. Conditions: all was asked. Printed by gen_vops.py. -/
namespace Go.Proofs.YtjhdpmimccpcdaaGreatDoor
set_option linter.unusedVariables false
set_option maxRecDepth 100000
open Go.RowKit Go.Lib Go.Deep
namespace Vm
theorem args_v64 (s : Mt) (n : Nat) : ∀ v ∈ s.args n, V64 v := by
  intro v hv
  unfold Mt.args at hv
  obtain ⟨j, _, rfl⟩ := List.mem_map.1 hv
  exact stopv_v64 _ _ _ _
theorem ar_v64 (s : Mt) (n j : Nat) : V64 (ar s n j) := by
  unfold ar
  by_cases h : j < n
  · have h2 : (s.args n).getD j 0 = s.top ((n - 1 - j : Nat) : Int) := by simp [Mt.args, h]
    rw [h2]
    exact stopv_v64 _ _ _ _
  · have h2 : (s.args n).getD j 0 = 0 := by simp [Mt.args, h]
    rw [h2]
    unfold V64; omega
section
variable {w w' : World} {F : Nat → Prop} {c : Vc} {g : Nat} {x : Rn} {src : Value} {s : Mt}
/-- cells laid on the return stack, of a row that lies beside -/
theorem v_pushR_row (m : Nat) {L : List Asr} (hm : m ≤ L.length) (hL : L.drop m = vL c g x src s) (h : On F w (AllA L) w') (hs : s.Ok) (l : List Int) (hl : ∀ v ∈ l, V64 v)
    (j : Nat) (hj : j < m) (rb : Nat) (hrow : L[j]? = some (BlkA rb 3 (intsC l))) (n : Nat) (hn : n = l.length) (hroom : l.length ≤ s.pr.rm - s.r) :
    Calls Tryz.prog 73 #[.pointer (some ⟨c.gR, 0, none⟩), .slice (some ⟨rb, 0, none⟩) n n] w' (Got (.returned (.int .i64 0)) (AllA (L.take m ++ vL c g x src (s.pushR l))) F w) := by
  subst hn
  refine h.callDrop m hm fun F' hb hdis _ => ?_
  rw [hL] at hb
  obtain ⟨F3, hB, hfar⟩ := hdis j _ hj hrow
  obtain ⟨h1, h2⟩ := carries_row rb l _ _ hB
  exact v_pushR (On.refl hb) hs l hl (some ⟨rb, 0, none⟩) l.length h1 (fun a ha => ⟨fun hk => hfar _ (h2 a ha) hk, by
    obtain rfl : a = ⟨rb, 0, none⟩ := by injection ha with ha; exact ha.symm
    exact hB.1.lt⟩) hroom
end
set_option maxHeartbeats 1000000 in
theorem ctl_jump (arg lit cells : Int) : PartOk 114 ⟨4, arg, lit, cells⟩ (fun x s => ⟨0, { x with next := arg }, s⟩) := by
  intro c g x src s ba w F hs hx hv1 hv2 hask hb
  have hw2 : (Code.wants 4).1.toNat = 0 := by decide
  have hn : 0 ≤ s.d := by
    have h := hask.tk
    have e : (Code.wants 4).1 = 0 := by decide
    simp only [e] at h
    omega
  simp only [hw2] at hb ⊢
  have hon := (On.refl hb).box #[.int .i64 4, .int .i64 arg, .int .i64 lit, .int .i64 cells] 178
  have b0 : (w.alloc (.cells #[.int .i64 4, .int .i64 arg, .int .i64 lit, .int .i64 cells] 178)).cell? ⟨w.heap.size, 0, none⟩ = some (.int .i64 4) := (hon.blkAt 0 rfl).cell 0
  have b1 : (w.alloc (.cells #[.int .i64 4, .int .i64 arg, .int .i64 lit, .int .i64 cells] 178)).cell? ⟨w.heap.size, 1, none⟩ = some (.int .i64 arg) := (hon.blkAt 0 rfl).cell 1
  show Calls Tryz.prog 114 #[.pointer (some ⟨g, 0, none⟩), .agg #[.int .i64 4, .int .i64 arg, .int .i64 lit, .int .i64 cells], .slice (some ⟨ba, 0, none⟩) 0 0] w (Got (.returned (.tuple #[])) (AllA (BlkA ba 3 (intsC (s.args 0)) :: vL c g ({ x with next := arg }) src (s))) F w)
  have c4 := hon.tail.tail.r4
  have f4 := hon.tail.tail.rf 4
  have hset := hon.setAt 2 rfl 4 (.int .i64 arg)
  replace hset := Lib.hid hset
  generalize intsC (s.args 0) = ac at *
  clear hb hs hx hask hon hw2 hn
  go_enter Tryz.func114, Tryz.ntmps114
  go_wp2
  go_end0
  exact ⟨rfl, hset.out.tail⟩
set_option maxHeartbeats 1000000 in
theorem ctl_call (arg lit cells : Int) : PartOk 114 ⟨3, arg, lit, cells⟩ (fun x s => ⟨0, { x with next := arg }, s.pushR [x.next]⟩) := by
  intro c g x src s ba w F hs hx hv1 hv2 hask hb
  have hw2 : (Code.wants 3).1.toNat = 0 := by decide
  have hn : 0 ≤ s.d := by
    have h := hask.tk
    have e : (Code.wants 3).1 = 0 := by decide
    simp only [e] at h
    omega
  simp only [hw2] at hb ⊢
  have hon := (On.refl hb).box #[.int .i64 3, .int .i64 arg, .int .i64 lit, .int .i64 cells] 178
  have b0 : (w.alloc (.cells #[.int .i64 3, .int .i64 arg, .int .i64 lit, .int .i64 cells] 178)).cell? ⟨w.heap.size, 0, none⟩ = some (.int .i64 3) := (hon.blkAt 0 rfl).cell 0
  have b1 : (w.alloc (.cells #[.int .i64 3, .int .i64 arg, .int .i64 lit, .int .i64 cells] 178)).cell? ⟨w.heap.size, 1, none⟩ = some (.int .i64 arg) := (hon.blkAt 0 rfl).cell 1
  show Calls Tryz.prog 114 #[.pointer (some ⟨g, 0, none⟩), .agg #[.int .i64 3, .int .i64 arg, .int .i64 lit, .int .i64 cells], .slice (some ⟨ba, 0, none⟩) 0 0] w (Got (.returned (.tuple #[])) (AllA (BlkA ba 3 (intsC (s.args 0)) :: vL c g ({ x with next := arg }) src (s.pushR [x.next]))) F w)
  have hroom : 1 ≤ s.pr.rm - s.r := by
    have h := hask.rroom
    have e : returns 3 arg s.same = (0, 1) := rfl
    simp only [e] at h
    omega
  have d0 := hon.tail.tail.r0
  have d4 := hon.tail.tail.r4
  have d6 := hon.tail.tail.m6
  have hbx := (hon.box #[.int .i64 x.next] 3).drew
  have hz : (w.alloc (.cells #[.int .i64 3, .int .i64 arg, .int .i64 lit, .int .i64 cells] 178)).heap.size = w.heap.size + 1 := by simp
  rw [hz] at hbx
  have hpush := v_pushR_row (c := c) (g := g) (x := x) (src := src) (s := s) 3 (by simp) rfl hbx hs [x.next] (fun v hv => by rw [List.mem_singleton.1 hv]; exact hx.next) 0 (by omega) (w.heap.size + 1) rfl 1 rfl hroom
  have hs1 := pushR_ok hs [x.next] hroom
  have hn1 : 0 ≤ (s.pushR [x.next]).d := hn
  generalize s.pushR [x.next] = s1 at *
  generalize intsC (s.args 0) = ac at *
  have hst : ∀ W, On F w (AllA (BlkA w.heap.size 178 #[.int .i64 3, .int .i64 arg, .int .i64 lit, .int .i64 cells] :: BlkA ba 3 ac :: vL c g (x) src (s1))) W → W.cell? ⟨g, 4, none⟩ = some (.int .i64 x.next) ∧ W.frozen? ⟨g, 4, none⟩ = false ∧ W.cell? ⟨w.heap.size, 0, none⟩ = some (.int .i64 3) ∧ W.cell? ⟨w.heap.size, 1, none⟩ = some (.int .i64 arg) ∧ w.heap.size ≠ g ∧ W.cell? ⟨g, 0, none⟩ = some (.pointer (some ⟨c.gM, 0, none⟩)) ∧ W.cell? ⟨c.gM, 6, none⟩ = some (.pointer (some ⟨c.gR, 0, none⟩)) := fun W h => ⟨h.tail.tail.r4, h.tail.tail.rf 4, (h.blkAt 0 rfl).cell 0, (h.blkAt 0 rfl).cell 1, h.neAt 0 2 (by decide) rfl rfl, h.tail.tail.r0, h.tail.tail.m6⟩
  replace hpush := Lib.hid hpush
  replace hst := Lib.hid hst
  clear hb hs hx hask hw2 hn hz hbx hroom hs1 hn1 hon
  go_enter Tryz.func114, Tryz.ntmps114
  go_wp2_with fail
  go_region_held (fun w' => w'.cell? ⟨g, 0, none⟩ = some (.pointer (some ⟨c.gM, 0, none⟩)) ∧ w'.cell? ⟨c.gM, 6, none⟩ = some (.pointer (some ⟨c.gR, 0, none⟩)) ∧ w'.cell? ⟨g, 4, none⟩ = some (.int .i64 x.next)) (go_keep)
    ((go_at_call 73; refine hpush.out.mono ?_; rintro e w1 ⟨rfl, h⟩; have h5 : On F w (AllA (BlkA w.heap.size 178 #[.int .i64 3, .int .i64 arg, .int .i64 lit, .int .i64 cells] :: BlkA ba 3 ac :: vL c g (x) src (s1))) w1 := On.tail h; obtain ⟨k4, z4, k0, k1, hne, n0, n6⟩ := hst.out _ h5; have h6 := h5.setAt 2 rfl 4 (.int .i64 arg); clear h; replace h5 := Lib.hid h5; replace h6 := Lib.hid h6; replace hne := Lib.hid hne))
  go_wp2
  go_end0
  exact ⟨rfl, h6.out.tail⟩
set_option maxHeartbeats 1000000 in
theorem ctl_execute (arg lit cells : Int) : PartOk 114 ⟨16, arg, lit, cells⟩ (fun x s => ⟨0, { x with next := ar s 1 0 }, ((s.pushR [x.next]).lays 1 []).2⟩) := by
  intro c g x src s ba w F hs hx hv1 hv2 hask hb
  have hw2 : (Code.wants 16).1.toNat = 1 := by decide
  have hn : 1 ≤ s.d := by
    have h := hask.tk
    have e : (Code.wants 16).1 = 1 := by decide
    simp only [e] at h
    omega
  simp only [hw2] at hb ⊢
  have hon := (On.refl hb).box #[.int .i64 16, .int .i64 arg, .int .i64 lit, .int .i64 cells] 178
  have b0 : (w.alloc (.cells #[.int .i64 16, .int .i64 arg, .int .i64 lit, .int .i64 cells] 178)).cell? ⟨w.heap.size, 0, none⟩ = some (.int .i64 16) := (hon.blkAt 0 rfl).cell 0
  have b1 : (w.alloc (.cells #[.int .i64 16, .int .i64 arg, .int .i64 lit, .int .i64 cells] 178)).cell? ⟨w.heap.size, 1, none⟩ = some (.int .i64 arg) := (hon.blkAt 0 rfl).cell 1
  show Calls Tryz.prog 114 #[.pointer (some ⟨g, 0, none⟩), .agg #[.int .i64 16, .int .i64 arg, .int .i64 lit, .int .i64 cells], .slice (some ⟨ba, 0, none⟩) 1 1] w (Got (.returned (.tuple #[])) (AllA (BlkA ba 3 (intsC (s.args 1)) :: vL c g ({ x with next := ar s 1 0 }) src (((s.pushR [x.next]).lays 1 []).2))) F w)
  have hroom : 1 ≤ s.pr.rm - s.r := by
    have h := hask.rroom
    have e : returns 16 arg s.same = (0, 1) := rfl
    simp only [e] at h
    omega
  have ha0 : ∀ W, Blk W ba 3 (intsC (s.args 1)) → W.cell? ⟨ba, 0, none⟩ = some (.int .i64 (ar s 1 0)) := fun W hW => row_get hW (by omega)
  have d0 := hon.tail.tail.r0
  have d4 := hon.tail.tail.r4
  have d6 := hon.tail.tail.m6
  have hbx := (hon.box #[.int .i64 x.next] 3).drew
  have hz : (w.alloc (.cells #[.int .i64 16, .int .i64 arg, .int .i64 lit, .int .i64 cells] 178)).heap.size = w.heap.size + 1 := by simp
  rw [hz] at hbx
  have hpush := v_pushR_row (c := c) (g := g) (x := x) (src := src) (s := s) 3 (by simp) rfl hbx hs [x.next] (fun v hv => by rw [List.mem_singleton.1 hv]; exact hx.next) 0 (by omega) (w.heap.size + 1) rfl 1 rfl hroom
  have hs1 := pushR_ok hs [x.next] hroom
  have hn1 : 1 ≤ (s.pushR [x.next]).d := hn
  generalize s.pushR [x.next] = s1 at *
  generalize ar s 1 0 = A0 at *
  generalize intsC (s.args 1) = ac at *
  have hst : ∀ W, On F w (AllA (BlkA w.heap.size 178 #[.int .i64 16, .int .i64 arg, .int .i64 lit, .int .i64 cells] :: BlkA ba 3 ac :: vL c g (x) src (s1))) W → W.cell? ⟨g, 4, none⟩ = some (.int .i64 x.next) ∧ W.frozen? ⟨g, 4, none⟩ = false ∧ W.cell? ⟨w.heap.size, 0, none⟩ = some (.int .i64 16) ∧ W.cell? ⟨w.heap.size, 1, none⟩ = some (.int .i64 arg) ∧ w.heap.size ≠ g ∧ W.cell? ⟨g, 0, none⟩ = some (.pointer (some ⟨c.gM, 0, none⟩)) ∧ W.cell? ⟨c.gM, 6, none⟩ = some (.pointer (some ⟨c.gR, 0, none⟩)) := fun W h => ⟨h.tail.tail.r4, h.tail.tail.rf 4, (h.blkAt 0 rfl).cell 0, (h.blkAt 0 rfl).cell 1, h.neAt 0 2 (by decide) rfl rfl, h.tail.tail.r0, h.tail.tail.m6⟩
  have hlay := fun W (h : On F w (AllA (BlkA w.heap.size 178 #[.int .i64 16, .int .i64 arg, .int .i64 lit, .int .i64 cells] :: BlkA ba 3 ac :: vL c g ({ x with next := arg }) src (s1))) W) => v_lays_nil (c := c) (g := g) (x := { x with next := arg }) (src := src) (s := s1) 2 (by simp) rfl h hs1 1 hn1
  generalize (s1.lays 1 []).2 = s2 at *
  replace hpush := Lib.hid hpush
  replace hst := Lib.hid hst
  replace hlay := Lib.hid hlay
  replace ha0 := Lib.hid ha0
  clear hb hs hx hask hw2 hn hz hbx hroom hs1 hn1 hon
  go_enter Tryz.func114, Tryz.ntmps114
  go_wp2_with fail
  go_region_held (fun w' => w'.cell? ⟨g, 0, none⟩ = some (.pointer (some ⟨c.gM, 0, none⟩)) ∧ w'.cell? ⟨c.gM, 6, none⟩ = some (.pointer (some ⟨c.gR, 0, none⟩)) ∧ w'.cell? ⟨g, 4, none⟩ = some (.int .i64 x.next)) (go_keep)
    ((go_at_call 73; refine hpush.out.mono ?_; rintro e w1 ⟨rfl, h⟩; have h5 : On F w (AllA (BlkA w.heap.size 178 #[.int .i64 16, .int .i64 arg, .int .i64 lit, .int .i64 cells] :: BlkA ba 3 ac :: vL c g (x) src (s1))) w1 := On.tail h; obtain ⟨k4, z4, k0, k1, hne, n0, n6⟩ := hst.out _ h5; have h6 := h5.setAt 2 rfl 4 (.int .i64 arg); clear h; replace h5 := Lib.hid h5; replace h6 := Lib.hid h6; replace hne := Lib.hid hne))
  replace hlay := Lib.hid (hlay.out _ h6.out)
  have hne2 := hne.out
  go_wp2_with fail
  refine hlay.out.mono ?_
  rintro e w2 ⟨rfl, h⟩
  have h7 : On F w (AllA (BlkA w.heap.size 178 #[.int .i64 16, .int .i64 arg, .int .i64 lit, .int .i64 cells] :: BlkA ba 3 ac :: vL c g ({ x with next := arg }) src (s2))) w2 := h
  have p4 := h7.tail.tail.r4
  have q4 := h7.tail.tail.rf 4
  have a0 := ha0.out _ (h7.blkAt 1 rfl)
  have h8 := h7.setAt 2 rfl 4 (.int .i64 A0)
  replace h8 := Lib.hid h8
  clear h h7
  go_wp2
  go_end0
  exact ⟨rfl, h8.out.tail⟩
set_option maxHeartbeats 1000000 in
theorem ctl_zero (arg lit cells : Int) : PartOk 114 ⟨5, arg, lit, cells⟩ (fun x s => ⟨0, if ar s 1 0 = 0 then { x with next := arg } else x, (s.lays 1 []).2⟩) := by
  intro c g x src s ba w F hs hx hv1 hv2 hask hb
  have hw2 : (Code.wants 5).1.toNat = 1 := by decide
  have hn : 1 ≤ s.d := by
    have h := hask.tk
    have e : (Code.wants 5).1 = 1 := by decide
    simp only [e] at h
    omega
  simp only [hw2] at hb ⊢
  have hon := (On.refl hb).box #[.int .i64 5, .int .i64 arg, .int .i64 lit, .int .i64 cells] 178
  have b0 : (w.alloc (.cells #[.int .i64 5, .int .i64 arg, .int .i64 lit, .int .i64 cells] 178)).cell? ⟨w.heap.size, 0, none⟩ = some (.int .i64 5) := (hon.blkAt 0 rfl).cell 0
  have b1 : (w.alloc (.cells #[.int .i64 5, .int .i64 arg, .int .i64 lit, .int .i64 cells] 178)).cell? ⟨w.heap.size, 1, none⟩ = some (.int .i64 arg) := (hon.blkAt 0 rfl).cell 1
  show Calls Tryz.prog 114 #[.pointer (some ⟨g, 0, none⟩), .agg #[.int .i64 5, .int .i64 arg, .int .i64 lit, .int .i64 cells], .slice (some ⟨ba, 0, none⟩) 1 1] w (Got (.returned (.tuple #[])) (AllA (BlkA ba 3 (intsC (s.args 1)) :: vL c g (if ar s 1 0 = 0 then { x with next := arg } else x) src ((s.lays 1 []).2))) F w)
  have ha0 : ∀ W, Blk W ba 3 (intsC (s.args 1)) → W.cell? ⟨ba, 0, none⟩ = some (.int .i64 (ar s 1 0)) := fun W hW => row_get hW (by omega)
  have hlay := v_lays_nil (c := c) (g := g) (x := x) (src := src) (s := s) 2 (by simp) rfl hon hs 1 hn
  generalize (s.lays 1 []).2 = s1 at *
  generalize ar s 1 0 = A0 at *
  generalize intsC (s.args 1) = ac at *
  have hst : ∀ W, On F w (AllA (BlkA w.heap.size 178 #[.int .i64 5, .int .i64 arg, .int .i64 lit, .int .i64 cells] :: BlkA ba 3 ac :: vL c g (x) src (s1))) W → W.cell? ⟨g, 4, none⟩ = some (.int .i64 x.next) ∧ W.frozen? ⟨g, 4, none⟩ = false ∧ W.cell? ⟨ba, 0, none⟩ = some (.int .i64 A0) ∧ W.cell? ⟨w.heap.size, 1, none⟩ = some (.int .i64 arg) := fun W h => ⟨h.tail.tail.r4, h.tail.tail.rf 4, ha0 _ (h.blkAt 1 rfl), (h.blkAt 0 rfl).cell 1⟩
  replace hlay := Lib.hid hlay
  replace hst := Lib.hid hst
  clear hb hs hx hask hw2 hn ha0 hon
  by_cases hz : A0 = 0
  · have ez : (A0 == 0) = true := by simpa using hz
    rw [if_pos hz]
    clear hz
    go_enter Tryz.func114, Tryz.ntmps114
    go_wp2_with fail
    refine hlay.out.mono ?_
    rintro e w1 ⟨rfl, h⟩
    have h5 : On F w (AllA (BlkA w.heap.size 178 #[.int .i64 5, .int .i64 arg, .int .i64 lit, .int .i64 cells] :: BlkA ba 3 ac :: vL c g (x) src (s1))) w1 := h
    obtain ⟨k4, z4, k0, k1⟩ := hst.out _ h5
    have h6 := h5.setAt 2 rfl 4 (.int .i64 arg)
    clear h h5
    replace h6 := Lib.hid h6
    go_wp2
    go_end0
    exact ⟨rfl, h6.out.tail⟩
  · have ez : (A0 == 0) = false := by simpa using hz
    rw [if_neg hz]
    clear hz
    go_enter Tryz.func114, Tryz.ntmps114
    go_wp2_with fail
    refine hlay.out.mono ?_
    rintro e w1 ⟨rfl, h⟩
    have h5 : On F w (AllA (BlkA w.heap.size 178 #[.int .i64 5, .int .i64 arg, .int .i64 lit, .int .i64 cells] :: BlkA ba 3 ac :: vL c g (x) src (s1))) w1 := h
    obtain ⟨k4, z4, k0, k1⟩ := hst.out _ h5
    replace h5 := Lib.hid h5
    clear h
    go_wp2
    go_end0
    exact ⟨rfl, h5.out.tail⟩
set_option maxHeartbeats 1000000 in
theorem ctl_special (arg lit cells : Int) : PartOk 114 ⟨20, arg, lit, cells⟩ (fun x s => ⟨16, x, s⟩) := by
  intro c g x src s ba w F hs hx hv1 hv2 hask hb
  have hw2 : (Code.wants 20).1.toNat = 0 := by decide
  have hn : 0 ≤ s.d := by
    have h := hask.tk
    have e : (Code.wants 20).1 = 0 := by decide
    simp only [e] at h
    omega
  simp only [hw2] at hb ⊢
  have hon := (On.refl hb).box #[.int .i64 20, .int .i64 arg, .int .i64 lit, .int .i64 cells] 178
  have b0 : (w.alloc (.cells #[.int .i64 20, .int .i64 arg, .int .i64 lit, .int .i64 cells] 178)).cell? ⟨w.heap.size, 0, none⟩ = some (.int .i64 20) := (hon.blkAt 0 rfl).cell 0
  have b1 : (w.alloc (.cells #[.int .i64 20, .int .i64 arg, .int .i64 lit, .int .i64 cells] 178)).cell? ⟨w.heap.size, 1, none⟩ = some (.int .i64 arg) := (hon.blkAt 0 rfl).cell 1
  show Calls Tryz.prog 114 #[.pointer (some ⟨g, 0, none⟩), .agg #[.int .i64 20, .int .i64 arg, .int .i64 lit, .int .i64 cells], .slice (some ⟨ba, 0, none⟩) 0 0] w (Got (.panicked [flt 16]) (AllA (BlkA ba 3 (intsC (s.args 0)) :: vL c g (x) src (s))) F w)
  generalize intsC (s.args 0) = ac at *
  replace hon := Lib.hid hon
  clear hb hs hx hask hw2 hn
  go_enter Tryz.func114, Tryz.ntmps114
  go_wp2
  exact ⟨rfl, rfl, hon.out.tail⟩
end Vm
end Go.Proofs.YtjhdpmimccpcdaaGreatDoor
/- Chapter 11: what reads and writes the image. Conditions: all was asked. -/
namespace Go.Proofs.YtjhdpmimccpcdaaGreatDoor
set_option linter.unusedVariables false
set_option maxRecDepth 100000
open Go.RowKit Go.Lib Go.Deep
namespace Vm
variable {w : World} {c : Vc} {s : Mt} {gb : Nat}
set_option maxHeartbeats 2000000 in
theorem y_fetch (arg lit cells : Int) : GivesR 118 (fun g => #[.pointer (some ⟨g, 0, none⟩)]) ⟨65, arg, lit, cells⟩ (fun x s => (⟨s.S.cellF x.mode (ar s 1 0) false, x, s⟩, [s.S.cellV x.mode (ar s 1 0)])) := by
  intro c g x src s ba w F hs hx hask hb
  have hw2 : (Code.wants 65).1.toNat = 1 := by decide
  simp only [hw2] at hb ⊢
  have hon := (On.refl hb).drew
  have r0 := (On.refl hb).tail.r0
  have r1 := (On.refl hb).tail.r1
  have m0 := (On.refl hb).tail.m0
  have a0 := row_get ((On.refl hb).blkAt 0 rfl) (j := 0) (by omega)
  obtain ⟨gb, hi⟩ := hon.img 3 rfl
  have hc := i_cell hi x.mode (ar s 1 0)
  have hcell : ∀ W, On F w (AllA (BlkA ba 3 (intsC (s.args 1)) :: vL c g x src s)) W → W.cell? ⟨g, 0, none⟩ = some (.pointer (some ⟨c.gM, 0, none⟩)) ∧ W.cell? ⟨c.gM, 0, none⟩ = some (.pointer (some ⟨c.gI, 0, none⟩)) ∧ W.cell? ⟨g, 1, none⟩ = some (.int .i64 x.mode) ∧ W.cell? ⟨ba, 0, none⟩ = some (.int .i64 (ar s 1 0)) := fun W h => ⟨h.tail.r0, h.tail.m0, h.tail.r1, row_get (h.blkAt 0 rfl) (by omega)⟩
  generalize ar s 1 0 = X at *
  show Calls _ _ #[.pointer (some ⟨g, 0, none⟩), .int .i64 65, .slice (some ⟨ba, 0, none⟩) 1 1] _ _
  generalize s.S.cellV x.mode X = v at *
  generalize s.S.cellF x.mode X false = f at *
  generalize intsC (s.args 1) = ac at *
  replace hcell := Lib.hid hcell
  replace hc := Lib.hid hc
  replace hon := Lib.hid hon
  clear hb hi hw2 hask hs hx
  by_cases hf : f = 0
  · simp only [if_pos hf]
    subst hf
    go_enter Tryz.func118, Tryz.ntmps118
    go_wp2_with fail
    go_region_held (fun w' => w'.cell? ⟨g, 0, none⟩ = some (.pointer (some ⟨c.gM, 0, none⟩)) ∧ w'.cell? ⟨c.gM, 0, none⟩ = some (.pointer (some ⟨c.gI, 0, none⟩)) ∧ w'.cell? ⟨g, 1, none⟩ = some (.int .i64 x.mode) ∧ w'.cell? ⟨ba, 0, none⟩ = some (.int .i64 X)) (go_keep)
      ((go_at_call 84; refine hc.out.mono ?_; rintro e w5 ⟨rfl, hb⟩; simp only []; have hn5 := On.below hon.out hb; have ⟨n0, n1, n2, n3⟩ := hcell.out _ hn5; clear hb; replace hn5 := Lib.hid hn5))
    all_goals go_wp2_with fail
    refine (try_ok _).mono ?_
    rintro e w6 ⟨rfl, rfl⟩
    simp only []
    have h6 := Lib.hid (hn5.out.tail.box #[.int .i64 v] 3)
    go_wp2
    go_ret
    exact ⟨some ⟨w6.heap.size, 0, none⟩, 1, BlkA w6.heap.size 3 (intsC [v]), rfl, carries_row _ _, h6.out⟩
  · simp only [if_neg hf]
    have ht := Lib.hid (fun w => try_no f hf w)
    replace hf := Lib.hid hf
    go_enter Tryz.func118, Tryz.ntmps118
    go_wp2_with fail
    go_region_held (fun w' => w'.cell? ⟨g, 0, none⟩ = some (.pointer (some ⟨c.gM, 0, none⟩)) ∧ w'.cell? ⟨c.gM, 0, none⟩ = some (.pointer (some ⟨c.gI, 0, none⟩)) ∧ w'.cell? ⟨g, 1, none⟩ = some (.int .i64 x.mode) ∧ w'.cell? ⟨ba, 0, none⟩ = some (.int .i64 X)) (go_keep)
      ((go_at_call 84; refine hc.out.mono ?_; rintro e w5 ⟨rfl, hb⟩; simp only []; have hn5 := On.below hon.out hb; have ⟨n0, n1, n2, n3⟩ := hcell.out _ hn5; clear hb; replace hn5 := Lib.hid hn5))
    all_goals go_wp2_with fail
    refine (ht.out _).mono ?_
    rintro e w6 ⟨rfl, rfl⟩
    exact ⟨rfl, rfl, hn5.out.tail⟩
/-! ### one method, its fault -/
set_option maxHeartbeats 2000000 in
/-- ! -/
theorem y_store (arg lit cells : Int) : GivesR 118 (fun g => #[.pointer (some ⟨g, 0, none⟩)]) ⟨66, arg, lit, cells⟩ (fun x s => (⟨s.S.cellF x.mode (ar s 2 1) true, x, { s with S := s.S.setCell x.mode (ar s 2 1) (ar s 2 0) }⟩, [])) := by
  intro c g x src s ba w F hs hx hask hb
  have hw2 : (Code.wants 66).1.toNat = 2 := by decide
  simp only [hw2] at hb ⊢
  have hon := (On.refl hb).drew
  have r0 := (On.refl hb).tail.r0
  have m0 := (On.refl hb).tail.m0
  have r1 := (On.refl hb).tail.r1
  have a0 := row_get ((On.refl hb).blkAt 0 rfl) (j := 0) (by omega)
  have a1 := row_get ((On.refl hb).blkAt 0 rfl) (j := 1) (by omega)
  have hcell : ∀ s2 W, On F w (AllA (BlkA ba 3 (intsC (s.args 2)) :: vL c g x src s2)) W → W.cell? ⟨g, 0, none⟩ = some (.pointer (some ⟨c.gM, 0, none⟩)) ∧ W.cell? ⟨c.gM, 0, none⟩ = some (.pointer (some ⟨c.gI, 0, none⟩)) ∧ W.cell? ⟨g, 1, none⟩ = some (.int .i64 x.mode) ∧ W.cell? ⟨ba, 0, none⟩ = some (.int .i64 (ar s 2 0)) ∧ W.cell? ⟨ba, 1, none⟩ = some (.int .i64 (ar s 2 1)) := fun s2 W h => ⟨h.tail.r0, h.tail.m0, h.tail.r1, row_get (h.blkAt 0 rfl) (by omega), row_get (h.blkAt 0 rfl) (by omega)⟩
  have hc : Calls Tryz.prog 28 _ w.drew (Got (.returned (.int .i64 (s.S.cellF x.mode (ar s 2 1) true))) (AllA (BlkA ba 3 (intsC (s.args 2)) :: vL c g x src ({ s with S := s.S.setCell x.mode (ar s 2 1) (ar s 2 0) }))) F w) := hon.callAtG 3 rfl (fun F' ha => g_setCell ha x.mode (ar s 2 1) (ar s 2 0) (ar_v64 s 2 0))
  generalize hs2 : ({ s with S := s.S.setCell x.mode (ar s 2 1) (ar s 2 0) }) = s2 at *
  clear hs2
  generalize s.S.cellF x.mode (ar s 2 1) true = f at *
  generalize ar s 2 0 = X at *
  generalize ar s 2 1 = Y at *
  show Calls _ _ #[.pointer (some ⟨g, 0, none⟩), .int .i64 66, .slice (some ⟨ba, 0, none⟩) 2 2] _ _
  generalize intsC (s.args 2) = ac at *
  replace hcell := Lib.hid hcell
  replace hc := Lib.hid hc
  replace hon := Lib.hid hon
  clear hb hw2 hask hs hx
  by_cases hf : f = 0
  · simp only [if_pos hf]
    subst hf
    go_enter Tryz.func118, Tryz.ntmps118
    go_wp2_with fail
    go_region_held (fun w' => w'.cell? ⟨g, 0, none⟩ = some (.pointer (some ⟨c.gM, 0, none⟩)) ∧ w'.cell? ⟨c.gM, 0, none⟩ = some (.pointer (some ⟨c.gI, 0, none⟩)) ∧ w'.cell? ⟨g, 1, none⟩ = some (.int .i64 x.mode) ∧ w'.cell? ⟨ba, 0, none⟩ = some (.int .i64 X) ∧ w'.cell? ⟨ba, 1, none⟩ = some (.int .i64 Y)) (go_keep)
      ((first
        | (go_at_call 28; refine hc.out.mono ?_; rintro e w5 ⟨rfl, hn5⟩; have ⟨n0, n1, n2, n3, n4⟩ := hcell.out _ _ hn5; replace hn5 := Lib.hid hn5)
        | (go_at_call 80; refine (try_ok _).mono ?_; rintro e w6 ⟨rfl, rfl⟩)))
    all_goals go_wp2
    all_goals go_ret
    all_goals exact ⟨none, 0, _, rfl, carries_nil _, hn5.out⟩
  · simp only [if_neg hf]
    have ht := Lib.hid (fun w => try_no f hf w)
    replace hf := Lib.hid hf
    go_enter Tryz.func118, Tryz.ntmps118
    go_wp2_with fail
    go_region_held (fun w' => w'.cell? ⟨g, 0, none⟩ = some (.pointer (some ⟨c.gM, 0, none⟩)) ∧ w'.cell? ⟨c.gM, 0, none⟩ = some (.pointer (some ⟨c.gI, 0, none⟩)) ∧ w'.cell? ⟨g, 1, none⟩ = some (.int .i64 x.mode) ∧ w'.cell? ⟨ba, 0, none⟩ = some (.int .i64 X) ∧ w'.cell? ⟨ba, 1, none⟩ = some (.int .i64 Y)) (go_keep)
      ((first
        | (go_at_call 28; refine hc.out.mono ?_; rintro e w5 ⟨rfl, hn5⟩; have ⟨n0, n1, n2, n3, n4⟩ := hcell.out _ _ hn5; replace hn5 := Lib.hid hn5)
        | (go_at_call 80; refine dead (ht.out _) ⟨rfl, rfl, hn5.out.tail⟩ ?_; intro hF e w6 he hw; subst he; subst hw; replace hF := Lib.hid hF)))
    all_goals exact hF.out.elim
theorem v_base (h : Blk w c.gM 107 (machC c s)) (hi : IRep w c.gI gb s.S) : Calls Tryz.prog 14 #[.pointer (some ⟨c.gM, 0, none⟩)] w (Quiet (.int .i64 (s.S.beg 3 : Int)) w) := by
  have c0 : w.cell? ⟨c.gM, 0, none⟩ = some (.pointer (some ⟨c.gI, 0, none⟩)) := h.cell 0
  have hsp := i_span hi 3 (by omega) (by omega)
  replace hsp := Lib.hid hsp
  clear h hi
  go_enter Tryz.func14, Tryz.ntmps14
  go_wp2_with fail
  refine hsp.out.mono ?_
  rintro e w1 ⟨rfl, n, rfl⟩
  go_wp2
  go_ret
  exact ⟨rfl, Below.dN (Below.refl _ _) n⟩
/-- BASE -/
theorem y_base (arg lit cells : Int) : GivesOk 119 (fun g => #[.pointer (some ⟨g, 0, none⟩)]) ⟨77, arg, lit, cells⟩ (fun s => [wrap64 (s.S.beg 3 : Int)]) := by
  intro c g x src s ba w F hs hask hb
  have hw2 : (Code.wants 77).1.toNat = 0 := by decide
  simp only [hw2] at hb ⊢
  have hon := On.refl hb
  have r0 := hon.tail.r0
  obtain ⟨gb, hi⟩ := hon.img 3 rfl
  have hbs := v_base (hon.blkAt 2 rfl) hi
  have hsm : wrap64 (s.S.beg 3 : Int) = (s.S.beg 3 : Int) := by
    have h1 := hi.ok.small
    have h2 : s.S.beg 3 ≤ s.S.beg 6 := s.S.beg_mono (by omega) (by omega) (by omega)
    unfold wrap64
    omega
  rw [hsm]
  clear hsm
  generalize intsC (s.args 0) = ac at *
  generalize ((s.S.beg 3 : Nat) : Int) = v at *
  replace hon := Lib.hid hon
  replace hbs := Lib.hid hbs
  clear hb hw2 hask hs hi
  show Calls _ _ #[.pointer (some ⟨g, 0, none⟩), .int .i64 77, .slice (some ⟨ba, 0, none⟩) 0 0] _ _
  go_enter Tryz.func119, Tryz.ntmps119
  go_wp2_with fail
  refine hbs.out.mono ?_
  rintro e w1 ⟨rfl, hb1⟩
  simp only []
  have h6 := Lib.hid ((hon.out.below hb1).tail.box #[.int .i64 v] 3)
  clear hb1
  go_wp2
  go_ret
  exact ⟨some ⟨w1.heap.size, 0, none⟩, 1, BlkA w1.heap.size 3 (intsC [v]), rfl, carries_row _ _, h6.out⟩
end Vm
end Go.Proofs.YtjhdpmimccpcdaaGreatDoor
/- Chapter 11: what one cell gives, what two cells give. No condition. Printed by gen_vpairs.py. -/
namespace Go.Proofs.YtjhdpmimccpcdaaGreatDoor
set_option linter.unusedVariables false
set_option maxRecDepth 100000
open Go.RowKit Go.Lib Go.Deep
namespace Vm
def flagS (b : Bool) : Int := if b then -1 else 0
def absS (x : Int) : Int := if x < 0 then wrap64 (-x) else x
def signS (x : Int) : Int := x / 9223372036854775808
def shlS (x y : Int) : Int := if y < 0 then 0 else wrap64 (x * 2 ^ min y.toNat 64)
def shrS (x y : Int) : Int := if y < 0 then 0 else wrap64 (IntKind.u64.wrap x / 2 ^ min y.toNat 64)
theorem flag_v64 (b : Bool) : V64 (flagS b) := by unfold flagS V64; split <;> omega
theorem abs_v64 {x : Int} (h : V64 x) : V64 (absS x) := by unfold absS; split; exact wrap_v64 _; exact h
theorem shl_v64 (x y : Int) : V64 (shlS x y) := by unfold shlS; split; (unfold V64; omega); exact wrap_v64 _
theorem shr_v64 (x y : Int) : V64 (shrS x y) := by unfold shrS; split; (unfold V64; omega); exact wrap_v64 _
theorem half_v64 {x : Int} (h : V64 x) : V64 (x / 2) := by unfold V64 at *; omega
theorem sign_v64 {x : Int} (h : V64 x) : V64 (x / 9223372036854775808) := by unfold V64 at *; omega
theorem signS_v64 {x : Int} (h : V64 x) : V64 (signS x) := sign_v64 h
theorem min_v64 {x y : Int} (h : V64 x) (g : V64 y) : V64 (min x y) := by unfold V64 at *; omega
theorem max_v64 {x y : Int} (h : V64 x) (g : V64 y) : V64 (max x y) := by unfold V64 at *; omega
theorem iwrap_v64 (n : Int) : V64 (IntKind.i64.wrap n) := by rw [IntKind.wrap_i64]; unfold V64; omega
theorem and_v64 (x y : Int) : V64 (bits .and .i64 x y) := iwrap_v64 _
theorem or_v64 (x y : Int) : V64 (bits .or .i64 x y) := iwrap_v64 _
theorem xor_v64 (x y : Int) : V64 (bits .xor .i64 x y) := iwrap_v64 _
theorem alone_abs (x : Int) (w : World) : Calls Tryz.prog 155 #[.int .i64 40, .int .i64 x] w (Same (.int .i64 (absS x)) w) := by
  by_cases h : x < 0
  · have e : absS x = wrap64 (-x) := if_pos h
    rw [e]
    have t : decide (x < 0) = true := decide_eq_true h
    replace h := Lib.hid h
    clear e
    go_enter Tryz.func155, Tryz.ntmps155
    go_wp2
    go_ret
    exact ⟨rfl, rfl⟩
  · have e : absS x = x := if_neg h
    rw [e]
    have t : decide (x < 0) = false := decide_eq_false h
    clear e
    go_enter Tryz.func155, Tryz.ntmps155
    go_wp2
    go_ret
    exact ⟨rfl, rfl⟩
theorem alone_twice (x : Int) (w : World) : Calls Tryz.prog 155 #[.int .i64 45, .int .i64 x] w (Same (.int .i64 (wrap64 (x * 2))) w) := by
  go_enter Tryz.func155, Tryz.ntmps155
  go_wp2
  go_ret
  exact ⟨rfl, rfl⟩
theorem alone_half (x : Int) (w : World) : Calls Tryz.prog 155 #[.int .i64 46, .int .i64 x] w (Same (.int .i64 (x / 2)) w) := by
  go_enter Tryz.func155, Tryz.ntmps155
  go_wp2
  go_ret
  exact ⟨rfl, rfl⟩
theorem alone_invert (x : Int) (w : World) : Calls Tryz.prog 155 #[.int .i64 50, .int .i64 x] w (Same (.int .i64 (bits .xor .i64 (-1) x)) w) := by
  go_enter Tryz.func155, Tryz.ntmps155
  go_wp2
  go_ret
  exact ⟨rfl, rfl⟩
theorem alone_zeroeq (x : Int) (w : World) : Calls Tryz.prog 155 #[.int .i64 63, .int .i64 x] w (Same (.int .i64 (flagS (x == 0))) w) := by
  rcases h : (x == 0) with _ | _
  · show Calls _ _ _ _ (Same (.int .i64 0) w)
    go_enter Tryz.func155, Tryz.ntmps155
    go_wp2
    go_ret
    exact ⟨rfl, rfl⟩
  · show Calls _ _ _ _ (Same (.int .i64 (-1)) w)
    go_enter Tryz.func155, Tryz.ntmps155
    go_wp2
    go_ret
    exact ⟨rfl, rfl⟩
theorem alone_zerolt (x : Int) (w : World) : Calls Tryz.prog 155 #[.int .i64 64, .int .i64 x] w (Same (.int .i64 (signS x)) w) := by
  go_enter Tryz.func155, Tryz.ntmps155
  go_wp2
  go_ret
  exact ⟨rfl, rfl⟩
theorem pair_min (x y : Int) (w : World) : Calls Tryz.prog 156 #[.int .i64 41, .int .i64 x, .int .i64 y] w (Same (.int .i64 (min x y)) w) := by
  go_enter Tryz.func156, Tryz.ntmps156
  go_wp2
  go_ret
  exact ⟨rfl, rfl⟩
theorem pair_max (x y : Int) (w : World) : Calls Tryz.prog 156 #[.int .i64 42, .int .i64 x, .int .i64 y] w (Same (.int .i64 (max x y)) w) := by
  go_enter Tryz.func156, Tryz.ntmps156
  go_wp2
  go_ret
  exact ⟨rfl, rfl⟩
theorem pair_and (x y : Int) (w : World) : Calls Tryz.prog 156 #[.int .i64 47, .int .i64 x, .int .i64 y] w (Same (.int .i64 (bits .and .i64 x y)) w) := by
  go_enter Tryz.func156, Tryz.ntmps156
  go_wp2
  go_ret
  exact ⟨rfl, rfl⟩
theorem pair_or (x y : Int) (w : World) : Calls Tryz.prog 156 #[.int .i64 48, .int .i64 x, .int .i64 y] w (Same (.int .i64 (bits .or .i64 x y)) w) := by
  go_enter Tryz.func156, Tryz.ntmps156
  go_wp2
  go_ret
  exact ⟨rfl, rfl⟩
theorem pair_xor (x y : Int) (w : World) : Calls Tryz.prog 156 #[.int .i64 49, .int .i64 x, .int .i64 y] w (Same (.int .i64 (bits .xor .i64 x y)) w) := by
  go_enter Tryz.func156, Tryz.ntmps156
  go_wp2
  go_ret
  exact ⟨rfl, rfl⟩
theorem pair_shl (x y : Int) (w : World) : Calls Tryz.prog 156 #[.int .i64 51, .int .i64 x, .int .i64 y] w (Same (.int .i64 (shlS x y)) w) := by
  by_cases h : y < 0
  · have e : shlS x y = 0 := if_pos h
    rw [e]
    have t : decide (y < 0) = true := decide_eq_true h
    replace h := Lib.hid h
    clear e
    go_enter Tryz.func156, Tryz.ntmps156
    go_wp2
    go_ret
    exact ⟨rfl, rfl⟩
  · have e : shlS x y = wrap64 (x * 2 ^ min y.toNat 64) := if_neg h
    rw [e]
    have t : decide (y < 0) = false := decide_eq_false h
    clear e
    go_enter Tryz.func156, Tryz.ntmps156
    go_wp2
    go_ret
    exact ⟨by rw [← IntWalk.i64_left]; rfl, rfl⟩
theorem pair_shr (x y : Int) (w : World) : Calls Tryz.prog 156 #[.int .i64 52, .int .i64 x, .int .i64 y] w (Same (.int .i64 (shrS x y)) w) := by
  by_cases h : y < 0
  · have e : shrS x y = 0 := if_pos h
    rw [e]
    have t : decide (y < 0) = true := decide_eq_true h
    replace h := Lib.hid h
    clear e
    go_enter Tryz.func156, Tryz.ntmps156
    go_wp2
    go_ret
    exact ⟨rfl, rfl⟩
  · have e : shrS x y = wrap64 (IntKind.u64.wrap x / 2 ^ min y.toNat 64) := if_neg h
    rw [e]
    have t : decide (y < 0) = false := decide_eq_false h
    clear e
    go_enter Tryz.func156, Tryz.ntmps156
    go_wp2
    go_ret
    exact ⟨rfl, rfl⟩
theorem pair_eq (x y : Int) (w : World) : Calls Tryz.prog 156 #[.int .i64 58, .int .i64 x, .int .i64 y] w (Same (.int .i64 (flagS (x == y))) w) := by
  rcases h : (x == y) with _ | _
  · show Calls _ _ _ _ (Same (.int .i64 0) w)
    go_enter Tryz.func156, Tryz.ntmps156
    go_wp2
    go_ret
    exact ⟨rfl, rfl⟩
  · show Calls _ _ _ _ (Same (.int .i64 (-1)) w)
    go_enter Tryz.func156, Tryz.ntmps156
    go_wp2
    go_ret
    exact ⟨rfl, rfl⟩
theorem pair_ne (x y : Int) (w : World) : Calls Tryz.prog 156 #[.int .i64 59, .int .i64 x, .int .i64 y] w (Same (.int .i64 (flagS (x != y))) w) := by
  rcases h : (x != y) with _ | _
  · show Calls _ _ _ _ (Same (.int .i64 0) w)
    go_enter Tryz.func156, Tryz.ntmps156
    go_wp2
    go_ret
    exact ⟨rfl, rfl⟩
  · show Calls _ _ _ _ (Same (.int .i64 (-1)) w)
    go_enter Tryz.func156, Tryz.ntmps156
    go_wp2
    go_ret
    exact ⟨rfl, rfl⟩
theorem pair_lt (x y : Int) (w : World) : Calls Tryz.prog 156 #[.int .i64 60, .int .i64 x, .int .i64 y] w (Same (.int .i64 (flagS (decide (x < y)))) w) := by
  rcases h : (decide (x < y)) with _ | _
  · show Calls _ _ _ _ (Same (.int .i64 0) w)
    go_enter Tryz.func156, Tryz.ntmps156
    go_wp2
    go_ret
    exact ⟨rfl, rfl⟩
  · show Calls _ _ _ _ (Same (.int .i64 (-1)) w)
    go_enter Tryz.func156, Tryz.ntmps156
    go_wp2
    go_ret
    exact ⟨rfl, rfl⟩
theorem pair_gt (x y : Int) (w : World) : Calls Tryz.prog 156 #[.int .i64 61, .int .i64 x, .int .i64 y] w (Same (.int .i64 (flagS (decide (y < x)))) w) := by
  rcases h : (decide (y < x)) with _ | _
  · show Calls _ _ _ _ (Same (.int .i64 0) w)
    go_enter Tryz.func156, Tryz.ntmps156
    go_wp2
    go_ret
    exact ⟨rfl, rfl⟩
  · show Calls _ _ _ _ (Same (.int .i64 (-1)) w)
    go_enter Tryz.func156, Tryz.ntmps156
    go_wp2
    go_ret
    exact ⟨rfl, rfl⟩
theorem pair_ult (x y : Int) (w : World) : Calls Tryz.prog 156 #[.int .i64 62, .int .i64 x, .int .i64 y] w (Same (.int .i64 (flagS (decide (IntKind.u64.wrap x < IntKind.u64.wrap y)))) w) := by
  rcases h : (decide (IntKind.u64.wrap x < IntKind.u64.wrap y)) with _ | _
  · show Calls _ _ _ _ (Same (.int .i64 0) w)
    go_enter Tryz.func156, Tryz.ntmps156
    go_wp2
    go_ret
    exact ⟨rfl, rfl⟩
  · show Calls _ _ _ _ (Same (.int .i64 (-1)) w)
    go_enter Tryz.func156, Tryz.ntmps156
    go_wp2
    go_ret
    exact ⟨rfl, rfl⟩
end Vm
end Go.Proofs.YtjhdpmimccpcdaaGreatDoor
