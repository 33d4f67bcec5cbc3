/- Chapter 11: a machine and all that it works on, as a list of objects. No condition. -/
import Derived.Test.YtjhdpmimccpcdaaGreatDoorQ24
import Derived.Recover
import Derived.Deep.DeepCutAuto
import Derived.ScopeJumps
import Derived.WalkMore
import Derived.Deep.RegionHeld
namespace Go.Proofs.YtjhdpmimccpcdaaGreatDoor
set_option linter.unusedVariables false
open Go.RowKit Go.Lib Go.Deep
namespace Vm
/-- a machine, and all that it works on -/
def mL (c : Vc) (s : Mt) : List Asr := MachA c s :: ImgA c.gI s.S :: StkA c.gI c.gD s.pd s.d :: StkA c.gI c.gR s.pr s.r :: TabA c.gT s.T :: DictA c.gI c.gS c.sfr c.sto s.hs s.ls :: DictA c.gI c.gK c.kfr c.kto s.hk s.lk :: c.tl s.seen :: c.rest s.ext
theorem vL_eq (c : Vc) (g : Nat) (x : Rn) (src : Value) (s : Mt) : vL c g x src s = RunA c g x src :: mL c s := rfl
theorem ofB_v64 (l : List UInt8) : V64 (ofB l) := by unfold ofB V64 wrap64; omega
theorem cellV_v64 (S : Img) (m a : Int) : V64 (S.cellV m a) := by
  unfold Img.cellV
  split
  · exact ofB_v64 _
  · unfold V64; omega
theorem stopv_v64 (S : Img) (fr d : Nat) (n : Int) : V64 (stopv S fr d n) := by
  unfold stopv
  split
  · exact cellV_v64 _ _ _
  · unfold V64; omega
theorem wrap_v64 (n : Int) : V64 (wrap64 n) := by unfold V64 wrap64; omega
end Vm
end Go.Proofs.YtjhdpmimccpcdaaGreatDoor
/- Chapters 4, 8, 10, 11: what is made: stacks, wordlists, a turtle. Conditions: as written. -/
namespace Go.Proofs.YtjhdpmimccpcdaaGreatDoor
set_option linter.unusedVariables false
set_option maxRecDepth 100000
open Go.RowKit Go.Lib Go.Deep
namespace Vm
section
variable {w w' : World} {F : Nat → Prop} {gI gb : Nat} {S : Img}
/-- where the stacks lie in an image -/
def pdOf (S : Img) : Pl := ⟨S.beg 4, S.d / 8, 1, 2⟩
def prOf (S : Img) : Pl := ⟨S.beg 5, S.r / 8, 3, 4⟩
def MadeStk (gI : Nat) (p : Pl) (e : Ending) (B : Asr) : Prop := ∃ g, e = .returned (.tuple #[.pointer (some ⟨g, 0, none⟩), .int .i64 0]) ∧ B = StkA gI g p 0
theorem new_post {g : Nat} {t : TypeId} {cs : Array Value} (hb : Blk w' g t cs) (hk : Kept Nob w w') (hg : w.heap.size ≤ g) : On Nob w (BlkA g t cs) w' :=
  ⟨fun k => k = g, ⟨hb, fun _ => Iff.rfl⟩, hk, fun k h => .inr (by rw [h]; exact hg)⟩
theorem n_stackD (hi : IRep w gI gb S) (hd : S.d ≤ 4096) : Calls Tryz.prog 50 #[.pointer (some ⟨gI, 0, none⟩), .int .i64 4] w (PostE (MadeStk gI (pdOf S)) Nob w) := by
  have hbx := (On.refl (A := AllA []) (F := Nob) (w := w) (fun _ h => h)).box (stkC gI ⟨0, 0, 1, 2⟩ 0) 113
  have hsp := i_span (w := w.alloc (.cells (stkC gI ⟨0, 0, 1, 2⟩ 0) 113)) ⟨hi.blk.alloc _, hi.row.alloc _, hi.ok⟩ 4 (by omega) (by omega)
  have e5 : S.beg (4 + 1) = S.beg 4 + S.d := by simp [Img.beg]
  have hsm : S.beg 4 ≤ 143360 := Nat.le_trans (S.beg_mono (by omega) (by omega) (by omega)) hi.ok.small
  rw [e5] at hsp
  have hp : pdOf S = ⟨S.beg 4, S.d / 8, 1, 2⟩ := rfl
  rw [hp]
  generalize S.beg 4 = b at *
  generalize S.d = d at *
  have hst : stkC gI ⟨0, 0, 1, 2⟩ 0 = #[.pointer (some ⟨gI, 0, none⟩), .int .i64 0, .int .i64 0, .int .i64 0, .int .i64 1, .int .i64 2] := rfl
  rw [hst] at hsp hbx
  replace hsp := Lib.hid hsp
  replace hbx := Lib.hid hbx
  clear hi hp hst e5
  go_enter Tryz.func50, Tryz.ntmps50
  go_wp2_with fail
  refine hsp.out.mono ?_
  rintro e w1 ⟨rfl, n, rfl⟩
  have hon := hbx.out.drewN n
  have f1 := (hon.blkAt 0 rfl).frozen 1
  have f2 := (hon.blkAt 0 rfl).frozen 2
  have c1 : ((w.alloc (.cells #[.pointer (some ⟨gI, 0, none⟩), .int .i64 0, .int .i64 0, .int .i64 0, .int .i64 1, .int .i64 2] 113)).drewN n).cell? ⟨w.heap.size, 1, none⟩ = some (.int .i64 0) := (hon.blkAt 0 rfl).cell 1
  have c2 : ((w.alloc (.cells #[.pointer (some ⟨gI, 0, none⟩), .int .i64 0, .int .i64 0, .int .i64 0, .int .i64 1, .int .i64 2] 113)).drewN n).cell? ⟨w.heap.size, 2, none⟩ = some (.int .i64 0) := (hon.blkAt 0 rfl).cell 2
  have hq : ((b : Int) + (d : Int) - (b : Int)) / 8 = ((d / 8 : Nat) : Int) := by omega
  have hcs : ((#[.pointer (some ⟨gI, 0, none⟩), .int .i64 0, .int .i64 0, .int .i64 0, .int .i64 1, .int .i64 2] : Array Value).setIfInBounds 1 (.int .i64 (b : Int))).setIfInBounds 2 (.int .i64 (((b : Int) + (d : Int) - (b : Int)) / 8)) = stkC gI ⟨b, d / 8, 1, 2⟩ 0 := by rw [hq]; rfl
  have hfin2 : On Nob w (AllA [BlkA w.heap.size 113 (((#[.pointer (some ⟨gI, 0, none⟩), .int .i64 0, .int .i64 0, .int .i64 0, .int .i64 1, .int .i64 2] : Array Value).setIfInBounds 1 (.int .i64 (b : Int))).setIfInBounds 2 (.int .i64 (((b : Int) + (d : Int) - (b : Int)) / 8)))]) _ := (hon.setAt 0 rfl 1 (.int .i64 (b : Int))).setAt 0 rfl 2 (.int .i64 (((b : Int) + (d : Int) - (b : Int)) / 8))
  rw [hcs] at hfin2
  replace hfin2 := Lib.hid hfin2
  clear hon hq hcs
  go_wp2
  go_ret2
  exact ⟨_, ⟨w.heap.size, rfl, rfl⟩, hfin2.out.ofOne⟩
theorem n_stackR (hi : IRep w gI gb S) (hd : S.r ≤ 4096) : Calls Tryz.prog 50 #[.pointer (some ⟨gI, 0, none⟩), .int .i64 5] w (PostE (MadeStk gI (prOf S)) Nob w) := by
  have hbx := (On.refl (A := AllA []) (F := Nob) (w := w) (fun _ h => h)).box (stkC gI ⟨0, 0, 3, 4⟩ 0) 113
  have hsp := i_span (w := w.alloc (.cells (stkC gI ⟨0, 0, 3, 4⟩ 0) 113)) ⟨hi.blk.alloc _, hi.row.alloc _, hi.ok⟩ 5 (by omega) (by omega)
  have e5 : S.beg (5 + 1) = S.beg 5 + S.r := by simp [Img.beg]
  have hsm : S.beg 5 ≤ 143360 := Nat.le_trans (S.beg_mono (by omega) (by omega) (by omega)) hi.ok.small
  rw [e5] at hsp
  have hp : prOf S = ⟨S.beg 5, S.r / 8, 3, 4⟩ := rfl
  rw [hp]
  generalize S.beg 5 = b at *
  generalize S.r = d at *
  have hst : stkC gI ⟨0, 0, 3, 4⟩ 0 = #[.pointer (some ⟨gI, 0, none⟩), .int .i64 0, .int .i64 0, .int .i64 0, .int .i64 3, .int .i64 4] := rfl
  rw [hst] at hsp hbx
  replace hsp := Lib.hid hsp
  replace hbx := Lib.hid hbx
  clear hi hp hst e5
  go_enter Tryz.func50, Tryz.ntmps50
  go_wp2_with fail
  refine hsp.out.mono ?_
  rintro e w1 ⟨rfl, n, rfl⟩
  have hon := hbx.out.drewN n
  have f1 := (hon.blkAt 0 rfl).frozen 1
  have f2 := (hon.blkAt 0 rfl).frozen 2
  have c1 : ((w.alloc (.cells #[.pointer (some ⟨gI, 0, none⟩), .int .i64 0, .int .i64 0, .int .i64 0, .int .i64 3, .int .i64 4] 113)).drewN n).cell? ⟨w.heap.size, 1, none⟩ = some (.int .i64 0) := (hon.blkAt 0 rfl).cell 1
  have c2 : ((w.alloc (.cells #[.pointer (some ⟨gI, 0, none⟩), .int .i64 0, .int .i64 0, .int .i64 0, .int .i64 3, .int .i64 4] 113)).drewN n).cell? ⟨w.heap.size, 2, none⟩ = some (.int .i64 0) := (hon.blkAt 0 rfl).cell 2
  have hq : ((b : Int) + (d : Int) - (b : Int)) / 8 = ((d / 8 : Nat) : Int) := by omega
  have hcs : ((#[.pointer (some ⟨gI, 0, none⟩), .int .i64 0, .int .i64 0, .int .i64 0, .int .i64 3, .int .i64 4] : Array Value).setIfInBounds 1 (.int .i64 (b : Int))).setIfInBounds 2 (.int .i64 (((b : Int) + (d : Int) - (b : Int)) / 8)) = stkC gI ⟨b, d / 8, 3, 4⟩ 0 := by rw [hq]; rfl
  have hfin2 : On Nob w (AllA [BlkA w.heap.size 113 (((#[.pointer (some ⟨gI, 0, none⟩), .int .i64 0, .int .i64 0, .int .i64 0, .int .i64 3, .int .i64 4] : Array Value).setIfInBounds 1 (.int .i64 (b : Int))).setIfInBounds 2 (.int .i64 (((b : Int) + (d : Int) - (b : Int)) / 8)))]) _ := (hon.setAt 0 rfl 1 (.int .i64 (b : Int))).setAt 0 rfl 2 (.int .i64 (((b : Int) + (d : Int) - (b : Int)) / 8))
  rw [hcs] at hfin2
  replace hfin2 := Lib.hid hfin2
  clear hon hq hcs
  go_wp2
  go_ret2
  exact ⟨_, ⟨w.heap.size, rfl, rfl⟩, hfin2.out.ofOne⟩
end
end Vm
end Go.Proofs.YtjhdpmimccpcdaaGreatDoor
/- Chapter 11: what goes elsewhere. Conditions: all was asked. Printed by gen_vops.py. -/
namespace Go.Proofs.YtjhdpmimccpcdaaGreatDoor
set_option linter.unusedVariables false
set_option maxRecDepth 100000
open Go.RowKit Go.Lib Go.Deep
namespace Vm
theorem args_v64 (s : Mt) (n : Nat) : ∀ v ∈ s.args n, V64 v := by
  intro v hv
  unfold Mt.args at hv
  obtain ⟨j, _, rfl⟩ := List.mem_map.1 hv
  exact stopv_v64 _ _ _ _
theorem ar_v64 (s : Mt) (n j : Nat) : V64 (ar s n j) := by
  unfold ar
  by_cases h : j < n
  · have h2 : (s.args n).getD j 0 = s.top ((n - 1 - j : Nat) : Int) := by simp [Mt.args, h]
    rw [h2]
    exact stopv_v64 _ _ _ _
  · have h2 : (s.args n).getD j 0 = 0 := by simp [Mt.args, h]
    rw [h2]
    unfold V64; omega
section
variable {w w' : World} {F : Nat → Prop} {c : Vc} {g : Nat} {x : Rn} {src : Value} {s : Mt}
/-- cells laid on the return stack, of a row that lies beside -/
theorem v_pushR_row (m : Nat) {L : List Asr} (hm : m ≤ L.length) (hL : L.drop m = vL c g x src s) (h : On F w (AllA L) w') (hs : s.Ok) (l : List Int) (hl : ∀ v ∈ l, V64 v)
    (j : Nat) (hj : j < m) (rb : Nat) (hrow : L[j]? = some (BlkA rb 3 (intsC l))) (n : Nat) (hn : n = l.length) (hroom : l.length ≤ s.pr.rm - s.r) :
    Calls Tryz.prog 73 #[.pointer (some ⟨c.gR, 0, none⟩), .slice (some ⟨rb, 0, none⟩) n n] w' (Got (.returned (.int .i64 0)) (AllA (L.take m ++ vL c g x src (s.pushR l))) F w) := by
  subst hn
  refine h.callDrop m hm fun F' hb hdis _ => ?_
  rw [hL] at hb
  obtain ⟨F3, hB, hfar⟩ := hdis j _ hj hrow
  obtain ⟨h1, h2⟩ := carries_row rb l _ _ hB
  exact v_pushR (On.refl hb) hs l hl (some ⟨rb, 0, none⟩) l.length h1 (fun a ha => ⟨fun hk => hfar _ (h2 a ha) hk, by
    obtain rfl : a = ⟨rb, 0, none⟩ := by injection ha with ha; exact ha.symm
    exact hB.1.lt⟩) hroom
end
set_option maxHeartbeats 1000000 in
theorem ctl_jump (arg lit cells : Int) : PartOk 114 ⟨4, arg, lit, cells⟩ (fun x s => ⟨0, { x with next := arg }, s⟩) := by
  intro c g x src s ba w F hs hx hv1 hv2 hask hb
  have hw2 : (Code.wants 4).1.toNat = 0 := by decide
  have hn : 0 ≤ s.d := by
    have h := hask.tk
    have e : (Code.wants 4).1 = 0 := by decide
    simp only [e] at h
    omega
  simp only [hw2] at hb ⊢
  have hon := (On.refl hb).box #[.int .i64 4, .int .i64 arg, .int .i64 lit, .int .i64 cells] 178
  have b0 : (w.alloc (.cells #[.int .i64 4, .int .i64 arg, .int .i64 lit, .int .i64 cells] 178)).cell? ⟨w.heap.size, 0, none⟩ = some (.int .i64 4) := (hon.blkAt 0 rfl).cell 0
  have b1 : (w.alloc (.cells #[.int .i64 4, .int .i64 arg, .int .i64 lit, .int .i64 cells] 178)).cell? ⟨w.heap.size, 1, none⟩ = some (.int .i64 arg) := (hon.blkAt 0 rfl).cell 1
  show Calls Tryz.prog 114 #[.pointer (some ⟨g, 0, none⟩), .agg #[.int .i64 4, .int .i64 arg, .int .i64 lit, .int .i64 cells], .slice (some ⟨ba, 0, none⟩) 0 0] w (Got (.returned (.tuple #[])) (AllA (BlkA ba 3 (intsC (s.args 0)) :: vL c g ({ x with next := arg }) src (s))) F w)
  have c4 := hon.tail.tail.r4
  have f4 := hon.tail.tail.rf 4
  have hset := hon.setAt 2 rfl 4 (.int .i64 arg)
  replace hset := Lib.hid hset
  generalize intsC (s.args 0) = ac at *
  clear hb hs hx hask hon hw2 hn
  go_enter Tryz.func114, Tryz.ntmps114
  go_wp2
  go_end0
  exact ⟨rfl, hset.out.tail⟩
set_option maxHeartbeats 1000000 in
theorem ctl_call (arg lit cells : Int) : PartOk 114 ⟨3, arg, lit, cells⟩ (fun x s => ⟨0, { x with next := arg }, s.pushR [x.next]⟩) := by
  intro c g x src s ba w F hs hx hv1 hv2 hask hb
  have hw2 : (Code.wants 3).1.toNat = 0 := by decide
  have hn : 0 ≤ s.d := by
    have h := hask.tk
    have e : (Code.wants 3).1 = 0 := by decide
    simp only [e] at h
    omega
  simp only [hw2] at hb ⊢
  have hon := (On.refl hb).box #[.int .i64 3, .int .i64 arg, .int .i64 lit, .int .i64 cells] 178
  have b0 : (w.alloc (.cells #[.int .i64 3, .int .i64 arg, .int .i64 lit, .int .i64 cells] 178)).cell? ⟨w.heap.size, 0, none⟩ = some (.int .i64 3) := (hon.blkAt 0 rfl).cell 0
  have b1 : (w.alloc (.cells #[.int .i64 3, .int .i64 arg, .int .i64 lit, .int .i64 cells] 178)).cell? ⟨w.heap.size, 1, none⟩ = some (.int .i64 arg) := (hon.blkAt 0 rfl).cell 1
  show Calls Tryz.prog 114 #[.pointer (some ⟨g, 0, none⟩), .agg #[.int .i64 3, .int .i64 arg, .int .i64 lit, .int .i64 cells], .slice (some ⟨ba, 0, none⟩) 0 0] w (Got (.returned (.tuple #[])) (AllA (BlkA ba 3 (intsC (s.args 0)) :: vL c g ({ x with next := arg }) src (s.pushR [x.next]))) F w)
  have hroom : 1 ≤ s.pr.rm - s.r := by
    have h := hask.rroom
    have e : returns 3 arg s.same = (0, 1) := rfl
    simp only [e] at h
    omega
  have d0 := hon.tail.tail.r0
  have d4 := hon.tail.tail.r4
  have d6 := hon.tail.tail.m6
  have hbx := (hon.box #[.int .i64 x.next] 3).drew
  have hz : (w.alloc (.cells #[.int .i64 3, .int .i64 arg, .int .i64 lit, .int .i64 cells] 178)).heap.size = w.heap.size + 1 := by simp
  rw [hz] at hbx
  have hpush := v_pushR_row (c := c) (g := g) (x := x) (src := src) (s := s) 3 (by simp) rfl hbx hs [x.next] (fun v hv => by rw [List.mem_singleton.1 hv]; exact hx.next) 0 (by omega) (w.heap.size + 1) rfl 1 rfl hroom
  have hs1 := pushR_ok hs [x.next] hroom
  have hn1 : 0 ≤ (s.pushR [x.next]).d := hn
  generalize s.pushR [x.next] = s1 at *
  generalize intsC (s.args 0) = ac at *
  have hst : ∀ W, On F w (AllA (BlkA w.heap.size 178 #[.int .i64 3, .int .i64 arg, .int .i64 lit, .int .i64 cells] :: BlkA ba 3 ac :: vL c g (x) src (s1))) W → W.cell? ⟨g, 4, none⟩ = some (.int .i64 x.next) ∧ W.frozen? ⟨g, 4, none⟩ = false ∧ W.cell? ⟨w.heap.size, 0, none⟩ = some (.int .i64 3) ∧ W.cell? ⟨w.heap.size, 1, none⟩ = some (.int .i64 arg) ∧ w.heap.size ≠ g ∧ W.cell? ⟨g, 0, none⟩ = some (.pointer (some ⟨c.gM, 0, none⟩)) ∧ W.cell? ⟨c.gM, 6, none⟩ = some (.pointer (some ⟨c.gR, 0, none⟩)) := fun W h => ⟨h.tail.tail.r4, h.tail.tail.rf 4, (h.blkAt 0 rfl).cell 0, (h.blkAt 0 rfl).cell 1, h.neAt 0 2 (by decide) rfl rfl, h.tail.tail.r0, h.tail.tail.m6⟩
  replace hpush := Lib.hid hpush
  replace hst := Lib.hid hst
  clear hb hs hx hask hw2 hn hz hbx hroom hs1 hn1 hon
  go_enter Tryz.func114, Tryz.ntmps114
  go_wp2_with fail
  go_region_held (fun w' => w'.cell? ⟨g, 0, none⟩ = some (.pointer (some ⟨c.gM, 0, none⟩)) ∧ w'.cell? ⟨c.gM, 6, none⟩ = some (.pointer (some ⟨c.gR, 0, none⟩)) ∧ w'.cell? ⟨g, 4, none⟩ = some (.int .i64 x.next)) (go_keep)
    ((go_at_call 73; refine hpush.out.mono ?_; rintro e w1 ⟨rfl, h⟩; have h5 : On F w (AllA (BlkA w.heap.size 178 #[.int .i64 3, .int .i64 arg, .int .i64 lit, .int .i64 cells] :: BlkA ba 3 ac :: vL c g (x) src (s1))) w1 := On.tail h; obtain ⟨k4, z4, k0, k1, hne, n0, n6⟩ := hst.out _ h5; have h6 := h5.setAt 2 rfl 4 (.int .i64 arg); clear h; replace h5 := Lib.hid h5; replace h6 := Lib.hid h6; replace hne := Lib.hid hne))
  go_wp2
  go_end0
  exact ⟨rfl, h6.out.tail⟩
set_option maxHeartbeats 1000000 in
theorem ctl_execute (arg lit cells : Int) : PartOk 114 ⟨16, arg, lit, cells⟩ (fun x s => ⟨0, { x with next := ar s 1 0 }, ((s.pushR [x.next]).lays 1 []).2⟩) := by
  intro c g x src s ba w F hs hx hv1 hv2 hask hb
  have hw2 : (Code.wants 16).1.toNat = 1 := by decide
  have hn : 1 ≤ s.d := by
    have h := hask.tk
    have e : (Code.wants 16).1 = 1 := by decide
    simp only [e] at h
    omega
  simp only [hw2] at hb ⊢
  have hon := (On.refl hb).box #[.int .i64 16, .int .i64 arg, .int .i64 lit, .int .i64 cells] 178
  have b0 : (w.alloc (.cells #[.int .i64 16, .int .i64 arg, .int .i64 lit, .int .i64 cells] 178)).cell? ⟨w.heap.size, 0, none⟩ = some (.int .i64 16) := (hon.blkAt 0 rfl).cell 0
  have b1 : (w.alloc (.cells #[.int .i64 16, .int .i64 arg, .int .i64 lit, .int .i64 cells] 178)).cell? ⟨w.heap.size, 1, none⟩ = some (.int .i64 arg) := (hon.blkAt 0 rfl).cell 1
  show Calls Tryz.prog 114 #[.pointer (some ⟨g, 0, none⟩), .agg #[.int .i64 16, .int .i64 arg, .int .i64 lit, .int .i64 cells], .slice (some ⟨ba, 0, none⟩) 1 1] w (Got (.returned (.tuple #[])) (AllA (BlkA ba 3 (intsC (s.args 1)) :: vL c g ({ x with next := ar s 1 0 }) src (((s.pushR [x.next]).lays 1 []).2))) F w)
  have hroom : 1 ≤ s.pr.rm - s.r := by
    have h := hask.rroom
    have e : returns 16 arg s.same = (0, 1) := rfl
    simp only [e] at h
    omega
  have ha0 : ∀ W, Blk W ba 3 (intsC (s.args 1)) → W.cell? ⟨ba, 0, none⟩ = some (.int .i64 (ar s 1 0)) := fun W hW => row_get hW (by omega)
  have d0 := hon.tail.tail.r0
  have d4 := hon.tail.tail.r4
  have d6 := hon.tail.tail.m6
  have hbx := (hon.box #[.int .i64 x.next] 3).drew
  have hz : (w.alloc (.cells #[.int .i64 16, .int .i64 arg, .int .i64 lit, .int .i64 cells] 178)).heap.size = w.heap.size + 1 := by simp
  rw [hz] at hbx
  have hpush := v_pushR_row (c := c) (g := g) (x := x) (src := src) (s := s) 3 (by simp) rfl hbx hs [x.next] (fun v hv => by rw [List.mem_singleton.1 hv]; exact hx.next) 0 (by omega) (w.heap.size + 1) rfl 1 rfl hroom
  have hs1 := pushR_ok hs [x.next] hroom
  have hn1 : 1 ≤ (s.pushR [x.next]).d := hn
  generalize s.pushR [x.next] = s1 at *
  generalize ar s 1 0 = A0 at *
  generalize intsC (s.args 1) = ac at *
  have hst : ∀ W, On F w (AllA (BlkA w.heap.size 178 #[.int .i64 16, .int .i64 arg, .int .i64 lit, .int .i64 cells] :: BlkA ba 3 ac :: vL c g (x) src (s1))) W → W.cell? ⟨g, 4, none⟩ = some (.int .i64 x.next) ∧ W.frozen? ⟨g, 4, none⟩ = false ∧ W.cell? ⟨w.heap.size, 0, none⟩ = some (.int .i64 16) ∧ W.cell? ⟨w.heap.size, 1, none⟩ = some (.int .i64 arg) ∧ w.heap.size ≠ g ∧ W.cell? ⟨g, 0, none⟩ = some (.pointer (some ⟨c.gM, 0, none⟩)) ∧ W.cell? ⟨c.gM, 6, none⟩ = some (.pointer (some ⟨c.gR, 0, none⟩)) := fun W h => ⟨h.tail.tail.r4, h.tail.tail.rf 4, (h.blkAt 0 rfl).cell 0, (h.blkAt 0 rfl).cell 1, h.neAt 0 2 (by decide) rfl rfl, h.tail.tail.r0, h.tail.tail.m6⟩
  have hlay := fun W (h : On F w (AllA (BlkA w.heap.size 178 #[.int .i64 16, .int .i64 arg, .int .i64 lit, .int .i64 cells] :: BlkA ba 3 ac :: vL c g ({ x with next := arg }) src (s1))) W) => v_lays_nil (c := c) (g := g) (x := { x with next := arg }) (src := src) (s := s1) 2 (by simp) rfl h hs1 1 hn1
  generalize (s1.lays 1 []).2 = s2 at *
  replace hpush := Lib.hid hpush
  replace hst := Lib.hid hst
  replace hlay := Lib.hid hlay
  replace ha0 := Lib.hid ha0
  clear hb hs hx hask hw2 hn hz hbx hroom hs1 hn1 hon
  go_enter Tryz.func114, Tryz.ntmps114
  go_wp2_with fail
  go_region_held (fun w' => w'.cell? ⟨g, 0, none⟩ = some (.pointer (some ⟨c.gM, 0, none⟩)) ∧ w'.cell? ⟨c.gM, 6, none⟩ = some (.pointer (some ⟨c.gR, 0, none⟩)) ∧ w'.cell? ⟨g, 4, none⟩ = some (.int .i64 x.next)) (go_keep)
    ((go_at_call 73; refine hpush.out.mono ?_; rintro e w1 ⟨rfl, h⟩; have h5 : On F w (AllA (BlkA w.heap.size 178 #[.int .i64 16, .int .i64 arg, .int .i64 lit, .int .i64 cells] :: BlkA ba 3 ac :: vL c g (x) src (s1))) w1 := On.tail h; obtain ⟨k4, z4, k0, k1, hne, n0, n6⟩ := hst.out _ h5; have h6 := h5.setAt 2 rfl 4 (.int .i64 arg); clear h; replace h5 := Lib.hid h5; replace h6 := Lib.hid h6; replace hne := Lib.hid hne))
  replace hlay := Lib.hid (hlay.out _ h6.out)
  have hne2 := hne.out
  go_wp2_with fail
  refine hlay.out.mono ?_
  rintro e w2 ⟨rfl, h⟩
  have h7 : On F w (AllA (BlkA w.heap.size 178 #[.int .i64 16, .int .i64 arg, .int .i64 lit, .int .i64 cells] :: BlkA ba 3 ac :: vL c g ({ x with next := arg }) src (s2))) w2 := h
  have p4 := h7.tail.tail.r4
  have q4 := h7.tail.tail.rf 4
  have a0 := ha0.out _ (h7.blkAt 1 rfl)
  have h8 := h7.setAt 2 rfl 4 (.int .i64 A0)
  replace h8 := Lib.hid h8
  clear h h7
  go_wp2
  go_end0
  exact ⟨rfl, h8.out.tail⟩
set_option maxHeartbeats 1000000 in
theorem ctl_zero (arg lit cells : Int) : PartOk 114 ⟨5, arg, lit, cells⟩ (fun x s => ⟨0, if ar s 1 0 = 0 then { x with next := arg } else x, (s.lays 1 []).2⟩) := by
  intro c g x src s ba w F hs hx hv1 hv2 hask hb
  have hw2 : (Code.wants 5).1.toNat = 1 := by decide
  have hn : 1 ≤ s.d := by
    have h := hask.tk
    have e : (Code.wants 5).1 = 1 := by decide
    simp only [e] at h
    omega
  simp only [hw2] at hb ⊢
  have hon := (On.refl hb).box #[.int .i64 5, .int .i64 arg, .int .i64 lit, .int .i64 cells] 178
  have b0 : (w.alloc (.cells #[.int .i64 5, .int .i64 arg, .int .i64 lit, .int .i64 cells] 178)).cell? ⟨w.heap.size, 0, none⟩ = some (.int .i64 5) := (hon.blkAt 0 rfl).cell 0
  have b1 : (w.alloc (.cells #[.int .i64 5, .int .i64 arg, .int .i64 lit, .int .i64 cells] 178)).cell? ⟨w.heap.size, 1, none⟩ = some (.int .i64 arg) := (hon.blkAt 0 rfl).cell 1
  show Calls Tryz.prog 114 #[.pointer (some ⟨g, 0, none⟩), .agg #[.int .i64 5, .int .i64 arg, .int .i64 lit, .int .i64 cells], .slice (some ⟨ba, 0, none⟩) 1 1] w (Got (.returned (.tuple #[])) (AllA (BlkA ba 3 (intsC (s.args 1)) :: vL c g (if ar s 1 0 = 0 then { x with next := arg } else x) src ((s.lays 1 []).2))) F w)
  have ha0 : ∀ W, Blk W ba 3 (intsC (s.args 1)) → W.cell? ⟨ba, 0, none⟩ = some (.int .i64 (ar s 1 0)) := fun W hW => row_get hW (by omega)
  have hlay := v_lays_nil (c := c) (g := g) (x := x) (src := src) (s := s) 2 (by simp) rfl hon hs 1 hn
  generalize (s.lays 1 []).2 = s1 at *
  generalize ar s 1 0 = A0 at *
  generalize intsC (s.args 1) = ac at *
  have hst : ∀ W, On F w (AllA (BlkA w.heap.size 178 #[.int .i64 5, .int .i64 arg, .int .i64 lit, .int .i64 cells] :: BlkA ba 3 ac :: vL c g (x) src (s1))) W → W.cell? ⟨g, 4, none⟩ = some (.int .i64 x.next) ∧ W.frozen? ⟨g, 4, none⟩ = false ∧ W.cell? ⟨ba, 0, none⟩ = some (.int .i64 A0) ∧ W.cell? ⟨w.heap.size, 1, none⟩ = some (.int .i64 arg) := fun W h => ⟨h.tail.tail.r4, h.tail.tail.rf 4, ha0 _ (h.blkAt 1 rfl), (h.blkAt 0 rfl).cell 1⟩
  replace hlay := Lib.hid hlay
  replace hst := Lib.hid hst
  clear hb hs hx hask hw2 hn ha0 hon
  by_cases hz : A0 = 0
  · have ez : (A0 == 0) = true := by simpa using hz
    rw [if_pos hz]
    clear hz
    go_enter Tryz.func114, Tryz.ntmps114
    go_wp2_with fail
    refine hlay.out.mono ?_
    rintro e w1 ⟨rfl, h⟩
    have h5 : On F w (AllA (BlkA w.heap.size 178 #[.int .i64 5, .int .i64 arg, .int .i64 lit, .int .i64 cells] :: BlkA ba 3 ac :: vL c g (x) src (s1))) w1 := h
    obtain ⟨k4, z4, k0, k1⟩ := hst.out _ h5
    have h6 := h5.setAt 2 rfl 4 (.int .i64 arg)
    clear h h5
    replace h6 := Lib.hid h6
    go_wp2
    go_end0
    exact ⟨rfl, h6.out.tail⟩
  · have ez : (A0 == 0) = false := by simpa using hz
    rw [if_neg hz]
    clear hz
    go_enter Tryz.func114, Tryz.ntmps114
    go_wp2_with fail
    refine hlay.out.mono ?_
    rintro e w1 ⟨rfl, h⟩
    have h5 : On F w (AllA (BlkA w.heap.size 178 #[.int .i64 5, .int .i64 arg, .int .i64 lit, .int .i64 cells] :: BlkA ba 3 ac :: vL c g (x) src (s1))) w1 := h
    obtain ⟨k4, z4, k0, k1⟩ := hst.out _ h5
    replace h5 := Lib.hid h5
    clear h
    go_wp2
    go_end0
    exact ⟨rfl, h5.out.tail⟩
set_option maxHeartbeats 1000000 in
theorem ctl_created (arg lit cells : Int) : PartOk 114 ⟨17, arg, lit, cells⟩ (fun x s => if arg = 0 then back { x with next := arg } (s.lays 0 [wrap64 (x.pc + 16)]).2 else ⟨0, { x with next := arg }, (s.lays 0 [wrap64 (x.pc + 16)]).2⟩) := by
  intro c g x src s ba w F hs hx hv1 hv2 hask hb
  have hw2 : (Code.wants 17).1.toNat = 0 := by decide
  have hn : 0 ≤ s.d := by
    have h := hask.tk
    have e : (Code.wants 17).1 = 0 := by decide
    simp only [e] at h
    omega
  simp only [hw2] at hb ⊢
  have hon := (On.refl hb).box #[.int .i64 17, .int .i64 arg, .int .i64 lit, .int .i64 cells] 178
  have b0 : (w.alloc (.cells #[.int .i64 17, .int .i64 arg, .int .i64 lit, .int .i64 cells] 178)).cell? ⟨w.heap.size, 0, none⟩ = some (.int .i64 17) := (hon.blkAt 0 rfl).cell 0
  have b1 : (w.alloc (.cells #[.int .i64 17, .int .i64 arg, .int .i64 lit, .int .i64 cells] 178)).cell? ⟨w.heap.size, 1, none⟩ = some (.int .i64 arg) := (hon.blkAt 0 rfl).cell 1
  have hroom : 1 ≤ s.pd.rm - (s.d - 0) := by
    have h1 := hask.room
    have e1 : (Code.wants 17).1 = 0 := by decide
    have e2 : (Code.wants 17).2 = 1 := by decide
    simp [e1, e2] at h1
    omega
  have d3 := hon.tail.tail.r3
  have hbx := hon.box #[.int .i64 (wrap64 (x.pc + 16))] 3
  have hz : (w.alloc (.cells #[.int .i64 17, .int .i64 arg, .int .i64 lit, .int .i64 cells] 178)).heap.size = w.heap.size + 1 := by simp
  rw [hz] at hbx
  have hlay := v_lays_under (c := c) (g := g) (x := x) (src := src) (s := s) 3 (by simp) rfl hbx hs 0 (Nat.zero_le _) [wrap64 (x.pc + 16)] (fun v hv => by rw [List.mem_singleton.1 hv]; exact wrap_v64 _) 0 (by omega) (w.heap.size + 1) rfl hroom
  have hs1 : (s.lays 0 [wrap64 (x.pc + 16)]).2.Ok := by
    unfold Mt.lays
    rw [if_neg (by simp; omega)]
    exact pushD_ok (cutD_ok hs (s.d - 0) (by omega)) _ hroom
  have hr1 : (s.lays 0 [wrap64 (x.pc + 16)]).2.r = s.r := by unfold Mt.lays; split <;> rfl
  have h0 : arg = 0 → 0 < s.r := fun h => by
    have h1 := hask.off
    have h2 := hx.base
    subst h
    have e : (returns 17 0 s.same).1 = 1 := rfl
    simp only [e] at h1
    omega
  rw [← hr1] at h0
  generalize (s.lays 0 [wrap64 (x.pc + 16)]).2 = s1 at *
  show Calls Tryz.prog 114 #[.pointer (some ⟨g, 0, none⟩), .agg #[.int .i64 17, .int .i64 arg, .int .i64 lit, .int .i64 cells], .slice (some ⟨ba, 0, none⟩) 0 0] w (Got (tryE (if arg = 0 then back { x with next := arg } s1 else ⟨0, { x with next := arg }, s1⟩).f) (AllA (BlkA ba 3 (intsC (s.args 0)) :: vL c g (if arg = 0 then back { x with next := arg } s1 else ⟨0, { x with next := arg }, s1⟩).x src (if arg = 0 then back { x with next := arg } s1 else ⟨0, { x with next := arg }, s1⟩).s)) F w)
  generalize intsC (s.args 0) = ac at *
  have hst : ∀ W, On F w (AllA (BlkA w.heap.size 178 #[.int .i64 17, .int .i64 arg, .int .i64 lit, .int .i64 cells] :: BlkA ba 3 ac :: vL c g (x) src (s1))) W → W.cell? ⟨g, 4, none⟩ = some (.int .i64 x.next) ∧ W.frozen? ⟨g, 4, none⟩ = false ∧ W.cell? ⟨w.heap.size, 1, none⟩ = some (.int .i64 arg) ∧ w.heap.size ≠ g := fun W h => ⟨h.tail.tail.r4, h.tail.tail.rf 4, (h.blkAt 0 rfl).cell 1, h.neAt 0 2 (by decide) rfl rfl⟩
  have hbk := fun (h : arg = 0) W (hW : On F w (AllA (BlkA w.heap.size 178 #[.int .i64 17, .int .i64 arg, .int .i64 lit, .int .i64 cells] :: BlkA ba 3 ac :: vL c g ({ x with next := arg }) src (s1))) W) => hW.callDrop 2 (by simp) fun F'' hb'' _ _ => v_back hb'' hs1 (h0 h)
  replace hlay := Lib.hid hlay
  replace hst := Lib.hid hst
  replace hbk := Lib.hid hbk
  clear hb hx hask hw2 hn hon hbx hz hroom hs1 hr1 hs
  by_cases hz : arg = 0
  · have ez : (arg == 0) = true := by simpa using hz
    rw [if_pos hz]
    have hbf : (back { x with next := arg } s1).f = 0 := by unfold back; rw [if_neg (by have := h0 hz; omega)]
    rw [hbf]
    have hbk := hbk.out hz
    show Calls _ _ _ _ (Got (.returned (.tuple #[])) _ _ _)
    generalize back { x with next := arg } s1 = R at *
    replace hbk := Lib.hid hbk
    clear hz h0 hbf
    go_enter Tryz.func114, Tryz.ntmps114
    go_wp2_with fail
    refine hlay.out.mono ?_
    rintro e w1 ⟨rfl, h⟩
    have h5 : On F w (AllA (BlkA w.heap.size 178 #[.int .i64 17, .int .i64 arg, .int .i64 lit, .int .i64 cells] :: BlkA ba 3 ac :: vL c g (x) src (s1))) w1 := h.tail
    obtain ⟨k4, z4, k1, hne⟩ := hst.out _ h5
    have h6 := h5.setAt 2 rfl 4 (.int .i64 arg)
    replace hbk := Lib.hid (hbk.out _ h6)
    clear h h5
    replace h6 := Lib.hid h6
    go_wp2_with fail
    refine hbk.out.mono ?_
    rintro e w2 ⟨rfl, h⟩
    replace h := Lib.hid h
    go_wp2
    go_end0
    exact ⟨rfl, h.out.tail⟩
  · have ez : (arg == 0) = false := by simpa using hz
    rw [if_neg hz]
    clear hz h0 hbk
    show Calls _ _ _ _ (Got (.returned (.tuple #[])) _ _ _)
    go_enter Tryz.func114, Tryz.ntmps114
    go_wp2_with fail
    refine hlay.out.mono ?_
    rintro e w1 ⟨rfl, h⟩
    have h5 : On F w (AllA (BlkA w.heap.size 178 #[.int .i64 17, .int .i64 arg, .int .i64 lit, .int .i64 cells] :: BlkA ba 3 ac :: vL c g (x) src (s1))) w1 := h.tail
    obtain ⟨k4, z4, k1, hne⟩ := hst.out _ h5
    have h6 := h5.setAt 2 rfl 4 (.int .i64 arg)
    clear h h5
    replace h6 := Lib.hid h6
    go_wp2
    go_end0
    exact ⟨rfl, h6.out.tail⟩
set_option maxHeartbeats 1000000 in
theorem ctl_text (arg lit cells : Int) : PartOk 114 ⟨19, arg, lit, cells⟩ (fun x s => laysR 0 [wrap64 (x.pc + 8), arg] x s) := by
  intro c g x src s ba w F hs hx hv1 hv2 hask hb
  have hw2 : (Code.wants 19).1.toNat = 0 := by decide
  have hn : 0 ≤ s.d := by
    have h := hask.tk
    have e : (Code.wants 19).1 = 0 := by decide
    simp only [e] at h
    omega
  simp only [hw2] at hb ⊢
  have hon := (On.refl hb).box #[.int .i64 19, .int .i64 arg, .int .i64 lit, .int .i64 cells] 178
  have b0 : (w.alloc (.cells #[.int .i64 19, .int .i64 arg, .int .i64 lit, .int .i64 cells] 178)).cell? ⟨w.heap.size, 0, none⟩ = some (.int .i64 19) := (hon.blkAt 0 rfl).cell 0
  have b1 : (w.alloc (.cells #[.int .i64 19, .int .i64 arg, .int .i64 lit, .int .i64 cells] 178)).cell? ⟨w.heap.size, 1, none⟩ = some (.int .i64 arg) := (hon.blkAt 0 rfl).cell 1
  have hroom : 2 ≤ s.pd.rm - (s.d - 0) := by
    have h1 := hask.room
    have e1 : (Code.wants 19).1 = 0 := by decide
    have e2 : (Code.wants 19).2 = 2 := by decide
    simp [e1, e2] at h1
    omega
  have d3 := hon.tail.tail.r3
  have hbx := (hon.box #[.int .i64 (wrap64 (x.pc + 8)), .int .i64 arg] 3).drew
  have hz : (w.alloc (.cells #[.int .i64 19, .int .i64 arg, .int .i64 lit, .int .i64 cells] 178)).heap.size = w.heap.size + 1 := by simp
  rw [hz] at hbx
  have hlay := v_lays_under (c := c) (g := g) (x := x) (src := src) (s := s) 3 (by simp) rfl hbx hs 0 (Nat.zero_le _) [wrap64 (x.pc + 8), arg] (fun v hv => by
    simp only [List.mem_cons, List.mem_nil_iff, or_false] at hv
    rcases hv with rfl | rfl
    · exact wrap_v64 _
    · exact hv1) 0 (by omega) (w.heap.size + 1) rfl hroom
  have hf : (laysR 0 [wrap64 (x.pc + 8), arg] x s).f = 0 := lays_f hroom
  rw [hf]
  show Calls Tryz.prog 114 #[.pointer (some ⟨g, 0, none⟩), .agg #[.int .i64 19, .int .i64 arg, .int .i64 lit, .int .i64 cells], .slice (some ⟨ba, 0, none⟩) 0 0] w (Got (.returned (.tuple #[])) (AllA (BlkA ba 3 (intsC (s.args 0)) :: vL c g (x) src ((s.lays 0 [wrap64 (x.pc + 8), arg]).2))) F w)
  generalize (s.lays 0 [wrap64 (x.pc + 8), arg]).2 = s1 at *
  generalize intsC (s.args 0) = ac at *
  have hlay : Calls Tryz.prog 115 #[.pointer (some ⟨g, 0, none⟩), .int .i64 0, .slice (some ⟨w.heap.size + 1, 0, none⟩) 2 2] ((w.alloc (.cells #[.int .i64 19, .int .i64 arg, .int .i64 lit, .int .i64 cells] 178)).alloc (.cells #[.int .i64 (IntKind.i64.wrap (x.pc + 8)), .int .i64 arg] 3)).drew (Got (.returned (.tuple #[])) (AllA (BlkA (w.heap.size + 1) 3 #[.int .i64 (wrap64 (x.pc + 8)), .int .i64 arg] :: BlkA w.heap.size 178 #[.int .i64 19, .int .i64 arg, .int .i64 lit, .int .i64 cells] :: BlkA ba 3 ac :: vL c g x src s1)) F w) := by
    rw [IntWalk.i64_left]
    exact hlay
  replace hlay := Lib.hid hlay
  clear hb hs hx hask hw2 hn hz hbx hroom hf hon
  go_enter Tryz.func114, Tryz.ntmps114
  go_wp2_with fail
  go_region_held (fun w' => w'.cell? ⟨g, 3, none⟩ = some (.int .i64 x.pc) ∧ w'.cell? ⟨w.heap.size, 1, none⟩ = some (.int .i64 arg)) (go_keep)
    ((go_at_call 115; refine hlay.out.mono ?_; rintro e w1 ⟨rfl, h⟩; have h5 : On F w (AllA (BlkA (w.heap.size + 1) 3 #[.int .i64 (wrap64 (x.pc + 8)), .int .i64 arg] :: BlkA w.heap.size 178 #[.int .i64 19, .int .i64 arg, .int .i64 lit, .int .i64 cells] :: BlkA ba 3 ac :: vL c g x src s1)) w1 := h; have n3 := h5.tail.tail.tail.r3; have n1 : w1.cell? ⟨w.heap.size, 1, none⟩ = some (.int .i64 arg) := (h5.blkAt 1 rfl).cell 1; replace h5 := Lib.hid h5; clear h))
  go_wp2
  go_end0
  exact ⟨rfl, h5.out.tail.tail⟩
set_option maxHeartbeats 1000000 in
theorem ctl_special (arg lit cells : Int) : PartOk 114 ⟨20, arg, lit, cells⟩ (fun x s => ⟨16, x, s⟩) := by
  intro c g x src s ba w F hs hx hv1 hv2 hask hb
  have hw2 : (Code.wants 20).1.toNat = 0 := by decide
  have hn : 0 ≤ s.d := by
    have h := hask.tk
    have e : (Code.wants 20).1 = 0 := by decide
    simp only [e] at h
    omega
  simp only [hw2] at hb ⊢
  have hon := (On.refl hb).box #[.int .i64 20, .int .i64 arg, .int .i64 lit, .int .i64 cells] 178
  have b0 : (w.alloc (.cells #[.int .i64 20, .int .i64 arg, .int .i64 lit, .int .i64 cells] 178)).cell? ⟨w.heap.size, 0, none⟩ = some (.int .i64 20) := (hon.blkAt 0 rfl).cell 0
  have b1 : (w.alloc (.cells #[.int .i64 20, .int .i64 arg, .int .i64 lit, .int .i64 cells] 178)).cell? ⟨w.heap.size, 1, none⟩ = some (.int .i64 arg) := (hon.blkAt 0 rfl).cell 1
  show Calls Tryz.prog 114 #[.pointer (some ⟨g, 0, none⟩), .agg #[.int .i64 20, .int .i64 arg, .int .i64 lit, .int .i64 cells], .slice (some ⟨ba, 0, none⟩) 0 0] w (Got (.panicked [flt 16]) (AllA (BlkA ba 3 (intsC (s.args 0)) :: vL c g (x) src (s))) F w)
  generalize intsC (s.args 0) = ac at *
  replace hon := Lib.hid hon
  clear hb hs hx hask hw2 hn
  go_enter Tryz.func114, Tryz.ntmps114
  go_wp2
  exact ⟨rfl, rfl, hon.out.tail⟩
end Vm
end Go.Proofs.YtjhdpmimccpcdaaGreatDoor
