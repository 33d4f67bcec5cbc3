/- Chapter 11: what works on the return stack. Conditions: all was asked. Printed by gen_vops.py. -/
import Derived.Test.YtjhdpmimccpcdaaGreatDoorT19
import Derived.BigQuiet
namespace Go.Proofs.YtjhdpmimccpcdaaGreatDoor
set_option linter.unusedVariables false
set_option linter.unusedSimpArgs false
set_option maxRecDepth 100000
open Go.RowKit Go.Lib Go.Deep
namespace Vm
section
variable {w w' : World} {F : Nat → Prop} {c : Vc} {g : Nat} {x : Rn} {src : Value} {s : Mt}
theorem v_pokeR (h : On F w (VA c g x src s) w') (hs : s.Ok) (h0 : 0 < s.r) (v : Int) (hv : V64 v) : Calls Tryz.prog 243 #[.pointer (some ⟨c.gR, 0, none⟩), .int .i64 0, .int .i64 v] w' (Got (.returned (.int .i64 0)) (VA c g x src (s.pokeR 0 v)) F w) :=
  h.callAt2G 4 2 (by decide) rfl rfl fun F' ha => k_poke ha hs.pr 0 h0 hs.r v hv
theorem pokeR_ok (hs : s.Ok) (n : Nat) (v : Int) : (s.pokeR n v).Ok := ⟨hs.pd, hs.pr, hs.d, hs.r, hs.du, hs.dv, hs.ru, hs.rv⟩
theorem wr_sub (n : Nat) (k : Nat) (hk : k ≤ n) (hn : n ≤ 17920) : IntKind.i64.wrap ((n : Int) - (k : Int)) = ((n - k : Nat) : Int) := by rw [IntWalk.i64_in _ (by omega)]; omega
set_option maxHeartbeats 1000000 in
theorem v_turn (hb : (VA c g x src s).holds w F) (hs : s.Ok) (h0 : 2 ≤ s.r) (n at_ : Int) (hv : V64 n) (ends : Bool) : Calls Tryz.prog 197 #[.pointer (some ⟨g, 0, none⟩), .int .i64 n, .bool ends, .int .i64 at_] w (Got (.returned (.tuple #[])) (VA c g (turn n ends at_ x s).x src (turn n ends at_ x s).s) F w) := by
  have hon := On.refl hb
  have r0 := hon.r0
  have m6 := hon.m6
  cases ends with
  | true =>
    have hdep := k_depth hon.drew.sr
    have hcut := v_cutR hon.drew hs (s.r - 2) (by omega)
    rw [← wr_sub s.r 2 h0 hs.rle] at hcut
    show Calls _ _ _ _ (Got _ (VA c g x src (s.cutR (s.r - 2))) _ _)
    generalize s.cutR (s.r - 2) = s1 at *
    generalize s.r = d at *
    replace hdep := Lib.hid hdep
    replace hcut := Lib.hid hcut
    clear hb hs hon h0
    go_enter Tryz.func197, Tryz.ntmps197
    go_wp2_with fail
    go_region_held (fun w' => w'.cell? ⟨g, 0, none⟩ = some (.pointer (some ⟨c.gM, 0, none⟩)) ∧ w'.cell? ⟨c.gM, 6, none⟩ = some (.pointer (some ⟨c.gR, 0, none⟩))) (go_keep)
      ((first
        | (go_at_call 17; refine hdep.out.mono ?_; rintro e w1 ⟨rfl, rfl⟩)
        | (go_at_call 147; refine hcut.out.mono ?_; rintro e w1 ⟨rfl, h⟩; have k0 := h.r0; have k5 := h.m6; replace h := Lib.hid h)))
    all_goals go_wp2
    all_goals go_end0
    all_goals exact ⟨rfl, h.out⟩
  | false =>
    have hpoke := v_pokeR hon hs (by omega) n hv
    show Calls _ _ _ _ (Got _ (VA c g { x with next := at_ } src (s.pokeR 0 n)) _ _)
    generalize s.pokeR 0 n = s1 at *
    replace hpoke := Lib.hid hpoke
    clear hb hs hon h0 hv
    go_enter Tryz.func197, Tryz.ntmps197
    go_wp2_with fail
    refine hpoke.out.mono ?_
    rintro e w1 ⟨rfl, h⟩
    have k4 := h.r4
    have f4 := h.rf 4
    have h2 := h.setNext at_
    replace h2 := Lib.hid h2
    clear h
    go_wp2
    go_end0
    exact ⟨rfl, h2.out⟩
theorem ar20 (s : Mt) : ar s 2 0 = s.top 1 ∧ ar s 2 1 = s.top 0 := by
  unfold ar Mt.args
  exact ⟨rfl, rfl⟩
end
set_option maxHeartbeats 1000000 in
theorem lp_do (arg lit cells : Int) : PartOk 146 ⟨6, arg, lit, cells⟩ (fun x s => ⟨0, x, ((s.lays 2 []).2).pushR (s.args 2)⟩) := by
  intro c g x src s ba w F hs hx hv1 hv2 hask hb
  have hw2 : (Code.wants 6).1.toNat = 2 := by decide
  have hn : 2 ≤ s.d := by
    have h := hask.tk
    have e : (Code.wants 6).1 = 2 := by decide
    simp only [e] at h
    omega
  simp only [hw2] at hb ⊢
  have hon := (On.refl hb).box #[.int .i64 6, .int .i64 arg, .int .i64 lit, .int .i64 cells] 178
  have b0 : (w.alloc (.cells #[.int .i64 6, .int .i64 arg, .int .i64 lit, .int .i64 cells] 178)).cell? ⟨w.heap.size, 0, none⟩ = some (.int .i64 6) := (hon.blkAt 0 rfl).cell 0
  have b1 : (w.alloc (.cells #[.int .i64 6, .int .i64 arg, .int .i64 lit, .int .i64 cells] 178)).cell? ⟨w.heap.size, 1, none⟩ = some (.int .i64 arg) := (hon.blkAt 0 rfl).cell 1
  obtain ⟨f0, hf0⟩ : ∃ f : Int, (if hasB s.r 0 then (0 : Int) else s.pr.un) = f := ⟨_, rfl⟩
  obtain ⟨f1, hf1⟩ : ∃ f : Int, (if hasB s.r 1 then (0 : Int) else s.pr.un) = f := ⟨_, rfl⟩
  have hpk0 : ∀ W, On F w (AllA (BlkA w.heap.size 178 #[.int .i64 6, .int .i64 arg, .int .i64 lit, .int .i64 cells] :: BlkA ba 3 (intsC (s.args 2)) :: vL c g x src s)) W → Calls Tryz.prog 25 #[.pointer (some ⟨c.gR, 0, none⟩), .int .i64 0] W (Quiet (.tuple #[.int .i64 (s.rtop 0), .int .i64 f0]) W) := fun W h => by
    obtain ⟨gb, hi⟩ := h.tail.tail.im
    have h1 := k_peek h.tail.tail.sr hi hs.pr hs.rle 0
    unfold peekV at h1
    rw [hf0] at h1
    exact h1
  have hpk1 : ∀ W, On F w (AllA (BlkA w.heap.size 178 #[.int .i64 6, .int .i64 arg, .int .i64 lit, .int .i64 cells] :: BlkA ba 3 (intsC (s.args 2)) :: vL c g x src s)) W → Calls Tryz.prog 25 #[.pointer (some ⟨c.gR, 0, none⟩), .int .i64 1] W (Quiet (.tuple #[.int .i64 (s.rtop 1), .int .i64 f1]) W) := fun W h => by
    obtain ⟨gb, hi⟩ := h.tail.tail.im
    have h1 := k_peek h.tail.tail.sr hi hs.pr hs.rle 1
    unfold peekV at h1
    rw [hf1] at h1
    exact h1
  have hcl : ∀ W, On F w (AllA (BlkA w.heap.size 178 #[.int .i64 6, .int .i64 arg, .int .i64 lit, .int .i64 cells] :: BlkA ba 3 (intsC (s.args 2)) :: vL c g x src s)) W → W.cell? ⟨g, 0, none⟩ = some (.pointer (some ⟨c.gM, 0, none⟩)) ∧ W.cell? ⟨c.gM, 6, none⟩ = some (.pointer (some ⟨c.gR, 0, none⟩)) ∧ W.cell? ⟨w.heap.size, 0, none⟩ = some (.int .i64 6) ∧ W.cell? ⟨w.heap.size, 1, none⟩ = some (.int .i64 arg) := fun W h => ⟨h.tail.tail.r0, h.tail.tail.m6, (h.blkAt 0 rfl).cell 0, (h.blkAt 0 rfl).cell 1⟩
  have hrv0 : V64 (s.rtop 0) := stopv_v64 _ _ _ _
  show Calls Tryz.prog 146 #[.pointer (some ⟨g, 0, none⟩), .agg #[.int .i64 6, .int .i64 arg, .int .i64 lit, .int .i64 cells], .slice (some ⟨ba, 0, none⟩) 2 2] w (Got (.returned (.tuple #[])) (AllA (BlkA ba 3 (intsC (s.args 2)) :: vL c g (x) src (((s.lays 2 []).2).pushR (s.args 2)))) F w)
  have hroom : 2 ≤ s.pr.rm - s.r := by
    have h := hask.rroom
    have e : returns 6 arg s.same = (0, 2) := rfl
    simp only [e] at h
    omega
  have hs1 : (s.lays 2 []).2.Ok := by
    unfold Mt.lays
    rw [if_neg (by simp)]
    exact pushD_ok (cutD_ok hs (s.d - 2) (by omega)) _ (by simp)
  have hr1 : (s.lays 2 []).2.r = s.r ∧ (s.lays 2 []).2.pr = s.pr := by unfold Mt.lays; split <;> exact ⟨rfl, rfl⟩
  rw [← hr1.1, ← hr1.2] at hroom
  have hlay := fun W (h : On F w (AllA (BlkA w.heap.size 178 #[.int .i64 6, .int .i64 arg, .int .i64 lit, .int .i64 cells] :: BlkA ba 3 (intsC (s.args 2)) :: vL c g (x) src (s))) W) => v_lays_nil (c := c) (g := g) (x := x) (src := src) (s := s) 2 (by simp) rfl h hs 2 hn
  generalize (s.lays 2 []).2 = s1 at *
  have hpush := fun W (h : On F w (AllA (BlkA w.heap.size 178 #[.int .i64 6, .int .i64 arg, .int .i64 lit, .int .i64 cells] :: BlkA ba 3 (intsC (s.args 2)) :: vL c g (x) src (s1))) W) => v_pushR_row (c := c) (g := g) (x := x) (src := src) (s := s1) 2 (by simp) rfl h hs1 (s.args 2) (args_v64 s 2) 1 (by omega) ba rfl 2 (args_len s 2).symm (by rw [args_len]; exact hroom)
  have hc1 : ∀ W, On F w (AllA (BlkA w.heap.size 178 #[.int .i64 6, .int .i64 arg, .int .i64 lit, .int .i64 cells] :: BlkA ba 3 (intsC (s.args 2)) :: vL c g (x) src (s1))) W → W.cell? ⟨g, 0, none⟩ = some (.pointer (some ⟨c.gM, 0, none⟩)) ∧ W.cell? ⟨c.gM, 6, none⟩ = some (.pointer (some ⟨c.gR, 0, none⟩)) := fun W h => ⟨h.tail.tail.r0, h.tail.tail.m6⟩
  generalize s1.pushR (s.args 2) = s2 at *
  generalize intsC (s.args 2) = ac at *
  replace hlay := Lib.hid hlay
  replace hpush := Lib.hid hpush
  replace hc1 := Lib.hid hc1
  replace hpk0 := Lib.hid hpk0
  replace hpk1 := Lib.hid hpk1
  replace hcl := Lib.hid hcl
  replace hon := Lib.hid hon
  clear hb hx hask hw2 hn hf0 hf1 hs
  clear hroom hs1 hr1
  go_enter Tryz.func146, Tryz.ntmps146
  obtain ⟨d0, d6, d1, d2⟩ := hcl.out _ hon.out
  go_wp2_with fail
  refine (hpk0.out _ hon.out).mono ?_
  rintro e w1 ⟨rfl, hB⟩
  have hon1 := hon.out.below hB
  obtain ⟨d01, d61, d11, d21⟩ := hcl.out _ hon1
  clear d0 d6 d1 d2 b0 b1 hB
  replace hon1 := Lib.hid hon1
  go_wp2_with fail
  refine (hpk1.out _ hon1.out).mono ?_
  rintro e w2 ⟨rfl, hB⟩
  have hon2 := hon1.out.below hB
  obtain ⟨d02, d62, d12, d22⟩ := hcl.out _ hon2
  clear d01 d61 d11 d21 hB hon1 hpk0 hpk1
  replace hon2 := Lib.hid hon2
  go_wp2_with fail
  refine (hlay.out _ hon2.out).mono ?_
  rintro e w3 ⟨rfl, h⟩
  have h5 : On F w (AllA (BlkA w.heap.size 178 #[.int .i64 6, .int .i64 arg, .int .i64 lit, .int .i64 cells] :: BlkA ba 3 ac :: vL c g (x) src (s1))) w3 := h
  obtain ⟨k0, k6⟩ := hc1.out _ h5
  replace hpush := Lib.hid (hpush.out _ h5)
  clear h h5 d02 d62 d12 d22
  go_wp2_with fail
  refine hpush.out.mono ?_
  rintro e w4 ⟨rfl, h⟩
  replace h := Lib.hid h
  go_wp2
  go_end0
  exact ⟨rfl, h.out.tail⟩
set_option maxHeartbeats 1000000 in
theorem lp_tor (arg lit cells : Int) : PartOk 146 ⟨13, arg, lit, cells⟩ (fun x s => ⟨0, x, ((s.lays 1 []).2).pushR (s.args 1)⟩) := by
  intro c g x src s ba w F hs hx hv1 hv2 hask hb
  have hw2 : (Code.wants 13).1.toNat = 1 := by decide
  have hn : 1 ≤ s.d := by
    have h := hask.tk
    have e : (Code.wants 13).1 = 1 := by decide
    simp only [e] at h
    omega
  simp only [hw2] at hb ⊢
  have hon := (On.refl hb).box #[.int .i64 13, .int .i64 arg, .int .i64 lit, .int .i64 cells] 178
  have b0 : (w.alloc (.cells #[.int .i64 13, .int .i64 arg, .int .i64 lit, .int .i64 cells] 178)).cell? ⟨w.heap.size, 0, none⟩ = some (.int .i64 13) := (hon.blkAt 0 rfl).cell 0
  have b1 : (w.alloc (.cells #[.int .i64 13, .int .i64 arg, .int .i64 lit, .int .i64 cells] 178)).cell? ⟨w.heap.size, 1, none⟩ = some (.int .i64 arg) := (hon.blkAt 0 rfl).cell 1
  obtain ⟨f0, hf0⟩ : ∃ f : Int, (if hasB s.r 0 then (0 : Int) else s.pr.un) = f := ⟨_, rfl⟩
  obtain ⟨f1, hf1⟩ : ∃ f : Int, (if hasB s.r 1 then (0 : Int) else s.pr.un) = f := ⟨_, rfl⟩
  have hpk0 : ∀ W, On F w (AllA (BlkA w.heap.size 178 #[.int .i64 13, .int .i64 arg, .int .i64 lit, .int .i64 cells] :: BlkA ba 3 (intsC (s.args 1)) :: vL c g x src s)) W → Calls Tryz.prog 25 #[.pointer (some ⟨c.gR, 0, none⟩), .int .i64 0] W (Quiet (.tuple #[.int .i64 (s.rtop 0), .int .i64 f0]) W) := fun W h => by
    obtain ⟨gb, hi⟩ := h.tail.tail.im
    have h1 := k_peek h.tail.tail.sr hi hs.pr hs.rle 0
    unfold peekV at h1
    rw [hf0] at h1
    exact h1
  have hpk1 : ∀ W, On F w (AllA (BlkA w.heap.size 178 #[.int .i64 13, .int .i64 arg, .int .i64 lit, .int .i64 cells] :: BlkA ba 3 (intsC (s.args 1)) :: vL c g x src s)) W → Calls Tryz.prog 25 #[.pointer (some ⟨c.gR, 0, none⟩), .int .i64 1] W (Quiet (.tuple #[.int .i64 (s.rtop 1), .int .i64 f1]) W) := fun W h => by
    obtain ⟨gb, hi⟩ := h.tail.tail.im
    have h1 := k_peek h.tail.tail.sr hi hs.pr hs.rle 1
    unfold peekV at h1
    rw [hf1] at h1
    exact h1
  have hcl : ∀ W, On F w (AllA (BlkA w.heap.size 178 #[.int .i64 13, .int .i64 arg, .int .i64 lit, .int .i64 cells] :: BlkA ba 3 (intsC (s.args 1)) :: vL c g x src s)) W → W.cell? ⟨g, 0, none⟩ = some (.pointer (some ⟨c.gM, 0, none⟩)) ∧ W.cell? ⟨c.gM, 6, none⟩ = some (.pointer (some ⟨c.gR, 0, none⟩)) ∧ W.cell? ⟨w.heap.size, 0, none⟩ = some (.int .i64 13) ∧ W.cell? ⟨w.heap.size, 1, none⟩ = some (.int .i64 arg) := fun W h => ⟨h.tail.tail.r0, h.tail.tail.m6, (h.blkAt 0 rfl).cell 0, (h.blkAt 0 rfl).cell 1⟩
  have hrv0 : V64 (s.rtop 0) := stopv_v64 _ _ _ _
  show Calls Tryz.prog 146 #[.pointer (some ⟨g, 0, none⟩), .agg #[.int .i64 13, .int .i64 arg, .int .i64 lit, .int .i64 cells], .slice (some ⟨ba, 0, none⟩) 1 1] w (Got (.returned (.tuple #[])) (AllA (BlkA ba 3 (intsC (s.args 1)) :: vL c g (x) src (((s.lays 1 []).2).pushR (s.args 1)))) F w)
  have hroom : 1 ≤ s.pr.rm - s.r := by
    have h := hask.rroom
    have e : returns 13 arg s.same = (0, 1) := rfl
    simp only [e] at h
    omega
  have hs1 : (s.lays 1 []).2.Ok := by
    unfold Mt.lays
    rw [if_neg (by simp)]
    exact pushD_ok (cutD_ok hs (s.d - 1) (by omega)) _ (by simp)
  have hr1 : (s.lays 1 []).2.r = s.r ∧ (s.lays 1 []).2.pr = s.pr := by unfold Mt.lays; split <;> exact ⟨rfl, rfl⟩
  rw [← hr1.1, ← hr1.2] at hroom
  have hlay := fun W (h : On F w (AllA (BlkA w.heap.size 178 #[.int .i64 13, .int .i64 arg, .int .i64 lit, .int .i64 cells] :: BlkA ba 3 (intsC (s.args 1)) :: vL c g (x) src (s))) W) => v_lays_nil (c := c) (g := g) (x := x) (src := src) (s := s) 2 (by simp) rfl h hs 1 hn
  generalize (s.lays 1 []).2 = s1 at *
  have hpush := fun W (h : On F w (AllA (BlkA w.heap.size 178 #[.int .i64 13, .int .i64 arg, .int .i64 lit, .int .i64 cells] :: BlkA ba 3 (intsC (s.args 1)) :: vL c g (x) src (s1))) W) => v_pushR_row (c := c) (g := g) (x := x) (src := src) (s := s1) 2 (by simp) rfl h hs1 (s.args 1) (args_v64 s 1) 1 (by omega) ba rfl 1 (args_len s 1).symm (by rw [args_len]; exact hroom)
  have hc1 : ∀ W, On F w (AllA (BlkA w.heap.size 178 #[.int .i64 13, .int .i64 arg, .int .i64 lit, .int .i64 cells] :: BlkA ba 3 (intsC (s.args 1)) :: vL c g (x) src (s1))) W → W.cell? ⟨g, 0, none⟩ = some (.pointer (some ⟨c.gM, 0, none⟩)) ∧ W.cell? ⟨c.gM, 6, none⟩ = some (.pointer (some ⟨c.gR, 0, none⟩)) := fun W h => ⟨h.tail.tail.r0, h.tail.tail.m6⟩
  generalize s1.pushR (s.args 1) = s2 at *
  generalize intsC (s.args 1) = ac at *
  replace hlay := Lib.hid hlay
  replace hpush := Lib.hid hpush
  replace hc1 := Lib.hid hc1
  replace hpk0 := Lib.hid hpk0
  replace hpk1 := Lib.hid hpk1
  replace hcl := Lib.hid hcl
  replace hon := Lib.hid hon
  clear hb hx hask hw2 hn hf0 hf1 hs
  clear hroom hs1 hr1
  go_enter Tryz.func146, Tryz.ntmps146
  obtain ⟨d0, d6, d1, d2⟩ := hcl.out _ hon.out
  go_wp2_with fail
  refine (hpk0.out _ hon.out).mono ?_
  rintro e w1 ⟨rfl, hB⟩
  have hon1 := hon.out.below hB
  obtain ⟨d01, d61, d11, d21⟩ := hcl.out _ hon1
  clear d0 d6 d1 d2 b0 b1 hB
  replace hon1 := Lib.hid hon1
  go_wp2_with fail
  refine (hpk1.out _ hon1.out).mono ?_
  rintro e w2 ⟨rfl, hB⟩
  have hon2 := hon1.out.below hB
  obtain ⟨d02, d62, d12, d22⟩ := hcl.out _ hon2
  clear d01 d61 d11 d21 hB hon1 hpk0 hpk1
  replace hon2 := Lib.hid hon2
  go_wp2_with fail
  refine (hlay.out _ hon2.out).mono ?_
  rintro e w3 ⟨rfl, h⟩
  have h5 : On F w (AllA (BlkA w.heap.size 178 #[.int .i64 13, .int .i64 arg, .int .i64 lit, .int .i64 cells] :: BlkA ba 3 ac :: vL c g (x) src (s1))) w3 := h
  obtain ⟨k0, k6⟩ := hc1.out _ h5
  replace hpush := Lib.hid (hpush.out _ h5)
  clear h h5 d02 d62 d12 d22
  go_wp2_with fail
  refine hpush.out.mono ?_
  rintro e w4 ⟨rfl, h⟩
  replace h := Lib.hid h
  go_wp2
  go_end0
  exact ⟨rfl, h.out.tail⟩
set_option maxHeartbeats 1000000 in
theorem lp_qdo (arg lit cells : Int) : PartOk 146 ⟨7, arg, lit, cells⟩ (fun x s => if ar s 2 0 = ar s 2 1 then ⟨0, { x with next := arg }, (s.lays 2 []).2⟩ else ⟨0, x, ((s.lays 2 []).2).pushR (s.args 2)⟩) := by
  intro c g x src s ba w F hs hx hv1 hv2 hask hb
  have hw2 : (Code.wants 7).1.toNat = 2 := by decide
  have hn : 2 ≤ s.d := by
    have h := hask.tk
    have e : (Code.wants 7).1 = 2 := by decide
    simp only [e] at h
    omega
  simp only [hw2] at hb ⊢
  have hon := (On.refl hb).box #[.int .i64 7, .int .i64 arg, .int .i64 lit, .int .i64 cells] 178
  have b0 : (w.alloc (.cells #[.int .i64 7, .int .i64 arg, .int .i64 lit, .int .i64 cells] 178)).cell? ⟨w.heap.size, 0, none⟩ = some (.int .i64 7) := (hon.blkAt 0 rfl).cell 0
  have b1 : (w.alloc (.cells #[.int .i64 7, .int .i64 arg, .int .i64 lit, .int .i64 cells] 178)).cell? ⟨w.heap.size, 1, none⟩ = some (.int .i64 arg) := (hon.blkAt 0 rfl).cell 1
  obtain ⟨f0, hf0⟩ : ∃ f : Int, (if hasB s.r 0 then (0 : Int) else s.pr.un) = f := ⟨_, rfl⟩
  obtain ⟨f1, hf1⟩ : ∃ f : Int, (if hasB s.r 1 then (0 : Int) else s.pr.un) = f := ⟨_, rfl⟩
  have hpk0 : ∀ W, On F w (AllA (BlkA w.heap.size 178 #[.int .i64 7, .int .i64 arg, .int .i64 lit, .int .i64 cells] :: BlkA ba 3 (intsC (s.args 2)) :: vL c g x src s)) W → Calls Tryz.prog 25 #[.pointer (some ⟨c.gR, 0, none⟩), .int .i64 0] W (Quiet (.tuple #[.int .i64 (s.rtop 0), .int .i64 f0]) W) := fun W h => by
    obtain ⟨gb, hi⟩ := h.tail.tail.im
    have h1 := k_peek h.tail.tail.sr hi hs.pr hs.rle 0
    unfold peekV at h1
    rw [hf0] at h1
    exact h1
  have hpk1 : ∀ W, On F w (AllA (BlkA w.heap.size 178 #[.int .i64 7, .int .i64 arg, .int .i64 lit, .int .i64 cells] :: BlkA ba 3 (intsC (s.args 2)) :: vL c g x src s)) W → Calls Tryz.prog 25 #[.pointer (some ⟨c.gR, 0, none⟩), .int .i64 1] W (Quiet (.tuple #[.int .i64 (s.rtop 1), .int .i64 f1]) W) := fun W h => by
    obtain ⟨gb, hi⟩ := h.tail.tail.im
    have h1 := k_peek h.tail.tail.sr hi hs.pr hs.rle 1
    unfold peekV at h1
    rw [hf1] at h1
    exact h1
  have hcl : ∀ W, On F w (AllA (BlkA w.heap.size 178 #[.int .i64 7, .int .i64 arg, .int .i64 lit, .int .i64 cells] :: BlkA ba 3 (intsC (s.args 2)) :: vL c g x src s)) W → W.cell? ⟨g, 0, none⟩ = some (.pointer (some ⟨c.gM, 0, none⟩)) ∧ W.cell? ⟨c.gM, 6, none⟩ = some (.pointer (some ⟨c.gR, 0, none⟩)) ∧ W.cell? ⟨w.heap.size, 0, none⟩ = some (.int .i64 7) ∧ W.cell? ⟨w.heap.size, 1, none⟩ = some (.int .i64 arg) := fun W h => ⟨h.tail.tail.r0, h.tail.tail.m6, (h.blkAt 0 rfl).cell 0, (h.blkAt 0 rfl).cell 1⟩
  have hrv0 : V64 (s.rtop 0) := stopv_v64 _ _ _ _
  have hs1 : (s.lays 2 []).2.Ok := by
    unfold Mt.lays
    rw [if_neg (by simp)]
    exact pushD_ok (cutD_ok hs (s.d - 2) (by omega)) _ (by simp)
  have hr1 : (s.lays 2 []).2.r = s.r ∧ (s.lays 2 []).2.pr = s.pr := by unfold Mt.lays; split <;> exact ⟨rfl, rfl⟩
  have ha0 : ∀ W, Blk W ba 3 (intsC (s.args 2)) → W.cell? ⟨ba, 0, none⟩ = some (.int .i64 (ar s 2 0)) := fun W hW => row_get hW (by omega)
  have ha1 : ∀ W, Blk W ba 3 (intsC (s.args 2)) → W.cell? ⟨ba, 1, none⟩ = some (.int .i64 (ar s 2 1)) := fun W hW => row_get hW (by omega)
  have hroom : ar s 2 0 ≠ ar s 2 1 → 2 ≤ (s.lays 2 []).2.pr.rm - (s.lays 2 []).2.r := fun hne => by
    have h := hask.rroom
    have e : returns 7 arg s.same = (0, 2) := by
      have h2 : s.same = false := by
        unfold Mt.same
        rw [(ar20 s).1, (ar20 s).2] at hne
        simpa using fun h => hne h.symm
      rw [h2]
      rfl
    simp only [e] at h
    rw [hr1.1, hr1.2]
    omega
  have hlay := fun W (h : On F w (AllA (BlkA w.heap.size 178 #[.int .i64 7, .int .i64 arg, .int .i64 lit, .int .i64 cells] :: BlkA ba 3 (intsC (s.args 2)) :: vL c g (x) src (s))) W) => v_lays_nil (c := c) (g := g) (x := x) (src := src) (s := s) 2 (by simp) rfl h hs 2 hn
  generalize (s.lays 2 []).2 = s1 at *
  have hpush := fun (hne : ar s 2 0 ≠ ar s 2 1) W (h : On F w (AllA (BlkA w.heap.size 178 #[.int .i64 7, .int .i64 arg, .int .i64 lit, .int .i64 cells] :: BlkA ba 3 (intsC (s.args 2)) :: vL c g (x) src (s1))) W) => v_pushR_row (c := c) (g := g) (x := x) (src := src) (s := s1) 2 (by simp) rfl h hs1 (s.args 2) (args_v64 s 2) 1 (by omega) ba rfl 2 (args_len s 2).symm (by rw [args_len]; exact hroom hne)
  have hc1 : ∀ W, On F w (AllA (BlkA w.heap.size 178 #[.int .i64 7, .int .i64 arg, .int .i64 lit, .int .i64 cells] :: BlkA ba 3 (intsC (s.args 2)) :: vL c g (x) src (s1))) W → W.cell? ⟨g, 0, none⟩ = some (.pointer (some ⟨c.gM, 0, none⟩)) ∧ W.cell? ⟨c.gM, 6, none⟩ = some (.pointer (some ⟨c.gR, 0, none⟩)) ∧ W.cell? ⟨ba, 0, none⟩ = some (.int .i64 (ar s 2 0)) ∧ W.cell? ⟨ba, 1, none⟩ = some (.int .i64 (ar s 2 1)) ∧ W.cell? ⟨g, 4, none⟩ = some (.int .i64 x.next) ∧ W.frozen? ⟨g, 4, none⟩ = false ∧ W.cell? ⟨w.heap.size, 1, none⟩ = some (.int .i64 arg) := fun W h => ⟨h.tail.tail.r0, h.tail.tail.m6, ha0 _ (h.blkAt 1 rfl), ha1 _ (h.blkAt 1 rfl), h.tail.tail.r4, h.tail.tail.rf 4, (h.blkAt 0 rfl).cell 1⟩
  show Calls Tryz.prog 146 #[.pointer (some ⟨g, 0, none⟩), .agg #[.int .i64 7, .int .i64 arg, .int .i64 lit, .int .i64 cells], .slice (some ⟨ba, 0, none⟩) 2 2] w (Got (tryE (if ar s 2 0 = ar s 2 1 then (⟨0, { x with next := arg }, s1⟩ : Rs) else ⟨0, x, s1.pushR (s.args 2)⟩).f) (AllA (BlkA ba 3 (intsC (s.args 2)) :: vL c g (if ar s 2 0 = ar s 2 1 then (⟨0, { x with next := arg }, s1⟩ : Rs) else ⟨0, x, s1.pushR (s.args 2)⟩).x src (if ar s 2 0 = ar s 2 1 then (⟨0, { x with next := arg }, s1⟩ : Rs) else ⟨0, x, s1.pushR (s.args 2)⟩).s)) F w)
  generalize s1.pushR (s.args 2) = s2 at *
  generalize intsC (s.args 2) = ac at *
  clear ha0 ha1 hroom hs1 hr1
  generalize ar s 2 0 = A0 at *
  generalize ar s 2 1 = A1 at *
  replace hlay := Lib.hid hlay
  replace hpush := Lib.hid hpush
  replace hc1 := Lib.hid hc1
  replace hpk0 := Lib.hid hpk0
  replace hpk1 := Lib.hid hpk1
  replace hcl := Lib.hid hcl
  replace hon := Lib.hid hon
  clear hb hx hask hw2 hn hf0 hf1 hs
  by_cases hz : A0 = A1
  · rw [if_pos hz]
    have ez : (A0 == A1) = true := by simpa using hz
    clear hz
    show Calls _ _ _ _ (Got (.returned (.tuple #[])) _ _ _)
    go_enter Tryz.func146, Tryz.ntmps146
    obtain ⟨d0, d6, d1, d2⟩ := hcl.out _ hon.out
    go_wp2_with fail
    refine (hpk0.out _ hon.out).mono ?_
    rintro e w1 ⟨rfl, hB⟩
    have hon1 := hon.out.below hB
    obtain ⟨d01, d61, d11, d21⟩ := hcl.out _ hon1
    clear d0 d6 d1 d2 b0 b1 hB
    replace hon1 := Lib.hid hon1
    go_wp2_with fail
    refine (hpk1.out _ hon1.out).mono ?_
    rintro e w2 ⟨rfl, hB⟩
    have hon2 := hon1.out.below hB
    obtain ⟨d02, d62, d12, d22⟩ := hcl.out _ hon2
    clear d01 d61 d11 d21 hB hon1 hpk0 hpk1
    replace hon2 := Lib.hid hon2
    go_wp2_with fail
    refine (hlay.out _ hon2.out).mono ?_
    rintro e w3 ⟨rfl, h⟩
    have h5 : On F w (AllA (BlkA w.heap.size 178 #[.int .i64 7, .int .i64 arg, .int .i64 lit, .int .i64 cells] :: BlkA ba 3 ac :: vL c g (x) src (s1))) w3 := h
    obtain ⟨k0, k6, ka, kb, k4, z4, k1⟩ := hc1.out _ h5
    have h6 := fun n => (h5.drewN n).setAt 2 rfl 4 (.int .i64 arg)
    clear h h5 d02 d62 d12 d22
    replace h6 := Lib.hid h6
    go_wp2_with fail
    go_quiet (fail)
    go_wp2
    go_end0
    exact ⟨rfl, (h6.out _).tail⟩
  · rw [if_neg hz]
    have ez : (A0 == A1) = false := by simpa using hz
    replace hpush := Lib.hid (hpush.out hz)
    clear hz
    show Calls _ _ _ _ (Got (.returned (.tuple #[])) _ _ _)
    go_enter Tryz.func146, Tryz.ntmps146
    obtain ⟨d0, d6, d1, d2⟩ := hcl.out _ hon.out
    go_wp2_with fail
    refine (hpk0.out _ hon.out).mono ?_
    rintro e w1 ⟨rfl, hB⟩
    have hon1 := hon.out.below hB
    obtain ⟨d01, d61, d11, d21⟩ := hcl.out _ hon1
    clear d0 d6 d1 d2 b0 b1 hB
    replace hon1 := Lib.hid hon1
    go_wp2_with fail
    refine (hpk1.out _ hon1.out).mono ?_
    rintro e w2 ⟨rfl, hB⟩
    have hon2 := hon1.out.below hB
    obtain ⟨d02, d62, d12, d22⟩ := hcl.out _ hon2
    clear d01 d61 d11 d21 hB hon1 hpk0 hpk1
    replace hon2 := Lib.hid hon2
    go_wp2_with fail
    refine (hlay.out _ hon2.out).mono ?_
    rintro e w3 ⟨rfl, h⟩
    have h5 : On F w (AllA (BlkA w.heap.size 178 #[.int .i64 7, .int .i64 arg, .int .i64 lit, .int .i64 cells] :: BlkA ba 3 ac :: vL c g (x) src (s1))) w3 := h
    obtain ⟨k0, k6, ka, kb, k4, z4, k1⟩ := hc1.out _ h5
    replace hpush := Lib.hid (fun n => hpush.out _ (h5.drewN n))
    clear h h5 d02 d62 d12 d22
    go_wp2_with fail
    go_quiet (fail)
    go_wp2_with fail
    refine (hpush.out _).mono ?_
    rintro e w4 ⟨rfl, h⟩
    replace h := Lib.hid h
    go_wp2
    go_end0
    exact ⟨rfl, h.out.tail⟩
set_option maxHeartbeats 1000000 in
theorem lp_loop (arg lit cells : Int) : PartOk 146 ⟨8, arg, lit, cells⟩ (fun x s => turn (wrap64 (s.rtop 0 + 1)) (wrap64 (s.rtop 0 + 1) == s.rtop 1) arg x s) := by
  intro c g x src s ba w F hs hx hv1 hv2 hask hb
  have hw2 : (Code.wants 8).1.toNat = 0 := by decide
  have hn : 0 ≤ s.d := by
    have h := hask.tk
    have e : (Code.wants 8).1 = 0 := by decide
    simp only [e] at h
    omega
  simp only [hw2] at hb ⊢
  have hon := (On.refl hb).box #[.int .i64 8, .int .i64 arg, .int .i64 lit, .int .i64 cells] 178
  have b0 : (w.alloc (.cells #[.int .i64 8, .int .i64 arg, .int .i64 lit, .int .i64 cells] 178)).cell? ⟨w.heap.size, 0, none⟩ = some (.int .i64 8) := (hon.blkAt 0 rfl).cell 0
  have b1 : (w.alloc (.cells #[.int .i64 8, .int .i64 arg, .int .i64 lit, .int .i64 cells] 178)).cell? ⟨w.heap.size, 1, none⟩ = some (.int .i64 arg) := (hon.blkAt 0 rfl).cell 1
  obtain ⟨f0, hf0⟩ : ∃ f : Int, (if hasB s.r 0 then (0 : Int) else s.pr.un) = f := ⟨_, rfl⟩
  obtain ⟨f1, hf1⟩ : ∃ f : Int, (if hasB s.r 1 then (0 : Int) else s.pr.un) = f := ⟨_, rfl⟩
  have hpk0 : ∀ W, On F w (AllA (BlkA w.heap.size 178 #[.int .i64 8, .int .i64 arg, .int .i64 lit, .int .i64 cells] :: BlkA ba 3 (intsC (s.args 0)) :: vL c g x src s)) W → Calls Tryz.prog 25 #[.pointer (some ⟨c.gR, 0, none⟩), .int .i64 0] W (Quiet (.tuple #[.int .i64 (s.rtop 0), .int .i64 f0]) W) := fun W h => by
    obtain ⟨gb, hi⟩ := h.tail.tail.im
    have h1 := k_peek h.tail.tail.sr hi hs.pr hs.rle 0
    unfold peekV at h1
    rw [hf0] at h1
    exact h1
  have hpk1 : ∀ W, On F w (AllA (BlkA w.heap.size 178 #[.int .i64 8, .int .i64 arg, .int .i64 lit, .int .i64 cells] :: BlkA ba 3 (intsC (s.args 0)) :: vL c g x src s)) W → Calls Tryz.prog 25 #[.pointer (some ⟨c.gR, 0, none⟩), .int .i64 1] W (Quiet (.tuple #[.int .i64 (s.rtop 1), .int .i64 f1]) W) := fun W h => by
    obtain ⟨gb, hi⟩ := h.tail.tail.im
    have h1 := k_peek h.tail.tail.sr hi hs.pr hs.rle 1
    unfold peekV at h1
    rw [hf1] at h1
    exact h1
  have hcl : ∀ W, On F w (AllA (BlkA w.heap.size 178 #[.int .i64 8, .int .i64 arg, .int .i64 lit, .int .i64 cells] :: BlkA ba 3 (intsC (s.args 0)) :: vL c g x src s)) W → W.cell? ⟨g, 0, none⟩ = some (.pointer (some ⟨c.gM, 0, none⟩)) ∧ W.cell? ⟨c.gM, 6, none⟩ = some (.pointer (some ⟨c.gR, 0, none⟩)) ∧ W.cell? ⟨w.heap.size, 0, none⟩ = some (.int .i64 8) ∧ W.cell? ⟨w.heap.size, 1, none⟩ = some (.int .i64 arg) := fun W h => ⟨h.tail.tail.r0, h.tail.tail.m6, (h.blkAt 0 rfl).cell 0, (h.blkAt 0 rfl).cell 1⟩
  have hrv0 : V64 (s.rtop 0) := stopv_v64 _ _ _ _
  have h0 : 2 ≤ s.r := by
    have h := hask.off
    have h2 := hx.base
    have e : (returns 8 arg s.same).1 = 2 := rfl
    simp only [e] at h
    omega
  have hf : (turn (wrap64 (s.rtop 0 + 1)) (wrap64 (s.rtop 0 + 1) == s.rtop 1) arg x s).f = 0 := by unfold turn; split <;> rfl
  rw [hf]
  show Calls Tryz.prog 146 #[.pointer (some ⟨g, 0, none⟩), .agg #[.int .i64 8, .int .i64 arg, .int .i64 lit, .int .i64 cells], .slice (some ⟨ba, 0, none⟩) 0 0] w (Got (.returned (.tuple #[])) (AllA (BlkA ba 3 (intsC (s.args 0)) :: vL c g ((turn (wrap64 (s.rtop 0 + 1)) (wrap64 (s.rtop 0 + 1) == s.rtop 1) arg x s).x) src ((turn (wrap64 (s.rtop 0 + 1)) (wrap64 (s.rtop 0 + 1) == s.rtop 1) arg x s).s))) F w)
  have htu := fun W (h : On F w (AllA (BlkA w.heap.size 178 #[.int .i64 8, .int .i64 arg, .int .i64 lit, .int .i64 cells] :: BlkA ba 3 (intsC (s.args 0)) :: vL c g (x) src (s))) W) => h.callDrop 2 (by simp) fun F'' hb'' _ _ => v_turn hb'' hs h0 (wrap64 (s.rtop 0 + 1)) arg (wrap_v64 _) (wrap64 (s.rtop 0 + 1) == s.rtop 1)
  generalize turn (wrap64 (s.rtop 0 + 1)) (wrap64 (s.rtop 0 + 1) == s.rtop 1) arg x s = R at *
  generalize s.rtop 0 = N0 at *
  generalize s.rtop 1 = N1 at *
  generalize intsC (s.args 0) = ac at *
  replace htu := Lib.hid htu
  replace hpk0 := Lib.hid hpk0
  replace hpk1 := Lib.hid hpk1
  replace hcl := Lib.hid hcl
  replace hon := Lib.hid hon
  clear hb hx hask hw2 hn hf0 hf1 hs
  clear h0 hf
  go_enter Tryz.func146, Tryz.ntmps146
  obtain ⟨d0, d6, d1, d2⟩ := hcl.out _ hon.out
  go_wp2_with fail
  refine (hpk0.out _ hon.out).mono ?_
  rintro e w1 ⟨rfl, hB⟩
  have hon1 := hon.out.below hB
  obtain ⟨d01, d61, d11, d21⟩ := hcl.out _ hon1
  clear d0 d6 d1 d2 b0 b1 hB
  replace hon1 := Lib.hid hon1
  go_wp2_with fail
  refine (hpk1.out _ hon1.out).mono ?_
  rintro e w2 ⟨rfl, hB⟩
  have hon2 := hon1.out.below hB
  obtain ⟨d02, d62, d12, d22⟩ := hcl.out _ hon2
  clear d01 d61 d11 d21 hB hon1 hpk0 hpk1
  replace hon2 := Lib.hid hon2
  go_wp2_with fail
  refine (htu.out _ hon2.out).mono ?_
  rintro e w3 ⟨rfl, h⟩
  replace h := Lib.hid h
  go_wp2
  go_end0
  exact ⟨rfl, h.out.tail⟩
set_option maxHeartbeats 1000000 in
theorem lp_unloop (arg lit cells : Int) : PartOk 146 ⟨10, arg, lit, cells⟩ (fun x s => ⟨0, x, s.cutR (s.r - 2)⟩) := by
  intro c g x src s ba w F hs hx hv1 hv2 hask hb
  have hw2 : (Code.wants 10).1.toNat = 0 := by decide
  have hn : 0 ≤ s.d := by
    have h := hask.tk
    have e : (Code.wants 10).1 = 0 := by decide
    simp only [e] at h
    omega
  simp only [hw2] at hb ⊢
  have hon := (On.refl hb).box #[.int .i64 10, .int .i64 arg, .int .i64 lit, .int .i64 cells] 178
  have b0 : (w.alloc (.cells #[.int .i64 10, .int .i64 arg, .int .i64 lit, .int .i64 cells] 178)).cell? ⟨w.heap.size, 0, none⟩ = some (.int .i64 10) := (hon.blkAt 0 rfl).cell 0
  have b1 : (w.alloc (.cells #[.int .i64 10, .int .i64 arg, .int .i64 lit, .int .i64 cells] 178)).cell? ⟨w.heap.size, 1, none⟩ = some (.int .i64 arg) := (hon.blkAt 0 rfl).cell 1
  obtain ⟨f0, hf0⟩ : ∃ f : Int, (if hasB s.r 0 then (0 : Int) else s.pr.un) = f := ⟨_, rfl⟩
  obtain ⟨f1, hf1⟩ : ∃ f : Int, (if hasB s.r 1 then (0 : Int) else s.pr.un) = f := ⟨_, rfl⟩
  have hpk0 : ∀ W, On F w (AllA (BlkA w.heap.size 178 #[.int .i64 10, .int .i64 arg, .int .i64 lit, .int .i64 cells] :: BlkA ba 3 (intsC (s.args 0)) :: vL c g x src s)) W → Calls Tryz.prog 25 #[.pointer (some ⟨c.gR, 0, none⟩), .int .i64 0] W (Quiet (.tuple #[.int .i64 (s.rtop 0), .int .i64 f0]) W) := fun W h => by
    obtain ⟨gb, hi⟩ := h.tail.tail.im
    have h1 := k_peek h.tail.tail.sr hi hs.pr hs.rle 0
    unfold peekV at h1
    rw [hf0] at h1
    exact h1
  have hpk1 : ∀ W, On F w (AllA (BlkA w.heap.size 178 #[.int .i64 10, .int .i64 arg, .int .i64 lit, .int .i64 cells] :: BlkA ba 3 (intsC (s.args 0)) :: vL c g x src s)) W → Calls Tryz.prog 25 #[.pointer (some ⟨c.gR, 0, none⟩), .int .i64 1] W (Quiet (.tuple #[.int .i64 (s.rtop 1), .int .i64 f1]) W) := fun W h => by
    obtain ⟨gb, hi⟩ := h.tail.tail.im
    have h1 := k_peek h.tail.tail.sr hi hs.pr hs.rle 1
    unfold peekV at h1
    rw [hf1] at h1
    exact h1
  have hcl : ∀ W, On F w (AllA (BlkA w.heap.size 178 #[.int .i64 10, .int .i64 arg, .int .i64 lit, .int .i64 cells] :: BlkA ba 3 (intsC (s.args 0)) :: vL c g x src s)) W → W.cell? ⟨g, 0, none⟩ = some (.pointer (some ⟨c.gM, 0, none⟩)) ∧ W.cell? ⟨c.gM, 6, none⟩ = some (.pointer (some ⟨c.gR, 0, none⟩)) ∧ W.cell? ⟨w.heap.size, 0, none⟩ = some (.int .i64 10) ∧ W.cell? ⟨w.heap.size, 1, none⟩ = some (.int .i64 arg) := fun W h => ⟨h.tail.tail.r0, h.tail.tail.m6, (h.blkAt 0 rfl).cell 0, (h.blkAt 0 rfl).cell 1⟩
  have hrv0 : V64 (s.rtop 0) := stopv_v64 _ _ _ _
  have h0 : 2 ≤ s.r := by
    have h := hask.off
    have h2 := hx.base
    have e : (returns 10 arg s.same).1 = 2 := rfl
    simp only [e] at h
    omega
  show Calls Tryz.prog 146 #[.pointer (some ⟨g, 0, none⟩), .agg #[.int .i64 10, .int .i64 arg, .int .i64 lit, .int .i64 cells], .slice (some ⟨ba, 0, none⟩) 0 0] w (Got (.returned (.tuple #[])) (AllA (BlkA ba 3 (intsC (s.args 0)) :: vL c g (x) src (s.cutR (s.r - 2)))) F w)
  have hdep := fun W (h : On F w (AllA (BlkA w.heap.size 178 #[.int .i64 10, .int .i64 arg, .int .i64 lit, .int .i64 cells] :: BlkA ba 3 (intsC (s.args 0)) :: vL c g (x) src (s))) W) => k_depth h.drew.tail.tail.sr
  have hcut := fun W (h : On F w (AllA (BlkA w.heap.size 178 #[.int .i64 10, .int .i64 arg, .int .i64 lit, .int .i64 cells] :: BlkA ba 3 (intsC (s.args 0)) :: vL c g (x) src (s))) W) => h.drew.callDrop 2 (by simp) fun F'' hb'' _ _ => v_cutR (On.refl hb'') hs (s.r - 2) (by omega)
  rw [← wr_sub s.r 2 h0 hs.rle] at hcut
  generalize s.cutR (s.r - 2) = s1 at *
  generalize s.rtop 0 = N0 at *
  generalize s.rtop 1 = N1 at *
  generalize intsC (s.args 0) = ac at *
  generalize s.r = d at *
  replace hdep := Lib.hid hdep
  replace hcut := Lib.hid hcut
  replace hpk0 := Lib.hid hpk0
  replace hpk1 := Lib.hid hpk1
  replace hcl := Lib.hid hcl
  replace hon := Lib.hid hon
  clear hb hx hask hw2 hn hf0 hf1 hs
  clear h0
  go_enter Tryz.func146, Tryz.ntmps146
  obtain ⟨d0, d6, d1, d2⟩ := hcl.out _ hon.out
  go_wp2_with fail
  refine (hpk0.out _ hon.out).mono ?_
  rintro e w1 ⟨rfl, hB⟩
  have hon1 := hon.out.below hB
  obtain ⟨d01, d61, d11, d21⟩ := hcl.out _ hon1
  clear d0 d6 d1 d2 b0 b1 hB
  replace hon1 := Lib.hid hon1
  go_wp2_with fail
  refine (hpk1.out _ hon1.out).mono ?_
  rintro e w2 ⟨rfl, hB⟩
  have hon2 := hon1.out.below hB
  obtain ⟨d02, d62, d12, d22⟩ := hcl.out _ hon2
  clear d01 d61 d11 d21 hB hon1 hpk0 hpk1
  replace hon2 := Lib.hid hon2
  replace hdep := Lib.hid (hdep.out _ hon2.out)
  replace hcut := Lib.hid (hcut.out _ hon2.out)
  go_wp2_with fail
  go_region_held (fun w' => w'.cell? ⟨g, 0, none⟩ = some (.pointer (some ⟨c.gM, 0, none⟩)) ∧ w'.cell? ⟨c.gM, 6, none⟩ = some (.pointer (some ⟨c.gR, 0, none⟩))) (go_keep)
    ((first
      | (go_at_call 17; refine hdep.out.mono ?_; rintro e w5 ⟨rfl, rfl⟩)
      | (go_at_call 147; refine hcut.out.mono ?_; rintro e w5 ⟨rfl, h⟩; have k0 := h.tail.tail.r0; have k6 := h.tail.tail.m6; replace h := Lib.hid h)))
  all_goals go_wp2
  all_goals go_end0
  all_goals exact ⟨rfl, h.out.tail⟩
set_option maxHeartbeats 1000000 in
theorem lp_i (arg lit cells : Int) : PartOk 146 ⟨11, arg, lit, cells⟩ (fun x s => laysR 0 [s.rtop 0] x s) := by
  intro c g x src s ba w F hs hx hv1 hv2 hask hb
  have hw2 : (Code.wants 11).1.toNat = 0 := by decide
  have hn : 0 ≤ s.d := by
    have h := hask.tk
    have e : (Code.wants 11).1 = 0 := by decide
    simp only [e] at h
    omega
  simp only [hw2] at hb ⊢
  have hon := (On.refl hb).box #[.int .i64 11, .int .i64 arg, .int .i64 lit, .int .i64 cells] 178
  have b0 : (w.alloc (.cells #[.int .i64 11, .int .i64 arg, .int .i64 lit, .int .i64 cells] 178)).cell? ⟨w.heap.size, 0, none⟩ = some (.int .i64 11) := (hon.blkAt 0 rfl).cell 0
  have b1 : (w.alloc (.cells #[.int .i64 11, .int .i64 arg, .int .i64 lit, .int .i64 cells] 178)).cell? ⟨w.heap.size, 1, none⟩ = some (.int .i64 arg) := (hon.blkAt 0 rfl).cell 1
  obtain ⟨f0, hf0⟩ : ∃ f : Int, (if hasB s.r 0 then (0 : Int) else s.pr.un) = f := ⟨_, rfl⟩
  obtain ⟨f1, hf1⟩ : ∃ f : Int, (if hasB s.r 1 then (0 : Int) else s.pr.un) = f := ⟨_, rfl⟩
  have hpk0 : ∀ W, On F w (AllA (BlkA w.heap.size 178 #[.int .i64 11, .int .i64 arg, .int .i64 lit, .int .i64 cells] :: BlkA ba 3 (intsC (s.args 0)) :: vL c g x src s)) W → Calls Tryz.prog 25 #[.pointer (some ⟨c.gR, 0, none⟩), .int .i64 0] W (Quiet (.tuple #[.int .i64 (s.rtop 0), .int .i64 f0]) W) := fun W h => by
    obtain ⟨gb, hi⟩ := h.tail.tail.im
    have h1 := k_peek h.tail.tail.sr hi hs.pr hs.rle 0
    unfold peekV at h1
    rw [hf0] at h1
    exact h1
  have hpk1 : ∀ W, On F w (AllA (BlkA w.heap.size 178 #[.int .i64 11, .int .i64 arg, .int .i64 lit, .int .i64 cells] :: BlkA ba 3 (intsC (s.args 0)) :: vL c g x src s)) W → Calls Tryz.prog 25 #[.pointer (some ⟨c.gR, 0, none⟩), .int .i64 1] W (Quiet (.tuple #[.int .i64 (s.rtop 1), .int .i64 f1]) W) := fun W h => by
    obtain ⟨gb, hi⟩ := h.tail.tail.im
    have h1 := k_peek h.tail.tail.sr hi hs.pr hs.rle 1
    unfold peekV at h1
    rw [hf1] at h1
    exact h1
  have hcl : ∀ W, On F w (AllA (BlkA w.heap.size 178 #[.int .i64 11, .int .i64 arg, .int .i64 lit, .int .i64 cells] :: BlkA ba 3 (intsC (s.args 0)) :: vL c g x src s)) W → W.cell? ⟨g, 0, none⟩ = some (.pointer (some ⟨c.gM, 0, none⟩)) ∧ W.cell? ⟨c.gM, 6, none⟩ = some (.pointer (some ⟨c.gR, 0, none⟩)) ∧ W.cell? ⟨w.heap.size, 0, none⟩ = some (.int .i64 11) ∧ W.cell? ⟨w.heap.size, 1, none⟩ = some (.int .i64 arg) := fun W h => ⟨h.tail.tail.r0, h.tail.tail.m6, (h.blkAt 0 rfl).cell 0, (h.blkAt 0 rfl).cell 1⟩
  have hrv0 : V64 (s.rtop 0) := stopv_v64 _ _ _ _
  have hroom : 1 ≤ s.pd.rm - (s.d - 0) := by
    have h1 := hask.room
    have e1 : (Code.wants 11).1 = 0 := by decide
    have e2 : (Code.wants 11).2 = 1 := by decide
    simp [e1, e2] at h1
    omega
  have hf : (laysR 0 [s.rtop 0] x s).f = 0 := lays_f hroom
  rw [hf]
  show Calls Tryz.prog 146 #[.pointer (some ⟨g, 0, none⟩), .agg #[.int .i64 11, .int .i64 arg, .int .i64 lit, .int .i64 cells], .slice (some ⟨ba, 0, none⟩) 0 0] w (Got (.returned (.tuple #[])) (AllA (BlkA ba 3 (intsC (s.args 0)) :: vL c g (x) src ((s.lays 0 [s.rtop 0]).2))) F w)
  have hbx := fun W (h : On F w (AllA (BlkA w.heap.size 178 #[.int .i64 11, .int .i64 arg, .int .i64 lit, .int .i64 cells] :: BlkA ba 3 (intsC (s.args 0)) :: vL c g (x) src (s))) W) => h.box #[.int .i64 (s.rtop 0)] 3
  have hlay := fun B W (h : On F w (AllA (BlkA B 3 #[.int .i64 (s.rtop 0)] :: BlkA w.heap.size 178 #[.int .i64 11, .int .i64 arg, .int .i64 lit, .int .i64 cells] :: BlkA ba 3 (intsC (s.args 0)) :: vL c g x src s)) W) => v_lays_under (c := c) (g := g) (x := x) (src := src) (s := s) 3 (by simp) rfl h hs 0 (Nat.zero_le _) [s.rtop 0] (fun v hv => by rw [List.mem_singleton.1 hv]; exact hrv0) 0 (by omega) B rfl hroom
  generalize (s.lays 0 [s.rtop 0]).2 = s1 at *
  clear hrv0 hf hroom
  generalize s.rtop 0 = N0 at *
  generalize s.rtop 1 = N1 at *
  generalize intsC (s.args 0) = ac at *
  replace hbx := Lib.hid hbx
  replace hlay := Lib.hid hlay
  replace hpk0 := Lib.hid hpk0
  replace hpk1 := Lib.hid hpk1
  replace hcl := Lib.hid hcl
  replace hon := Lib.hid hon
  clear hb hx hask hw2 hn hf0 hf1 hs
  go_enter Tryz.func146, Tryz.ntmps146
  obtain ⟨d0, d6, d1, d2⟩ := hcl.out _ hon.out
  go_wp2_with fail
  refine (hpk0.out _ hon.out).mono ?_
  rintro e w1 ⟨rfl, hB⟩
  have hon1 := hon.out.below hB
  obtain ⟨d01, d61, d11, d21⟩ := hcl.out _ hon1
  clear d0 d6 d1 d2 b0 b1 hB
  replace hon1 := Lib.hid hon1
  go_wp2_with fail
  refine (hpk1.out _ hon1.out).mono ?_
  rintro e w2 ⟨rfl, hB⟩
  have hon2 := hon1.out.below hB
  obtain ⟨d02, d62, d12, d22⟩ := hcl.out _ hon2
  clear d01 d61 d11 d21 hB hon1 hpk0 hpk1
  replace hon2 := Lib.hid hon2
  replace hlay := Lib.hid (hlay.out _ _ (hbx.out _ hon2.out))
  go_wp2_with fail
  refine hlay.out.mono ?_
  rintro e w3 ⟨rfl, h⟩
  replace h := Lib.hid h
  go_wp2
  go_end0
  exact ⟨rfl, h.out.tail.tail⟩
set_option maxHeartbeats 1000000 in
theorem lp_rfetch (arg lit cells : Int) : PartOk 146 ⟨15, arg, lit, cells⟩ (fun x s => laysR 0 [s.rtop 0] x s) := by
  intro c g x src s ba w F hs hx hv1 hv2 hask hb
  have hw2 : (Code.wants 15).1.toNat = 0 := by decide
  have hn : 0 ≤ s.d := by
    have h := hask.tk
    have e : (Code.wants 15).1 = 0 := by decide
    simp only [e] at h
    omega
  simp only [hw2] at hb ⊢
  have hon := (On.refl hb).box #[.int .i64 15, .int .i64 arg, .int .i64 lit, .int .i64 cells] 178
  have b0 : (w.alloc (.cells #[.int .i64 15, .int .i64 arg, .int .i64 lit, .int .i64 cells] 178)).cell? ⟨w.heap.size, 0, none⟩ = some (.int .i64 15) := (hon.blkAt 0 rfl).cell 0
  have b1 : (w.alloc (.cells #[.int .i64 15, .int .i64 arg, .int .i64 lit, .int .i64 cells] 178)).cell? ⟨w.heap.size, 1, none⟩ = some (.int .i64 arg) := (hon.blkAt 0 rfl).cell 1
  obtain ⟨f0, hf0⟩ : ∃ f : Int, (if hasB s.r 0 then (0 : Int) else s.pr.un) = f := ⟨_, rfl⟩
  obtain ⟨f1, hf1⟩ : ∃ f : Int, (if hasB s.r 1 then (0 : Int) else s.pr.un) = f := ⟨_, rfl⟩
  have hpk0 : ∀ W, On F w (AllA (BlkA w.heap.size 178 #[.int .i64 15, .int .i64 arg, .int .i64 lit, .int .i64 cells] :: BlkA ba 3 (intsC (s.args 0)) :: vL c g x src s)) W → Calls Tryz.prog 25 #[.pointer (some ⟨c.gR, 0, none⟩), .int .i64 0] W (Quiet (.tuple #[.int .i64 (s.rtop 0), .int .i64 f0]) W) := fun W h => by
    obtain ⟨gb, hi⟩ := h.tail.tail.im
    have h1 := k_peek h.tail.tail.sr hi hs.pr hs.rle 0
    unfold peekV at h1
    rw [hf0] at h1
    exact h1
  have hpk1 : ∀ W, On F w (AllA (BlkA w.heap.size 178 #[.int .i64 15, .int .i64 arg, .int .i64 lit, .int .i64 cells] :: BlkA ba 3 (intsC (s.args 0)) :: vL c g x src s)) W → Calls Tryz.prog 25 #[.pointer (some ⟨c.gR, 0, none⟩), .int .i64 1] W (Quiet (.tuple #[.int .i64 (s.rtop 1), .int .i64 f1]) W) := fun W h => by
    obtain ⟨gb, hi⟩ := h.tail.tail.im
    have h1 := k_peek h.tail.tail.sr hi hs.pr hs.rle 1
    unfold peekV at h1
    rw [hf1] at h1
    exact h1
  have hcl : ∀ W, On F w (AllA (BlkA w.heap.size 178 #[.int .i64 15, .int .i64 arg, .int .i64 lit, .int .i64 cells] :: BlkA ba 3 (intsC (s.args 0)) :: vL c g x src s)) W → W.cell? ⟨g, 0, none⟩ = some (.pointer (some ⟨c.gM, 0, none⟩)) ∧ W.cell? ⟨c.gM, 6, none⟩ = some (.pointer (some ⟨c.gR, 0, none⟩)) ∧ W.cell? ⟨w.heap.size, 0, none⟩ = some (.int .i64 15) ∧ W.cell? ⟨w.heap.size, 1, none⟩ = some (.int .i64 arg) := fun W h => ⟨h.tail.tail.r0, h.tail.tail.m6, (h.blkAt 0 rfl).cell 0, (h.blkAt 0 rfl).cell 1⟩
  have hrv0 : V64 (s.rtop 0) := stopv_v64 _ _ _ _
  have hroom : 1 ≤ s.pd.rm - (s.d - 0) := by
    have h1 := hask.room
    have e1 : (Code.wants 15).1 = 0 := by decide
    have e2 : (Code.wants 15).2 = 1 := by decide
    simp [e1, e2] at h1
    omega
  have hf : (laysR 0 [s.rtop 0] x s).f = 0 := lays_f hroom
  rw [hf]
  show Calls Tryz.prog 146 #[.pointer (some ⟨g, 0, none⟩), .agg #[.int .i64 15, .int .i64 arg, .int .i64 lit, .int .i64 cells], .slice (some ⟨ba, 0, none⟩) 0 0] w (Got (.returned (.tuple #[])) (AllA (BlkA ba 3 (intsC (s.args 0)) :: vL c g (x) src ((s.lays 0 [s.rtop 0]).2))) F w)
  have hbx := fun W (h : On F w (AllA (BlkA w.heap.size 178 #[.int .i64 15, .int .i64 arg, .int .i64 lit, .int .i64 cells] :: BlkA ba 3 (intsC (s.args 0)) :: vL c g (x) src (s))) W) => h.box #[.int .i64 (s.rtop 0)] 3
  have hlay := fun B W (h : On F w (AllA (BlkA B 3 #[.int .i64 (s.rtop 0)] :: BlkA w.heap.size 178 #[.int .i64 15, .int .i64 arg, .int .i64 lit, .int .i64 cells] :: BlkA ba 3 (intsC (s.args 0)) :: vL c g x src s)) W) => v_lays_under (c := c) (g := g) (x := x) (src := src) (s := s) 3 (by simp) rfl h hs 0 (Nat.zero_le _) [s.rtop 0] (fun v hv => by rw [List.mem_singleton.1 hv]; exact hrv0) 0 (by omega) B rfl hroom
  generalize (s.lays 0 [s.rtop 0]).2 = s1 at *
  clear hrv0 hf hroom
  generalize s.rtop 0 = N0 at *
  generalize s.rtop 1 = N1 at *
  generalize intsC (s.args 0) = ac at *
  replace hbx := Lib.hid hbx
  replace hlay := Lib.hid hlay
  replace hpk0 := Lib.hid hpk0
  replace hpk1 := Lib.hid hpk1
  replace hcl := Lib.hid hcl
  replace hon := Lib.hid hon
  clear hb hx hask hw2 hn hf0 hf1 hs
  go_enter Tryz.func146, Tryz.ntmps146
  obtain ⟨d0, d6, d1, d2⟩ := hcl.out _ hon.out
  go_wp2_with fail
  refine (hpk0.out _ hon.out).mono ?_
  rintro e w1 ⟨rfl, hB⟩
  have hon1 := hon.out.below hB
  obtain ⟨d01, d61, d11, d21⟩ := hcl.out _ hon1
  clear d0 d6 d1 d2 b0 b1 hB
  replace hon1 := Lib.hid hon1
  go_wp2_with fail
  refine (hpk1.out _ hon1.out).mono ?_
  rintro e w2 ⟨rfl, hB⟩
  have hon2 := hon1.out.below hB
  obtain ⟨d02, d62, d12, d22⟩ := hcl.out _ hon2
  clear d01 d61 d11 d21 hB hon1 hpk0 hpk1
  replace hon2 := Lib.hid hon2
  replace hlay := Lib.hid (hlay.out _ _ (hbx.out _ hon2.out))
  go_wp2_with fail
  refine hlay.out.mono ?_
  rintro e w3 ⟨rfl, h⟩
  replace h := Lib.hid h
  go_wp2
  go_end0
  exact ⟨rfl, h.out.tail.tail⟩
set_option maxHeartbeats 1000000 in
theorem lp_j (arg lit cells : Int) : PartOk 146 ⟨12, arg, lit, cells⟩ (fun x s => laysR 0 [s.rtop 2] x s) := by
  intro c g x src s ba w F hs hx hv1 hv2 hask hb
  have hw2 : (Code.wants 12).1.toNat = 0 := by decide
  have hn : 0 ≤ s.d := by
    have h := hask.tk
    have e : (Code.wants 12).1 = 0 := by decide
    simp only [e] at h
    omega
  simp only [hw2] at hb ⊢
  have hon := (On.refl hb).box #[.int .i64 12, .int .i64 arg, .int .i64 lit, .int .i64 cells] 178
  have b0 : (w.alloc (.cells #[.int .i64 12, .int .i64 arg, .int .i64 lit, .int .i64 cells] 178)).cell? ⟨w.heap.size, 0, none⟩ = some (.int .i64 12) := (hon.blkAt 0 rfl).cell 0
  have b1 : (w.alloc (.cells #[.int .i64 12, .int .i64 arg, .int .i64 lit, .int .i64 cells] 178)).cell? ⟨w.heap.size, 1, none⟩ = some (.int .i64 arg) := (hon.blkAt 0 rfl).cell 1
  obtain ⟨f0, hf0⟩ : ∃ f : Int, (if hasB s.r 0 then (0 : Int) else s.pr.un) = f := ⟨_, rfl⟩
  obtain ⟨f1, hf1⟩ : ∃ f : Int, (if hasB s.r 1 then (0 : Int) else s.pr.un) = f := ⟨_, rfl⟩
  have hpk0 : ∀ W, On F w (AllA (BlkA w.heap.size 178 #[.int .i64 12, .int .i64 arg, .int .i64 lit, .int .i64 cells] :: BlkA ba 3 (intsC (s.args 0)) :: vL c g x src s)) W → Calls Tryz.prog 25 #[.pointer (some ⟨c.gR, 0, none⟩), .int .i64 0] W (Quiet (.tuple #[.int .i64 (s.rtop 0), .int .i64 f0]) W) := fun W h => by
    obtain ⟨gb, hi⟩ := h.tail.tail.im
    have h1 := k_peek h.tail.tail.sr hi hs.pr hs.rle 0
    unfold peekV at h1
    rw [hf0] at h1
    exact h1
  have hpk1 : ∀ W, On F w (AllA (BlkA w.heap.size 178 #[.int .i64 12, .int .i64 arg, .int .i64 lit, .int .i64 cells] :: BlkA ba 3 (intsC (s.args 0)) :: vL c g x src s)) W → Calls Tryz.prog 25 #[.pointer (some ⟨c.gR, 0, none⟩), .int .i64 1] W (Quiet (.tuple #[.int .i64 (s.rtop 1), .int .i64 f1]) W) := fun W h => by
    obtain ⟨gb, hi⟩ := h.tail.tail.im
    have h1 := k_peek h.tail.tail.sr hi hs.pr hs.rle 1
    unfold peekV at h1
    rw [hf1] at h1
    exact h1
  have hcl : ∀ W, On F w (AllA (BlkA w.heap.size 178 #[.int .i64 12, .int .i64 arg, .int .i64 lit, .int .i64 cells] :: BlkA ba 3 (intsC (s.args 0)) :: vL c g x src s)) W → W.cell? ⟨g, 0, none⟩ = some (.pointer (some ⟨c.gM, 0, none⟩)) ∧ W.cell? ⟨c.gM, 6, none⟩ = some (.pointer (some ⟨c.gR, 0, none⟩)) ∧ W.cell? ⟨w.heap.size, 0, none⟩ = some (.int .i64 12) ∧ W.cell? ⟨w.heap.size, 1, none⟩ = some (.int .i64 arg) := fun W h => ⟨h.tail.tail.r0, h.tail.tail.m6, (h.blkAt 0 rfl).cell 0, (h.blkAt 0 rfl).cell 1⟩
  have hrv0 : V64 (s.rtop 0) := stopv_v64 _ _ _ _
  have hroom : 1 ≤ s.pd.rm - (s.d - 0) := by
    have h1 := hask.room
    have e1 : (Code.wants 12).1 = 0 := by decide
    have e2 : (Code.wants 12).2 = 1 := by decide
    simp [e1, e2] at h1
    omega
  have hf : (laysR 0 [s.rtop 2] x s).f = 0 := lays_f hroom
  rw [hf]
  show Calls Tryz.prog 146 #[.pointer (some ⟨g, 0, none⟩), .agg #[.int .i64 12, .int .i64 arg, .int .i64 lit, .int .i64 cells], .slice (some ⟨ba, 0, none⟩) 0 0] w (Got (.returned (.tuple #[])) (AllA (BlkA ba 3 (intsC (s.args 0)) :: vL c g (x) src ((s.lays 0 [s.rtop 2]).2))) F w)
  obtain ⟨f2, hf2⟩ : ∃ f : Int, (if hasB s.r 2 then (0 : Int) else s.pr.un) = f := ⟨_, rfl⟩
  have hpk2 : ∀ W, On F w (AllA (BlkA w.heap.size 178 #[.int .i64 12, .int .i64 arg, .int .i64 lit, .int .i64 cells] :: BlkA ba 3 (intsC (s.args 0)) :: vL c g (x) src (s))) W → Calls Tryz.prog 25 #[.pointer (some ⟨c.gR, 0, none⟩), .int .i64 2] W (Quiet (.tuple #[.int .i64 (s.rtop 2), .int .i64 f2]) W) := fun W h => by
    obtain ⟨gb, hi⟩ := h.tail.tail.im
    have h1 := k_peek h.tail.tail.sr hi hs.pr hs.rle 2
    unfold peekV at h1
    rw [hf2] at h1
    exact h1
  have hrv2 : V64 (s.rtop 2) := stopv_v64 _ _ _ _
  have hbx := fun W (h : On F w (AllA (BlkA w.heap.size 178 #[.int .i64 12, .int .i64 arg, .int .i64 lit, .int .i64 cells] :: BlkA ba 3 (intsC (s.args 0)) :: vL c g (x) src (s))) W) => h.box #[.int .i64 (s.rtop 2)] 3
  have hlay := fun B W (h : On F w (AllA (BlkA B 3 #[.int .i64 (s.rtop 2)] :: BlkA w.heap.size 178 #[.int .i64 12, .int .i64 arg, .int .i64 lit, .int .i64 cells] :: BlkA ba 3 (intsC (s.args 0)) :: vL c g x src s)) W) => v_lays_under (c := c) (g := g) (x := x) (src := src) (s := s) 3 (by simp) rfl h hs 0 (Nat.zero_le _) [s.rtop 2] (fun v hv => by rw [List.mem_singleton.1 hv]; exact hrv2) 0 (by omega) B rfl hroom
  generalize (s.lays 0 [s.rtop 2]).2 = s1 at *
  clear hrv0 hrv2 hf hroom hf2
  generalize s.rtop 0 = N0 at *
  generalize s.rtop 1 = N1 at *
  generalize s.rtop 2 = N2 at *
  generalize intsC (s.args 0) = ac at *
  replace hbx := Lib.hid hbx
  replace hlay := Lib.hid hlay
  replace hpk0 := Lib.hid hpk0
  replace hpk1 := Lib.hid hpk1
  replace hpk2 := Lib.hid hpk2
  replace hcl := Lib.hid hcl
  replace hon := Lib.hid hon
  clear hb hx hask hw2 hn hf0 hf1 hs
  go_enter Tryz.func146, Tryz.ntmps146
  obtain ⟨d0, d6, d1, d2⟩ := hcl.out _ hon.out
  go_wp2_with fail
  refine (hpk0.out _ hon.out).mono ?_
  rintro e w1 ⟨rfl, hB⟩
  have hon1 := hon.out.below hB
  obtain ⟨d01, d61, d11, d21⟩ := hcl.out _ hon1
  clear d0 d6 d1 d2 b0 b1 hB
  replace hon1 := Lib.hid hon1
  go_wp2_with fail
  refine (hpk1.out _ hon1.out).mono ?_
  rintro e w2 ⟨rfl, hB⟩
  have hon2 := hon1.out.below hB
  obtain ⟨d02, d62, d12, d22⟩ := hcl.out _ hon2
  clear d01 d61 d11 d21 hB hon1 hpk0 hpk1
  replace hon2 := Lib.hid hon2
  go_wp2_with fail
  refine (hpk2.out _ hon2.out).mono ?_
  rintro e w3 ⟨rfl, hB⟩
  have hon3 := hon2.out.below hB
  replace hlay := Lib.hid (hlay.out _ _ (hbx.out _ hon3))
  clear hB hon3 d02 d62 d12 d22
  go_wp2_with fail
  refine hlay.out.mono ?_
  rintro e w4 ⟨rfl, h⟩
  replace h := Lib.hid h
  go_wp2
  go_end0
  exact ⟨rfl, h.out.tail.tail⟩
set_option maxHeartbeats 1000000 in
theorem lp_fromr (arg lit cells : Int) : PartOk 146 ⟨14, arg, lit, cells⟩ (fun x s => laysR 0 [s.rtop 0] x (s.cutR (s.r - 1))) := by
  intro c g x src s ba w F hs hx hv1 hv2 hask hb
  have hw2 : (Code.wants 14).1.toNat = 0 := by decide
  have hn : 0 ≤ s.d := by
    have h := hask.tk
    have e : (Code.wants 14).1 = 0 := by decide
    simp only [e] at h
    omega
  simp only [hw2] at hb ⊢
  have hon := (On.refl hb).box #[.int .i64 14, .int .i64 arg, .int .i64 lit, .int .i64 cells] 178
  have b0 : (w.alloc (.cells #[.int .i64 14, .int .i64 arg, .int .i64 lit, .int .i64 cells] 178)).cell? ⟨w.heap.size, 0, none⟩ = some (.int .i64 14) := (hon.blkAt 0 rfl).cell 0
  have b1 : (w.alloc (.cells #[.int .i64 14, .int .i64 arg, .int .i64 lit, .int .i64 cells] 178)).cell? ⟨w.heap.size, 1, none⟩ = some (.int .i64 arg) := (hon.blkAt 0 rfl).cell 1
  obtain ⟨f0, hf0⟩ : ∃ f : Int, (if hasB s.r 0 then (0 : Int) else s.pr.un) = f := ⟨_, rfl⟩
  obtain ⟨f1, hf1⟩ : ∃ f : Int, (if hasB s.r 1 then (0 : Int) else s.pr.un) = f := ⟨_, rfl⟩
  have hpk0 : ∀ W, On F w (AllA (BlkA w.heap.size 178 #[.int .i64 14, .int .i64 arg, .int .i64 lit, .int .i64 cells] :: BlkA ba 3 (intsC (s.args 0)) :: vL c g x src s)) W → Calls Tryz.prog 25 #[.pointer (some ⟨c.gR, 0, none⟩), .int .i64 0] W (Quiet (.tuple #[.int .i64 (s.rtop 0), .int .i64 f0]) W) := fun W h => by
    obtain ⟨gb, hi⟩ := h.tail.tail.im
    have h1 := k_peek h.tail.tail.sr hi hs.pr hs.rle 0
    unfold peekV at h1
    rw [hf0] at h1
    exact h1
  have hpk1 : ∀ W, On F w (AllA (BlkA w.heap.size 178 #[.int .i64 14, .int .i64 arg, .int .i64 lit, .int .i64 cells] :: BlkA ba 3 (intsC (s.args 0)) :: vL c g x src s)) W → Calls Tryz.prog 25 #[.pointer (some ⟨c.gR, 0, none⟩), .int .i64 1] W (Quiet (.tuple #[.int .i64 (s.rtop 1), .int .i64 f1]) W) := fun W h => by
    obtain ⟨gb, hi⟩ := h.tail.tail.im
    have h1 := k_peek h.tail.tail.sr hi hs.pr hs.rle 1
    unfold peekV at h1
    rw [hf1] at h1
    exact h1
  have hcl : ∀ W, On F w (AllA (BlkA w.heap.size 178 #[.int .i64 14, .int .i64 arg, .int .i64 lit, .int .i64 cells] :: BlkA ba 3 (intsC (s.args 0)) :: vL c g x src s)) W → W.cell? ⟨g, 0, none⟩ = some (.pointer (some ⟨c.gM, 0, none⟩)) ∧ W.cell? ⟨c.gM, 6, none⟩ = some (.pointer (some ⟨c.gR, 0, none⟩)) ∧ W.cell? ⟨w.heap.size, 0, none⟩ = some (.int .i64 14) ∧ W.cell? ⟨w.heap.size, 1, none⟩ = some (.int .i64 arg) := fun W h => ⟨h.tail.tail.r0, h.tail.tail.m6, (h.blkAt 0 rfl).cell 0, (h.blkAt 0 rfl).cell 1⟩
  have hrv0 : V64 (s.rtop 0) := stopv_v64 _ _ _ _
  have h0 : 1 ≤ s.r := by
    have h := hask.off
    have h2 := hx.base
    have e : (returns 14 arg s.same).1 = 1 := rfl
    simp only [e] at h
    omega
  have hroom : 1 ≤ s.pd.rm - (s.d - 0) := by
    have h1 := hask.room
    have e1 : (Code.wants 14).1 = 0 := by decide
    have e2 : (Code.wants 14).2 = 1 := by decide
    simp [e1, e2] at h1
    omega
  have hf : (laysR 0 [s.rtop 0] x (s.cutR (s.r - 1))).f = 0 := lays_f hroom
  rw [hf]
  show Calls Tryz.prog 146 #[.pointer (some ⟨g, 0, none⟩), .agg #[.int .i64 14, .int .i64 arg, .int .i64 lit, .int .i64 cells], .slice (some ⟨ba, 0, none⟩) 0 0] w (Got (.returned (.tuple #[])) (AllA (BlkA ba 3 (intsC (s.args 0)) :: vL c g (x) src (((s.cutR (s.r - 1)).lays 0 [s.rtop 0]).2))) F w)
  have hdep := fun W (h : On F w (AllA (BlkA w.heap.size 178 #[.int .i64 14, .int .i64 arg, .int .i64 lit, .int .i64 cells] :: BlkA ba 3 (intsC (s.args 0)) :: vL c g (x) src (s))) W) => k_depth h.drew.tail.tail.sr
  have hcut := fun W (h : On F w (AllA (BlkA w.heap.size 178 #[.int .i64 14, .int .i64 arg, .int .i64 lit, .int .i64 cells] :: BlkA ba 3 (intsC (s.args 0)) :: vL c g (x) src (s))) W) => h.drew.callDrop 2 (by simp) fun F'' hb'' _ _ => v_cutR (On.refl hb'') hs (s.r - 1) (by omega)
  rw [← wr_sub s.r 1 h0 hs.rle] at hcut
  have hs1 := cutR_ok hs (s.r - 1) (by omega)
  have hd1 : (s.cutR (s.r - 1)).d = s.d ∧ (s.cutR (s.r - 1)).pd = s.pd := ⟨rfl, rfl⟩
  rw [← hd1.1, ← hd1.2] at hroom
  generalize s.cutR (s.r - 1) = s2 at *
  have hbx := fun W (h : On F w (AllA (BlkA w.heap.size 178 #[.int .i64 14, .int .i64 arg, .int .i64 lit, .int .i64 cells] :: BlkA ba 3 (intsC (s.args 0)) :: vL c g (x) src (s2))) W) => h.box #[.int .i64 (s.rtop 0)] 3
  have hlay := fun B W (h : On F w (AllA (BlkA B 3 #[.int .i64 (s.rtop 0)] :: BlkA w.heap.size 178 #[.int .i64 14, .int .i64 arg, .int .i64 lit, .int .i64 cells] :: BlkA ba 3 (intsC (s.args 0)) :: vL c g x src s2)) W) => v_lays_under (c := c) (g := g) (x := x) (src := src) (s := s2) 3 (by simp) rfl h hs1 0 (Nat.zero_le _) [s.rtop 0] (fun v hv => by rw [List.mem_singleton.1 hv]; exact hrv0) 0 (by omega) B rfl hroom
  generalize (s2.lays 0 [s.rtop 0]).2 = s1 at *
  clear hrv0 hf hroom hd1 hs1
  generalize s.rtop 0 = N0 at *
  generalize s.rtop 1 = N1 at *
  generalize intsC (s.args 0) = ac at *
  generalize s.r = d at *
  replace hbx := Lib.hid hbx
  replace hlay := Lib.hid hlay
  replace hdep := Lib.hid hdep
  replace hcut := Lib.hid hcut
  replace hpk0 := Lib.hid hpk0
  replace hpk1 := Lib.hid hpk1
  replace hcl := Lib.hid hcl
  replace hon := Lib.hid hon
  clear hb hx hask hw2 hn hf0 hf1 hs
  clear h0
  go_enter Tryz.func146, Tryz.ntmps146
  obtain ⟨d0, d6, d1, d2⟩ := hcl.out _ hon.out
  go_wp2_with fail
  refine (hpk0.out _ hon.out).mono ?_
  rintro e w1 ⟨rfl, hB⟩
  have hon1 := hon.out.below hB
  obtain ⟨d01, d61, d11, d21⟩ := hcl.out _ hon1
  clear d0 d6 d1 d2 b0 b1 hB
  replace hon1 := Lib.hid hon1
  go_wp2_with fail
  refine (hpk1.out _ hon1.out).mono ?_
  rintro e w2 ⟨rfl, hB⟩
  have hon2 := hon1.out.below hB
  obtain ⟨d02, d62, d12, d22⟩ := hcl.out _ hon2
  clear d01 d61 d11 d21 hB hon1 hpk0 hpk1
  replace hon2 := Lib.hid hon2
  replace hdep := Lib.hid (hdep.out _ hon2.out)
  replace hcut := Lib.hid (hcut.out _ hon2.out)
  go_wp2_with fail
  go_region_held (fun w' => w'.cell? ⟨g, 0, none⟩ = some (.pointer (some ⟨c.gM, 0, none⟩)) ∧ w'.cell? ⟨c.gM, 6, none⟩ = some (.pointer (some ⟨c.gR, 0, none⟩))) (go_keep)
    ((first
      | (go_at_call 17; refine hdep.out.mono ?_; rintro e w5 ⟨rfl, rfl⟩)
      | (go_at_call 147; refine hcut.out.mono ?_; rintro e w5 ⟨rfl, h⟩; have h5 : On F w (AllA (BlkA w.heap.size 178 #[.int .i64 14, .int .i64 arg, .int .i64 lit, .int .i64 cells] :: BlkA ba 3 ac :: vL c g (x) src (s2))) w5 := h; have k0 := h5.tail.tail.r0; have k6 := h5.tail.tail.m6; replace h5 := Lib.hid h5; clear h)))
  all_goals replace hlay := Lib.hid (hlay.out _ _ (hbx.out _ h5.out))
  all_goals go_wp2_with fail
  all_goals refine hlay.out.mono ?_
  all_goals rintro e w4 ⟨rfl, h⟩
  all_goals replace h := Lib.hid h
  all_goals go_wp2
  all_goals go_end0
  all_goals exact ⟨rfl, h.out.tail.tail⟩
/-- does a loop end, by a step of any size -/
def plEnds (n m a : Int) : Bool := decide (bits .xor .i64 (IntKind.i64.wrap (n - m)) (IntKind.i64.wrap (IntKind.i64.wrap (n - m) + a)) < 0) && decide (bits .xor .i64 (IntKind.i64.wrap (n - m)) a < 0)
set_option maxHeartbeats 1000000 in
theorem lp_ploop (arg lit cells : Int) : PartOk 146 ⟨9, arg, lit, cells⟩ (fun x s => turn (wrap64 (s.rtop 0 + ar s 1 0)) (plEnds (s.rtop 0) (s.rtop 1) (ar s 1 0)) arg x (s.lays 1 []).2) := by
  intro c g x src s ba w F hs hx hv1 hv2 hask hb
  have hw2 : (Code.wants 9).1.toNat = 1 := by decide
  have hn : 1 ≤ s.d := by
    have h := hask.tk
    have e : (Code.wants 9).1 = 1 := by decide
    simp only [e] at h
    omega
  simp only [hw2] at hb ⊢
  have hon := (On.refl hb).box #[.int .i64 9, .int .i64 arg, .int .i64 lit, .int .i64 cells] 178
  have b0 : (w.alloc (.cells #[.int .i64 9, .int .i64 arg, .int .i64 lit, .int .i64 cells] 178)).cell? ⟨w.heap.size, 0, none⟩ = some (.int .i64 9) := (hon.blkAt 0 rfl).cell 0
  have b1 : (w.alloc (.cells #[.int .i64 9, .int .i64 arg, .int .i64 lit, .int .i64 cells] 178)).cell? ⟨w.heap.size, 1, none⟩ = some (.int .i64 arg) := (hon.blkAt 0 rfl).cell 1
  obtain ⟨f0, hf0⟩ : ∃ f : Int, (if hasB s.r 0 then (0 : Int) else s.pr.un) = f := ⟨_, rfl⟩
  obtain ⟨f1, hf1⟩ : ∃ f : Int, (if hasB s.r 1 then (0 : Int) else s.pr.un) = f := ⟨_, rfl⟩
  have hpk0 : ∀ W, On F w (AllA (BlkA w.heap.size 178 #[.int .i64 9, .int .i64 arg, .int .i64 lit, .int .i64 cells] :: BlkA ba 3 (intsC (s.args 1)) :: vL c g x src s)) W → Calls Tryz.prog 25 #[.pointer (some ⟨c.gR, 0, none⟩), .int .i64 0] W (Quiet (.tuple #[.int .i64 (s.rtop 0), .int .i64 f0]) W) := fun W h => by
    obtain ⟨gb, hi⟩ := h.tail.tail.im
    have h1 := k_peek h.tail.tail.sr hi hs.pr hs.rle 0
    unfold peekV at h1
    rw [hf0] at h1
    exact h1
  have hpk1 : ∀ W, On F w (AllA (BlkA w.heap.size 178 #[.int .i64 9, .int .i64 arg, .int .i64 lit, .int .i64 cells] :: BlkA ba 3 (intsC (s.args 1)) :: vL c g x src s)) W → Calls Tryz.prog 25 #[.pointer (some ⟨c.gR, 0, none⟩), .int .i64 1] W (Quiet (.tuple #[.int .i64 (s.rtop 1), .int .i64 f1]) W) := fun W h => by
    obtain ⟨gb, hi⟩ := h.tail.tail.im
    have h1 := k_peek h.tail.tail.sr hi hs.pr hs.rle 1
    unfold peekV at h1
    rw [hf1] at h1
    exact h1
  have hcl : ∀ W, On F w (AllA (BlkA w.heap.size 178 #[.int .i64 9, .int .i64 arg, .int .i64 lit, .int .i64 cells] :: BlkA ba 3 (intsC (s.args 1)) :: vL c g x src s)) W → W.cell? ⟨g, 0, none⟩ = some (.pointer (some ⟨c.gM, 0, none⟩)) ∧ W.cell? ⟨c.gM, 6, none⟩ = some (.pointer (some ⟨c.gR, 0, none⟩)) ∧ W.cell? ⟨w.heap.size, 0, none⟩ = some (.int .i64 9) ∧ W.cell? ⟨w.heap.size, 1, none⟩ = some (.int .i64 arg) := fun W h => ⟨h.tail.tail.r0, h.tail.tail.m6, (h.blkAt 0 rfl).cell 0, (h.blkAt 0 rfl).cell 1⟩
  have hrv0 : V64 (s.rtop 0) := stopv_v64 _ _ _ _
  have h0 : 2 ≤ s.r := by
    have h := hask.off
    have h2 := hx.base
    have e : (returns 9 arg s.same).1 = 2 := rfl
    simp only [e] at h
    omega
  have hs1 : (s.lays 1 []).2.Ok := by
    unfold Mt.lays
    rw [if_neg (by simp)]
    exact pushD_ok (cutD_ok hs (s.d - 1) (by omega)) _ (by simp)
  have hr1 : (s.lays 1 []).2.r = s.r ∧ (s.lays 1 []).2.pr = s.pr := by unfold Mt.lays; split <;> exact ⟨rfl, rfl⟩
  have ha0 : ∀ W, Blk W ba 3 (intsC (s.args 1)) → W.cell? ⟨ba, 0, none⟩ = some (.int .i64 (ar s 1 0)) := fun W hW => row_get hW (by omega)
  have hf : (turn (wrap64 (s.rtop 0 + ar s 1 0)) (plEnds (s.rtop 0) (s.rtop 1) (ar s 1 0)) arg x (s.lays 1 []).2).f = 0 := by unfold turn; split <;> rfl
  rw [hf]
  show Calls Tryz.prog 146 #[.pointer (some ⟨g, 0, none⟩), .agg #[.int .i64 9, .int .i64 arg, .int .i64 lit, .int .i64 cells], .slice (some ⟨ba, 0, none⟩) 1 1] w (Got (.returned (.tuple #[])) (AllA (BlkA ba 3 (intsC (s.args 1)) :: vL c g ((turn (wrap64 (s.rtop 0 + ar s 1 0)) (plEnds (s.rtop 0) (s.rtop 1) (ar s 1 0)) arg x (s.lays 1 []).2).x) src ((turn (wrap64 (s.rtop 0 + ar s 1 0)) (plEnds (s.rtop 0) (s.rtop 1) (ar s 1 0)) arg x (s.lays 1 []).2).s))) F w)
  have hlay := fun W (h : On F w (AllA (BlkA w.heap.size 178 #[.int .i64 9, .int .i64 arg, .int .i64 lit, .int .i64 cells] :: BlkA ba 3 (intsC (s.args 1)) :: vL c g (x) src (s))) W) => v_lays_nil (c := c) (g := g) (x := x) (src := src) (s := s) 2 (by simp) rfl h hs 1 hn
  rw [← hr1.1] at h0
  generalize (s.lays 1 []).2 = s1 at *
  have htu := fun W (h : On F w (AllA (BlkA w.heap.size 178 #[.int .i64 9, .int .i64 arg, .int .i64 lit, .int .i64 cells] :: BlkA ba 3 (intsC (s.args 1)) :: vL c g (x) src (s1))) W) => h.callDrop 2 (by simp) fun F'' hb'' _ _ => v_turn hb'' hs1 h0 (wrap64 (s.rtop 0 + ar s 1 0)) arg (wrap_v64 _) (plEnds (s.rtop 0) (s.rtop 1) (ar s 1 0))
  have hc1 : ∀ W, On F w (AllA (BlkA w.heap.size 178 #[.int .i64 9, .int .i64 arg, .int .i64 lit, .int .i64 cells] :: BlkA ba 3 (intsC (s.args 1)) :: vL c g (x) src (s1))) W → W.cell? ⟨ba, 0, none⟩ = some (.int .i64 (ar s 1 0)) ∧ W.cell? ⟨w.heap.size, 1, none⟩ = some (.int .i64 arg) := fun W h => ⟨ha0 _ (h.blkAt 1 rfl), (h.blkAt 0 rfl).cell 1⟩
  generalize turn (wrap64 (s.rtop 0 + ar s 1 0)) (plEnds (s.rtop 0) (s.rtop 1) (ar s 1 0)) arg x s1 = R at *
  replace ha0 := Lib.hid ha0
  clear hs1 hr1 hrv0
  generalize s.rtop 0 = N0 at *
  generalize s.rtop 1 = N1 at *
  generalize ar s 1 0 = A0 at *
  generalize intsC (s.args 1) = ac at *
  replace hlay := Lib.hid hlay
  replace hc1 := Lib.hid hc1
  replace hpk0 := Lib.hid hpk0
  replace hpk1 := Lib.hid hpk1
  replace hcl := Lib.hid hcl
  replace hon := Lib.hid hon
  clear hb hx hask hw2 hn hf0 hf1 hs
  clear h0 hf
  unfold plEnds at htu
  rw [← IntWalk.i64_left] at htu
  rcases hE1 : decide (bits .xor .i64 (IntKind.i64.wrap (N0 - N1)) (IntKind.i64.wrap (IntKind.i64.wrap (N0 - N1) + A0)) < 0) with _ | _
  all_goals rw [hE1] at htu
  all_goals simp only [Bool.false_and, Bool.true_and] at htu
  all_goals replace htu := Lib.hid htu
  all_goals replace hE1 := Lib.hid hE1
  · go_enter Tryz.func146, Tryz.ntmps146
    obtain ⟨d0, d6, d1, d2⟩ := hcl.out _ hon.out
    go_wp2_with fail
    refine (hpk0.out _ hon.out).mono ?_
    rintro e w1 ⟨rfl, hB⟩
    have hon1 := hon.out.below hB
    obtain ⟨d01, d61, d11, d21⟩ := hcl.out _ hon1
    clear d0 d6 d1 d2 b0 b1 hB
    replace hon1 := Lib.hid hon1
    go_wp2_with fail
    refine (hpk1.out _ hon1.out).mono ?_
    rintro e w2 ⟨rfl, hB⟩
    have hon2 := hon1.out.below hB
    obtain ⟨d02, d62, d12, d22⟩ := hcl.out _ hon2
    clear d01 d61 d11 d21 hB hon1 hpk0 hpk1
    replace hon2 := Lib.hid hon2
    go_wp2_with fail
    refine (hlay.out _ hon2.out).mono ?_
    rintro e w3 ⟨rfl, h⟩
    have h5 : On F w (AllA (BlkA w.heap.size 178 #[.int .i64 9, .int .i64 arg, .int .i64 lit, .int .i64 cells] :: BlkA ba 3 ac :: vL c g (x) src (s1))) w3 := h
    obtain ⟨ka, k1⟩ := hc1.out _ h5
    replace htu := Lib.hid (htu.out _ h5.drew)
    clear h h5 d02 d62 d12 d22
    go_wp2_with fail
    have hE2 := hE1.out
    refine wp_region_held_drew (S := fun w' => w'.cell? ⟨ba, 0, none⟩ = some (.int .i64 A0) ∧ w'.cell? ⟨w.heap.size, 1, none⟩ = some (.int .i64 arg)) (by kernel_rfl) ?hS0 (fun hHeld => ?rsS)
    case hS0 => ((try dsimp only); go_keep)
    refine wpAnyH_take (i := 0) (v := ?v0) rfl (by kernel_rfl) (by kernel_rfl) (by kernel_rfl) (fun _ _ _ h => h) (Or.inl ⟨by kernel_rfl, ?hy0⟩) (by assumption) ?rs0
    case hy0 => (intro w hSw; (try dsimp only at hSw); go_simp; try with_reducible rfl)
    try simp only [Act.put, List.setIfInBounds_toArray, List.set_cons_zero, List.set_cons_succ]
    refine wpAnyH_take (i := 1) (v := ?v1) rfl (by kernel_rfl) (by kernel_rfl) (by kernel_rfl) (fun _ _ _ h => h) (Or.inl ⟨by kernel_rfl, ?hy1⟩) (by assumption) ?rs1
    case hy1 => (intro w hSw; (try dsimp only at hSw); go_simp; try with_reducible rfl)
    try simp only [Act.put, List.setIfInBounds_toArray, List.set_cons_zero, List.set_cons_succ]
    refine wpAnyH_take (i := 2) (v := ?v2) rfl (by kernel_rfl) (by kernel_rfl) (by kernel_rfl) (fun _ _ _ h => h) (Or.inl ⟨by kernel_rfl, ?hy2⟩) (by assumption) ?rs2
    case hy2 => (intro w hSw; (try dsimp only at hSw); go_simp; try with_reducible rfl)
    try simp only [Act.put, List.setIfInBounds_toArray, List.set_cons_zero, List.set_cons_succ]
    refine wpAnyH_take (i := 3) (v := ?v3) rfl (by kernel_rfl) (by kernel_rfl) (by kernel_rfl) (fun _ _ _ h => h) (Or.inl ⟨by kernel_rfl, ?hy3⟩) (by assumption) ?rs3
    case hy3 => (intro w hSw; (try dsimp only at hSw); go_simp; try with_reducible rfl)
    try simp only [Act.put, List.setIfInBounds_toArray, List.set_cons_zero, List.set_cons_succ]
    refine wpAnyH_take (i := 4) (v := ?v4) rfl (by kernel_rfl) (by kernel_rfl) (by kernel_rfl) (fun _ _ _ h => h) (Or.inl ⟨by kernel_rfl, ?hy4⟩) (by assumption) ?rs4
    case hy4 => (intro w hSw; (try dsimp only at hSw); go_simp; try with_reducible rfl)
    try simp only [Act.put, List.setIfInBounds_toArray, List.set_cons_zero, List.set_cons_succ]
    refine wpAnyH_take (i := 5) (v := ?v5) rfl (by kernel_rfl) (by kernel_rfl) (by kernel_rfl) (fun _ _ _ h => h) (Or.inl ⟨by kernel_rfl, ?hy5⟩) (by assumption) ?rs5
    case hy5 => (intro w hSw; (try dsimp only at hSw); go_simp; try with_reducible rfl)
    try simp only [Act.put, List.setIfInBounds_toArray, List.set_cons_zero, List.set_cons_succ]
    refine wpAnyH_take (i := 6) (v := ?v6) rfl (by kernel_rfl) (by kernel_rfl) (by kernel_rfl) (fun _ _ _ h => h) (Or.inl ⟨by kernel_rfl, ?hy6⟩) (by assumption) ?rs6
    case hy6 => (intro w hSw; (try dsimp only at hSw); go_simp; try with_reducible rfl)
    try simp only [Act.put, List.setIfInBounds_toArray, List.set_cons_zero, List.set_cons_succ]
    refine wpAnyH_take (i := 7) (v := ?v7) rfl (by kernel_rfl) (by kernel_rfl) (by kernel_rfl) (fun _ _ _ h => h) (Or.inl ⟨by kernel_rfl, ?hy7⟩) (by assumption) ?rs7
    case hy7 => (intro w hSw; (try dsimp only at hSw); go_simp; try with_reducible rfl)
    try simp only [Act.put, List.setIfInBounds_toArray, List.set_cons_zero, List.set_cons_succ]
    refine wpAnyH_take (i := 8) (v := ?v8) rfl (by kernel_rfl) (by kernel_rfl) (by kernel_rfl) (fun _ _ _ h => h) (Or.inl ⟨by kernel_rfl, ?hy8⟩) (by assumption) ?rs8
    case hy8 => (intro w hSw; (try dsimp only at hSw); go_simp; try with_reducible rfl)
    try simp only [Act.put, List.setIfInBounds_toArray, List.set_cons_zero, List.set_cons_succ]
    refine wpAnyH_take (i := 9) (v := .bool false) rfl (by kernel_rfl) (by kernel_rfl) (by kernel_rfl) (fun _ _ _ h => h) (Or.inl ⟨by kernel_rfl, ?hy9⟩) (by assumption) ?rs9
    case hy9 => (intro w hSw; (try dsimp only at hSw); go_simp; (have hE4 := hE2; simp only [IntWalk.i64_left, decide_eq_false_iff_not, decide_eq_true_eq, Int.not_lt] at hE4; exact hE4))
    try simp only [Act.put, List.setIfInBounds_toArray, List.set_cons_zero, List.set_cons_succ]
    refine wpAnyH_take (i := 10) (v := ?v10) rfl (by kernel_rfl) (by kernel_rfl) (by kernel_rfl) (fun _ _ _ h => h) (Or.inl ⟨by kernel_rfl, ?hy10⟩) (by assumption) ?rs10
    case hy10 => (intro w hSw; (try dsimp only at hSw); go_simp; try with_reducible rfl)
    try simp only [Act.put, List.setIfInBounds_toArray, List.set_cons_zero, List.set_cons_succ]
    refine wpAnyH_take (i := 11) (v := undef) rfl (by kernel_rfl) (by kernel_rfl) (by kernel_rfl) (fun _ _ _ h => h) (Or.inr ⟨by kernel_rfl, rfl⟩) (by assumption) ?_
    try simp only [Act.put, List.setIfInBounds_toArray, List.set_cons_zero, List.set_cons_succ]
    refine wpAnyH_take (i := 12) (v := undef) rfl (by kernel_rfl) (by kernel_rfl) (by kernel_rfl) (fun _ _ _ h => h) (Or.inr ⟨by kernel_rfl, rfl⟩) (by assumption) ?_
    try simp only [Act.put, List.setIfInBounds_toArray, List.set_cons_zero, List.set_cons_succ]
    refine wpAnyH_take (i := 13) (v := undef) rfl (by kernel_rfl) (by kernel_rfl) (by kernel_rfl) (fun _ _ _ h => h) (Or.inr ⟨by kernel_rfl, rfl⟩) (by assumption) ?_
    try simp only [Act.put, List.setIfInBounds_toArray, List.set_cons_zero, List.set_cons_succ]
    refine wpAnyH_take (i := 14) (v := undef) rfl (by kernel_rfl) (by kernel_rfl) (by kernel_rfl) (fun _ _ _ h => h) (Or.inr ⟨by kernel_rfl, rfl⟩) (by assumption) ?_
    try simp only [Act.put, List.setIfInBounds_toArray, List.set_cons_zero, List.set_cons_succ]
    refine wpAnyH_take (i := 15) (v := undef) rfl (by kernel_rfl) (by kernel_rfl) (by kernel_rfl) (fun _ _ _ h => h) (Or.inr ⟨by kernel_rfl, rfl⟩) (by assumption) ?_
    try simp only [Act.put, List.setIfInBounds_toArray, List.set_cons_zero, List.set_cons_succ]
    refine wpAnyH_take (i := 16) (v := undef) rfl (by kernel_rfl) (by kernel_rfl) (by kernel_rfl) (fun _ _ _ h => h) (Or.inr ⟨by kernel_rfl, rfl⟩) (by assumption) ?_
    try simp only [Act.put, List.setIfInBounds_toArray, List.set_cons_zero, List.set_cons_succ]
    refine wpAnyH_take (i := 17) (v := ?v17) rfl (by kernel_rfl) (by kernel_rfl) (by kernel_rfl) (fun _ _ _ h => h) (Or.inl ⟨by kernel_rfl, ?hy17⟩) (by assumption) ?rs17
    case hy17 => (intro w hSw; (try dsimp only at hSw); go_simp; try with_reducible rfl)
    try simp only [Act.put, List.setIfInBounds_toArray, List.set_cons_zero, List.set_cons_succ]
    refine wpAnyH_take (i := 18) (v := ?v18) rfl (by kernel_rfl) (by kernel_rfl) (by kernel_rfl) (fun _ _ _ h => h) (Or.inl ⟨by kernel_rfl, ?hy18⟩) (by assumption) ?rs18
    case hy18 => (intro w hSw; (try dsimp only at hSw); go_simp; try with_reducible rfl)
    try simp only [Act.put, List.setIfInBounds_toArray, List.set_cons_zero, List.set_cons_succ]
    refine wpAnyH_take (i := 19) (v := ?v19) rfl (by kernel_rfl) (by kernel_rfl) (by kernel_rfl) (fun _ _ _ h => h) (Or.inl ⟨by kernel_rfl, ?hy19⟩) (by assumption) ?rs19
    case hy19 => (intro w hSw; (try dsimp only at hSw); go_simp; try with_reducible rfl)
    try simp only [Act.put, List.setIfInBounds_toArray, List.set_cons_zero, List.set_cons_succ]
    refine wpAnyH_ready (rs := [20]) (by kernel_rfl) (by simp) ?_
    refine AllReadyH.cons rfl (fun K hK => ?step) ?more
    case more => exact AllReadyH.nil
    go_simp
    go_wp2_with ((go_at_call 197; refine htu.out.mono ?_; rintro e w4 ⟨rfl, h⟩; have n0 : w4.cell? ⟨ba, 0, none⟩ = some (.int .i64 A0) := ha0.out _ (h.blkAt 1 rfl); have n1 : w4.cell? ⟨w.heap.size, 1, none⟩ = some (.int .i64 arg) := (h.blkAt 0 rfl).cell 1; replace h := Lib.hid h))
    refine hK.out _ _ ?hS9 (fun hHeld => ?rs99)
    case hS9 => exact ⟨n0, n1⟩
    clear hK K
    refine wpAnyH_done (by kernel_rfl) ?_ _
    go_wp2
    go_end0
    exact ⟨rfl, h.out.tail⟩
  · go_enter Tryz.func146, Tryz.ntmps146
    obtain ⟨d0, d6, d1, d2⟩ := hcl.out _ hon.out
    go_wp2_with fail
    refine (hpk0.out _ hon.out).mono ?_
    rintro e w1 ⟨rfl, hB⟩
    have hon1 := hon.out.below hB
    obtain ⟨d01, d61, d11, d21⟩ := hcl.out _ hon1
    clear d0 d6 d1 d2 b0 b1 hB
    replace hon1 := Lib.hid hon1
    go_wp2_with fail
    refine (hpk1.out _ hon1.out).mono ?_
    rintro e w2 ⟨rfl, hB⟩
    have hon2 := hon1.out.below hB
    obtain ⟨d02, d62, d12, d22⟩ := hcl.out _ hon2
    clear d01 d61 d11 d21 hB hon1 hpk0 hpk1
    replace hon2 := Lib.hid hon2
    go_wp2_with fail
    refine (hlay.out _ hon2.out).mono ?_
    rintro e w3 ⟨rfl, h⟩
    have h5 : On F w (AllA (BlkA w.heap.size 178 #[.int .i64 9, .int .i64 arg, .int .i64 lit, .int .i64 cells] :: BlkA ba 3 ac :: vL c g (x) src (s1))) w3 := h
    obtain ⟨ka, k1⟩ := hc1.out _ h5
    replace htu := Lib.hid (htu.out _ h5.drew)
    clear h h5 d02 d62 d12 d22
    go_wp2_with fail
    have hE2 := hE1.out
    refine wp_region_held_drew (S := fun w' => w'.cell? ⟨ba, 0, none⟩ = some (.int .i64 A0) ∧ w'.cell? ⟨w.heap.size, 1, none⟩ = some (.int .i64 arg)) (by kernel_rfl) ?hS0t (fun hHeld => ?rsSt)
    case hS0t => ((try dsimp only); go_keep)
    refine wpAnyH_take (i := 0) (v := ?v0t) rfl (by kernel_rfl) (by kernel_rfl) (by kernel_rfl) (fun _ _ _ h => h) (Or.inl ⟨by kernel_rfl, ?hy0t⟩) (by assumption) ?rs0t
    case hy0t => (intro w hSw; (try dsimp only at hSw); go_simp; try with_reducible rfl)
    try simp only [Act.put, List.setIfInBounds_toArray, List.set_cons_zero, List.set_cons_succ]
    refine wpAnyH_take (i := 1) (v := ?v1t) rfl (by kernel_rfl) (by kernel_rfl) (by kernel_rfl) (fun _ _ _ h => h) (Or.inl ⟨by kernel_rfl, ?hy1t⟩) (by assumption) ?rs1t
    case hy1t => (intro w hSw; (try dsimp only at hSw); go_simp; try with_reducible rfl)
    try simp only [Act.put, List.setIfInBounds_toArray, List.set_cons_zero, List.set_cons_succ]
    refine wpAnyH_take (i := 2) (v := ?v2t) rfl (by kernel_rfl) (by kernel_rfl) (by kernel_rfl) (fun _ _ _ h => h) (Or.inl ⟨by kernel_rfl, ?hy2t⟩) (by assumption) ?rs2t
    case hy2t => (intro w hSw; (try dsimp only at hSw); go_simp; try with_reducible rfl)
    try simp only [Act.put, List.setIfInBounds_toArray, List.set_cons_zero, List.set_cons_succ]
    refine wpAnyH_take (i := 3) (v := ?v3t) rfl (by kernel_rfl) (by kernel_rfl) (by kernel_rfl) (fun _ _ _ h => h) (Or.inl ⟨by kernel_rfl, ?hy3t⟩) (by assumption) ?rs3t
    case hy3t => (intro w hSw; (try dsimp only at hSw); go_simp; try with_reducible rfl)
    try simp only [Act.put, List.setIfInBounds_toArray, List.set_cons_zero, List.set_cons_succ]
    refine wpAnyH_take (i := 4) (v := ?v4t) rfl (by kernel_rfl) (by kernel_rfl) (by kernel_rfl) (fun _ _ _ h => h) (Or.inl ⟨by kernel_rfl, ?hy4t⟩) (by assumption) ?rs4t
    case hy4t => (intro w hSw; (try dsimp only at hSw); go_simp; try with_reducible rfl)
    try simp only [Act.put, List.setIfInBounds_toArray, List.set_cons_zero, List.set_cons_succ]
    refine wpAnyH_take (i := 5) (v := ?v5t) rfl (by kernel_rfl) (by kernel_rfl) (by kernel_rfl) (fun _ _ _ h => h) (Or.inl ⟨by kernel_rfl, ?hy5t⟩) (by assumption) ?rs5t
    case hy5t => (intro w hSw; (try dsimp only at hSw); go_simp; try with_reducible rfl)
    try simp only [Act.put, List.setIfInBounds_toArray, List.set_cons_zero, List.set_cons_succ]
    refine wpAnyH_take (i := 6) (v := ?v6t) rfl (by kernel_rfl) (by kernel_rfl) (by kernel_rfl) (fun _ _ _ h => h) (Or.inl ⟨by kernel_rfl, ?hy6t⟩) (by assumption) ?rs6t
    case hy6t => (intro w hSw; (try dsimp only at hSw); go_simp; try with_reducible rfl)
    try simp only [Act.put, List.setIfInBounds_toArray, List.set_cons_zero, List.set_cons_succ]
    refine wpAnyH_take (i := 7) (v := ?v7t) rfl (by kernel_rfl) (by kernel_rfl) (by kernel_rfl) (fun _ _ _ h => h) (Or.inl ⟨by kernel_rfl, ?hy7t⟩) (by assumption) ?rs7t
    case hy7t => (intro w hSw; (try dsimp only at hSw); go_simp; try with_reducible rfl)
    try simp only [Act.put, List.setIfInBounds_toArray, List.set_cons_zero, List.set_cons_succ]
    refine wpAnyH_take (i := 8) (v := ?v8t) rfl (by kernel_rfl) (by kernel_rfl) (by kernel_rfl) (fun _ _ _ h => h) (Or.inl ⟨by kernel_rfl, ?hy8t⟩) (by assumption) ?rs8t
    case hy8t => (intro w hSw; (try dsimp only at hSw); go_simp; try with_reducible rfl)
    try simp only [Act.put, List.setIfInBounds_toArray, List.set_cons_zero, List.set_cons_succ]
    refine wpAnyH_take (i := 9) (v := .bool true) rfl (by kernel_rfl) (by kernel_rfl) (by kernel_rfl) (fun _ _ _ h => h) (Or.inl ⟨by kernel_rfl, ?hy9t⟩) (by assumption) ?rs9t
    case hy9t => (intro w hSw; (try dsimp only at hSw); go_simp; (have hE4 := hE2; simp only [IntWalk.i64_left, decide_eq_false_iff_not, decide_eq_true_eq, Int.not_lt] at hE4; exact hE4))
    try simp only [Act.put, List.setIfInBounds_toArray, List.set_cons_zero, List.set_cons_succ]
    refine wpAnyH_take (i := 10) (v := ?v10t) rfl (by kernel_rfl) (by kernel_rfl) (by kernel_rfl) (fun _ _ _ h => h) (Or.inl ⟨by kernel_rfl, ?hy10t⟩) (by assumption) ?rs10t
    case hy10t => (intro w hSw; (try dsimp only at hSw); go_simp; try with_reducible rfl)
    try simp only [Act.put, List.setIfInBounds_toArray, List.set_cons_zero, List.set_cons_succ]
    refine wpAnyH_take (i := 11) (v := ?v11t) rfl (by kernel_rfl) (by kernel_rfl) (by kernel_rfl) (fun _ _ _ h => h) (Or.inl ⟨by kernel_rfl, ?hy11t⟩) (by assumption) ?rs11t
    case hy11t => (intro w hSw; (try dsimp only at hSw); go_simp; try with_reducible rfl)
    try simp only [Act.put, List.setIfInBounds_toArray, List.set_cons_zero, List.set_cons_succ]
    refine wpAnyH_take (i := 12) (v := ?v12t) rfl (by kernel_rfl) (by kernel_rfl) (by kernel_rfl) (fun _ _ _ h => h) (Or.inl ⟨by kernel_rfl, ?hy12t⟩) (by assumption) ?rs12t
    case hy12t => (intro w hSw; (try dsimp only at hSw); go_simp; try with_reducible rfl)
    try simp only [Act.put, List.setIfInBounds_toArray, List.set_cons_zero, List.set_cons_succ]
    refine wpAnyH_take (i := 13) (v := ?v13t) rfl (by kernel_rfl) (by kernel_rfl) (by kernel_rfl) (fun _ _ _ h => h) (Or.inl ⟨by kernel_rfl, ?hy13t⟩) (by assumption) ?rs13t
    case hy13t => (intro w hSw; (try dsimp only at hSw); go_simp; try with_reducible rfl)
    try simp only [Act.put, List.setIfInBounds_toArray, List.set_cons_zero, List.set_cons_succ]
    refine wpAnyH_take (i := 14) (v := ?v14t) rfl (by kernel_rfl) (by kernel_rfl) (by kernel_rfl) (fun _ _ _ h => h) (Or.inl ⟨by kernel_rfl, ?hy14t⟩) (by assumption) ?rs14t
    case hy14t => (intro w hSw; (try dsimp only at hSw); go_simp; try with_reducible rfl)
    try simp only [Act.put, List.setIfInBounds_toArray, List.set_cons_zero, List.set_cons_succ]
    refine wpAnyH_take (i := 15) (v := ?v15t) rfl (by kernel_rfl) (by kernel_rfl) (by kernel_rfl) (fun _ _ _ h => h) (Or.inl ⟨by kernel_rfl, ?hy15t⟩) (by assumption) ?rs15t
    case hy15t => (intro w hSw; (try dsimp only at hSw); go_simp; try with_reducible rfl)
    try simp only [Act.put, List.setIfInBounds_toArray, List.set_cons_zero, List.set_cons_succ]
    refine wpAnyH_take (i := 16) (v := .bool (decide (bits .xor .i64 (IntKind.i64.wrap (N0 - N1)) A0 < 0))) rfl (by kernel_rfl) (by kernel_rfl) (by kernel_rfl) (fun _ _ _ h => h) (Or.inl ⟨by kernel_rfl, ?hy16t⟩) (by assumption) ?rs16t
    case hy16t => (intro w hSw; (try dsimp only at hSw); go_simp; try (first | with_reducible rfl | simp only [IntWalk.i64_left]))
    try simp only [Act.put, List.setIfInBounds_toArray, List.set_cons_zero, List.set_cons_succ]
    refine wpAnyH_take (i := 17) (v := .bool (decide (bits .xor .i64 (IntKind.i64.wrap (N0 - N1)) A0 < 0))) rfl (by kernel_rfl) (by kernel_rfl) (by kernel_rfl) (fun _ _ _ h => h) (Or.inl ⟨by kernel_rfl, ?hy17t⟩) (by assumption) ?rs17t
    case hy17t => (intro w hSw; (try dsimp only at hSw); go_simp; try (first | with_reducible rfl | simp only [IntWalk.i64_left]))
    try simp only [Act.put, List.setIfInBounds_toArray, List.set_cons_zero, List.set_cons_succ]
    refine wpAnyH_take (i := 18) (v := ?v18t) rfl (by kernel_rfl) (by kernel_rfl) (by kernel_rfl) (fun _ _ _ h => h) (Or.inl ⟨by kernel_rfl, ?hy18t⟩) (by assumption) ?rs18t
    case hy18t => (intro w hSw; (try dsimp only at hSw); go_simp; try with_reducible rfl)
    try simp only [Act.put, List.setIfInBounds_toArray, List.set_cons_zero, List.set_cons_succ]
    refine wpAnyH_take (i := 19) (v := ?v19t) rfl (by kernel_rfl) (by kernel_rfl) (by kernel_rfl) (fun _ _ _ h => h) (Or.inl ⟨by kernel_rfl, ?hy19t⟩) (by assumption) ?rs19t
    case hy19t => (intro w hSw; (try dsimp only at hSw); go_simp; try with_reducible rfl)
    try simp only [Act.put, List.setIfInBounds_toArray, List.set_cons_zero, List.set_cons_succ]
    refine wpAnyH_ready (rs := [20]) (by kernel_rfl) (by simp) ?_
    refine AllReadyH.cons rfl (fun K hK => ?stept) ?moret
    case moret => exact AllReadyH.nil
    go_simp
    go_wp2_with ((go_at_call 197; refine htu.out.mono ?_; rintro e w4 ⟨rfl, h⟩; have n0 : w4.cell? ⟨ba, 0, none⟩ = some (.int .i64 A0) := ha0.out _ (h.blkAt 1 rfl); have n1 : w4.cell? ⟨w.heap.size, 1, none⟩ = some (.int .i64 arg) := (h.blkAt 0 rfl).cell 1; replace h := Lib.hid h))
    refine hK.out _ _ ?hS9t (fun hHeld => ?rs99t)
    case hS9t => exact ⟨n0, n1⟩
    clear hK K
    refine wpAnyH_done (by kernel_rfl) ?_ _
    go_wp2
    go_end0
    exact ⟨rfl, h.out.tail⟩
set_option maxHeartbeats 1000000 in
theorem ctl_loops (op arg lit cells : Int) (q : Rn → Mt → Rs) (h1 : 6 ≤ op) (h2 : op ≤ 15) (hf0 : ∀ x s, (q x s).f = 0) (hq : PartOk 146 ⟨op, arg, lit, cells⟩ q) : PartOk 114 ⟨op, arg, lit, cells⟩ q := by
  intro c g x src s ba w F hs hx hv1 hv2 hask hb
  have hon := (On.refl hb).box #[.int .i64 op, .int .i64 arg, .int .i64 lit, .int .i64 cells] 178
  have b0 : (w.alloc (.cells #[.int .i64 op, .int .i64 arg, .int .i64 lit, .int .i64 cells] 178)).cell? ⟨w.heap.size, 0, none⟩ = some (.int .i64 op) := (hon.blkAt 0 rfl).cell 0
  have b1 : (w.alloc (.cells #[.int .i64 op, .int .i64 arg, .int .i64 lit, .int .i64 cells] 178)).cell? ⟨w.heap.size, 1, none⟩ = some (.int .i64 arg) := (hon.blkAt 0 rfl).cell 1
  have b2 : (w.alloc (.cells #[.int .i64 op, .int .i64 arg, .int .i64 lit, .int .i64 cells] 178)).cell? ⟨w.heap.size, 2, none⟩ = some (.int .i64 lit) := (hon.blkAt 0 rfl).cell 2
  have b3 : (w.alloc (.cells #[.int .i64 op, .int .i64 arg, .int .i64 lit, .int .i64 cells] 178)).cell? ⟨w.heap.size, 3, none⟩ = some (.int .i64 cells) := (hon.blkAt 0 rfl).cell 3
  have hl := hon.callTail fun F' hb' _ _ => hq c g x src s ba _ F' hs hx hv1 hv2 hask hb'
  rw [hf0] at hl ⊢
  have e1 : (op == 1) = false := by rw [beq_eq_false_iff_ne]; omega
  have e2 : (op == 2) = false := by rw [beq_eq_false_iff_ne]; omega
  have e3 : (op == 3) = false := by rw [beq_eq_false_iff_ne]; omega
  have e4 : (op == 4) = false := by rw [beq_eq_false_iff_ne]; omega
  have e5 : (op == 5) = false := by rw [beq_eq_false_iff_ne]; omega
  have e16 : (op == 16) = false := by rw [beq_eq_false_iff_ne]; omega
  have e17 : (op == 17) = false := by rw [beq_eq_false_iff_ne]; omega
  have e18 : (op == 18) = false := by rw [beq_eq_false_iff_ne]; omega
  have e19 : (op == 19) = false := by rw [beq_eq_false_iff_ne]; omega
  have e20 : (op == 20) = false := by rw [beq_eq_false_iff_ne]; omega
  generalize q x s = R at *
  simp only [Inst.v] at hl
  show Calls Tryz.prog 114 #[.pointer (some ⟨g, 0, none⟩), .agg #[.int .i64 op, .int .i64 arg, .int .i64 lit, .int .i64 cells], .slice (some ⟨ba, 0, none⟩) (Code.wants op).1.toNat (Code.wants op).1.toNat] w (Got (.returned (.tuple #[])) (AllA (BlkA ba 3 (intsC (s.args (Code.wants op).1.toNat)) :: vL c g R.x src R.s)) F w)
  generalize intsC (s.args (Code.wants op).1.toNat) = ac at *
  generalize (Code.wants op).1.toNat = n at *
  replace hl := Lib.hid hl
  clear hb hs hx hv1 hv2 hask hf0 hq hon h1 h2
  go_enter Tryz.func114, Tryz.ntmps114
  go_wp2_with fail
  refine hl.out.mono ?_
  rintro e w1 ⟨rfl, h⟩
  replace h := Lib.hid h
  go_wp2
  go_end0
  exact ⟨rfl, h.out.tail⟩
end Vm
end Go.Proofs.YtjhdpmimccpcdaaGreatDoor
