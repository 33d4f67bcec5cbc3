/- Chapter 11's example, walked. No condition. -/
import Derived.Test.YtjhdpmimccpcdaaGreatDoorT39
import Derived.Test.YtjhdpmimccpcdaaGreatDoorT44
import Derived.BigQuiet
namespace Go.Proofs.YtjhdpmimccpcdaaGreatDoor
set_option linter.unusedVariables false
set_option maxRecDepth 100000
open Go.RowKit Go.Lib Go.Deep
namespace Vm
theorem setupX_heads (cs data : List Int) (base : Int) (hc : 16472 + 8 * cs.length ≤ 16960) : (setupX cs data base).mt.ls = 16456 ∧ ∃ n : Nat, (setupX cs data base).mt.hs = n ∧ 16472 ≤ n ∧ n ≤ 16960 := by
  have h1 : (setupX cs data base).mt.ls = ((setupX cs data base).t1.2.l : Int) := rfl
  have h2 : (setupX cs data base).mt.hs = ((setupX cs data base).t1.2.h : Int) := rfl
  rw [h1, h2, setupX_t1 cs data base hc]
  exact ⟨rfl, 16472 + 8 * cs.length, rfl, by omega, hc⟩
theorem shown_v64 : ∀ v ∈ codeShown, V64 v := by
  intro v hv
  simp only [codeShown, List.mem_cons, List.mem_nil_iff, or_false] at hv
  unfold V64
  omega
theorem made_len {B : Asr} {e : Ending} {s : Setup} (h : MadeB s e B) : ∃ (c : Vc) (b : Bc), e = .returned (.pointer (some ⟨b.gB, 0, none⟩)) ∧ B = AllA (mL c s.mt) ∧ Ends c b := by
  obtain ⟨a, b, r, hW, rfl, rfl⟩ := h
  exact ⟨_, b, rfl, rfl, end_ends⟩
theorem On.rebase {w w1 w2 : World} {A : Asr} (hb : Below w.heap.size w w1) (h : On Nob w1 A w2) : On Nob w A w2 := by
  obtain ⟨F', ha, hk, hF⟩ := h
  exact ⟨F', ha, (⟨hb.os, hb.tape, hb.output, hb.size, fun k hk _ => hb.block k hk⟩ : Kept Nob w w1).trans' hk (fun _ h => h.elim), fun k h => (hF k h).imp id (fun h => Nat.le_trans hb.size h)⟩
/-- the law's setup of one word, in memory -/
theorem setIn_lit {W : World} {cs : List Int} {base : Int} {B1 B2 cp : Nat} {t1 t2 : TypeId} (hv : ∀ v ∈ cs, V64 v) (hl : cs.length ≤ 1000000000) (hb : V64 base) (h1 : Blk W B1 t1 (intsC cs)) (h2 : Blk W B2 t2 #[.string nameX, .bool false, .bool false, .slice (some ⟨B1, 0, none⟩) cs.length cp]) : SetIn W (setupX cs [] base) (slX B2) :=
  setIn_x (t1 := t1) (t2 := t2) (cells := intsC cs) (fun k v hk => by
    refine ⟨_, rfl, ?_⟩
    have e2 : ((⟨B1, 0, none⟩ : Addr).add k) = ⟨B1, k, none⟩ := by simp [Addr.add]; intro h; exact h.symm
    rw [e2, h1.cell k]
    simp [intsC, hk]) h1.lt h2 hv hl hb
section
variable {w w' : World} {F : Nat → Prop} {c : Vc} {b : Bc} {s : Mt} {L : List Asr}
/-- small calls on the pair's machine -/
theorem ends_data (he : Ends c b) (h : On F w (AllA (mL c s)) w') : Calls Tryz.prog 16 #[.pointer (some ⟨b.gM, 0, none⟩)] w' (Same (.pointer (some ⟨c.gD, 0, none⟩)) w') := by
  rw [← he.m]
  exact x_data (h.blkAt 0 rfl)
theorem ends_depth (h : On F w (AllA (mL c s)) w') : Calls Tryz.prog 17 #[.pointer (some ⟨c.gD, 0, none⟩)] w' (Same (.int .i64 (s.d : Int)) w') := k_depth (h.stk 2 rfl)
theorem ends_peek (h : On F w (AllA (mL c s)) w') (hs : s.Ok) (h0 : 0 < s.d) : Calls Tryz.prog 25 #[.pointer (some ⟨c.gD, 0, none⟩), .int .i64 0] w' (Quiet (.tuple #[.int .i64 (s.top 0), .int .i64 0]) w') := by
  obtain ⟨gb, hi⟩ := h.img 1 rfl
  have h1 := k_peek (h.stk 2 rfl) hi hs.pd hs.dle 0
  unfold peekV at h1
  have h2 : hasB s.d 0 = true := by unfold hasB; simp; omega
  rw [h2] at h1
  exact h1
end
/-- whatever the law gives, in memory: the pair -/
theorem made_ends {w W : World} {s : Setup} {m : Sl} (hb : Below w.heap.size w W) (hs : SetIn W s m) : Calls Tryz.prog 11 #[.agg (setupC s m)] W (fun e w' => ∃ (c : Vc) (b : Bc), e = .returned (.pointer (some ⟨b.gB, 0, none⟩)) ∧ Ends c b ∧ On Nob w (AllA (mL c s.mt)) w') := by
  refine (b_made hs).mono ?_
  rintro e w1 ⟨B, hMB, hon⟩
  obtain ⟨c, b, rfl, rfl, he⟩ := made_len hMB
  exact ⟨c, b, rfl, he, On.rebase hb hon⟩
theorem top_ar (s : Mt) : s.top 0 = ar s 1 0 := by
  unfold ar Mt.args
  rfl
set_option maxHeartbeats 1000000 in
theorem shown_walk (w : World) : Calls Tryz.prog 10 #[] w (Quiet (.bool true) w) := by
  obtain ⟨hrep, hhead, hseen, htells⟩ := setupX_rep codeShown [] 10 (by decide) shown_v64 (by simp) (fun v h => by cases h)
  obtain ⟨hls, hhs⟩ := setupX_heads codeShown [] 10 (by decide)
  obtain ⟨q, hq, hqf, hql, hqr, hqn⟩ := shown_run hrep htells
  have hbx := ((On.refl (A := AllA []) (F := Nob) (w := w) (fun _ h => h)).box (intsC codeShown) 3).box #[.string nameX, .bool false, .bool false, .slice (some ⟨w.heap.size, 0, none⟩) codeShown.length 5] 27
  simp only [World.size_alloc] at hbx
  have hmade := made_ends (s := setupX codeShown [] 10) (m := slX (w.heap.size + 1)) hbx.outB (setIn_lit (cs := codeShown) (base := 10) (B1 := w.heap.size) (B2 := w.heap.size + 1) (cp := 5) shown_v64 (by decide) (by unfold V64; omega) (hbx.blkAt 1 rfl) (hbx.blkAt 0 rfl))
  clear hbx
  generalize (setupX codeShown [] 10).mt = mt at *
  have hlen : q.s.seen.length = 4 := by rw [hqn, hseen]; rfl
  have hsok := hrep.ok
  have hqok := hqr.ok
  have hroom : 1 ≤ mt.pr.rm - mt.r := by rw [hrep.pr, hrep.r]; decide
  have hsn : mt.seen.length ≤ 900000000 := by rw [hseen]; decide
  have htop : q.s.top 0 = 25 := (top_ar _).trans (hqr.arv 1 0 25 (by omega) (by simp) rfl)
  have hqd : q.s.d = 1 := hqr.d
  have hrun := fun (c : Vc) (W : World) (F' : Nat → Prop) (hb : (AllA (mL c mt)).holds W F') (ht : TellOk c true) => v_run hb hsok (by rw [htells]; exact ht) 1 16472 100 (by unfold V64; omega) none hroom hsn q hq
  rw [hqf, hql] at hrun
  have e4 : clip 100 - 96 = 4 := by decide
  rw [e4] at hrun
  replace hmade := Lib.hid hmade
  replace hrun := Lib.hid hrun
  replace hrep := Lib.hid hrep
  replace hhead := Lib.hid hhead
  replace hls := Lib.hid hls
  replace hhs := Lib.hid hhs
  replace hqok := Lib.hid hqok
  replace htop := Lib.hid htop
  replace hqd := Lib.hid hqd
  replace hlen := Lib.hid hlen
  clear hq hqf hql hqr hqn hseen htells hroom hsn hsok e4
  go_enter Tryz.func10, Tryz.ntmps10
  go_wp2_with fail
  refine hmade.out.mono ?_
  rintro e w1 ⟨c, b, rfl, he, hon⟩
  simp only []
  obtain ⟨p, cap, z0, z1, z2, z3, z4, z5, z6, z7⟩ := ends_both he hon
  have hfind := ends_find he hon hrep.out hhead.out hls.out hhs.out
  replace hfind := Lib.hid hfind
  replace hon := Lib.hid hon
  go_wp2_with fail
  refine hfind.out.mono ?_
  rintro e w2 ⟨rfl, hB⟩
  simp only []
  have hon2 := hon.out.below hB
  obtain ⟨p2, cap2, y0, y1, y2, y3, y4, y5, y6, y7⟩ := ends_both he hon2
  have hbw := hon2.box #[.string ⟨#[120]⟩, .int .i64 16456, .int .i64 16472, .bool false, .bool false, .bool false] 49
  have k5 : (w2.alloc (.cells #[.string ⟨#[120]⟩, .int .i64 16456, .int .i64 16472, .bool false, .bool false, .bool false] 49)).cell? ⟨b.gB, 5, none⟩ = some (.pointer (some ⟨b.gM, 0, none⟩)) := (ends_both he hbw.tail).choose_spec.choose_spec.2.2.2.2.2.1
  have k2 : (w2.alloc (.cells #[.string ⟨#[120]⟩, .int .i64 16456, .int .i64 16472, .bool false, .bool false, .bool false] 49)).cell? ⟨w2.heap.size, 2, none⟩ = some (.int .i64 16472) := (hbw.blkAt 0 rfl).cell 2
  have hrn := hbw.drew.callTail (e0 := .returned (.tuple #[.int .i64 0, .int .i64 4])) (L' := mL c q.s) fun F' hb _ _ => hrun.out c _ F' hb he.tell
  rw [he.m] at hrn
  replace hrn := Lib.hid hrn
  replace hbw := Lib.hid hbw
  clear hfind z0 z1 z2 z3 z4 z5 z6 z7 hon hB hrun
  replace hon2 := Lib.hid hon2
  clear y0 y1 y2 y3 y4 y5 y6 y7
  go_wp2_with fail
  go_region_held (fun w' => w'.cell? ⟨b.gB, 5, none⟩ = some (.pointer (some ⟨b.gM, 0, none⟩)) ∧ w'.cell? ⟨w2.heap.size, 2, none⟩ = some (.int .i64 16472)) (go_keep)
    ((go_at_call 20; refine hrn.out.mono ?_; rintro e w3 ⟨rfl, h⟩; simp only []; have n2 : w3.cell? ⟨w2.heap.size, 2, none⟩ = some (.int .i64 16472) := (h.blkAt 0 rfl).cell 2; have h6 := h.tail; obtain ⟨p3, cap3, x0, x1, x2, x3, x4, x5, x6, x7⟩ := ends_both he h6; clear h; replace h6 := Lib.hid h6))
  clear k5 k2 hrn hbw hon2
  have hdat := Lib.hid (fun W (h : On Nob w (AllA (mL c q.s)) W) => ends_data he h)
  have hdep := Lib.hid (fun W (h : On Nob w (AllA (mL c q.s)) W) => ends_depth h)
  have hpk := fun W (h : On Nob w (AllA (mL c q.s)) W) => ends_peek h hqok.out (by rw [hqd.out]; decide)
  rw [htop.out] at hpk
  rw [hqd.out] at hdep
  replace hpk := Lib.hid hpk
  rw [hlen.out] at x7
  go_wp2_with fail
  refine (hdat.out _ h6.out).mono ?_
  rintro e w4 ⟨rfl, rfl⟩
  simp only []
  go_wp2_with fail
  refine (hpk.out _ h6.out).mono ?_
  rintro e w5 ⟨rfl, hB⟩
  simp only []
  have h7 := h6.out.below hB
  obtain ⟨p4, cap4, v0, v1, v2, v3, v4, v5, v6, v7⟩ := ends_both he h7
  rw [hlen.out] at v7
  clear x0 x1 x2 x3 x4 x5 x6 x7 h6 hB n2
  replace h7 := Lib.hid h7
  go_wp2_with fail
  refine (hdat.out _ h7.out).mono ?_
  rintro e w6 ⟨rfl, rfl⟩
  simp only []
  go_wp2_with fail
  refine (hdep.out _ h7.out).mono ?_
  rintro e w7 ⟨rfl, rfl⟩
  simp only []
  go_wp2
  go_ret
  exact ⟨rfl, h7.out.outB⟩
end Vm
end Go.Proofs.YtjhdpmimccpcdaaGreatDoor
