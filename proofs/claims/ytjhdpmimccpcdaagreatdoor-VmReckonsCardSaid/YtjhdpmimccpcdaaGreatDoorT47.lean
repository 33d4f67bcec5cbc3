/- Chapter 11: the latest word is run. Conditions: as written. -/
import Derived.Test.YtjhdpmimccpcdaaGreatDoorTVNewW
import Derived.Test.YtjhdpmimccpcdaaGreatDoorT22
import Derived.Test.YtjhdpmimccpcdaaGreatDoorTVCells
import Derived.Test.YtjhdpmimccpcdaaGreatDoorT32
import Derived.Deep.AppendLies
import Derived.Deep.CutBlock
import Derived.BigQuiet
namespace Go.Proofs.YtjhdpmimccpcdaaGreatDoor
set_option linter.unusedVariables false
set_option maxRecDepth 100000
open Go.RowKit Go.Lib Go.Deep
namespace Vm
section
variable {w W : World} {F : Nat → Prop} {a : Mw} {b : Bc} {r : Rc} {x : Rw} {t : Mt} {cs data : List Int} {base : Int}
theorem pair_rl (h : On F w (AllA (mL (endC a b r x) t)) W) (h8 : At8 x.S x.D 16456 16960) : RlIn W r.gS r.gb 16448 16960 704 false x.D x.S := by
  have hb : Blk W r.gS 132 (rdicC r.gb 16448 16960 704 false x.D) := h.blkAt 15 rfl
  have hr : Blk W r.gb 5 (bcells x.S.b).toArray := h.blkAt 19 rfl
  exact ⟨⟨hb.cell 0, hb.cell 1, hb.cell 2, hb.cell 3, hb.cell 4, fun i => hb.frozen i⟩, hr, h8, by omega⟩
theorem setupX_D (hc : 16472 + 8 * cs.length ≤ 16960) : (x41 (setupX cs data base)).D = ⟨3, 16472 + 8 * cs.length, 16456⟩ := by
  show (setupX cs data base).t1.2 = _
  rw [setupX_t1 cs data base hc]
theorem setupX_at8 (hc : 16472 + 8 * cs.length ≤ 16960) : At8 (x41 (setupX cs data base)).S (x41 (setupX cs data base)).D 16456 16960 := by
  rw [x41_S, setupX_D hc]
  exact at8_stud (ri_fine _).1 (ri_fine _).2 _ (by omega) hc
theorem setupX_words (hc : 16472 + 8 * cs.length ≤ 16960) (hv : ∀ v ∈ cs, V64 v) : words (x41 (setupX cs data base)).S (x41 (setupX cs data base)).D = [wordX] := by
  have hM := setupX_i3 cs data base hc hv
  rw [x41_S, setupX_D hc]
  refine words_x (ri_fine _).1 (ri_fine _).2 ?_ rfl rfl
  unfold Setup.ri
  rw [base_put hM.lay]
  exact hM.head.put _ _ (by rw [toB_len, hM.ok.len]; have := hM.lay.begs; omega) (.inl (by rw [toB_len]; omega))
theorem pair_all (h : On Nob w (AllA (mL (endC a b r (x41 (setupX cs data base))) t)) W) (hc : 16472 + 8 * cs.length ≤ 16960) (hv : ∀ v ∈ cs, V64 v) :
    Calls Tryz.prog 27 #[.pointer (some ⟨r.gS, 0, none⟩)] W (fun e w' => ∃ sg cap, e = .returned (.slice (some ⟨sg, 0, none⟩) 1 cap) ∧ w'.cell? ⟨sg, 2, none⟩ = some (.int .i64 16472) ∧ ∃ v, On Nob w (AllA (RowW v [wordX] :: mL (endC a b r (x41 (setupX cs data base))) t)) w' ∧ v = .slice (some ⟨sg, 0, none⟩) 1 cap) := by
  have h1 := r_all (pair_rl h (setupX_at8 hc))
  rw [setupX_words hc hv] at h1
  have h2 : Calls Tryz.prog 27 #[.pointer (some ⟨r.gS, 0, none⟩)] W (PostE (fun e B => ∃ v, e = .returned v ∧ B = AllA [RowW v [wordX]]) Nob W) := h1.mono fun e w' ⟨v, he, hon⟩ => ⟨_, ⟨v, he, rfl⟩, hon⟩
  refine (h.make h2).mono ?_
  rintro e w' ⟨B, ⟨v, rfl, rfl⟩, hon⟩
  have hon2 : On Nob w (AllA (RowW v [wordX] :: mL (endC a b r (x41 (setupX cs data base))) t)) w' := hon.flat
  obtain ⟨F1, hrow⟩ := hon2.at_ 0 rfl
  rcases rowW_form hrow with ⟨_, h3⟩ | ⟨sg, cap, rfl, h3⟩
  · cases h3
  · have h4 := h3 0 (by decide) 2 (by decide)
    exact ⟨sg, cap, rfl, h4, _, hon2, rfl⟩
set_option maxHeartbeats 2000000 in
theorem pair_ran (h : On Nob w (AllA (mL (endC a b r (x41 (setupX cs data base))) t)) W) (hW : b.gW = r.gW) (hc : 16472 + 8 * cs.length ≤ 16960) (hv : ∀ v ∈ cs, V64 v) (ht : t.Ok) (htl : t.tells = true) (hroom : 1 ≤ t.pr.rm - t.r) (hsn : t.seen.length ≤ 900000000) (mode fuel : Int) (q : Rs)
    (hq : goesS ((clip fuel).toNat + 1) { Rn.start mode fuel with pc := 16472 } (t.pushR [0]) = some q) :
    Calls Tryz.prog 21 #[.pointer (some ⟨b.gB, 0, none⟩), .int .i64 mode, .int .i64 fuel] W (fun e w' => e = .returned (.tuple #[.int .i64 q.f, .int .i64 (clip fuel - q.x.left)]) ∧ On Nob w (AllA (mL (endC a b r (x41 (setupX cs data base))) q.s)) w') := by
  have he : Ends (endC a b r (x41 (setupX cs data base))) b := end_ends
  have hall := pair_all h hc hv
  have hw : Blk W r.gW 77 (worldC r r.gS a.v2 (x41 (setupX cs data base)).fault (x41 (setupX cs data base)).used (x41 (setupX cs data base)).hidden (x41 (setupX cs data base)).tells) := h.blkAt 11 rfl
  have d2 : W.cell? ⟨r.gW, 2, none⟩ = some (.pointer (some ⟨r.gS, 0, none⟩)) := hw.cell 2
  obtain ⟨p, cap0, z0, z1, z2, z3, z4, z5, z6, z7⟩ := ends_both he h
  rw [hW] at z6
  have hrun := fun (W2 : World) (F' : Nat → Prop) (hb : (AllA (mL (endC a b r (x41 (setupX cs data base))) t)).holds W2 F') => v_run hb ht (by rw [htl]; exact he.tell) mode 16472 fuel (by unfold V64; omega) none hroom hsn q hq
  have hcb : ∀ W2, On Nob w (AllA (mL (endC a b r (x41 (setupX cs data base))) t)) W2 → W2.cell? ⟨b.gB, 5, none⟩ = some (.pointer (some ⟨b.gM, 0, none⟩)) := fun W2 h => (ends_both he h).choose_spec.choose_spec.2.2.2.2.2.1
  have hcb2 : ∀ W2, On Nob w (AllA (mL (endC a b r (x41 (setupX cs data base))) q.s)) W2 → W2.cell? ⟨b.gB, 5, none⟩ = some (.pointer (some ⟨b.gM, 0, none⟩)) := fun W2 h => (ends_both he h).choose_spec.choose_spec.2.2.2.2.2.1
  replace hall := Lib.hid hall
  replace hrun := Lib.hid hrun
  replace hcb := Lib.hid hcb
  replace hcb2 := Lib.hid hcb2
  replace he := Lib.hid he
  clear hw hq ht htl hroom hsn h hv hc z0 z1 z2 z3 z4 z5 z7
  generalize clip fuel - q.x.left = used at *
  go_enter Tryz.func21, Tryz.ntmps21
  go_wp2_with fail
  refine hall.out.mono ?_
  rintro e w1 ⟨sg, cap, rfl, hx, v, hon, hve⟩
  simp only []
  have g5 := hcb.out _ hon.tail
  have hrn := hon.drew.callTail (e0 := .returned (.tuple #[.int .i64 q.f, .int .i64 used])) (L' := mL (endC a b r (x41 (setupX cs data base))) q.s) fun F' hb _ _ => hrun.out _ F' hb
  rw [he.out.m] at hrn
  have hrw : ∀ W2, On Nob w (AllA (RowW v [wordX] :: mL (endC a b r (x41 (setupX cs data base))) q.s)) W2 → W2.cell? ⟨sg, 2, none⟩ = some (.int .i64 16472) := fun W2 h => by
    obtain ⟨F1, hrow⟩ := h.at_ 0 rfl
    rw [hve] at hrow
    rcases rowW_form hrow with ⟨_, h3⟩ | ⟨sg2, cap2, h5, h3⟩
    · cases h3
    · cases h5
      exact h3 0 (by decide) 2 (by decide)
  replace hrn := Lib.hid hrn
  replace hon := Lib.hid hon
  replace hrw := Lib.hid hrw
  replace hve := Lib.hid hve
  go_wp2_with fail
  go_region_held (fun w' => w'.cell? ⟨b.gB, 5, none⟩ = some (.pointer (some ⟨b.gM, 0, none⟩)) ∧ w'.cell? ⟨sg, 2, none⟩ = some (.int .i64 16472)) (go_keep)
    ((go_at_call 20; refine hrn.out.mono ?_; rintro e w3 ⟨rfl, h⟩; simp only []; have n5 := hcb2.out _ h.tail; have n2 := hrw.out _ h; replace h := Lib.hid h))
  all_goals go_wp2
  all_goals go_ret2
  all_goals exact ⟨rfl, h.out.tail⟩
end
end Vm
end Go.Proofs.YtjhdpmimccpcdaaGreatDoor
/- The law VmReckons: a run of some cells (runs). Conditions: as written. -/
namespace Go.Proofs.YtjhdpmimccpcdaaGreatDoor
set_option linter.unusedVariables false
set_option maxRecDepth 100000
open Go.RowKit Go.Lib Go.Deep
namespace Vm
def slR (B2 : Nat) (dv : Option Addr) (dl cd : Nat) : Sl := ⟨none, 0, some ⟨B2, 0, none⟩, 1, dv, cd, none, 0⟩
theorem ints_own {W : World} {g n cap : Nat} {e : TypeId} {l : List Int} (h : W.ownsRow 0 e 1 (.slice (some ⟨g, 0, none⟩) n cap) n (l.map (Value.int .i64))) : Ints W (some ⟨g, 0, none⟩) l ∧ g < W.heap.size := by
  have hlen := h.1
  rcases h.2 with ⟨h1, _⟩ | ⟨g', cap', cur, hv, _, hg, _, _, hsz, htk⟩
  · cases h1
  · cases hv
    refine ⟨fun k v hk => ?_, ?_⟩
    · have e2 : ((⟨g, 0, none⟩ : Addr).add k) = ⟨g, k, none⟩ := by simp [Addr.add]; intro h; exact h.symm
      refine ⟨_, rfl, ?_⟩
      rw [e2, cell_of_row W g k cur e _ hg]
      have hk2 : (l.map (Value.int .i64))[k]? = some (.int .i64 v) := by simp [hk]
      rw [← htk] at hk2
      rw [List.getElem?_take] at hk2
      split at hk2
      · simpa using hk2
      · cases hk2
    · rcases Nat.lt_or_ge g W.heap.size with hlt | hge
      · exact hlt
      · rw [Array.getElem?_eq_none hge] at hg; cases hg
theorem setIn_runs {W : World} {cs data : List Int} {B1 B2 B3 cp cd : Nat} {t2 t3 : TypeId} (hv : ∀ v ∈ cs, V64 v) (hl : cs.length ≤ 1000000000) (hdv : ∀ v ∈ data, V64 v) (hdl : data.length ≤ 1000000000) (h1 : Ints W (some ⟨B1, 0, none⟩) cs) (hlt : B1 < W.heap.size)
    (h2 : Blk W B2 t2 #[.string nameX, .bool false, .bool false, .slice (some ⟨B1, 0, none⟩) cs.length cp]) (h3 : Blk W B3 t3 (intsC data)) : SetIn W (setupX cs data 10) (slR B2 (some ⟨B3, 0, none⟩) data.length cd) := by
  have h := setIn_x (base := 10) (t1 := 0) (cells := #[]) h1 hlt h2 hv hl (by unfold V64; omega)
  refine ⟨h.kw, h.sw, ⟨fun j v hj => ⟨B3, 0, rfl, fun h => h, ?_⟩, hdv, hdl⟩, h.rw_, h.kl, h.sl, h.caps, h.room, h.base, h.inp, h.hid⟩
  rw [Nat.zero_add, h3.cell j]
  simp [intsC, show data[j]? = some v from hj]
theorem info_int2 : (Tryz.prog.info? 3).map (fun i => (i.zero, i.size, i.bytes)) = some (some (.int .i64 0), 1, 8) := by kernel_rfl
/-- what a run of some cells hands back -/
def RunsV (q : Rs) (e : Ending) (B : Asr) : Prop := ∃ b, e = .returned (.tuple #[.slice (some ⟨b, 0, none⟩) q.s.d q.s.d, .bool (q.f == 0)]) ∧ B = AllA [BlkA b 3 (intsC (stkAll q.s.S q.s.pd.fr q.s.d))]
set_option maxHeartbeats 8000000 in
theorem b_runs {cs data : List Int} (hc : 16480 + 8 * cs.length ≤ 16960) (hc1 : 1 ≤ cs.length) (hcv : ∀ v ∈ cs, V64 v) (hdv : ∀ v ∈ data, V64 v) (hdl : data.length ≤ 16) {W : World} {Bc Bd : Nat} (hB1 : Blk W Bc 3 (intsC cs)) (hB2 : Blk W Bd 3 (intsC data)) (q : Rs)
    (hq : goesS ((clip 4000).toNat + 1) { Rn.start 1 4000 with pc := 16472 } ((setupX (cs ++ [1]) data 10).mt.pushR [0]) = some q) (hqok : q.s.Ok) :
    Calls Tryz.prog 26 #[.slice (some ⟨Bc, 0, none⟩) cs.length cs.length, .slice (some ⟨Bd, 0, none⟩) data.length data.length] W (PostE (RunsV q) Nob W) := by
  obtain ⟨i0, hi0, hz0, hz1, hz2⟩ := info_parts info_int2
  have hon := On.refl (A := AllA []) (F := Nob) (w := W) (fun _ h => h)
  have hcl : 16472 + 8 * (cs ++ [1]).length ≤ 16960 := by simp; omega
  have hcv2 : ∀ v ∈ cs ++ [1], V64 v := by
    intro v hv
    rcases List.mem_append.1 hv with h | h
    · exact hcv v h
    · rw [List.mem_singleton.1 h]; unfold V64; omega
  have hlen : cs.length ≤ 60 := by omega
  have hn1 := hB1.cell
  have hnews : ∀ j u, ((intsC cs).toList)[j]? = some u → W.cell? ((⟨Bc, 0, none⟩ : Addr).add j) = some u := fun j u hu => by
    have e2 : ((⟨Bc, 0, none⟩ : Addr).add j) = ⟨Bc, j, none⟩ := by simp [Addr.add]; intro h; exact h.symm
    rw [e2, hB1.cell j]
    simpa using hu
  replace hi0 := Lib.hid hi0
  replace hz0 := Lib.hid hz0
  replace hz1 := Lib.hid hz1
  replace hz2 := Lib.hid hz2
  replace hon := Lib.hid hon
  replace hnews := Lib.hid hnews
  replace hlen := Lib.hid hlen
  replace hc1 := Lib.hid hc1
  clear hn1
  go_enter Tryz.func26, Tryz.ntmps26
  go_wp2_with (first
    | (at_builtin; refine wpList_append_lies _ rfl (.const (.slice none 0 0)) (.tmp 10) 25 rfl 0 3 i0 (.int .i64 0) 1 8 Tryz.underlying25 hi0.out hz0.out hz1.out hz2.out rfl (by omega) (.slice none 0 0) 0 [] (by rfl) (World.ownsRow_nil _ _ _ _) ⟨Bc, 0, none⟩ cs.length cs.length (intsC cs).toList (by rfl) (by simp [intsC]) hnews.out (by simp [intsC]; intro a h; rfl) hc1.out (by unfold maxLen; have := hlen.out; omega) (by have := hlen.out; omega) (Nat.zero_le _) _ rfl ?_; intro g1 cap1 w2 hown2 hgrow2 hat2 hlt2)
    | (at_builtin; refine wpList_append_lies _ rfl (.tmp 11) (.tmp 12) 25 rfl 0 3 i0 (.int .i64 0) 1 8 Tryz.underlying25 hi0.out hz0.out hz1.out hz2.out rfl (by omega) (.slice (some ⟨g1, 0, none⟩) (0 + cs.length) cap1) (0 + cs.length) ([] ++ (intsC cs).toList) (by rw [Nat.zero_add]; rfl) (hown2.alloc _) ⟨w2.heap.size, 0, none⟩ 1 1 [.int .i64 1] (by rfl) (by rfl) (by intro j u hj; rcases j with _ | j; (simp at hj; subst hj; simp [Addr.add]); (simp at hj)) (by intro u hu; rw [List.mem_singleton.1 hu]; rfl) (by omega) (by unfold maxLen; have := hlen.out; omega) (by have := hlen.out; omega) (Nat.zero_le _) _ rfl ?_; intro g3 cap3 w3 hown3 hgrow3 hat3 hlt3))
  have hk2 : Kept Nob W w2 := (Kept.refl Nob W).grown hgrow2 (fun k h => by cases h)
  have hg1 : W.heap.size ≤ g1 := by
    rcases hat2 with h | h
    · cases h
    · omega
  have hk3 : Kept Nob W w3 := (hk2.alloc _).grown hgrow3 (fun k h => .inr (by
    have h' : g1 = k := by injection h
    omega))
  have hk4 := hk3.alloc (.cells #[.string ⟨#[120]⟩, .bool false, .bool false, .slice (some ⟨g3, 0, none⟩) (cs.length + 1) cap3] 27)
  have hown4 := hown3.alloc (.cells #[.string ⟨#[120]⟩, .bool false, .bool false, .slice (some ⟨g3, 0, none⟩) (cs.length + 1) cap3] 27)
  have ec : ([] ++ (intsC cs).toList ++ [Value.int .i64 1]) = (cs ++ [1]).map (Value.int .i64) := by simp [intsC]
  rw [ec] at hown4
  obtain ⟨hin, hglt⟩ := ints_own hown4
  have hBd : Blk (w3.alloc (.cells #[.string ⟨#[120]⟩, .bool false, .bool false, .slice (some ⟨g3, 0, none⟩) (cs.length + 1) cap3] 27)) Bd 3 (intsC data) := (hk4.block Bd hB2.lt (fun h => h)).trans hB2
  have hon4 := hon.out.keptNob hk3
  have hbx := hon4.box #[.string nameX, .bool false, .bool false, .slice (some ⟨g3, 0, none⟩) (cs ++ [1]).length cap3] 27
  have hW0 : #[Value.string nameX, .bool false, .bool false, .slice (some ⟨g3, 0, none⟩) (cs ++ [1]).length cap3] = #[.string ⟨#[120]⟩, .bool false, .bool false, .slice (some ⟨g3, 0, none⟩) (cs.length + 1) cap3] := by simp [nameX]
  have hmade := made_pair (s := setupX (cs ++ [1]) data 10) (m := slR w3.heap.size (some ⟨Bd, 0, none⟩) data.length data.length) (w := W) (by rw [hW0] at hbx; exact hbx.outB) (setIn_runs (B1 := g3) (B2 := w3.heap.size) (B3 := Bd) (cp := cap3) hcv2 (by simp; have := hlen.out; omega) hdv (by omega) hin hglt (by have := hbx.blkAt 0 rfl; rw [hW0] at this ⊢; exact this) hBd)
  clear hbx hon4 hk2 hk3 hk4 hown2 hown3 hown4 hgrow2 hgrow3 hat2 hat3 hlt2 hlt3 hin hglt hBd ec hW0 hg1
  obtain ⟨hrep, _, hseen, htells⟩ := setupX_rep (cs ++ [1]) data 10 hcl hcv2 hdl hdv
  replace hmade := Lib.hid hmade
  replace hq := Lib.hid hq
  replace hqok := Lib.hid hqok
  replace hrep := Lib.hid hrep
  replace hseen := Lib.hid hseen
  replace htells := Lib.hid htells
  replace hcl := Lib.hid hcl
  replace hcv2 := Lib.hid hcv2
  clear hB1 hB2 hcv hdv hdl hc
  refine hmade.out.mono ?_
  rintro e w4 ⟨a, b, r, rfl, hW, hon5⟩
  simp only []
  have he : Ends (endC a b r (x41 (setupX (cs ++ [1]) data 10))) b := end_ends
  have hcb : ∀ (t : Mt) W2, On Nob W (AllA (mL (endC a b r (x41 (setupX (cs ++ [1]) data 10))) t)) W2 → W2.cell? ⟨b.gB, 5, none⟩ = some (.pointer (some ⟨b.gM, 0, none⟩)) := fun t W2 h => (ends_both he h).choose_spec.choose_spec.2.2.2.2.2.1
  have hran := pair_ran (w := W) (W := w4) (a := a) (b := b) (r := r) (cs := cs ++ [1]) (data := data) (base := 10) hon5 hW hcl.out hcv2.out hrep.out.ok htells.out (by rw [hrep.out.pr, hrep.out.r]; decide) (by rw [hseen.out]; simp) 1 4000 q hq.out
  have hdat : ∀ W2, On Nob W (AllA (mL (endC a b r (x41 (setupX (cs ++ [1]) data 10))) q.s)) W2 → Calls Tryz.prog 16 #[.pointer (some ⟨b.gM, 0, none⟩)] W2 (Same (.pointer (some ⟨(endC a b r (x41 (setupX (cs ++ [1]) data 10))).gD, 0, none⟩)) W2) := fun W2 h => ends_data he h
  have hcells := fun W2 (h : On Nob W (AllA (mL (endC a b r (x41 (setupX (cs ++ [1]) data 10))) q.s)) W2) => h.makeV (k_cells (h.stk 2 rfl) (h.img 1 rfl).choose_spec hqok.out.pd hqok.out.dle)
  generalize endC a b r (x41 (setupX (cs ++ [1]) data 10)) = cX at *
  replace hran := Lib.hid hran
  replace hdat := Lib.hid hdat
  replace hcells := Lib.hid hcells
  replace hon5 := Lib.hid hon5
  replace he := Lib.hid he
  have c5 := hcb _ _ hon5.out
  replace hcb := Lib.hid hcb
  replace hW := Lib.hid hW
  clear hmade hq hrep hseen htells hnews
  go_wp2_with fail
  refine hran.out.mono ?_
  rintro e w5 ⟨rfl, hon6⟩
  simp only []
  have d5 := hcb.out _ _ hon6
  replace hon6 := Lib.hid hon6
  go_wp2_with fail
  refine (hdat.out _ hon6.out).mono ?_
  rintro e w6 ⟨rfl, rfl⟩
  simp only []
  go_wp2_with fail
  refine (hcells.out _ hon6.out).mono ?_
  rintro e w7 ⟨rfl, hon7⟩
  simp only []
  replace hon7 := Lib.hid hon7
  go_wp2
  go_ret2
  exact ⟨_, ⟨w6.heap.size, rfl, rfl⟩, (hon7.out.dropTail (L1 := [_])).flat⟩
end Vm
end Go.Proofs.YtjhdpmimccpcdaaGreatDoor
/- The law VmReckons, walked. Conditions: as written. Printed by gen_vreckw.py. -/
namespace Go.Proofs.YtjhdpmimccpcdaaGreatDoor
set_option linter.unusedVariables false
set_option maxRecDepth 100000
open Go.RowKit Go.Lib Go.Deep
namespace Vm
/-- a run that went well: its cells -/
def OutV (l : List Int) (e : Ending) (B : Asr) : Prop := ∃ b, e = .returned (.tuple #[.slice (some ⟨b, 0, none⟩) l.length l.length, .bool true]) ∧ B = AllA [BlkA b 3 (intsC l)]
def OutN (n : Nat) (l : List Int) (e : Ending) (B : Asr) : Prop := ∃ b, e = .returned (.tuple #[.slice (some ⟨b, 0, none⟩) n n, .bool true]) ∧ B = AllA [BlkA b 3 (intsC l)]
/-- a run that gave up -/
def FailV (e : Ending) (B : Asr) : Prop := ∃ b n, e = .returned (.tuple #[.slice (some ⟨b, 0, none⟩) n n, .bool false])
theorem stk_all {q : Mt} {a : Nat} {cs out : List Int} (hr : Rep q a cs out []) : stkAll q.S q.pd.fr q.d = out := by
  rw [hr.pd, hr.d]
  unfold stkAll
  apply List.ext_getElem?
  intro i
  rw [List.getElem?_map]
  by_cases hi : i < out.length
  · rw [List.getElem?_range hi]
    obtain ⟨v, hv⟩ : ∃ v, out[i]? = some v := ⟨out[i], List.getElem?_eq_getElem hi⟩
    rw [hv]
    show some (sget q.S 16960 i) = some v
    rw [hr.dv i v hv]
  · rw [List.getElem?_eq_none (by simp; omega), List.getElem?_eq_none (by omega)]
    rfl
theorem runs_out {q : Rs} {a : Nat} {cs out : List Int} (hf : q.f = 0) (hr : Rep q.s a cs out []) {e : Ending} {B : Asr} (h : RunsV q e B) : OutV out e B := by
  obtain ⟨b, he, hB⟩ := h
  rw [stk_all hr] at hB
  rw [hr.d, hf] at he
  exact ⟨b, he, hB⟩
theorem runs_fail {q : Rs} (hf : q.f = 7) {e : Ending} {B : Asr} (h : RunsV q e B) : FailV e B := by
  obtain ⟨b, he, hB⟩ := h
  rw [hf] at he
  exact ⟨b, _, he⟩
/-- the two rows of a run, newly laid -/
theorem two_rows (cs data : List Int) (W : World) : Blk ((W.alloc (.cells (intsC cs) 3)).alloc (.cells (intsC data) 3)) W.heap.size 3 (intsC cs) ∧ Blk ((W.alloc (.cells (intsC cs) 3)).alloc (.cells (intsC data) 3)) (W.heap.size + 1) 3 (intsC data) := by
  have h := ((On.refl (A := AllA []) (F := Nob) (w := W) (fun _ h => h)).box (intsC cs) 3).box (intsC data) 3
  have h0 := h.blkAt 0 rfl
  have h1 := h.blkAt 1 rfl
  simp only [World.size_alloc] at h0
  exact ⟨h1, h0⟩
/-- a run that goes well, its rows newly laid -/
theorem new_runs {cs data out : List Int} (hc : 16480 + 8 * cs.length ≤ 16960) (hc1 : 1 ≤ cs.length) (hcv : ∀ v ∈ cs, V64 v) (hdv : ∀ v ∈ data, V64 v) (hdl : data.length ≤ 16)
    (hr : ∀ s, Rep s 16472 (cs ++ [1]) data [] → ∃ q a cs1, goesS ((clip 4000).toNat + 1) { Rn.start 1 4000 with pc := 16472 } (s.pushR [0]) = some q ∧ q.f = 0 ∧ Rep q.s a cs1 out []) (W : World) :
    Calls Tryz.prog 26 #[.slice (some ⟨W.heap.size, 0, none⟩) cs.length cs.length, .slice (some ⟨W.heap.size + 1, 0, none⟩) data.length data.length] ((W.alloc (.cells (intsC cs) 3)).alloc (.cells (intsC data) 3)) (PostE (OutV out) Nob ((W.alloc (.cells (intsC cs) 3)).alloc (.cells (intsC data) 3))) := by
  have hcl : 16472 + 8 * (cs ++ [1]).length ≤ 16960 := by simp; omega
  have hcv2 : ∀ v ∈ cs ++ [1], V64 v := by
    intro v hv
    rcases List.mem_append.1 hv with h | h
    · exact hcv v h
    · rw [List.mem_singleton.1 h]; unfold V64; omega
  obtain ⟨hrep, _⟩ := setupX_rep (cs ++ [1]) data 10 hcl hcv2 hdl hdv
  obtain ⟨q, _, _, hq, hf, hr2⟩ := hr _ hrep
  obtain ⟨h1, h2⟩ := two_rows cs data W
  exact (b_runs hc hc1 hcv hdv hdl h1 h2 q hq hr2.ok).mono fun e w' ⟨B, hR, hon⟩ => ⟨B, runs_out hf hr2 hR, hon⟩
theorem fail_runs {cs data : List Int} (hc : 16480 + 8 * cs.length ≤ 16960) (hc1 : 1 ≤ cs.length) (hcv : ∀ v ∈ cs, V64 v) (hdv : ∀ v ∈ data, V64 v) (hdl : data.length ≤ 16)
    (hr : ∀ s, Rep s 16472 (cs ++ [1]) data [] → ∃ q, goesS ((clip 4000).toNat + 1) { Rn.start 1 4000 with pc := 16472 } (s.pushR [0]) = some q ∧ q.f = 7 ∧ q.s.Ok) (W : World) :
    Calls Tryz.prog 26 #[.slice (some ⟨W.heap.size, 0, none⟩) cs.length cs.length, .slice (some ⟨W.heap.size + 1, 0, none⟩) data.length data.length] ((W.alloc (.cells (intsC cs) 3)).alloc (.cells (intsC data) 3)) (PostE FailV Nob ((W.alloc (.cells (intsC cs) 3)).alloc (.cells (intsC data) 3))) := by
  have hcl : 16472 + 8 * (cs ++ [1]).length ≤ 16960 := by simp; omega
  have hcv2 : ∀ v ∈ cs ++ [1], V64 v := by
    intro v hv
    rcases List.mem_append.1 hv with h | h
    · exact hcv v h
    · rw [List.mem_singleton.1 h]; unfold V64; omega
  obtain ⟨hrep, _⟩ := setupX_rep (cs ++ [1]) data 10 hcl hcv2 hdl hdv
  obtain ⟨q, hq, hf, hok⟩ := hr _ hrep
  obtain ⟨h1, h2⟩ := two_rows cs data W
  exact (b_runs hc hc1 hcv hdv hdl h1 h2 q hq hok).mono fun e w' ⟨B, hR, hon⟩ => ⟨B, runs_fail hf hR, hon⟩
theorem ops_v64 {l : List Int} (h : ∀ v ∈ l, 0 ≤ v ∧ v ≤ 255) : ∀ v ∈ l, V64 v := fun v hv => by
  have := h v hv
  unfold V64
  omega
theorem w_back (x y z : Int) (vx : V64 x) (vy : V64 y) (vz : V64 z) (hd : decide (y = 0) = false) (W : World) : Calls Tryz.prog 26 #[.slice (some ⟨W.heap.size, 0, none⟩) 6 6, .slice (some ⟨W.heap.size + 1, 0, none⟩) 2 2] ((W.alloc (.cells #[.int .i64 24, .int .i64 24, .int .i64 36, .int .i64 25, .int .i64 33, .int .i64 31] 3)).alloc (.cells #[.int .i64 x, .int .i64 y] 3)) (PostE (OutN 2 ([x, x])) Nob ((W.alloc (.cells #[.int .i64 24, .int .i64 24, .int .i64 36, .int .i64 25, .int .i64 33, .int .i64 31] 3)).alloc (.cells #[.int .i64 x, .int .i64 y] 3))) :=
  new_runs (cs := [24, 24, 36, 25, 33, 31]) (data := [x, y]) (out := [x, x]) (by decide) (by decide) (ops_v64 (by decide)) (fun v hv => by
    simp only [List.mem_cons, List.mem_nil_iff, or_false] at hv
    rcases hv with rfl | rfl <;> assumption) (by simp) (fun s h => by
    obtain ⟨q, h1, h2, h3⟩ := run_back x y vx vy hd h
    exact ⟨q, _, _, h1, h2, h3⟩) W
theorem w_divs (x y z : Int) (vx : V64 x) (vy : V64 y) (vz : V64 z) (hd : decide (y = 0) = false) (W : World) : Calls Tryz.prog 26 #[.slice (some ⟨W.heap.size, 0, none⟩) 6 6, .slice (some ⟨W.heap.size + 1, 0, none⟩) 2 2] ((W.alloc (.cells #[.int .i64 24, .int .i64 24, .int .i64 34, .int .i64 13, .int .i64 35, .int .i64 14] 3)).alloc (.cells #[.int .i64 x, .int .i64 y] 3)) (PostE (OutN 2 ([floR x y, floQ x y])) Nob ((W.alloc (.cells #[.int .i64 24, .int .i64 24, .int .i64 34, .int .i64 13, .int .i64 35, .int .i64 14] 3)).alloc (.cells #[.int .i64 x, .int .i64 y] 3))) :=
  new_runs (cs := [24, 24, 34, 13, 35, 14]) (data := [x, y]) (out := [floR x y, floQ x y]) (by decide) (by decide) (ops_v64 (by decide)) (fun v hv => by
    simp only [List.mem_cons, List.mem_nil_iff, or_false] at hv
    rcases hv with rfl | rfl <;> assumption) (by simp) (fun s h => by
    obtain ⟨q, h1, h2, h3⟩ := run_divs x y vx vy hd h
    exact ⟨q, _, _, h1, h2, h3⟩) W
theorem w_divmod (x y z : Int) (vx : V64 x) (vy : V64 y) (vz : V64 z) (hd : decide (y = 0) = false) (W : World) : Calls Tryz.prog 26 #[.slice (some ⟨W.heap.size, 0, none⟩) 1 1, .slice (some ⟨W.heap.size + 1, 0, none⟩) 2 2] ((W.alloc (.cells #[.int .i64 36] 3)).alloc (.cells #[.int .i64 x, .int .i64 y] 3)) (PostE (OutN 2 ([floR x y, floQ x y])) Nob ((W.alloc (.cells #[.int .i64 36] 3)).alloc (.cells #[.int .i64 x, .int .i64 y] 3))) :=
  new_runs (cs := [36]) (data := [x, y]) (out := [floR x y, floQ x y]) (by decide) (by decide) (ops_v64 (by decide)) (fun v hv => by
    simp only [List.mem_cons, List.mem_nil_iff, or_false] at hv
    rcases hv with rfl | rfl <;> assumption) (by simp) (fun s h => by
    obtain ⟨q, h1, h2, h3⟩ := run_divmod x y vx vy hd h
    exact ⟨q, _, _, h1, h2, h3⟩) W
theorem w_star (x y z : Int) (vx : V64 x) (vy : V64 y) (vz : V64 z) (hd : fdOut (utLo x z) (tHi x z) y = false) (W : World) : Calls Tryz.prog 26 #[.slice (some ⟨W.heap.size, 0, none⟩) 4 4, .slice (some ⟨W.heap.size + 1, 0, none⟩) 3 3] ((W.alloc (.cells #[.int .i64 13, .int .i64 53, .int .i64 14, .int .i64 57] 3)).alloc (.cells #[.int .i64 x, .int .i64 z, .int .i64 y] 3)) (PostE (OutN 2 ([fdR (utLo x z) (tHi x z) y, fdQ (utLo x z) (tHi x z) y])) Nob ((W.alloc (.cells #[.int .i64 13, .int .i64 53, .int .i64 14, .int .i64 57] 3)).alloc (.cells #[.int .i64 x, .int .i64 z, .int .i64 y] 3))) :=
  new_runs (cs := [13, 53, 14, 57]) (data := [x, z, y]) (out := [fdR (utLo x z) (tHi x z) y, fdQ (utLo x z) (tHi x z) y]) (by decide) (by decide) (ops_v64 (by decide)) (fun v hv => by
    simp only [List.mem_cons, List.mem_nil_iff, or_false] at hv
    rcases hv with rfl | rfl | rfl <;> assumption) (by simp) (fun s h => by
    obtain ⟨q, h1, h2, h3⟩ := run_star x z y vx vz vy hd h
    exact ⟨q, _, _, h1, h2, h3⟩) W
theorem w_star_out (x y z : Int) (vx : V64 x) (vy : V64 y) (vz : V64 z) (hd : fdOut (utLo x z) (tHi x z) y = true) (W : World) : Calls Tryz.prog 26 #[.slice (some ⟨W.heap.size, 0, none⟩) 4 4, .slice (some ⟨W.heap.size + 1, 0, none⟩) 3 3] ((W.alloc (.cells #[.int .i64 13, .int .i64 53, .int .i64 14, .int .i64 57] 3)).alloc (.cells #[.int .i64 x, .int .i64 z, .int .i64 y] 3)) (PostE (FailV) Nob ((W.alloc (.cells #[.int .i64 13, .int .i64 53, .int .i64 14, .int .i64 57] 3)).alloc (.cells #[.int .i64 x, .int .i64 z, .int .i64 y] 3))) :=
  fail_runs (cs := [13, 53, 14, 57]) (data := [x, z, y]) (by decide) (by decide) (ops_v64 (by decide)) (fun v hv => by
    simp only [List.mem_cons, List.mem_nil_iff, or_false] at hv
    rcases hv with rfl | rfl | rfl <;> assumption) (by simp) (fun s h => run_star_out x z y vx vz vy hd h) W
theorem w_muldiv (x y z : Int) (vx : V64 x) (vy : V64 y) (vz : V64 z) (hd : fdOut (utLo x z) (tHi x z) y = false) (W : World) : Calls Tryz.prog 26 #[.slice (some ⟨W.heap.size, 0, none⟩) 1 1, .slice (some ⟨W.heap.size + 1, 0, none⟩) 3 3] ((W.alloc (.cells #[.int .i64 38] 3)).alloc (.cells #[.int .i64 x, .int .i64 z, .int .i64 y] 3)) (PostE (OutN 2 ([fdR (utLo x z) (tHi x z) y, fdQ (utLo x z) (tHi x z) y])) Nob ((W.alloc (.cells #[.int .i64 38] 3)).alloc (.cells #[.int .i64 x, .int .i64 z, .int .i64 y] 3))) :=
  new_runs (cs := [38]) (data := [x, z, y]) (out := [fdR (utLo x z) (tHi x z) y, fdQ (utLo x z) (tHi x z) y]) (by decide) (by decide) (ops_v64 (by decide)) (fun v hv => by
    simp only [List.mem_cons, List.mem_nil_iff, or_false] at hv
    rcases hv with rfl | rfl | rfl <;> assumption) (by simp) (fun s h => by
    obtain ⟨q, h1, h2, h3⟩ := run_muldiv x z y vx vz vy hd h
    exact ⟨q, _, _, h1, h2, h3⟩) W
theorem w_muldiv_out (x y z : Int) (vx : V64 x) (vy : V64 y) (vz : V64 z) (hd : fdOut (utLo x z) (tHi x z) y = true) (W : World) : Calls Tryz.prog 26 #[.slice (some ⟨W.heap.size, 0, none⟩) 1 1, .slice (some ⟨W.heap.size + 1, 0, none⟩) 3 3] ((W.alloc (.cells #[.int .i64 38] 3)).alloc (.cells #[.int .i64 x, .int .i64 z, .int .i64 y] 3)) (PostE (FailV) Nob ((W.alloc (.cells #[.int .i64 38] 3)).alloc (.cells #[.int .i64 x, .int .i64 z, .int .i64 y] 3))) :=
  fail_runs (cs := [38]) (data := [x, z, y]) (by decide) (by decide) (ops_v64 (by decide)) (fun v hv => by
    simp only [List.mem_cons, List.mem_nil_iff, or_false] at hv
    rcases hv with rfl | rfl | rfl <;> assumption) (by simp) (fun s h => run_muldiv_out x z y vx vz vy hd h) W
theorem w_invert (x y z : Int) (vx : V64 x) (vy : V64 y) (vz : V64 z)  (W : World) : Calls Tryz.prog 26 #[.slice (some ⟨W.heap.size, 0, none⟩) 3 3, .slice (some ⟨W.heap.size + 1, 0, none⟩) 1 1] ((W.alloc (.cells #[.int .i64 50, .int .i64 39, .int .i64 44] 3)).alloc (.cells #[.int .i64 x] 3)) (PostE (OutN 1 ([x])) Nob ((W.alloc (.cells #[.int .i64 50, .int .i64 39, .int .i64 44] 3)).alloc (.cells #[.int .i64 x] 3))) :=
  new_runs (cs := [50, 39, 44]) (data := [x]) (out := [x]) (by decide) (by decide) (ops_v64 (by decide)) (fun v hv => by
    simp only [List.mem_cons, List.mem_nil_iff, or_false] at hv
    rcases hv with rfl <;> assumption) (by simp) (fun s h => by
    obtain ⟨q, h1, h2, h3⟩ := run_invert x vx h
    exact ⟨q, _, _, h1, h2, h3⟩) W
theorem w_stored (x y z : Int) (vx : V64 x) (vy : V64 y) (vz : V64 z)  (W : World) : Calls Tryz.prog 26 #[.slice (some ⟨W.heap.size, 0, none⟩) 6 6, .slice (some ⟨W.heap.size + 1, 0, none⟩) 2 2] ((W.alloc (.cells #[.int .i64 77, .int .i64 66, .int .i64 77, .int .i64 65, .int .i64 23, .int .i64 32] 3)).alloc (.cells #[.int .i64 x, .int .i64 y] 3)) (PostE (OutN 1 ([wrap64 (y - x)])) Nob ((W.alloc (.cells #[.int .i64 77, .int .i64 66, .int .i64 77, .int .i64 65, .int .i64 23, .int .i64 32] 3)).alloc (.cells #[.int .i64 x, .int .i64 y] 3))) :=
  new_runs (cs := [77, 66, 77, 65, 23, 32]) (data := [x, y]) (out := [wrap64 (y - x)]) (by decide) (by decide) (ops_v64 (by decide)) (fun v hv => by
    simp only [List.mem_cons, List.mem_nil_iff, or_false] at hv
    rcases hv with rfl | rfl <;> assumption) (by simp) (fun s h => by
    obtain ⟨b0, b1, b2, hl⟩ := h.lower
    obtain ⟨q, h1, h2, h3⟩ := run_stored x y b0 b1 b2 vx vy hl
    exact ⟨q, _, _, h1, h2, h3⟩) W
theorem w_turn (x y z : Int) (vx : V64 x) (vy : V64 y) (vz : V64 z)  (W : World) : Calls Tryz.prog 26 #[.slice (some ⟨W.heap.size, 0, none⟩) 2 2, .slice (some ⟨W.heap.size + 1, 0, none⟩) 3 3] ((W.alloc (.cells #[.int .i64 23, .int .i64 25] 3)).alloc (.cells #[.int .i64 x, .int .i64 y, .int .i64 z] 3)) (PostE (OutN 3 ([z, y, x])) Nob ((W.alloc (.cells #[.int .i64 23, .int .i64 25] 3)).alloc (.cells #[.int .i64 x, .int .i64 y, .int .i64 z] 3))) :=
  new_runs (cs := [23, 25]) (data := [x, y, z]) (out := [z, y, x]) (by decide) (by decide) (ops_v64 (by decide)) (fun v hv => by
    simp only [List.mem_cons, List.mem_nil_iff, or_false] at hv
    rcases hv with rfl | rfl | rfl <;> assumption) (by simp) (fun s h => by
    obtain ⟨q, h1, h2, h3⟩ := run_turn x y z vx vy vz h
    exact ⟨q, _, _, h1, h2, h3⟩) W
set_option maxHeartbeats 16000000 in
theorem reck_walk (x y z : Int) (vx : V64 x) (vy : V64 y) (vz : V64 z) (w : World) : Calls Tryz.prog 6 #[.int .i64 x, .int .i64 y, .int .i64 z] w (Quiet (.bool true) w) := by
  have k1 := Lib.hid (fun hd W => w_back x y z vx vy vz hd W)
  have k2 := Lib.hid (fun hd W => w_divs x y z vx vy vz hd W)
  have k3 := Lib.hid (fun hd W => w_divmod x y z vx vy vz hd W)
  have k4 := Lib.hid (fun hd W => w_star x y z vx vy vz hd W)
  have k5 := Lib.hid (fun hd W => w_star_out x y z vx vy vz hd W)
  have k6 := Lib.hid (fun hd W => w_muldiv x y z vx vy vz hd W)
  have k7 := Lib.hid (fun hd W => w_muldiv_out x y z vx vy vz hd W)
  have k8 := Lib.hid (fun W => w_invert x y z vx vy vz W)
  have k9 := Lib.hid (fun W => w_stored x y z vx vy vz W)
  have k10 := Lib.hid (fun W => w_turn x y z vx vy vz W)
  generalize fdOut (utLo x z) (tHi x z) y = o at *
  generalize fdQ (utLo x z) (tHi x z) y = Q2 at *
  generalize fdR (utLo x z) (tHi x z) y = R2 at *
  generalize floQ x y = Q1 at *
  generalize floR x y = R1 at *
  clear vx vy vz
  go_enter Tryz.func6, Tryz.ntmps6
  go_wp2_with fail
  refine (shown_walk _).mono ?_
  rintro e w1 ⟨rfl, hb1⟩
  simp only []
  replace hb1 := Lib.hid hb1
  go_upto_if 25 with fail
  go_cut [] (fun wx => Below w.heap.size w wx)
  case first =>
    by_cases hy : y = 0
    · have t1 : (y != 0) = false := by simpa using hy
      replace hy := Lib.hid hy
      go_wp2
      go_meet
      exact hb1.out
    · have t1 : (y != 0) = true := by simpa using hy
      have hd : decide (y = 0) = false := decide_eq_false hy
      replace hy := Lib.hid hy
      have hon1 := Lib.hid (On.below (On.refl (A := AllA []) (F := Nob) (w := w) (fun _ h => h)) hb1.out)
      replace hd := Lib.hid hd
      go_wp2_with fail
      refine (On.make ((hon1.out.alloc _).alloc _) (k1.out hd.out _)).mono ?_
      rintro e w2 ⟨B, ⟨b2, rfl, rfl⟩, h2q⟩
      simp only []
      have h2 : On Nob w (AllA (BlkA b2 3 (intsC [x, x]) :: [])) w2 := h2q.flat
      clear h2q
      have c0_0 : w2.cell? ⟨b2, 0, none⟩ = some (.int .i64 (x)) := (h2.blkAt 0 rfl).cell 0
      have c0_1 : w2.cell? ⟨b2, 1, none⟩ = some (.int .i64 (x)) := (h2.blkAt 0 rfl).cell 1
      replace h2 := Lib.hid h2
      go_wp2_with fail
      refine (On.make ((h2.out.alloc _).alloc _) (k2.out hd.out _)).mono ?_
      rintro e w3 ⟨B, ⟨b3, rfl, rfl⟩, h3q⟩
      simp only []
      have h3 : On Nob w (AllA (BlkA b3 3 (intsC [R1, Q1]) :: [BlkA b2 3 (intsC [x, x])])) w3 := h3q.flat
      clear h3q
      clear c0_0 c0_1
      replace h3 := Lib.hid h3
      go_wp2_with fail
      refine (On.make ((h3.out.alloc _).alloc _) (k3.out hd.out _)).mono ?_
      rintro e w4 ⟨B, ⟨b4, rfl, rfl⟩, h4q⟩
      simp only []
      have h4 : On Nob w (AllA (BlkA b4 3 (intsC [R1, Q1]) :: [BlkA b3 3 (intsC [R1, Q1]), BlkA b2 3 (intsC [x, x])])) w4 := h4q.flat
      clear h4q
      have c0_0 : w4.cell? ⟨b4, 0, none⟩ = some (.int .i64 (R1)) := (h4.blkAt 0 rfl).cell 0
      have c0_1 : w4.cell? ⟨b4, 1, none⟩ = some (.int .i64 (Q1)) := (h4.blkAt 0 rfl).cell 1
      have c1_0 : w4.cell? ⟨b3, 0, none⟩ = some (.int .i64 (R1)) := (h4.blkAt 1 rfl).cell 0
      have c1_1 : w4.cell? ⟨b3, 1, none⟩ = some (.int .i64 (Q1)) := (h4.blkAt 1 rfl).cell 1
      replace h4 := Lib.hid h4
      go_wp2_with fail
      go_region_held (fun w' => w'.cell? ⟨b4, 0, none⟩ = some (.int .i64 R1) ∧ w'.cell? ⟨b4, 1, none⟩ = some (.int .i64 Q1) ∧ w'.cell? ⟨b3, 0, none⟩ = some (.int .i64 R1) ∧ w'.cell? ⟨b3, 1, none⟩ = some (.int .i64 Q1)) (go_keep) (fail)
      have h5 := Lib.hid (h4.out.tail.tail.tail).drew
      clear c0_0 c0_1 c1_0 c1_1
      cases o with
      | false =>
        go_wp2_with fail
        refine (On.make ((h5.out.alloc _).alloc _) (k4.out (by first | exact trivial | rfl) _)).mono ?_
        rintro e w6 ⟨B, ⟨b6, rfl, rfl⟩, h6q⟩
        simp only []
        have h6 : On Nob w (AllA (BlkA b6 3 (intsC [R2, Q2]) :: [])) w6 := h6q.flat
        clear h6q
        replace h6 := Lib.hid h6
        go_wp2_with fail
        refine (On.make ((h6.out.alloc _).alloc _) (k6.out (by first | exact trivial | rfl) _)).mono ?_
        rintro e w7 ⟨B, ⟨b7, rfl, rfl⟩, h7q⟩
        simp only []
        have h7 : On Nob w (AllA (BlkA b7 3 (intsC [R2, Q2]) :: [BlkA b6 3 (intsC [R2, Q2])])) w7 := h7q.flat
        clear h7q
        have c0_0 : w7.cell? ⟨b7, 0, none⟩ = some (.int .i64 (R2)) := (h7.blkAt 0 rfl).cell 0
        have c0_1 : w7.cell? ⟨b7, 1, none⟩ = some (.int .i64 (Q2)) := (h7.blkAt 0 rfl).cell 1
        have c1_0 : w7.cell? ⟨b6, 0, none⟩ = some (.int .i64 (R2)) := (h7.blkAt 1 rfl).cell 0
        have c1_1 : w7.cell? ⟨b6, 1, none⟩ = some (.int .i64 (Q2)) := (h7.blkAt 1 rfl).cell 1
        replace h7 := Lib.hid h7
        go_wp2_with fail
        go_region_held (fun w' => w'.cell? ⟨b7, 0, none⟩ = some (.int .i64 R2) ∧ w'.cell? ⟨b7, 1, none⟩ = some (.int .i64 Q2) ∧ w'.cell? ⟨b6, 0, none⟩ = some (.int .i64 R2) ∧ w'.cell? ⟨b6, 1, none⟩ = some (.int .i64 Q2)) (go_keep) (fail)
        go_wp2
        go_meet
        exact h7.out.drew.outB
      | true =>
        go_wp2_with fail
        refine (On.make ((h5.out.alloc _).alloc _) (k5.out (by first | exact trivial | rfl) _)).mono ?_
        rintro e w6 ⟨B, ⟨b6, nb6, rfl⟩, h6q⟩
        simp only []
        have h6 := Lib.hid h6q.tail
        clear h6q
        go_wp2_with fail
        refine (On.make ((h6.out.alloc _).alloc _) (k7.out (by first | exact trivial | rfl) _)).mono ?_
        rintro e w7 ⟨B, ⟨b7, nb7, rfl⟩, h7q⟩
        simp only []
        have h7 := Lib.hid h7q.tail
        clear h7q
        go_wp2_with fail
        go_quiet (fail)
        go_wp2
        go_meet
        exact (h7.out.drewN _).outB
  case rest =>
    have hon1 := Lib.hid (On.below (On.refl (A := AllA []) (F := Nob) (w := w) (fun _ h => h)) hcut)
    go_wp2_with fail
    refine (On.make ((hon1.out.alloc _).alloc _) (k8.out _)).mono ?_
    rintro e w2 ⟨B, ⟨b2, rfl, rfl⟩, h2q⟩
    simp only []
    have h2 : On Nob w (AllA (BlkA b2 3 (intsC [x]) :: [])) w2 := h2q.flat
    clear h2q
    replace h2 := Lib.hid h2
    go_wp2_with fail
    refine (On.make ((h2.out.alloc _).alloc _) (k9.out _)).mono ?_
    rintro e w3 ⟨B, ⟨b3, rfl, rfl⟩, h3q⟩
    simp only []
    have h3 : On Nob w (AllA (BlkA b3 3 (intsC [wrap64 (y - x)]) :: [BlkA b2 3 (intsC [x])])) w3 := h3q.flat
    clear h3q
    replace h3 := Lib.hid h3
    go_wp2_with fail
    refine (On.make ((h3.out.alloc _).alloc _) (k10.out _)).mono ?_
    rintro e w4 ⟨B, ⟨b4, rfl, rfl⟩, h4q⟩
    simp only []
    have h4 : On Nob w (AllA (BlkA b4 3 (intsC [z, y, x]) :: [BlkA b3 3 (intsC [wrap64 (y - x)]), BlkA b2 3 (intsC [x])])) w4 := h4q.flat
    clear h4q
    have c0_0 : w4.cell? ⟨b4, 0, none⟩ = some (.int .i64 (z)) := (h4.blkAt 0 rfl).cell 0
    have c0_1 : w4.cell? ⟨b4, 1, none⟩ = some (.int .i64 (y)) := (h4.blkAt 0 rfl).cell 1
    have c0_2 : w4.cell? ⟨b4, 2, none⟩ = some (.int .i64 (x)) := (h4.blkAt 0 rfl).cell 2
    have c1_0 : w4.cell? ⟨b3, 0, none⟩ = some (.int .i64 (wrap64 (y - x))) := (h4.blkAt 1 rfl).cell 0
    have c2_0 : w4.cell? ⟨b2, 0, none⟩ = some (.int .i64 (x)) := (h4.blkAt 2 rfl).cell 0
    replace h4 := Lib.hid h4
    go_wp2
    go_ret
    exact ⟨rfl, h4.out.outB⟩
end Vm
end Go.Proofs.YtjhdpmimccpcdaaGreatDoor
