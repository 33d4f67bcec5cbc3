/- Chapter 11: the latest word is run. Conditions: as written. -/
import Derived.Test.YtjhdpmimccpcdaaGreatDoorQVNewW
import Derived.Test.YtjhdpmimccpcdaaGreatDoorQ21
import Derived.Test.YtjhdpmimccpcdaaGreatDoorQVCells
import Derived.Test.YtjhdpmimccpcdaaGreatDoorQ37
namespace Go.Proofs.YtjhdpmimccpcdaaGreatDoor
set_option linter.unusedVariables false
set_option maxRecDepth 100000
open Go.RowKit Go.Lib Go.Deep
namespace Vm
section
variable {w W : World} {F : Nat → Prop} {a : Mw} {b : Bc} {r : Rc} {x : Rw} {t : Mt} {cs data : List Int} {base : Int}
theorem pair_rl (h : On F w (AllA (mL (endC a b r x) t)) W) (h8 : At8 x.S x.D 16456 16960) : RlIn W r.gS r.gb 16448 16960 704 false x.D x.S := by
  have hb : Blk W r.gS 132 (rdicC r.gb 16448 16960 704 false x.D) := h.blkAt 15 rfl
  have hr : Blk W r.gb 5 (bcells x.S.b).toArray := h.blkAt 19 rfl
  exact ⟨⟨hb.cell 0, hb.cell 1, hb.cell 2, hb.cell 3, hb.cell 4, fun i => hb.frozen i⟩, hr, h8, by omega⟩
theorem setupX_D (hc : 16472 + 8 * cs.length ≤ 16960) : (x41 (setupX cs data base)).D = ⟨3, 16472 + 8 * cs.length, 16456⟩ := by
  show (setupX cs data base).t1.2 = _
  rw [setupX_t1 cs data base hc]
theorem setupX_at8 (hc : 16472 + 8 * cs.length ≤ 16960) : At8 (x41 (setupX cs data base)).S (x41 (setupX cs data base)).D 16456 16960 := by
  rw [x41_S, setupX_D hc]
  exact at8_stud (ri_fine _).1 (ri_fine _).2 _ (by omega) hc
theorem setupX_words (hc : 16472 + 8 * cs.length ≤ 16960) (hv : ∀ v ∈ cs, V64 v) : words (x41 (setupX cs data base)).S (x41 (setupX cs data base)).D = [wordX] := by
  have hM := setupX_i3 cs data base hc hv
  rw [x41_S, setupX_D hc]
  refine words_x (ri_fine _).1 (ri_fine _).2 ?_ rfl rfl
  unfold Setup.ri
  rw [base_put hM.lay]
  exact hM.head.put _ _ (by rw [toB_len, hM.ok.len]; have := hM.lay.begs; omega) (.inl (by rw [toB_len]; omega))
theorem pair_all (h : On Nob w (AllA (mL (endC a b r (x41 (setupX cs data base))) t)) W) (hc : 16472 + 8 * cs.length ≤ 16960) (hv : ∀ v ∈ cs, V64 v) :
    Calls Tryz.prog 27 #[.pointer (some ⟨r.gS, 0, none⟩)] W (fun e w' => ∃ sg cap, e = .returned (.slice (some ⟨sg, 0, none⟩) 1 cap) ∧ w'.cell? ⟨sg, 2, none⟩ = some (.int .i64 16472) ∧ ∃ v, On Nob w (AllA (RowW v [wordX] :: mL (endC a b r (x41 (setupX cs data base))) t)) w' ∧ v = .slice (some ⟨sg, 0, none⟩) 1 cap) := by
  have h1 := r_all (pair_rl h (setupX_at8 hc))
  rw [setupX_words hc hv] at h1
  have h2 : Calls Tryz.prog 27 #[.pointer (some ⟨r.gS, 0, none⟩)] W (PostE (fun e B => ∃ v, e = .returned v ∧ B = AllA [RowW v [wordX]]) Nob W) := h1.mono fun e w' ⟨v, he, hon⟩ => ⟨_, ⟨v, he, rfl⟩, hon⟩
  refine (h.make h2).mono ?_
  rintro e w' ⟨B, ⟨v, rfl, rfl⟩, hon⟩
  have hon2 : On Nob w (AllA (RowW v [wordX] :: mL (endC a b r (x41 (setupX cs data base))) t)) w' := hon.flat
  obtain ⟨F1, hrow⟩ := hon2.at_ 0 rfl
  rcases rowW_form hrow with ⟨_, h3⟩ | ⟨sg, cap, rfl, h3⟩
  · cases h3
  · have h4 := h3 0 (by decide) 2 (by decide)
    exact ⟨sg, cap, rfl, h4, _, hon2, rfl⟩
set_option maxHeartbeats 2000000 in
theorem pair_ran (h : On Nob w (AllA (mL (endC a b r (x41 (setupX cs data base))) t)) W) (hW : b.gW = r.gW) (hc : 16472 + 8 * cs.length ≤ 16960) (hv : ∀ v ∈ cs, V64 v) (ht : t.Ok) (htl : t.tells = true) (hroom : 1 ≤ t.pr.rm - t.r) (hsn : t.seen.length ≤ 900000000) (mode fuel : Int) (q : Rs)
    (hq : goesS ((clip fuel).toNat + 1) { Rn.start mode fuel with pc := 16472 } (t.pushR [0]) = some q) :
    Calls Tryz.prog 21 #[.pointer (some ⟨b.gB, 0, none⟩), .int .i64 mode, .int .i64 fuel] W (fun e w' => e = .returned (.tuple #[.int .i64 q.f, .int .i64 (clip fuel - q.x.left)]) ∧ On Nob w (AllA (mL (endC a b r (x41 (setupX cs data base))) q.s)) w') := by
  have he : Ends (endC a b r (x41 (setupX cs data base))) b := end_ends
  have hall := pair_all h hc hv
  have hw : Blk W r.gW 77 (worldC r r.gS a.v2 (x41 (setupX cs data base)).fault (x41 (setupX cs data base)).used (x41 (setupX cs data base)).hidden (x41 (setupX cs data base)).tells) := h.blkAt 11 rfl
  have d2 : W.cell? ⟨r.gW, 2, none⟩ = some (.pointer (some ⟨r.gS, 0, none⟩)) := hw.cell 2
  obtain ⟨p, cap0, z0, z1, z2, z3, z4, z5, z6, z7⟩ := ends_both he h
  rw [hW] at z6
  have hrun := fun (W2 : World) (F' : Nat → Prop) (hb : (AllA (mL (endC a b r (x41 (setupX cs data base))) t)).holds W2 F') => v_run hb ht (by rw [htl]; exact he.tell) mode 16472 fuel (by unfold V64; omega) none hroom hsn q hq
  have hcb : ∀ W2, On Nob w (AllA (mL (endC a b r (x41 (setupX cs data base))) t)) W2 → W2.cell? ⟨b.gB, 5, none⟩ = some (.pointer (some ⟨b.gM, 0, none⟩)) := fun W2 h => (ends_both he h).choose_spec.choose_spec.2.2.2.2.2.1
  have hcb2 : ∀ W2, On Nob w (AllA (mL (endC a b r (x41 (setupX cs data base))) q.s)) W2 → W2.cell? ⟨b.gB, 5, none⟩ = some (.pointer (some ⟨b.gM, 0, none⟩)) := fun W2 h => (ends_both he h).choose_spec.choose_spec.2.2.2.2.2.1
  replace hall := Lib.hid hall
  replace hrun := Lib.hid hrun
  replace hcb := Lib.hid hcb
  replace hcb2 := Lib.hid hcb2
  replace he := Lib.hid he
  clear hw hq ht htl hroom hsn h hv hc z0 z1 z2 z3 z4 z5 z7
  generalize clip fuel - q.x.left = used at *
  go_enter Tryz.func21, Tryz.ntmps21
  go_wp2_with fail
  refine hall.out.mono ?_
  rintro e w1 ⟨sg, cap, rfl, hx, v, hon, hve⟩
  simp only []
  have g5 := hcb.out _ hon.tail
  have hrn := hon.drew.callTail (e0 := .returned (.tuple #[.int .i64 q.f, .int .i64 used])) (L' := mL (endC a b r (x41 (setupX cs data base))) q.s) fun F' hb _ _ => hrun.out _ F' hb
  rw [he.out.m] at hrn
  have hrw : ∀ W2, On Nob w (AllA (RowW v [wordX] :: mL (endC a b r (x41 (setupX cs data base))) q.s)) W2 → W2.cell? ⟨sg, 2, none⟩ = some (.int .i64 16472) := fun W2 h => by
    obtain ⟨F1, hrow⟩ := h.at_ 0 rfl
    rw [hve] at hrow
    rcases rowW_form hrow with ⟨_, h3⟩ | ⟨sg2, cap2, h5, h3⟩
    · cases h3
    · cases h5
      exact h3 0 (by decide) 2 (by decide)
  replace hrn := Lib.hid hrn
  replace hon := Lib.hid hon
  replace hrw := Lib.hid hrw
  replace hve := Lib.hid hve
  go_wp2_with fail
  go_region_held (fun w' => w'.cell? ⟨b.gB, 5, none⟩ = some (.pointer (some ⟨b.gM, 0, none⟩)) ∧ w'.cell? ⟨sg, 2, none⟩ = some (.int .i64 16472)) (go_keep)
    ((go_at_call 20; refine hrn.out.mono ?_; rintro e w3 ⟨rfl, h⟩; simp only []; have n5 := hcb2.out _ h.tail; have n2 := hrw.out _ h; replace h := Lib.hid h))
  all_goals go_wp2
  all_goals go_ret2
  all_goals exact ⟨rfl, h.out.tail⟩
end
end Vm
end Go.Proofs.YtjhdpmimccpcdaaGreatDoor
/- The law VmLoops, walked: what is laid ahead of it. Conditions: as written. -/
namespace Go.Proofs.YtjhdpmimccpcdaaGreatDoor
set_option linter.unusedVariables false
set_option maxRecDepth 100000
open Go.RowKit Go.Lib Go.Deep
namespace Vm
def slD (B2 B3 cd : Nat) : Sl := ⟨none, 0, some ⟨B2, 0, none⟩, 1, some ⟨B3, 0, none⟩, cd, none, 0⟩
theorem ints_of_blk {W : World} {B : Nat} {t : TypeId} {l : List Int} (h1 : Blk W B t (intsC l)) : Ints W (some ⟨B, 0, none⟩) l := fun k v hk => by
  refine ⟨_, rfl, ?_⟩
  have e2 : ((⟨B, 0, none⟩ : Addr).add k) = ⟨B, k, none⟩ := by simp [Addr.add]; intro h; exact h.symm
  rw [e2, h1.cell k]
  simp [intsC, hk]
/-- the law's setup of one word and some cells on the data stack, in memory -/
theorem setIn_data {W : World} {cs data : List Int} {base : Int} {B1 B2 B3 cp cd : Nat} {t1 t2 t3 : TypeId} (hv : ∀ v ∈ cs, V64 v) (hl : cs.length ≤ 1000000000) (hdv : ∀ v ∈ data, V64 v) (hdl : data.length ≤ 1000000000) (hb : V64 base) (h1 : Blk W B1 t1 (intsC cs))
    (h2 : Blk W B2 t2 #[.string nameX, .bool false, .bool false, .slice (some ⟨B1, 0, none⟩) cs.length cp]) (h3 : Blk W B3 t3 (intsC data)) : SetIn W (setupX cs data base) (slD B2 B3 cd) := by
  have h := setIn_x (t1 := t1) (t2 := t2) (cells := intsC cs) (ints_of_blk h1) h1.lt h2 hv hl hb
  refine ⟨h.kw, h.sw, ⟨fun j v hj => ⟨B3, 0, rfl, fun h => h, ?_⟩, hdv, hdl⟩, h.rw_, h.kl, h.sl, h.caps, h.room, h.base, h.inp, h.hid⟩
  rw [Nat.zero_add, h3.cell j]
  simp [intsC, show data[j]? = some v from hj]
/-! ### the walk -/
theorem csL0_v64 : ∀ v ∈ ([6, 43, 0, 1] : List Int), V64 v := by
  intro v hv
  simp only [List.mem_cons, List.mem_nil_iff, or_false] at hv
  unfold V64
  omega
/-- the pair with a cell of the student's code laid anew -/
theorem pair_set {w W : World} {a : Mw} {b : Bc} {r : Rc} {x : Rw} {t : Mt} {cs ds : List Int} (h : On Nob w (AllA (mL (endC a b r x) t)) W) (hr : Rep t 16472 cs ds []) (i : Nat) (hi : i < cs.length) (ad : Int) (had : ad = 16472 + 8 * (i : Int)) (v : Int) (hv : V64 v) :
    Calls Tryz.prog 28 #[.pointer (some ⟨b.gI, 0, none⟩), .int .i64 0, .int .i64 ad, .int .i64 v] W (Got (.returned (.int .i64 0)) (AllA (mL (endC a b r x) { t with S := t.S.setCell 0 ad v })) Nob w) := by
  have hF := code_setF hr.code i hi
  rw [show ((16472 : Nat) : Int) + 8 * (i : Int) = ad by rw [had]; rfl] at hF
  have h1 := h.callAtG 1 rfl (fun F' hb => g_setCell hb 0 ad v hv)
  rw [hF] at h1
  exact h1
theorem loops_start {t : Mt} {fr : Int} {T : Nat} (hf : V64 fr) (hT : 1 ≤ T) (hT2 : T ≤ 60) (h : Rep t 16472 [6, 43, 0, 1] [0, wrap64 (fr + T), fr] []) (ht : t.tells = true) (hs : t.seen = []) :
    ∃ q, goesS ((clip 4000).toNat + 1) { Rn.start 1 4000 with pc := 16472 } (({ t with S := t.S.setCell 0 16488 4218888 } : Mt).pushR [0]) = some q ∧ q.f = 0 ∧ clip 4000 - q.x.left = 2 + 2 * T ∧ q.s.Ok ∧ q.s.d = 1 ∧ stkAll q.s.S q.s.pd.fr 1 = [(T : Int)] ∧ q.s.r = 0 ∧ ({ t with S := t.S.setCell 0 16488 4218888 } : Mt).Ok ∧ 1 ≤ ({ t with S := t.S.setCell 0 16488 4218888 } : Mt).pr.rm - ({ t with S := t.S.setCell 0 16488 4218888 } : Mt).r := by
  have h1 := h.setCode (by decide) 2 (by decide) 4218888 (by unfold V64; omega)
  have h2 : Rep { t with S := t.S.setCell 0 16488 4218888 } 16472 csL [0, wrap64 (fr + T), fr] [] := h1
  obtain ⟨q, hq, hqf, hql, hqr⟩ := loops_run fr T hT hT2 hf h2
  have hc : clip 4000 = 4000 := by decide
  refine ⟨q, hq, hqf, by rw [hql, hc]; omega, hqr.ok, hqr.d, ?_, hqr.r, h2.ok, by rw [h2.pr, h2.r]; decide⟩
  have e := hqr.dv 0 (T : Int) rfl
  rw [hqr.pd]
  show [sget q.s.S 16960 0] = _
  rw [e]
theorem ploops_start {t : Mt} {fr : Int} {T u : Nat} (hf : V64 fr) (hT : 1 ≤ T) (hT2 : T ≤ 60) (hu : 1 ≤ u) (hu2 : u ≤ 9) (h : Rep t 16472 [6, 43, 2, (u : Int), 0, 1] [0, wrap64 (fr + T), fr] []) :
    ∃ q, goesS ((clip 4000).toNat + 1) { Rn.start 1 4000 with pc := 16472 } (({ t with S := t.S.setCell 0 16504 4218889 } : Mt).pushR [0]) = some q ∧ q.f = 0 ∧ q.s.Ok ∧ q.s.d = 1 ∧ stkAll q.s.S q.s.pd.fr 1 = [(((T - 1) / u + 1 : Nat) : Int)] ∧ q.s.r = 0 ∧ ({ t with S := t.S.setCell 0 16504 4218889 } : Mt).Ok ∧ 1 ≤ ({ t with S := t.S.setCell 0 16504 4218889 } : Mt).pr.rm - ({ t with S := t.S.setCell 0 16504 4218889 } : Mt).r := by
  have h1 := h.setCode (by simp) 4 (by simp) 4218889 (by unfold V64; omega)
  have h2 : Rep { t with S := t.S.setCell 0 16504 4218889 } 16472 (csP u) [0, wrap64 (fr + T), fr] [] := h1
  obtain ⟨q, hq, hqf, hqr⟩ := ploops_run fr T u hT hT2 hu hu2 hf h2
  refine ⟨q, hq, hqf, hqr.ok, hqr.d, ?_, hqr.r, h2.ok, by rw [h2.pr, h2.r]; decide⟩
  have e := hqr.dv 0 _ rfl
  rw [hqr.pd]
  show [sget q.s.S 16960 0] = _
  rw [e]
set_option maxHeartbeats 8000000 in
theorem loops_walk (a0 a1 a2 : Int) (h0 : V64 a0) (h1 : V64 a1) (h2 : V64 a2) (w : World) : Calls Tryz.prog 7 #[.int .i64 a0, .int .i64 a1, .int .i64 a2] w (Quiet (.bool true) w) := by
  have hk1 : 0 ≤ pickS a1 60 ∧ pickS a1 60 ≤ 59 := by
    unfold pickS
    have := Int.emod_nonneg (if a1 < 0 then -(a1 + 1) else a1) (show (60 : Int) ≠ 0 by omega)
    have := Int.emod_lt_of_pos (if a1 < 0 then -(a1 + 1) else a1) (show (0 : Int) < 60 by omega)
    omega
  have hk2 : 0 ≤ pickS a2 9 ∧ pickS a2 9 ≤ 8 := by
    unfold pickS
    have := Int.emod_nonneg (if a2 < 0 then -(a2 + 1) else a2) (show (9 : Int) ≠ 0 by omega)
    have := Int.emod_lt_of_pos (if a2 < 0 then -(a2 + 1) else a2) (show (0 : Int) < 9 by omega)
    omega
  have hp1 := fun W => pick11 a1 60 W h1 (by omega)
  have hp2 := fun W => pick11 a2 9 W h2 (by omega)
  generalize pickS a1 60 = k1 at *
  generalize pickS a2 9 = k2 at *
  obtain ⟨hk10, hk11⟩ := hk1
  obtain ⟨hk20, hk21⟩ := hk2
  obtain ⟨T, hT⟩ : ∃ T : Nat, (T : Int) = 1 + k1 := ⟨(1 + k1).toNat, by omega⟩
  have hdv : ∀ v ∈ ([0, wrap64 (a0 + (1 + k1)), a0] : List Int), V64 v := by
    intro v hv
    simp only [List.mem_cons, List.mem_nil_iff, or_false] at hv
    rcases hv with rfl | rfl | rfl
    · unfold V64; omega
    · exact wrap_v64 _
    · exact h0
  have hmade : ∀ W, Below w.heap.size w W → ∀ W2, W2 = ((W.alloc (.cells #[.int .i64 6, .int .i64 43, .int .i64 0, .int .i64 1] 3)).alloc (.cells #[.int .i64 0, .int .i64 (wrap64 (a0 + (1 + k1))), .int .i64 a0] 3)).alloc (.cells #[.string ⟨#[120]⟩, .bool false, .bool false, .slice (some ⟨W.heap.size, 0, none⟩) 4 4] 27) →
      Calls Tryz.prog 11 #[.agg #[.int .i64 0, .int .i64 0, .string ⟨#[]⟩, .string ⟨#[]⟩, .bool false, .slice none 0 0, .slice (some ⟨W.heap.size + 2, 0, none⟩) 1 1, .int .i64 10, .slice (some ⟨W.heap.size + 1, 0, none⟩) 3 3, .slice none 0 0, .int .i64 0, .int .i64 0, .int .i64 0]] W2
        (fun e w' => ∃ (a : Mw) (b : Bc) (r : Rc), e = .returned (.pointer (some ⟨b.gB, 0, none⟩)) ∧ b.gW = r.gW ∧ On Nob w (AllA (mL (endC a b r (x41 (setupX [6, 43, 0, 1] [0, wrap64 (a0 + (1 + k1)), a0] 10))) (setupX [6, 43, 0, 1] [0, wrap64 (a0 + (1 + k1)), a0] 10).mt)) w') := fun W hW W2 hW2 => by
    subst hW2
    have hbx := (((On.refl (A := AllA []) (F := Nob) (w := W) (fun _ h => h)).box (intsC [6, 43, 0, 1]) 3).box (intsC [0, wrap64 (a0 + (1 + k1)), a0]) 3).box #[.string nameX, .bool false, .bool false, .slice (some ⟨W.heap.size, 0, none⟩) ([6, 43, 0, 1] : List Int).length 4] 27
    simp only [World.size_alloc] at hbx
    exact made_pair (s := setupX [6, 43, 0, 1] [0, wrap64 (a0 + (1 + k1)), a0] 10) (m := slD (W.heap.size + 2) (W.heap.size + 1) 3) (hW.trans (hbx.outB.mono hW.size)) (setIn_data (cs := [6, 43, 0, 1]) (data := [0, wrap64 (a0 + (1 + k1)), a0]) (base := 10) (B1 := W.heap.size) (B2 := W.heap.size + 2) (B3 := W.heap.size + 1) (cp := 4) csL0_v64 (by decide) hdv (by simp) (by unfold V64; omega) (hbx.blkAt 2 rfl) (hbx.blkAt 0 rfl) (hbx.blkAt 1 rfl))
  obtain ⟨hrep, _, hseen, htells⟩ := setupX_rep [6, 43, 0, 1] [0, wrap64 (a0 + (1 + k1)), a0] 10 (by decide) csL0_v64 (by simp) hdv
  have hcv2 : ∀ v ∈ ([6, 43, 2, 1 + k2, 0, 1] : List Int), V64 v := by
    intro v hv
    simp only [List.mem_cons, List.mem_nil_iff, or_false] at hv
    unfold V64
    omega
  have gmade : ∀ W, Below w.heap.size w W → ∀ W2, W2 = ((W.alloc (.cells #[.int .i64 6, .int .i64 43, .int .i64 2, .int .i64 (1 + k2), .int .i64 0, .int .i64 1] 3)).alloc (.cells #[.int .i64 0, .int .i64 (wrap64 (a0 + (1 + k1))), .int .i64 a0] 3)).alloc (.cells #[.string ⟨#[120]⟩, .bool false, .bool false, .slice (some ⟨W.heap.size, 0, none⟩) 6 6] 27) →
      Calls Tryz.prog 11 #[.agg #[.int .i64 0, .int .i64 0, .string ⟨#[]⟩, .string ⟨#[]⟩, .bool false, .slice none 0 0, .slice (some ⟨W.heap.size + 2, 0, none⟩) 1 1, .int .i64 10, .slice (some ⟨W.heap.size + 1, 0, none⟩) 3 3, .slice none 0 0, .int .i64 0, .int .i64 0, .int .i64 0]] W2
        (fun e w' => ∃ (a : Mw) (b : Bc) (r : Rc), e = .returned (.pointer (some ⟨b.gB, 0, none⟩)) ∧ b.gW = r.gW ∧ On Nob w (AllA (mL (endC a b r (x41 (setupX [6, 43, 2, 1 + k2, 0, 1] [0, wrap64 (a0 + (1 + k1)), a0] 10))) (setupX [6, 43, 2, 1 + k2, 0, 1] [0, wrap64 (a0 + (1 + k1)), a0] 10).mt)) w') := fun W hW W2 hW2 => by
    subst hW2
    have hbx := (((On.refl (A := AllA []) (F := Nob) (w := W) (fun _ h => h)).box (intsC [6, 43, 2, 1 + k2, 0, 1]) 3).box (intsC [0, wrap64 (a0 + (1 + k1)), a0]) 3).box #[.string nameX, .bool false, .bool false, .slice (some ⟨W.heap.size, 0, none⟩) ([6, 43, 2, 1 + k2, 0, 1] : List Int).length 6] 27
    simp only [World.size_alloc] at hbx
    exact made_pair (s := setupX [6, 43, 2, 1 + k2, 0, 1] [0, wrap64 (a0 + (1 + k1)), a0] 10) (m := slD (W.heap.size + 2) (W.heap.size + 1) 3) (hW.trans (hbx.outB.mono hW.size)) (setIn_data (cs := [6, 43, 2, 1 + k2, 0, 1]) (data := [0, wrap64 (a0 + (1 + k1)), a0]) (base := 10) (B1 := W.heap.size) (B2 := W.heap.size + 2) (B3 := W.heap.size + 1) (cp := 6) hcv2 (by simp) hdv (by simp) (by unfold V64; omega) (hbx.blkAt 2 rfl) (hbx.blkAt 0 rfl) (hbx.blkAt 1 rfl))
  obtain ⟨grep, _, gseen, gtells⟩ := setupX_rep [6, 43, 2, 1 + k2, 0, 1] [0, wrap64 (a0 + (1 + k1)), a0] 10 (by simp) hcv2 (by simp) hdv
  replace hcv2 := Lib.hid hcv2
  replace gmade := Lib.hid gmade
  replace grep := Lib.hid grep
  replace gseen := Lib.hid gseen
  replace gtells := Lib.hid gtells
  replace hmade := Lib.hid hmade
  replace hp1 := Lib.hid hp1
  replace hp2 := Lib.hid hp2
  replace hT := Lib.hid hT
  replace hrep := Lib.hid hrep
  replace hseen := Lib.hid hseen
  replace htells := Lib.hid htells
  replace hdv := Lib.hid hdv
  go_enter Tryz.func7, Tryz.ntmps7
  go_wp2_with fail
  refine (shown_walk _).mono ?_
  rintro e w1 ⟨rfl, hb1⟩
  simp only []
  replace hb1 := Lib.hid hb1
  go_wp2_with fail
  refine (hp1.out _).mono ?_
  rintro e w2 ⟨rfl, rfl⟩
  simp only []
  go_wp2_with fail
  refine (hp2.out _).mono ?_
  rintro e w3 ⟨rfl, rfl⟩
  simp only []
  go_wp2_with fail
  refine (hmade.out _ hb1.out _ rfl).mono ?_
  rintro e w4 ⟨a, b, r, rfl, hW, hon⟩
  simp only []
  have he : Ends (endC a b r (x41 (setupX [6, 43, 0, 1] [0, wrap64 (a0 + (1 + k1)), a0] 10))) b := end_ends
  obtain ⟨p, cap0, z0, z1, z2, z3, z4, z5, z6, z7⟩ := ends_both he hon
  rw [hW] at z6
  have hw : Blk w4 r.gW 77 (worldC r r.gS a.v2 (x41 (setupX [6, 43, 0, 1] [0, wrap64 (a0 + (1 + k1)), a0] 10)).fault (x41 (setupX [6, 43, 0, 1] [0, wrap64 (a0 + (1 + k1)), a0] 10)).used (x41 (setupX [6, 43, 0, 1] [0, wrap64 (a0 + (1 + k1)), a0] 10)).hidden (x41 (setupX [6, 43, 0, 1] [0, wrap64 (a0 + (1 + k1)), a0] 10)).tells) := hon.blkAt 11 rfl
  have d2 : w4.cell? ⟨r.gW, 2, none⟩ = some (.pointer (some ⟨r.gS, 0, none⟩)) := hw.cell 2
  have hall := pair_all hon (by decide) csL0_v64
  have hcb : ∀ (t : Mt) W2, On Nob w (AllA (mL (endC a b r (x41 (setupX [6, 43, 0, 1] [0, wrap64 (a0 + (1 + k1)), a0] 10))) t)) W2 → W2.cell? ⟨b.gB, 0, none⟩ = some (.pointer (some ⟨b.gI, 0, none⟩)) ∧ W2.cell? ⟨b.gB, 4, none⟩ = some (.pointer (some ⟨b.gP, 0, none⟩)) ∧ W2.cell? ⟨b.gB, 5, none⟩ = some (.pointer (some ⟨b.gM, 0, none⟩)) := fun t W2 h => ⟨(ends_both he h).choose_spec.choose_spec.1, (ends_both he h).choose_spec.choose_spec.2.2.2.2.1, (ends_both he h).choose_spec.choose_spec.2.2.2.2.2.1⟩
  replace hW := Lib.hid hW
  replace he := Lib.hid he
  replace hon := Lib.hid hon
  replace hall := Lib.hid hall
  replace hcb := Lib.hid hcb
  clear hw z1 z2 z3 z4 z5 z7
  go_wp2_with fail
  refine hall.out.mono ?_
  rintro e w5 ⟨sg, cap, rfl, hx, v, hon5, hve⟩
  simp only []
  have hon6 := hon5.tail
  have ⟨y0, y4, y5⟩ := hcb.out _ _ hon6
  have hset := pair_set hon6 hrep.out 2 (by decide) 16488 (by decide) 4218888 (by unfold V64; omega)
  obtain ⟨q, hq, hqf, hql, hqok, hqd, hqs, hqr, htok, htr⟩ := loops_start (t := (setupX [6, 43, 0, 1] [0, wrap64 (a0 + (1 + k1)), a0] 10).mt) (T := T) h0 (by have := hT.out; omega) (by have := hT.out; omega) (by rw [hT.out]; exact hrep.out) htells.out hseen.out
  have hran := fun W2 h => pair_ran (w := w) (W := W2) (a := a) (b := b) (r := r) (cs := [6, 43, 0, 1]) (data := [0, wrap64 (a0 + (1 + k1)), a0]) (base := 10) h hW.out (by decide) csL0_v64 htok htells.out htr (by show (setupX [6, 43, 0, 1] [0, wrap64 (a0 + (1 + k1)), a0] 10).mt.seen.length ≤ _; rw [hseen.out]; simp) 1 4000 q hq
  rw [hqf, hql, hT.out] at hran
  rw [hT.out] at hqs
  replace hset := Lib.hid hset
  replace hon5 := Lib.hid hon5
  replace hon6 := Lib.hid hon6
  replace hran := Lib.hid hran
  replace hq := Lib.hid hq
  replace hqf := Lib.hid hqf
  replace hql := Lib.hid hql
  replace hqok := Lib.hid hqok
  replace hqd := Lib.hid hqd
  replace hqs := Lib.hid hqs
  replace hqr := Lib.hid hqr
  clear htok htr
  go_wp2_with fail
  refine hset.out.mono ?_
  rintro e w6 ⟨rfl, hon7⟩
  simp only []
  have ⟨x0, x4, x5⟩ := hcb.out _ _ hon7
  replace hon7 := Lib.hid hon7
  go_wp2_with fail
  refine (hran.out _ hon7.out).mono ?_
  rintro e w7 ⟨rfl, hon8⟩
  simp only []
  have ⟨u0, u4, u5⟩ := hcb.out _ _ hon8
  replace hon8 := Lib.hid hon8
  go_wp2_with fail
  refine (ends_data he.out hon8.out).mono ?_
  rintro e w8 ⟨rfl, rfl⟩
  simp only []
  obtain ⟨gb, hi⟩ := hon8.out.img 1 rfl
  have hk := hon8.out.makeV (k_cells (hon8.out.stk 2 rfl) hi hqok.out.pd hqok.out.dle)
  rw [hqd.out, hqs.out] at hk
  replace hk := Lib.hid hk
  clear hi
  go_wp2_with fail
  refine hk.out.mono ?_
  rintro e w9 ⟨rfl, hon9⟩
  simp only []
  have hbk : Blk w9 w8.heap.size 3 (intsC [1 + k1]) := hon9.flat.blkAt 0 rfl
  have c0 : w9.cell? ⟨w8.heap.size, 0, none⟩ = some (.int .i64 (1 + k1)) := hbk.cell 0
  have hon10 := hon9.flat.tail
  have hret := ends_return he.out hon10
  have hrd := ends_rdepth hon10
  rw [hqr.out] at hrd
  have ⟨s0, s4, s5⟩ := hcb.out _ _ hon10
  replace hon10 := Lib.hid hon10
  replace hret := Lib.hid hret
  replace hrd := Lib.hid hrd
  clear hbk hon9
  go_wp2_with fail
  refine hret.out.mono ?_
  rintro e w10 ⟨rfl, rfl⟩
  simp only []
  go_wp2_with fail
  refine hrd.out.mono ?_
  rintro e w11 ⟨rfl, rfl⟩
  simp only []
  have hbel := hon10.out.outB
  clear hk hrd hret hran hset hcb hall hon hon5 hon6 hon7 hon8 hon10 d2 z0 z6 y0 y4 y5 x0 x4 x5 u0 u4 u5 s0 s4 s5 c0 hx hve
  replace hbel := Lib.hid hbel
  clear hW
  clear he
  try clear hcb
  go_wp2_with fail
  refine (gmade.out _ hbel.out _ rfl).mono ?_
  rintro e v4 ⟨a', b', r', rfl, hW, hon⟩
  simp only []
  have he : Ends (endC a' b' r' (x41 (setupX [6, 43, 2, 1 + k2, 0, 1] [0, wrap64 (a0 + (1 + k1)), a0] 10))) b' := end_ends
  obtain ⟨p, cap0, z0, z1, z2, z3, z4, z5, z6, z7⟩ := ends_both he hon
  rw [hW] at z6
  have hw : Blk v4 r'.gW 77 (worldC r' r'.gS a'.v2 (x41 (setupX [6, 43, 2, 1 + k2, 0, 1] [0, wrap64 (a0 + (1 + k1)), a0] 10)).fault (x41 (setupX [6, 43, 2, 1 + k2, 0, 1] [0, wrap64 (a0 + (1 + k1)), a0] 10)).used (x41 (setupX [6, 43, 2, 1 + k2, 0, 1] [0, wrap64 (a0 + (1 + k1)), a0] 10)).hidden (x41 (setupX [6, 43, 2, 1 + k2, 0, 1] [0, wrap64 (a0 + (1 + k1)), a0] 10)).tells) := hon.blkAt 11 rfl
  have d2 : v4.cell? ⟨r'.gW, 2, none⟩ = some (.pointer (some ⟨r'.gS, 0, none⟩)) := hw.cell 2
  have hall := pair_all hon (by simp) hcv2.out
  have hcb : ∀ (t : Mt) W2, On Nob w (AllA (mL (endC a' b' r' (x41 (setupX [6, 43, 2, 1 + k2, 0, 1] [0, wrap64 (a0 + (1 + k1)), a0] 10))) t)) W2 → W2.cell? ⟨b'.gB, 0, none⟩ = some (.pointer (some ⟨b'.gI, 0, none⟩)) ∧ W2.cell? ⟨b'.gB, 4, none⟩ = some (.pointer (some ⟨b'.gP, 0, none⟩)) ∧ W2.cell? ⟨b'.gB, 5, none⟩ = some (.pointer (some ⟨b'.gM, 0, none⟩)) := fun t W2 h => ⟨(ends_both he h).choose_spec.choose_spec.1, (ends_both he h).choose_spec.choose_spec.2.2.2.2.1, (ends_both he h).choose_spec.choose_spec.2.2.2.2.2.1⟩
  replace hW := Lib.hid hW
  replace he := Lib.hid he
  replace hon := Lib.hid hon
  replace hall := Lib.hid hall
  replace hcb := Lib.hid hcb
  clear hw z1 z2 z3 z4 z5 z7
  go_wp2_with fail
  refine hall.out.mono ?_
  rintro e v5 ⟨sg, cap, rfl, hx, v, hon5, hve⟩
  simp only []
  have hon6 := hon5.tail
  have ⟨y0, y4, y5⟩ := hcb.out _ _ hon6
  have hset := pair_set hon6 grep.out 4 (by simp) 16504 (by decide) 4218889 (by unfold V64; omega)
  obtain ⟨U, hU⟩ : ∃ U : Nat, (U : Int) = 1 + k2 := ⟨(1 + k2).toNat, by omega⟩
  obtain ⟨q', hq, hqf, hqok, hqd, hqs, hqr, htok, htr⟩ := ploops_start (t := (setupX [6, 43, 2, 1 + k2, 0, 1] [0, wrap64 (a0 + (1 + k1)), a0] 10).mt) (T := T) (u := U) h0 (by have := hT.out; omega) (by have := hT.out; omega) (by omega) (by omega) (by rw [hT.out, hU]; exact grep.out)
  have hran := fun W2 h => pair_ran (w := w) (W := W2) (a := a') (b := b') (r := r') (cs := [6, 43, 2, 1 + k2, 0, 1]) (data := [0, wrap64 (a0 + (1 + k1)), a0]) (base := 10) h hW.out (by simp) hcv2.out htok gtells.out htr (by show (setupX [6, 43, 2, 1 + k2, 0, 1] [0, wrap64 (a0 + (1 + k1)), a0] 10).mt.seen.length ≤ _; rw [gseen.out]; simp) 1 4000 q' hq
  rw [hqf] at hran
  obtain ⟨N, hN⟩ : ∃ N : Int, N = (((T - 1) / U + 1 : Nat) : Int) := ⟨_, rfl⟩
  rw [← hN] at hqs
  have hQ : (1 + k1 + (1 + k2) - 1).tdiv (1 + k2) = N := by
    have e1 : 1 + k1 + (1 + k2) - 1 = ((T - 1 + U : Nat) : Int) := by have := hT.out; omega
    rw [e1, ← hU, hN, ← Int.ofNat_tdiv, Nat.add_div_right _ (by omega)]
  have hN2 : 1 ≤ N ∧ N ≤ 60 := by
    have h1 := Nat.div_le_self (T - 1) U
    have h2 := hT.out
    rw [hN]
    clear hqs hQ hN hran
    generalize (T - 1) / U = m at *
    omega
  replace hQ := Lib.hid hQ
  replace hN2 := Lib.hid hN2
  replace hset := Lib.hid hset
  replace hon5 := Lib.hid hon5
  replace hon6 := Lib.hid hon6
  replace hran := Lib.hid hran
  replace hqok := Lib.hid hqok
  replace hqd := Lib.hid hqd
  replace hqs := Lib.hid hqs
  replace hqr := Lib.hid hqr
  replace hU := Lib.hid hU
  replace hN := Lib.hid hN
  clear htok htr hq hqf
  go_wp2_with fail
  refine hset.out.mono ?_
  rintro e v6 ⟨rfl, hon7⟩
  simp only []
  have ⟨x0, x4, x5⟩ := hcb.out _ _ hon7
  replace hon7 := Lib.hid hon7
  go_wp2_with fail
  refine (hran.out _ hon7.out).mono ?_
  rintro e v7 ⟨rfl, hon8⟩
  simp only []
  have ⟨u0, u4, u5⟩ := hcb.out _ _ hon8
  replace hon8 := Lib.hid hon8
  go_wp2_with fail
  refine (ends_data he.out hon8.out).mono ?_
  rintro e v8 ⟨rfl, rfl⟩
  simp only []
  obtain ⟨gb, hi⟩ := hon8.out.img 1 rfl
  have hk := hon8.out.makeV (k_cells (hon8.out.stk 2 rfl) hi hqok.out.pd hqok.out.dle)
  rw [hqd.out, hqs.out] at hk
  replace hk := Lib.hid hk
  clear hi
  go_wp2_with fail
  refine hk.out.mono ?_
  rintro e v9 ⟨rfl, hon9⟩
  simp only []
  have hbk : Blk v9 v8.heap.size 3 (intsC [N]) := hon9.flat.blkAt 0 rfl
  have c0 : v9.cell? ⟨v8.heap.size, 0, none⟩ = some (.int .i64 N) := hbk.cell 0
  have hon10 : On Nob w (AllA (BlkA v8.heap.size 3 (intsC [N]) :: mL (endC a' b' r' (x41 (setupX [6, 43, 2, 1 + k2, 0, 1] [0, wrap64 (a0 + (1 + k1)), a0] 10))) q'.s)) v9 := hon9.flat
  generalize hX : endC a' b' r' (x41 (setupX [6, 43, 2, 1 + k2, 0, 1] [0, wrap64 (a0 + (1 + k1)), a0] 10)) = cX at *
  have hret : ∀ W2, On Nob w (AllA (BlkA v8.heap.size 3 (intsC [N]) :: mL cX q'.s)) W2 → Calls Tryz.prog 18 #[.pointer (some ⟨b'.gM, 0, none⟩)] W2 (Same (.pointer (some ⟨cX.gR, 0, none⟩)) W2) := fun W2 h => ends_return he.out h.tail
  have hrd : ∀ W2, On Nob w (AllA (BlkA v8.heap.size 3 (intsC [N]) :: mL cX q'.s)) W2 → Calls Tryz.prog 17 #[.pointer (some ⟨cX.gR, 0, none⟩)] W2 (Same (.int .i64 0) W2) := fun W2 h => by
    have h1 := ends_rdepth h.tail
    rw [hqr.out] at h1
    exact h1
  have hdr := hon10.drew
  have ⟨s0, s4, s5⟩ := hcb.out _ _ hon10.tail
  replace hon10 := Lib.hid hon10
  replace hdr := Lib.hid hdr
  replace hret := Lib.hid hret
  replace hrd := Lib.hid hrd
  clear hbk hon9
  have hQ' := hQ.out
  obtain ⟨hN3, hN4⟩ := hN2.out
  go_wp2_with fail
  go_region_held (fun w' => w'.cell? ⟨b'.gB, 5, none⟩ = some (.pointer (some ⟨b'.gM, 0, none⟩)) ∧ w'.cell? ⟨v8.heap.size, 0, none⟩ = some (.int .i64 N)) (go_keep)
    ((first
      | (go_at_call 18; refine (hret.out _ (Hid.out (by assumption))).mono ?_; rintro e v11 ⟨rfl, rfl⟩; simp only [])
      | (go_at_call 17; refine (hrd.out _ (Hid.out (by assumption))).mono ?_; rintro e v12 ⟨rfl, rfl⟩; simp only [])))
  all_goals go_wp2
  all_goals go_ret
  all_goals exact ⟨rfl, by first | exact hdr.out.outB | exact hon10.out.outB | exact (hon10.out.drewN _).outB⟩
end Vm
end Go.Proofs.YtjhdpmimccpcdaaGreatDoor
