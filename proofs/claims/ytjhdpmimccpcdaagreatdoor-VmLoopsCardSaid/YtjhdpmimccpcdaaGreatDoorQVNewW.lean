/- The law VmNew, walked. No condition but that the arguments are cells. Printed by gen_vnew.py. -/
import Derived.Test.YtjhdpmimccpcdaaGreatDoorQ44
import Derived.Deep.DeepCutAuto
import Derived.Deep.RegionWith
namespace Go.Proofs.YtjhdpmimccpcdaaGreatDoor
set_option linter.unusedVariables false
set_option maxRecDepth 100000
open Go.RowKit Go.Lib Go.Deep
namespace Vm
theorem x41_S (s : Setup) : (x41 s).S = s.ri := by
  obtain ⟨f1, f2, f3, f4, f5, f6, f7, f8⟩ := onR_fold (s.ret.take 8) ((s.data.take 16).foldl St.onD (st0 s.i3 (x32 s)))
  obtain ⟨g1, g2, g3, g4, g5, g6, g7, g8⟩ := onD_fold (s.data.take 16) (st0 s.i3 (x32 s))
  show (((s.ret.take 8).foldl St.onR ((s.data.take 16).foldl St.onD (st0 s.i3 (x32 s)))).R).setCell 0 16448 s.base = _
  rw [f7, g7]
  rfl
theorem ri_fine (s : Setup) : s.ri.Ok ∧ Lay0 s.ri := by
  obtain ⟨h1, h2⟩ := i3_fine s
  unfold Setup.ri
  rw [base_put h2]
  exact ⟨put_ok h1 _ _ (by rw [toB_len]; have := h2.begs; omega), lay_put h2 _ _⟩
/-- the pair, made: where all lies -/
theorem made_pair {w W : World} {s : Setup} {m : Sl} (hb : Below w.heap.size w W) (hs : SetIn W s m) : Calls Tryz.prog 11 #[.agg (setupC s m)] W (fun e w' => ∃ (a : Mw) (b : Bc) (r : Rc), e = .returned (.pointer (some ⟨b.gB, 0, none⟩)) ∧ b.gW = r.gW ∧ On Nob w (AllA (mL (endC a b r (x41 s)) s.mt)) w') := by
  refine (b_made hs).mono ?_
  rintro e w1 ⟨B, ⟨a, b, r, hW, rfl, rfl⟩, hon⟩
  exact ⟨a, b, r, rfl, hW, On.rebase hb hon⟩
section
variable {w W : World} {F : Nat → Prop} {a : Mw} {b : Bc} {r : Rc} {x : Rw} {t : Mt} {c : Vc}
theorem pair_doc (h : On F w (AllA (mL (endC a b r x) t)) W) : On F w (DocA r r.gS a.v2 x) W := h.tail.tail.tail.tail.tail.tail.tail.tail.tail.tail.tail
theorem pair_base (s : Setup) (h : On F w (AllA (mL (endC a b r (x41 s)) t)) W) (hW : b.gW = r.gW) : Calls Tryz.prog 15 #[.pointer (some ⟨b.gW, 0, none⟩)] W (Quiet (.int .i64 16448) W) := by
  obtain ⟨h1, h2⟩ := ri_fine s
  have h3 := w_base (pair_doc h) (by rw [x41_S]; exact h1)
  rw [x41_S, h2.begs.2.1] at h3
  rw [hW]
  exact h3
theorem p_new {A1 A2 A3 A4 B1 B2 B3 B4 B5 B6 B7 B8 : Asr} {L : List Asr} (h : On F w (AllA (A1 :: A2 :: A3 :: A4 :: B1 :: B2 :: B3 :: B4 :: B5 :: B6 :: B7 :: B8 :: L)) W) : On F w (AllA (A1 :: B2 :: A2 :: A3 :: B5 :: B6 :: B7 :: B8 :: A4 :: B1 :: B3 :: B4 :: L)) W := by
  replace h : On F w (AllA (B4 :: A1 :: A2 :: A3 :: A4 :: B1 :: B2 :: B3 :: B5 :: B6 :: B7 :: B8 :: L)) W := h.front 7 rfl
  replace h : On F w (AllA (B3 :: B4 :: A1 :: A2 :: A3 :: A4 :: B1 :: B2 :: B5 :: B6 :: B7 :: B8 :: L)) W := h.front 7 rfl
  replace h : On F w (AllA (B1 :: B3 :: B4 :: A1 :: A2 :: A3 :: A4 :: B2 :: B5 :: B6 :: B7 :: B8 :: L)) W := h.front 6 rfl
  replace h : On F w (AllA (A4 :: B1 :: B3 :: B4 :: A1 :: A2 :: A3 :: B2 :: B5 :: B6 :: B7 :: B8 :: L)) W := h.front 6 rfl
  replace h : On F w (AllA (B8 :: A4 :: B1 :: B3 :: B4 :: A1 :: A2 :: A3 :: B2 :: B5 :: B6 :: B7 :: L)) W := h.front 11 rfl
  replace h : On F w (AllA (B7 :: B8 :: A4 :: B1 :: B3 :: B4 :: A1 :: A2 :: A3 :: B2 :: B5 :: B6 :: L)) W := h.front 11 rfl
  replace h : On F w (AllA (B6 :: B7 :: B8 :: A4 :: B1 :: B3 :: B4 :: A1 :: A2 :: A3 :: B2 :: B5 :: L)) W := h.front 11 rfl
  replace h : On F w (AllA (B5 :: B6 :: B7 :: B8 :: A4 :: B1 :: B3 :: B4 :: A1 :: A2 :: A3 :: B2 :: L)) W := h.front 11 rfl
  replace h : On F w (AllA (A3 :: B5 :: B6 :: B7 :: B8 :: A4 :: B1 :: B3 :: B4 :: A1 :: A2 :: B2 :: L)) W := h.front 10 rfl
  replace h : On F w (AllA (A2 :: A3 :: B5 :: B6 :: B7 :: B8 :: A4 :: B1 :: B3 :: B4 :: A1 :: B2 :: L)) W := h.front 10 rfl
  replace h : On F w (AllA (B2 :: A2 :: A3 :: B5 :: B6 :: B7 :: B8 :: A4 :: B1 :: B3 :: B4 :: A1 :: L)) W := h.front 11 rfl
  replace h : On F w (AllA (A1 :: B2 :: A2 :: A3 :: B5 :: B6 :: B7 :: B8 :: A4 :: B1 :: B3 :: B4 :: L)) W := h.front 11 rfl
  exact h
/-- a second machine beside the pair -/
def sndC (c : Vc) (gM gD gR : Nat) (ws : Value) (R : List Asr) (B : Asr) : Vc := ⟨gM, c.gI, gD, gR, c.gT, c.gS, c.gK, c.gP, ws, .nilFunc, c.sfr, c.sto, c.kfr, c.kto, fun _ => B, fun _ => R⟩
def sndM (s : Mt) : Mt := { s with pd := pdOf s.S, pr := prOf s.S, d := 0, r := 0, fault := 0, used := 0, hidden := 0, tells := false, seen := [] }
theorem snd_on {gM gD gR : Nat} {ws : Value} {l : List Nat} (h : On F w (AllA (BlkA gM 107 (newC c.gI c.gS c.gT c.gP ws (.pointer (some ⟨gD, 0, none⟩)) (.pointer (some ⟨gR, 0, none⟩))) :: StkA c.gI gD (pdOf t.S) 0 :: StkA c.gI gR (prOf t.S) 0 :: RowP ws l :: mL c t)) W) :
    ∃ R, On F w (AllA (mL (sndC c gM gD gR ws R (c.tl t.seen)) (sndM t))) W :=
  ⟨_, p_new h⟩
theorem snd_rep {cs ds rs : List Int} {p : Nat} (h : Rep t p cs ds rs) : Rep (sndM t) p cs [] [] := by
  have hb := h.lay.begs
  refine ⟨h.img, h.lay, ?_, ?_, h.code, rfl, rfl, by simp, by simp, fun i v h => by simp at h, fun i v h => by simp at h⟩
  · show pdOf t.S = _
    unfold pdOf
    rw [hb.2.2.1, h.lay.d]
  · show prOf t.S = _
    unfold prOf
    rw [hb.2.2.2.1, h.lay.r]
end
theorem exit_v64 : ∀ v ∈ ([1] : List Int), V64 v := by
  intro v hv
  rw [List.mem_singleton.1 hv]
  unfold V64
  omega
set_option maxHeartbeats 4000000 in
theorem vmnew_0 (a0 a1 a2 : Int) (h0 : V64 a0) (hk : pickS a0 6 = 0) (w : World) : Calls Tryz.prog 3 #[.int .i64 a0, .int .i64 a1, .int .i64 a2] w (Quiet (.bool true) w) := by
  obtain ⟨hrep, hhead, hseen, htells⟩ := setupX_rep [1] [] 10 (by decide) exit_v64 (by simp) (fun v h => by cases h)
  obtain ⟨hls, hhs⟩ := setupX_heads [1] [] 10 (by decide)
  have hmade : ∀ W, Below w.heap.size w W → ∀ W2, W2 = (W.alloc (.cells #[.int .i64 1] 3)).alloc (.cells #[.string ⟨#[120]⟩, .bool false, .bool false, .slice (some ⟨W.heap.size, 0, none⟩) 1 1] 27) → Calls Tryz.prog 11 #[.agg #[.int .i64 0, .int .i64 0, .string ⟨#[]⟩, .string ⟨#[]⟩, .bool false, .slice none 0 0, .slice (some ⟨W.heap.size + 1, 0, none⟩) 1 1, .int .i64 10, .slice none 0 0, .slice none 0 0, .int .i64 0, .int .i64 0, .int .i64 0]] W2 (fun e w' => ∃ (a : Mw) (b : Bc) (r : Rc), e = .returned (.pointer (some ⟨b.gB, 0, none⟩)) ∧ b.gW = r.gW ∧ On Nob w (AllA (mL (endC a b r (x41 (setupX [1] [] 10))) (setupX [1] [] 10).mt)) w') := fun W hW W2 hW2 => by
    subst hW2
    have hbx := ((On.refl (A := AllA []) (F := Nob) (w := W) (fun _ h => h)).box (intsC [1]) 3).box #[.string nameX, .bool false, .bool false, .slice (some ⟨W.heap.size, 0, none⟩) [(1 : Int)].length 1] 27
    simp only [World.size_alloc] at hbx
    exact made_pair (s := setupX [1] [] 10) (m := slX (W.heap.size + 1)) (hW.trans (hbx.outB.mono hW.size)) (setIn_lit (cs := [1]) (base := 10) (B1 := W.heap.size) (B2 := W.heap.size + 1) (cp := 1) exit_v64 (by decide) (by unfold V64; omega) (hbx.blkAt 1 rfl) (hbx.blkAt 0 rfl))
  have hpk := fun W => pick11 a0 6 W h0 (by omega)
  rw [hk] at hpk
  generalize hmt : (setupX [1] [] 10).mt = mt at *
  replace hmade := Lib.hid hmade
  replace hpk := Lib.hid hpk
  replace hmt := Lib.hid hmt
  replace hrep := Lib.hid hrep
  clear hhead hseen htells hls hhs hk h0
  go_enter Tryz.func3, Tryz.ntmps3
  go_wp2_with fail
  refine (shown_walk _).mono ?_
  rintro e w1 ⟨rfl, hb1⟩
  simp only []
  replace hb1 := Lib.hid hb1
  go_wp2_with fail
  refine (hmade.out _ hb1.out _ rfl).mono ?_
  rintro e w2 ⟨a, b, r, rfl, hW, hon⟩
  simp only []
  have he : Ends (endC a b r (x41 (setupX [1] [] 10))) b := end_ends
  obtain ⟨p, cap, z0, z1, z2, z3, z4, z5, z6, z7⟩ := ends_both he hon
  replace hon := Lib.hid hon
  replace hW := Lib.hid hW
  have hbx := fun W2 (hb : W2 = w2.alloc (.cells #[.pointer (some ⟨b.gS, 0, none⟩), .pointer (some ⟨b.gK, 0, none⟩)] 32)) => (by subst hb; exact hon.out.box #[.pointer (some ⟨b.gS, 0, none⟩), .pointer (some ⟨b.gK, 0, none⟩)] 32 : On Nob w (AllA (BlkA w2.heap.size 32 #[.pointer (some ⟨b.gS, 0, none⟩), .pointer (some ⟨b.gK, 0, none⟩)] :: mL (endC a b r (x41 (setupX [1] [] 10))) mt)) W2)
  replace hbx := Lib.hid hbx
  replace he := Lib.hid he
  go_wp2_with fail
  refine (hpk.out _).mono ?_
  rintro e w3 ⟨rfl, rfl⟩
  simp only []
  have hon3 := Lib.hid (hbx.out _ rfl)
  clear hbx
  go_wp2_with fail
  refine (vm_lacks (none) (some ⟨b.gS, 0, none⟩) (some ⟨b.gT, 0, none⟩) (some ⟨b.gP, 0, none⟩) (some ⟨w2.heap.size, 0, none⟩) 2 2 (.inl rfl) _).mono ?_
  rintro e w4 ⟨rfl, rfl⟩
  simp only []
  go_wp2
  go_ret
  exact ⟨rfl, hon3.out.outB⟩
set_option maxHeartbeats 4000000 in
theorem vmnew_1 (a0 a1 a2 : Int) (h0 : V64 a0) (hk : pickS a0 6 = 1) (w : World) : Calls Tryz.prog 3 #[.int .i64 a0, .int .i64 a1, .int .i64 a2] w (Quiet (.bool true) w) := by
  obtain ⟨hrep, hhead, hseen, htells⟩ := setupX_rep [1] [] 10 (by decide) exit_v64 (by simp) (fun v h => by cases h)
  obtain ⟨hls, hhs⟩ := setupX_heads [1] [] 10 (by decide)
  have hmade : ∀ W, Below w.heap.size w W → ∀ W2, W2 = (W.alloc (.cells #[.int .i64 1] 3)).alloc (.cells #[.string ⟨#[120]⟩, .bool false, .bool false, .slice (some ⟨W.heap.size, 0, none⟩) 1 1] 27) → Calls Tryz.prog 11 #[.agg #[.int .i64 0, .int .i64 0, .string ⟨#[]⟩, .string ⟨#[]⟩, .bool false, .slice none 0 0, .slice (some ⟨W.heap.size + 1, 0, none⟩) 1 1, .int .i64 10, .slice none 0 0, .slice none 0 0, .int .i64 0, .int .i64 0, .int .i64 0]] W2 (fun e w' => ∃ (a : Mw) (b : Bc) (r : Rc), e = .returned (.pointer (some ⟨b.gB, 0, none⟩)) ∧ b.gW = r.gW ∧ On Nob w (AllA (mL (endC a b r (x41 (setupX [1] [] 10))) (setupX [1] [] 10).mt)) w') := fun W hW W2 hW2 => by
    subst hW2
    have hbx := ((On.refl (A := AllA []) (F := Nob) (w := W) (fun _ h => h)).box (intsC [1]) 3).box #[.string nameX, .bool false, .bool false, .slice (some ⟨W.heap.size, 0, none⟩) [(1 : Int)].length 1] 27
    simp only [World.size_alloc] at hbx
    exact made_pair (s := setupX [1] [] 10) (m := slX (W.heap.size + 1)) (hW.trans (hbx.outB.mono hW.size)) (setIn_lit (cs := [1]) (base := 10) (B1 := W.heap.size) (B2 := W.heap.size + 1) (cp := 1) exit_v64 (by decide) (by unfold V64; omega) (hbx.blkAt 1 rfl) (hbx.blkAt 0 rfl))
  have hpk := fun W => pick11 a0 6 W h0 (by omega)
  rw [hk] at hpk
  generalize hmt : (setupX [1] [] 10).mt = mt at *
  replace hmade := Lib.hid hmade
  replace hpk := Lib.hid hpk
  replace hmt := Lib.hid hmt
  replace hrep := Lib.hid hrep
  clear hhead hseen htells hls hhs hk h0
  go_enter Tryz.func3, Tryz.ntmps3
  go_wp2_with fail
  refine (shown_walk _).mono ?_
  rintro e w1 ⟨rfl, hb1⟩
  simp only []
  replace hb1 := Lib.hid hb1
  go_wp2_with fail
  refine (hmade.out _ hb1.out _ rfl).mono ?_
  rintro e w2 ⟨a, b, r, rfl, hW, hon⟩
  simp only []
  have he : Ends (endC a b r (x41 (setupX [1] [] 10))) b := end_ends
  obtain ⟨p, cap, z0, z1, z2, z3, z4, z5, z6, z7⟩ := ends_both he hon
  replace hon := Lib.hid hon
  replace hW := Lib.hid hW
  have hbx := fun W2 (hb : W2 = w2.alloc (.cells #[.pointer (some ⟨b.gS, 0, none⟩), .pointer (some ⟨b.gK, 0, none⟩)] 32)) => (by subst hb; exact hon.out.box #[.pointer (some ⟨b.gS, 0, none⟩), .pointer (some ⟨b.gK, 0, none⟩)] 32 : On Nob w (AllA (BlkA w2.heap.size 32 #[.pointer (some ⟨b.gS, 0, none⟩), .pointer (some ⟨b.gK, 0, none⟩)] :: mL (endC a b r (x41 (setupX [1] [] 10))) mt)) W2)
  replace hbx := Lib.hid hbx
  replace he := Lib.hid he
  go_wp2_with fail
  refine (hpk.out _).mono ?_
  rintro e w3 ⟨rfl, rfl⟩
  simp only []
  have hon3 := Lib.hid (hbx.out _ rfl)
  clear hbx
  go_wp2_with fail
  refine (vm_lacks (some ⟨b.gI, 0, none⟩) (none) (some ⟨b.gT, 0, none⟩) (some ⟨b.gP, 0, none⟩) (some ⟨w2.heap.size, 0, none⟩) 2 2 (.inr (.inl rfl)) _).mono ?_
  rintro e w4 ⟨rfl, rfl⟩
  simp only []
  go_wp2
  go_ret
  exact ⟨rfl, hon3.out.outB⟩
set_option maxHeartbeats 4000000 in
theorem vmnew_2 (a0 a1 a2 : Int) (h0 : V64 a0) (hk : pickS a0 6 = 2) (w : World) : Calls Tryz.prog 3 #[.int .i64 a0, .int .i64 a1, .int .i64 a2] w (Quiet (.bool true) w) := by
  obtain ⟨hrep, hhead, hseen, htells⟩ := setupX_rep [1] [] 10 (by decide) exit_v64 (by simp) (fun v h => by cases h)
  obtain ⟨hls, hhs⟩ := setupX_heads [1] [] 10 (by decide)
  have hmade : ∀ W, Below w.heap.size w W → ∀ W2, W2 = (W.alloc (.cells #[.int .i64 1] 3)).alloc (.cells #[.string ⟨#[120]⟩, .bool false, .bool false, .slice (some ⟨W.heap.size, 0, none⟩) 1 1] 27) → Calls Tryz.prog 11 #[.agg #[.int .i64 0, .int .i64 0, .string ⟨#[]⟩, .string ⟨#[]⟩, .bool false, .slice none 0 0, .slice (some ⟨W.heap.size + 1, 0, none⟩) 1 1, .int .i64 10, .slice none 0 0, .slice none 0 0, .int .i64 0, .int .i64 0, .int .i64 0]] W2 (fun e w' => ∃ (a : Mw) (b : Bc) (r : Rc), e = .returned (.pointer (some ⟨b.gB, 0, none⟩)) ∧ b.gW = r.gW ∧ On Nob w (AllA (mL (endC a b r (x41 (setupX [1] [] 10))) (setupX [1] [] 10).mt)) w') := fun W hW W2 hW2 => by
    subst hW2
    have hbx := ((On.refl (A := AllA []) (F := Nob) (w := W) (fun _ h => h)).box (intsC [1]) 3).box #[.string nameX, .bool false, .bool false, .slice (some ⟨W.heap.size, 0, none⟩) [(1 : Int)].length 1] 27
    simp only [World.size_alloc] at hbx
    exact made_pair (s := setupX [1] [] 10) (m := slX (W.heap.size + 1)) (hW.trans (hbx.outB.mono hW.size)) (setIn_lit (cs := [1]) (base := 10) (B1 := W.heap.size) (B2 := W.heap.size + 1) (cp := 1) exit_v64 (by decide) (by unfold V64; omega) (hbx.blkAt 1 rfl) (hbx.blkAt 0 rfl))
  have hpk := fun W => pick11 a0 6 W h0 (by omega)
  rw [hk] at hpk
  generalize hmt : (setupX [1] [] 10).mt = mt at *
  replace hmade := Lib.hid hmade
  replace hpk := Lib.hid hpk
  replace hmt := Lib.hid hmt
  replace hrep := Lib.hid hrep
  clear hhead hseen htells hls hhs hk h0
  go_enter Tryz.func3, Tryz.ntmps3
  go_wp2_with fail
  refine (shown_walk _).mono ?_
  rintro e w1 ⟨rfl, hb1⟩
  simp only []
  replace hb1 := Lib.hid hb1
  go_wp2_with fail
  refine (hmade.out _ hb1.out _ rfl).mono ?_
  rintro e w2 ⟨a, b, r, rfl, hW, hon⟩
  simp only []
  have he : Ends (endC a b r (x41 (setupX [1] [] 10))) b := end_ends
  obtain ⟨p, cap, z0, z1, z2, z3, z4, z5, z6, z7⟩ := ends_both he hon
  replace hon := Lib.hid hon
  replace hW := Lib.hid hW
  have hbx := fun W2 (hb : W2 = w2.alloc (.cells #[.pointer (some ⟨b.gS, 0, none⟩), .pointer (some ⟨b.gK, 0, none⟩)] 32)) => (by subst hb; exact hon.out.box #[.pointer (some ⟨b.gS, 0, none⟩), .pointer (some ⟨b.gK, 0, none⟩)] 32 : On Nob w (AllA (BlkA w2.heap.size 32 #[.pointer (some ⟨b.gS, 0, none⟩), .pointer (some ⟨b.gK, 0, none⟩)] :: mL (endC a b r (x41 (setupX [1] [] 10))) mt)) W2)
  replace hbx := Lib.hid hbx
  replace he := Lib.hid he
  go_wp2_with fail
  refine (hpk.out _).mono ?_
  rintro e w3 ⟨rfl, rfl⟩
  simp only []
  have hon3 := Lib.hid (hbx.out _ rfl)
  clear hbx
  go_wp2_with fail
  refine (vm_lacks (some ⟨b.gI, 0, none⟩) (some ⟨b.gS, 0, none⟩) (none) (some ⟨b.gP, 0, none⟩) (some ⟨w2.heap.size, 0, none⟩) 2 2 (.inr (.inr (.inl rfl))) _).mono ?_
  rintro e w4 ⟨rfl, rfl⟩
  simp only []
  go_wp2
  go_ret
  exact ⟨rfl, hon3.out.outB⟩
set_option maxHeartbeats 4000000 in
theorem vmnew_3 (a0 a1 a2 : Int) (h0 : V64 a0) (hk : pickS a0 6 = 3) (w : World) : Calls Tryz.prog 3 #[.int .i64 a0, .int .i64 a1, .int .i64 a2] w (Quiet (.bool true) w) := by
  obtain ⟨hrep, hhead, hseen, htells⟩ := setupX_rep [1] [] 10 (by decide) exit_v64 (by simp) (fun v h => by cases h)
  obtain ⟨hls, hhs⟩ := setupX_heads [1] [] 10 (by decide)
  have hmade : ∀ W, Below w.heap.size w W → ∀ W2, W2 = (W.alloc (.cells #[.int .i64 1] 3)).alloc (.cells #[.string ⟨#[120]⟩, .bool false, .bool false, .slice (some ⟨W.heap.size, 0, none⟩) 1 1] 27) → Calls Tryz.prog 11 #[.agg #[.int .i64 0, .int .i64 0, .string ⟨#[]⟩, .string ⟨#[]⟩, .bool false, .slice none 0 0, .slice (some ⟨W.heap.size + 1, 0, none⟩) 1 1, .int .i64 10, .slice none 0 0, .slice none 0 0, .int .i64 0, .int .i64 0, .int .i64 0]] W2 (fun e w' => ∃ (a : Mw) (b : Bc) (r : Rc), e = .returned (.pointer (some ⟨b.gB, 0, none⟩)) ∧ b.gW = r.gW ∧ On Nob w (AllA (mL (endC a b r (x41 (setupX [1] [] 10))) (setupX [1] [] 10).mt)) w') := fun W hW W2 hW2 => by
    subst hW2
    have hbx := ((On.refl (A := AllA []) (F := Nob) (w := W) (fun _ h => h)).box (intsC [1]) 3).box #[.string nameX, .bool false, .bool false, .slice (some ⟨W.heap.size, 0, none⟩) [(1 : Int)].length 1] 27
    simp only [World.size_alloc] at hbx
    exact made_pair (s := setupX [1] [] 10) (m := slX (W.heap.size + 1)) (hW.trans (hbx.outB.mono hW.size)) (setIn_lit (cs := [1]) (base := 10) (B1 := W.heap.size) (B2 := W.heap.size + 1) (cp := 1) exit_v64 (by decide) (by unfold V64; omega) (hbx.blkAt 1 rfl) (hbx.blkAt 0 rfl))
  have hpk := fun W => pick11 a0 6 W h0 (by omega)
  rw [hk] at hpk
  generalize hmt : (setupX [1] [] 10).mt = mt at *
  replace hmade := Lib.hid hmade
  replace hpk := Lib.hid hpk
  replace hmt := Lib.hid hmt
  replace hrep := Lib.hid hrep
  clear hhead hseen htells hls hhs hk h0
  go_enter Tryz.func3, Tryz.ntmps3
  go_wp2_with fail
  refine (shown_walk _).mono ?_
  rintro e w1 ⟨rfl, hb1⟩
  simp only []
  replace hb1 := Lib.hid hb1
  go_wp2_with fail
  refine (hmade.out _ hb1.out _ rfl).mono ?_
  rintro e w2 ⟨a, b, r, rfl, hW, hon⟩
  simp only []
  have he : Ends (endC a b r (x41 (setupX [1] [] 10))) b := end_ends
  obtain ⟨p, cap, z0, z1, z2, z3, z4, z5, z6, z7⟩ := ends_both he hon
  replace hon := Lib.hid hon
  replace hW := Lib.hid hW
  have hbx := fun W2 (hb : W2 = w2.alloc (.cells #[.pointer (some ⟨b.gS, 0, none⟩), .pointer (some ⟨b.gK, 0, none⟩)] 32)) => (by subst hb; exact hon.out.box #[.pointer (some ⟨b.gS, 0, none⟩), .pointer (some ⟨b.gK, 0, none⟩)] 32 : On Nob w (AllA (BlkA w2.heap.size 32 #[.pointer (some ⟨b.gS, 0, none⟩), .pointer (some ⟨b.gK, 0, none⟩)] :: mL (endC a b r (x41 (setupX [1] [] 10))) mt)) W2)
  replace hbx := Lib.hid hbx
  replace he := Lib.hid he
  go_wp2_with fail
  refine (hpk.out _).mono ?_
  rintro e w3 ⟨rfl, rfl⟩
  simp only []
  have hon3 := Lib.hid (hbx.out _ rfl)
  clear hbx
  go_wp2_with fail
  refine (vm_lacks (some ⟨b.gI, 0, none⟩) (some ⟨b.gS, 0, none⟩) (some ⟨b.gT, 0, none⟩) (none) (some ⟨w2.heap.size, 0, none⟩) 2 2 (.inr (.inr (.inr rfl))) _).mono ?_
  rintro e w4 ⟨rfl, rfl⟩
  simp only []
  go_wp2
  go_ret
  exact ⟨rfl, hon3.out.outB⟩
set_option maxHeartbeats 4000000 in
theorem vmnew_4 (a0 a1 a2 : Int) (h0 : V64 a0) (hk : pickS a0 6 = 4) (w : World) : Calls Tryz.prog 3 #[.int .i64 a0, .int .i64 a1, .int .i64 a2] w (Quiet (.bool true) w) := by
  obtain ⟨hrep, hhead, hseen, htells⟩ := setupX_rep [1] [] 10 (by decide) exit_v64 (by simp) (fun v h => by cases h)
  obtain ⟨hls, hhs⟩ := setupX_heads [1] [] 10 (by decide)
  have hmade : ∀ W, Below w.heap.size w W → ∀ W2, W2 = (W.alloc (.cells #[.int .i64 1] 3)).alloc (.cells #[.string ⟨#[120]⟩, .bool false, .bool false, .slice (some ⟨W.heap.size, 0, none⟩) 1 1] 27) → Calls Tryz.prog 11 #[.agg #[.int .i64 0, .int .i64 0, .string ⟨#[]⟩, .string ⟨#[]⟩, .bool false, .slice none 0 0, .slice (some ⟨W.heap.size + 1, 0, none⟩) 1 1, .int .i64 10, .slice none 0 0, .slice none 0 0, .int .i64 0, .int .i64 0, .int .i64 0]] W2 (fun e w' => ∃ (a : Mw) (b : Bc) (r : Rc), e = .returned (.pointer (some ⟨b.gB, 0, none⟩)) ∧ b.gW = r.gW ∧ On Nob w (AllA (mL (endC a b r (x41 (setupX [1] [] 10))) (setupX [1] [] 10).mt)) w') := fun W hW W2 hW2 => by
    subst hW2
    have hbx := ((On.refl (A := AllA []) (F := Nob) (w := W) (fun _ h => h)).box (intsC [1]) 3).box #[.string nameX, .bool false, .bool false, .slice (some ⟨W.heap.size, 0, none⟩) [(1 : Int)].length 1] 27
    simp only [World.size_alloc] at hbx
    exact made_pair (s := setupX [1] [] 10) (m := slX (W.heap.size + 1)) (hW.trans (hbx.outB.mono hW.size)) (setIn_lit (cs := [1]) (base := 10) (B1 := W.heap.size) (B2 := W.heap.size + 1) (cp := 1) exit_v64 (by decide) (by unfold V64; omega) (hbx.blkAt 1 rfl) (hbx.blkAt 0 rfl))
  have hpk := fun W => pick11 a0 6 W h0 (by omega)
  rw [hk] at hpk
  generalize hmt : (setupX [1] [] 10).mt = mt at *
  replace hmade := Lib.hid hmade
  replace hpk := Lib.hid hpk
  replace hmt := Lib.hid hmt
  replace hrep := Lib.hid hrep
  clear hhead hseen htells hls hhs hk h0
  go_enter Tryz.func3, Tryz.ntmps3
  go_wp2_with fail
  refine (shown_walk _).mono ?_
  rintro e w1 ⟨rfl, hb1⟩
  simp only []
  replace hb1 := Lib.hid hb1
  go_wp2_with fail
  refine (hmade.out _ hb1.out _ rfl).mono ?_
  rintro e w2 ⟨a, b, r, rfl, hW, hon⟩
  simp only []
  have he : Ends (endC a b r (x41 (setupX [1] [] 10))) b := end_ends
  obtain ⟨p, cap, z0, z1, z2, z3, z4, z5, z6, z7⟩ := ends_both he hon
  replace hon := Lib.hid hon
  replace hW := Lib.hid hW
  have hbx := fun W2 (hb : W2 = w2.alloc (.cells #[.pointer (some ⟨b.gS, 0, none⟩), .pointer (some ⟨b.gK, 0, none⟩)] 32)) => (by subst hb; exact hon.out.box #[.pointer (some ⟨b.gS, 0, none⟩), .pointer (some ⟨b.gK, 0, none⟩)] 32 : On Nob w (AllA (BlkA w2.heap.size 32 #[.pointer (some ⟨b.gS, 0, none⟩), .pointer (some ⟨b.gK, 0, none⟩)] :: mL (endC a b r (x41 (setupX [1] [] 10))) mt)) W2)
  replace hbx := Lib.hid hbx
  replace he := Lib.hid he
  go_wp2_with fail
  refine (hpk.out _).mono ?_
  rintro e w3 ⟨rfl, rfl⟩
  simp only []
  have hon4 := hon.out.box #[.pointer (some ⟨b.gS, 0, none⟩), .pointer none] 32
  have hrow4 := hon4.blkAt 0 rfl
  obtain ⟨gb, hi⟩ := hon4.img 2 rfl
  have hst := hrep.out.lay
  have hvm := vm_new (gI := b.gI) (gb := gb) (gS := b.gS) (gT := b.gT) (gP := b.gP) (rb := w2.heap.size) (n := 2) (cap := 2) (S := mt.S) (ds := [b.gS]) hi (by rw [hst.d]; decide) (by rw [hst.r]; decide) (by omega) true ⟨fun j g hj => by
    rcases j with _ | j
    · simp at hj; subst hj; exact hrow4.cell 0
    · simp at hj, ⟨by show 1 < 2; omega, hrow4.cell 1⟩⟩
  have hvm2 : Calls Tryz.prog 13 #[.pointer (some ⟨b.gI, 0, none⟩), .pointer (some ⟨b.gS, 0, none⟩), .slice (some ⟨w2.heap.size, 0, none⟩) 2 2, .pointer (some ⟨b.gT, 0, none⟩), .pointer (some ⟨b.gP, 0, none⟩)] (w2.alloc (.cells #[.pointer (some ⟨b.gS, 0, none⟩), .pointer none] 32)) (fun e w' => e = .returned (.tuple #[.pointer none, .int .i64 1]) ∧ On Nob w (AllA (mL (endC a b r (x41 (setupX [1] [] 10))) mt)) w') := by
    refine hvm.mono ?_
    rintro e w' h
    simp only [if_true] at h
    exact ⟨h.1, (hon4.below h.2).tail⟩
  have hon3 := hbx.out _ rfl
  have hrow := hon3.blkAt 0 rfl
  have q1 := hrow.cell 1
  have qf := hrow.frozen 1
  clear hbx
  replace hvm2 := Lib.hid hvm2
  replace hon3 := Lib.hid hon3
  clear hvm hi hst hon4 hrow hrow4
  go_wp2_with fail
  refine hvm2.out.mono ?_
  rintro e w4 ⟨rfl, h5⟩
  simp only []
  replace h5 := Lib.hid h5
  go_wp2
  go_ret
  exact ⟨rfl, h5.out.outB⟩
set_option maxHeartbeats 8000000 in
theorem vmnew_5 (a0 a1 a2 : Int) (h0 : V64 a0) (h1 : V64 a1) (h2 : V64 a2) (hk : pickS a0 6 = 5) (w : World) : Calls Tryz.prog 3 #[.int .i64 a0, .int .i64 a1, .int .i64 a2] w (Quiet (.bool true) w) := by
  obtain ⟨hrep, hhead, hseen, htells⟩ := setupX_rep [1] [] 10 (by decide) exit_v64 (by simp) (fun v h => by cases h)
  obtain ⟨hls, hhs⟩ := setupX_heads [1] [] 10 (by decide)
  have hmade : ∀ W, Below w.heap.size w W → ∀ W2, W2 = (W.alloc (.cells #[.int .i64 1] 3)).alloc (.cells #[.string ⟨#[120]⟩, .bool false, .bool false, .slice (some ⟨W.heap.size, 0, none⟩) 1 1] 27) → Calls Tryz.prog 11 #[.agg #[.int .i64 0, .int .i64 0, .string ⟨#[]⟩, .string ⟨#[]⟩, .bool false, .slice none 0 0, .slice (some ⟨W.heap.size + 1, 0, none⟩) 1 1, .int .i64 10, .slice none 0 0, .slice none 0 0, .int .i64 0, .int .i64 0, .int .i64 0]] W2 (fun e w' => ∃ (a : Mw) (b : Bc) (r : Rc), e = .returned (.pointer (some ⟨b.gB, 0, none⟩)) ∧ b.gW = r.gW ∧ On Nob w (AllA (mL (endC a b r (x41 (setupX [1] [] 10))) (setupX [1] [] 10).mt)) w') := fun W hW W2 hW2 => by
    subst hW2
    have hbx := ((On.refl (A := AllA []) (F := Nob) (w := W) (fun _ h => h)).box (intsC [1]) 3).box #[.string nameX, .bool false, .bool false, .slice (some ⟨W.heap.size, 0, none⟩) [(1 : Int)].length 1] 27
    simp only [World.size_alloc] at hbx
    exact made_pair (s := setupX [1] [] 10) (m := slX (W.heap.size + 1)) (hW.trans (hbx.outB.mono hW.size)) (setIn_lit (cs := [1]) (base := 10) (B1 := W.heap.size) (B2 := W.heap.size + 1) (cp := 1) exit_v64 (by decide) (by unfold V64; omega) (hbx.blkAt 1 rfl) (hbx.blkAt 0 rfl))
  have hpk := fun W => pick11 a0 6 W h0 (by omega)
  rw [hk] at hpk
  have hpk2 := fun W => pick11 a1 3 W h1 (by omega)
  have hmode : 0 ≤ pickS a1 3 ∧ pickS a1 3 ≤ 2 := by
    unfold pickS
    have g1 := Int.emod_nonneg (if a1 < 0 then -(a1 + 1) else a1) (show (3 : Int) ≠ 0 by omega)
    have g2 := Int.emod_lt_of_pos (if a1 < 0 then -(a1 + 1) else a1) (show (0 : Int) < 3 by omega)
    omega
  generalize pickS a1 3 = md at *
  generalize hmt : (setupX [1] [] 10).mt = mt at *
  have hsr := snd_rep hrep
  have hsok := hsr.ok
  obtain ⟨q, hq, hqf, hql⟩ := exit_run hsr md a2 hmode
  have hroom : 1 ≤ (sndM mt).pr.rm - (sndM mt).r := by rw [hsr.pr, hsr.r]; decide
  have hrun := fun (c : Vc) (W : World) (F' : Nat → Prop) (hb : (AllA (mL c (sndM mt))).holds W F') (ht : TellOk c false) => v_run hb hsok ht md 16472 a2 (by unfold V64; omega) none hroom (Nat.zero_le _) q hq
  rw [hqf, hql] at hrun
  replace hmade := Lib.hid hmade
  replace hpk := Lib.hid hpk
  replace hpk2 := Lib.hid hpk2
  replace hmt := Lib.hid hmt
  replace hrep := Lib.hid hrep
  replace hrun := Lib.hid hrun
  replace hhead := Lib.hid hhead
  replace hls := Lib.hid hls
  replace hhs := Lib.hid hhs
  clear hseen htells hk h0 h1 h2 hmode hsr hsok hq hqf hql hroom
  go_enter Tryz.func3, Tryz.ntmps3
  go_wp2_with fail
  refine (shown_walk _).mono ?_
  rintro e w1 ⟨rfl, hb1⟩
  simp only []
  replace hb1 := Lib.hid hb1
  go_wp2_with fail
  refine (hmade.out _ hb1.out _ rfl).mono ?_
  rintro e w2 ⟨a, b, r, rfl, hW, hon⟩
  simp only []
  have he : Ends (endC a b r (x41 (setupX [1] [] 10))) b := end_ends
  obtain ⟨p, cap, z0, z1, z2, z3, z4, z5, z6, z7⟩ := ends_both he hon
  replace hon := Lib.hid hon
  replace hW := Lib.hid hW
  have hon3 := hon.out.box #[.pointer (some ⟨b.gS, 0, none⟩), .pointer (some ⟨b.gK, 0, none⟩)] 32
  have hrow4 := hon3.blkAt 0 rfl
  obtain ⟨gb, hi⟩ := hon3.img 2 rfl
  have hst := hrep.out.lay
  have hvm := hon3.make (vm_new (gI := b.gI) (gb := gb) (gS := b.gS) (gT := b.gT) (gP := b.gP) (rb := w2.heap.size) (n := 2) (cap := 2) (S := mt.S) (ds := [b.gS, b.gK]) hi (by rw [hst.d]; decide) (by rw [hst.r]; decide) (by omega) false ⟨fun j g hj => by
    rcases j with _ | _ | j
    · simp at hj; subst hj; exact hrow4.cell 0
    · simp at hj; subst hj; exact hrow4.cell 1
    · simp at hj, rfl⟩)
  replace hvm := Lib.hid hvm
  replace hon3 := Lib.hid hon3
  clear hi hst hrow4
  go_wp2_with fail
  refine (hpk.out _).mono ?_
  rintro e w3 ⟨rfl, rfl⟩
  simp only []
  go_wp2_with fail
  refine hvm.out.mono ?_
  rintro e w4 ⟨B, ⟨gM, gD, gR, ws, rfl, rfl⟩, h5⟩
  simp only []
  have h6 : On Nob w (AllA (BlkA gM 107 (newC b.gI b.gS b.gT b.gP ws (.pointer (some ⟨gD, 0, none⟩)) (.pointer (some ⟨gR, 0, none⟩))) :: StkA b.gI gD (pdOf mt.S) 0 :: StkA b.gI gR (prOf mt.S) 0 :: RowP ws [b.gS, b.gK] :: mL (endC a b r (x41 (setupX [1] [] 10))) mt)) w4 := h5.flat.drop 4 rfl
  obtain ⟨LX, hX⟩ : ∃ LX, LX = (BlkA gM 107 (newC b.gI b.gS b.gT b.gP ws (.pointer (some ⟨gD, 0, none⟩)) (.pointer (some ⟨gR, 0, none⟩))) :: StkA b.gI gD (pdOf mt.S) 0 :: StkA b.gI gR (prOf mt.S) 0 :: RowP ws [b.gS, b.gK] :: mL (endC a b r (x41 (setupX [1] [] 10))) mt) := ⟨_, rfl⟩
  have hbeg := hrep.out.lay.begs.2.1
  have hc6 : ∀ W, On Nob w (AllA LX) W → W.cell? ⟨b.gB, 6, none⟩ = some (.pointer (some ⟨b.gW, 0, none⟩)) := fun W h => by
    subst hX
    exact (ends_both he h.tail.tail.tail.tail).choose_spec.choose_spec.2.2.2.2.2.2.1
  have hc2 : ∀ W, On Nob w (AllA LX) W → W.cell? ⟨b.gB, 2, none⟩ = some (.pointer (some ⟨b.gS, 0, none⟩)) := fun W h => by
    subst hX
    exact (ends_both he h.tail.tail.tail.tail).choose_spec.choose_spec.2.2.1
  have hB1 : ∀ W, On Nob w (AllA LX) W → Calls Tryz.prog 14 #[.pointer (some ⟨gM, 0, none⟩)] W (fun e w' => e = .returned (.int .i64 16448) ∧ On Nob w (AllA LX) w') := fun W h => by
    subst hX
    obtain ⟨gb, hi⟩ := h.img 5 rfl
    have h1 := x_base (c := sndC (endC a b r (x41 (setupX [1] [] 10))) gM gD gR ws [] (BlkA 0 0 #[])) (s := sndM mt) (h.blkAt 0 rfl) hi
    rw [show (sndM mt).S.beg 3 = 16448 from hbeg] at h1
    exact h1.mono fun e w' ⟨h2, h3⟩ => ⟨h2, h.below h3⟩
  have hB2 : ∀ W, On Nob w (AllA LX) W → Calls Tryz.prog 15 #[.pointer (some ⟨b.gW, 0, none⟩)] W (fun e w' => e = .returned (.int .i64 16448) ∧ On Nob w (AllA LX) w') := fun W h => by
    subst hX
    exact (pair_base (setupX [1] [] 10) h.tail.tail.tail.tail hW.out).mono fun e w' ⟨h2, h3⟩ => ⟨h2, h.below h3⟩
  have hD : ∀ W, On Nob w (AllA LX) W → Calls Tryz.prog 16 #[.pointer (some ⟨gM, 0, none⟩)] W (fun e w' => e = .returned (.pointer (some ⟨gD, 0, none⟩)) ∧ On Nob w (AllA LX) w') := fun W h => by
    subst hX
    exact (x_data (c := sndC (endC a b r (x41 (setupX [1] [] 10))) gM gD gR ws [] (BlkA 0 0 #[])) (s := sndM mt) (h.blkAt 0 rfl)).mono fun e w' ⟨h2, h3⟩ => ⟨h2, h3 ▸ h⟩
  have hR : ∀ W, On Nob w (AllA LX) W → Calls Tryz.prog 18 #[.pointer (some ⟨gM, 0, none⟩)] W (fun e w' => e = .returned (.pointer (some ⟨gR, 0, none⟩)) ∧ On Nob w (AllA LX) w') := fun W h => by
    subst hX
    exact (x_return (c := sndC (endC a b r (x41 (setupX [1] [] 10))) gM gD gR ws [] (BlkA 0 0 #[])) (s := sndM mt) (h.blkAt 0 rfl)).mono fun e w' ⟨h2, h3⟩ => ⟨h2, h3 ▸ h⟩
  have hP1 : ∀ W, On Nob w (AllA LX) W → Calls Tryz.prog 17 #[.pointer (some ⟨gD, 0, none⟩)] W (fun e w' => e = .returned (.int .i64 0) ∧ On Nob w (AllA LX) w') := fun W h => by
    subst hX
    exact (k_depth (h.stk 1 rfl)).mono fun e w' ⟨h2, h3⟩ => ⟨h2, h3 ▸ h⟩
  have hP2 : ∀ W, On Nob w (AllA LX) W → Calls Tryz.prog 17 #[.pointer (some ⟨gR, 0, none⟩)] W (fun e w' => e = .returned (.int .i64 0) ∧ On Nob w (AllA LX) w') := fun W h => by
    subst hX
    exact (k_depth (h.stk 2 rfl)).mono fun e w' ⟨h2, h3⟩ => ⟨h2, h3 ▸ h⟩
  have hF : ∀ W, On Nob w (AllA LX) W → Calls Tryz.prog 19 #[.pointer (some ⟨b.gS, 0, none⟩), .string ⟨#[120]⟩] W (fun e w' => e = .returned (.tuple #[.agg #[.string ⟨#[120]⟩, .int .i64 16456, .int .i64 16472, .bool false, .bool false, .bool false], .bool true]) ∧ On Nob w (AllA LX) w') := fun W h => by
    subst hX
    exact (ends_find he h.tail.tail.tail.tail hrep.out hhead.out hls.out hhs.out).mono fun e w' ⟨h2, h3⟩ => ⟨h2, h.below h3⟩
  have hRun : ∀ W bx t cs, On Nob w (AllA (BlkA bx t cs :: LX)) W → Calls Tryz.prog 20 #[.pointer (some ⟨gM, 0, none⟩), .int .i64 md, .int .i64 16472, .int .i64 a2, .pointer none] W (fun e w' => ∃ L', e = .returned (.tuple #[.int .i64 (if a2 < 1 then 13 else 0), .int .i64 (if a2 < 1 then 0 else 1)]) ∧ On Nob w (AllA (BlkA bx t cs :: L')) w') := fun W bx t cs h => by
    subst hX
    refine h.callTailR (R := fun e _ => e = .returned (.tuple #[.int .i64 (if a2 < 1 then 13 else 0), .int .i64 (if a2 < 1 then 0 else 1)])) fun F' hb => ?_
    obtain ⟨R, h2⟩ := snd_on (c := endC a b r (x41 (setupX [1] [] 10))) (t := mt) (On.refl hb)
    exact (h2.callG (A := AllA (mL _ (sndM mt))) fun F' hb => hrun.out _ _ F' hb (.inl ⟨rfl, rfl⟩)).mono fun e w' ⟨h3, h4⟩ => ⟨_, h3, h4⟩
  rw [← hX] at h6
  have h6d := Lib.hid h6.drew
  have c6 := hc6 _ h6
  have c2 := hc2 _ h6
  clear h5 hX hvm hon3 hon z0 z1 z2 z3 z4 z5 z6 z7 hbeg hrun hrep hhead hls hhs hmt hmade
  replace h6 := Lib.hid h6
  replace hc6 := Lib.hid hc6
  replace hc2 := Lib.hid hc2
  replace hB1 := Lib.hid hB1
  replace hB2 := Lib.hid hB2
  replace hD := Lib.hid hD
  replace hR := Lib.hid hR
  replace hP1 := Lib.hid hP1
  replace hP2 := Lib.hid hP2
  replace hF := Lib.hid hF
  replace hRun := Lib.hid hRun
  go_upto_region 25 with fail
  go_cut [113] (fun t wx => t = .bool false ∧ On Nob w (AllA LX) wx)
  case first =>
    go_region_held (fun w' => w'.cell? ⟨b.gB, 6, none⟩ = some (.pointer (some ⟨b.gW, 0, none⟩))) (go_keep)
      ((first
        | (go_at_call 14; refine (hB1.out _ (Hid.out (by assumption))).mono ?_; rintro e w5 ⟨rfl, h⟩; simp only []; have k6 := hc6.out _ h; replace h := Lib.hid h)
        | (go_at_call 15; refine (hB2.out _ (Hid.out (by assumption))).mono ?_; rintro e w5 ⟨rfl, h⟩; simp only []; have k6 := hc6.out _ h; replace h := Lib.hid h)
        | (go_at_call 16; refine (hD.out _ (Hid.out (by assumption))).mono ?_; rintro e w5 ⟨rfl, h⟩; simp only []; have k6 := hc6.out _ h; replace h := Lib.hid h)
        | (go_at_call 18; refine (hR.out _ (Hid.out (by assumption))).mono ?_; rintro e w5 ⟨rfl, h⟩; simp only []; have k6 := hc6.out _ h; replace h := Lib.hid h)
        | (go_at_call_of 17 (Value.pointer (some ⟨gD, 0, none⟩)); refine (hP1.out _ (Hid.out (by assumption))).mono ?_; rintro e w5 ⟨rfl, h⟩; simp only []; have k6 := hc6.out _ h; replace h := Lib.hid h)
        | (go_at_call_of 17 (Value.pointer (some ⟨gR, 0, none⟩)); refine (hP2.out _ (Hid.out (by assumption))).mono ?_; rintro e w5 ⟨rfl, h⟩; simp only []; have k6 := hc6.out _ h; replace h := Lib.hid h)))
    all_goals go_wp2_with fail
    all_goals go_meet
    all_goals exact ⟨rfl, Hid.out (by assumption)⟩
  case rest =>
    obtain ⟨rfl, h7⟩ := hcut
    clear c6 c2 h6 h6d hB1 hB2 hD hR hP1 hP2
    have c2 := hc2.out _ h7
    replace h7 := Lib.hid h7
    go_wp2_with fail
    refine (hF.out _ h7.out).mono ?_
    rintro e w5 ⟨rfl, h8⟩
    simp only []
    have h9 := h8.box #[.string ⟨#[120]⟩, .int .i64 16456, .int .i64 16472, .bool false, .bool false, .bool false] 49
    have k2 : (w5.alloc (.cells #[.string ⟨#[120]⟩, .int .i64 16456, .int .i64 16472, .bool false, .bool false, .bool false] 49)).cell? ⟨w5.heap.size, 2, none⟩ = some (.int .i64 16472) := (Blk.new w5 49 #[.string ⟨#[120]⟩, .int .i64 16456, .int .i64 16472, .bool false, .bool false, .bool false]).cell 2
    replace h9 := Lib.hid h9.drew
    clear h8
    replace hRun := hRun.out
    by_cases hlt : a2 < 1
    · rw [if_pos hlt, if_pos hlt] at hRun
      have hd : decide (a2 < 1) = true := decide_eq_true hlt
      replace hRun := Lib.hid (hRun _ _ _ _ h9.out)
      clear h9 hlt
      go_wp2_with fail
      go_region_held (fun w' => w'.cell? ⟨w5.heap.size, 2, none⟩ = some (.int .i64 16472)) (go_keep)
        ((first
          | (go_at_call 12; refine (hpk2.out _).mono ?_; rintro e w6 ⟨rfl, rfl⟩; simp only [])
          | (go_at_call 20; refine hRun.out.mono ?_; rintro e w6 ⟨L', rfl, h⟩; simp only []; have k6 : w6.cell? ⟨w5.heap.size, 2, none⟩ = some (.int .i64 16472) := (h.blkAt 0 rfl).cell 2; replace h := Lib.hid h)))
      all_goals go_wp2
      all_goals go_ret
      all_goals exact ⟨rfl, (Hid.out h).outB⟩
    · rw [if_neg hlt, if_neg hlt] at hRun
      have hd : decide (a2 < 1) = false := decide_eq_false hlt
      replace hRun := Lib.hid (hRun _ _ _ _ h9.out)
      clear h9 hlt
      go_wp2_with fail
      go_region_held (fun w' => w'.cell? ⟨w5.heap.size, 2, none⟩ = some (.int .i64 16472)) (go_keep)
        ((first
          | (go_at_call 12; refine (hpk2.out _).mono ?_; rintro e w6 ⟨rfl, rfl⟩; simp only [])
          | (go_at_call 20; refine hRun.out.mono ?_; rintro e w6 ⟨L', rfl, h⟩; simp only []; have k6 : w6.cell? ⟨w5.heap.size, 2, none⟩ = some (.int .i64 16472) := (h.blkAt 0 rfl).cell 2; replace h := Lib.hid h)))
      all_goals go_wp2
      all_goals go_ret
      all_goals exact ⟨rfl, (Hid.out h).outB⟩
/-- VmNew, whatever the arguments -/
theorem vmnew_any (a0 a1 a2 : Int) (h0 : V64 a0) (h1 : V64 a1) (h2 : V64 a2) (w : World) : Calls Tryz.prog 3 #[.int .i64 a0, .int .i64 a1, .int .i64 a2] w (Quiet (.bool true) w) := by
  have hk : 0 ≤ pickS a0 6 ∧ pickS a0 6 < 6 := by
    unfold pickS
    exact ⟨Int.emod_nonneg _ (by omega), Int.emod_lt_of_pos _ (by omega)⟩
  rcases (show pickS a0 6 = 0 ∨ pickS a0 6 = 1 ∨ pickS a0 6 = 2 ∨ pickS a0 6 = 3 ∨ pickS a0 6 = 4 ∨ pickS a0 6 = 5 by omega) with h | h | h | h | h | h
  · exact vmnew_0 a0 a1 a2 h0 h w
  · exact vmnew_1 a0 a1 a2 h0 h w
  · exact vmnew_2 a0 a1 a2 h0 h w
  · exact vmnew_3 a0 a1 a2 h0 h w
  · exact vmnew_4 a0 a1 a2 h0 h w
  · exact vmnew_5 a0 a1 a2 h0 h1 h2 h w
end Vm
end Go.Proofs.YtjhdpmimccpcdaaGreatDoor
