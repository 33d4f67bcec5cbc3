/- Chapter 19: item: a word within a definition. -/
import Derived.Test.YthejfkkmcbdlhaaGreatDoorQRd
import Derived.Test.YthejfkkmcbdlhaaGreatDoorQRdh
import Derived.Deep.DeepCutAuto
namespace Go.Proofs.YthejfkkmcbdlhaaGreatDoor
set_option linter.unusedVariables false
set_option maxRecDepth 100000
open Go.RowKit Go.Lib
namespace Look
/-- the reader but for what is open -/
def rdM (g : Nat) (E : Env) (kk : Option Nat) (T : ByteArray) (r : Rd) (bt gs : Nat) (vl : Value) (bl bsp bw : Nat) (vo : Value) : List Asr :=
  [BlkA g 46 (rdC kk r bt gs vl bl bsp bw vo), SrcA gs T r.at_, RowK 34 5 vl r.list.length (effsC r.list), MapG 9 intE bl r.list.length (latF r.list), SpkA bsp r.spoken, MapG 3 intE bw r.wild.length (wildF r.wild)] ++ [TabA bt E.tab, KerA kk E]
def dPtr (gd : Nat) : Value := .pointer (some ⟨gd, 0, none⟩)
theorem rd_take {g : Nat} {E : Env} {kk : Option Nat} {T : ByteArray} {r : Rd} {bt gs : Nat} {vl : Value} {bl bsp bw gd : Nat} {d : Def} (ho : r.open_ = some d) {w w' : World} {F : Nat → Prop} (h : On F w (AllA (rdL g E kk T r bt gs vl bl bsp bw (dPtr gd))) w') :
    ∃ vs ve, On F w (AllA (DefB gd d vs ve :: rdM g E kk T r bt gs vl bl bsp bw (dPtr gd))) w' := by
  have h1 := On.pullA (L2 := [TabA bt E.tab, KerA kk E]) [BlkA g 46 (rdC kk r bt gs vl bl bsp bw (dPtr gd)), SrcA gs T r.at_, RowK 34 5 vl r.list.length (effsC r.list), MapG 9 intE bl r.list.length (latF r.list), SpkA bsp r.spoken, MapG 3 intE bw r.wild.length (wildF r.wild)] h
  obtain ⟨F', ⟨F1, F2, h2, h3, hd, hF⟩, hk, hF'⟩ := h1
  rw [ho] at h2
  obtain ⟨gd', e, vs, ve, h4⟩ := h2
  cases e
  exact ⟨vs, ve, F', ⟨F1, F2, h4, h3, hd, hF⟩, hk, hF'⟩
theorem rd_give {g : Nat} {E : Env} {kk : Option Nat} {T : ByteArray} {r : Rd} {bt gs : Nat} {vl : Value} {bl bsp bw gd : Nat} {d : Def} {vs ve : Value} {w w' : World} {F : Nat → Prop} (h : On F w (AllA (DefB gd d vs ve :: rdM g E kk T r bt gs vl bl bsp bw (dPtr gd))) w') :
    On F w (AllA (rdL g E kk T { r with open_ := some d } bt gs vl bl bsp bw (dPtr gd))) w' := by
  have h1 : On F w (AllA (OpenA (dPtr gd) (some d) :: rdM g E kk T r bt gs vl bl bsp bw (dPtr gd))) w' := by
    obtain ⟨F', ⟨F1, F2, h2, h3, hd, hF⟩, hk, hF'⟩ := h
    exact ⟨F', ⟨F1, F2, ⟨gd, rfl, vs, ve, h2⟩, h3, hd, hF⟩, hk, hF'⟩
  exact On.pushA [BlkA g 46 (rdC kk r bt gs vl bl bsp bw (dPtr gd)), SrcA gs T r.at_, RowK 34 5 vl r.list.length (effsC r.list), MapG 9 intE bl r.list.length (latF r.list), SpkA bsp r.spoken, MapG 3 intE bw r.wild.length (wildF r.wild)] h1
/-- the reader whole, to be asked -/
theorem rd_asked {g : Nat} {E : Env} {kk : Option Nat} {T : ByteArray} {r : Rd} {bt gs : Nat} {vl : Value} {bl bsp bw gd : Nat} {d : Def} {vs ve : Value} {w w' : World} {F : Nat → Prop} (h : On F w (AllA (DefB gd d vs ve :: rdM g E kk T r bt gs vl bl bsp bw (dPtr gd))) w') : ∃ F', (RdA g E kk T { r with open_ := some d } bt).holds w' F' := by
  obtain ⟨F', h1, _⟩ := RdA.close (rd_give h)
  exact ⟨F', h1⟩
theorem or_nat (a b : Nat) (ha : a < 2 ^ 62) (hb : b < 2 ^ 62) : bits .or .i64 (a : Int) (b : Int) = ((a ||| b : Nat) : Int) := by
  have h1 : a ||| b < 2 ^ 62 := Nat.or_lt_two_pow ha hb
  have h2 : (2 : Nat) ^ 62 < 2 ^ 64 := by decide
  show IntKind.i64.wrap (((BitVec.ofInt 64 (a : Int)) ||| (BitVec.ofInt 64 (b : Int))).toNat : Int) = _
  rw [BitVec.ofInt_natCast, BitVec.ofInt_natCast, BitVec.toNat_or, BitVec.toNat_ofNat, BitVec.toNat_ofNat, Nat.mod_eq_of_lt (by omega), Nat.mod_eq_of_lt (by omega)]
  have h3 : (2 : Nat) ^ 62 = 4611686018427387904 := by decide
  rw [h3] at h1
  simp [IntKind.wrap, IntKind.bits, IntKind.signed]
  omega
set_option maxHeartbeats 4000000 in
theorem item_num (g : Nat) (E : Env) (kk : Option Nat) (T : ByteArray) (r : Rd) (bt gs : Nat) (vl : Value) (bl bsp bw gd : Nat) (d : Def) (n : Nat) (nm : List UInt8) (hw : WOk E kk r.list ⟨5, n, nm⟩) (hq1 : d.e.needs < 2 ^ 62) (hq2 : needed E r.list ⟨5, n, nm⟩ < 2 ^ 62) (ho : r.open_ = some d) (w : World) (F : Nat → Prop) (hb : All (rdL g E kk T r bt gs vl bl bsp bw (dPtr gd)) w F) :
    Calls Tryz.prog 104 #[dPtr gd, .pointer (some ⟨g, 0, none⟩), wordV ⟨5, n, nm⟩] w (Post (fun u B => u = .tuple #[] ∧ B = AllA (rdL g E kk T { r with open_ := some (item E r.list d ⟨5, n, nm⟩) } bt gs vl bl bsp bw (dPtr gd))) F w) := by
  obtain ⟨vs, ve, hon⟩ := rd_take ho (On.refl (A := AllA _) hb)
  have hon0 := (hon.boxA #[.int .i64 5, .int .i64 (n : Int), .string ⟨nm.toArray⟩] 70).swapA
  have hnd : ∀ w2, On F w (AllA (DefB gd d vs ve :: BlkA w.heap.size 70 #[.int .i64 5, .int .i64 (n : Int), .string ⟨nm.toArray⟩] :: rdM g E kk T r bt gs vl bl bsp bw (dPtr gd))) w2 → Calls Tryz.prog 63 #[.pointer (some ⟨g, 0, none⟩), wordV ⟨5, n, nm⟩] w2 (Fresh' (.int .i64 (needed E r.list ⟨5, n, nm⟩ : Int)) w2) := by
    intro w2 h2
    obtain ⟨F', h3⟩ := rd_asked (h2.swapA.tailA)
    exact needF g E kk T { r with open_ := some d } bt _ hw w2 F' h3
  obtain ⟨_, hD⟩ := hon0.firstA
  have c4 := hD.1.blk.cell 4
  have hlt := hD.1.blk.lt
  simp [defC] at c4
  have hor := or_nat d.e.needs (needed E r.list ⟨5, n, nm⟩) hq1 hq2
  have hsp : item E r.list d ⟨5, n, nm⟩ = (let nd := needed E r.list ⟨5, n, nm⟩; let d1 := ({ d with e := { d.e with needs := d.e.needs ||| nd } } : Def); d1.takes 0 1) := rfl
  generalize needed E r.list ⟨5, n, nm⟩ = nd at *
  obtain ⟨d1, hd1⟩ : ∃ d1, ({ d with e := { d.e with needs := d.e.needs ||| nd } } : Def) = d1 := ⟨_, rfl⟩
  simp only [hd1] at hsp
  obtain ⟨R, hR⟩ : ∃ R, item E r.list d ⟨5, n, nm⟩ = R := ⟨_, rfl⟩
  rw [hR] at hsp ⊢
  clear hb hon hD hR hq1 hq2
  replace hd1 := Lib.hid hd1
  replace hsp := Lib.hid hsp
  replace hon0 := Lib.hid hon0
  replace hnd := Lib.hid hnd
  replace hor := Lib.hid hor
  unfold wordV dPtr
  simp only [wordC] at hnd ⊢
  go_enter Tryz.func104, Tryz.ntmps104
  go_wp2_with fail
  go_upto_region 1 with fail
  go_cut [14] (fun a wx => a = .int .i64 (nd : Int) ∧ On F w (AllA (DefB gd d1 vs ve :: BlkA w.heap.size 70 #[.int .i64 5, .int .i64 (n : Int), .string ⟨nm.toArray⟩] :: rdM g E kk T r bt gs vl bl bsp bw (dPtr gd))) wx)
  case first =>
    go_region_with ((go_at_call 63; refine (hnd.out _ hon0.out.drew).mono ?_; rintro e w2 ⟨rfl, hk⟩; have hon2 := hon0.out.drew.keptNob hk; obtain ⟨_, hD⟩ := hon2.firstA; have c4b := hD.1.blk.cell 4; have f4b := hD.1.blk.frozen 4; simp [defC] at c4b; clear hD hk; replace hon2 := Lib.hid hon2))
    all_goals
      go_wp2_with fail
      go_meet
      rw [hor.out]
      exact ⟨rfl, DefB.setOwn hon2.out 4 _ (by rw [← hd1.out]) (by rw [← hd1.out]) (by rw [← hd1.out]; rfl)⟩
  case rest =>
    obtain ⟨rfl, hon3⟩ := hcut
    have hbx := hon3.swapA.blkA
    have x0 := hbx.cell 0
    have x1 := hbx.cell 1
    have x2 := hbx.cell 2
    simp at x0 x1 x2
    have hlt3 := hbx.lt
    clear hbx c4
    replace hon3 := Lib.hid hon3
    have hcl := fun w1 F' hb' => takes_walk gd d1 0 1 vs ve w1 F' hb'
    replace hcl := Lib.hid hcl
    go_wp2_with fail
    refine (hon3.out.callA fun F' hb' => hcl.out _ F' hb').mono ?_
    rintro e w4 ⟨v, A', ⟨rfl, rfl⟩, rfl, hon4⟩
    replace hon4 := Lib.hid hon4
    clear x0 x1 x2
    go_wp2_with fail
    go_end0
    rw [hsp.out]
    exact (rd_give hon4.out.swapA.tailA).post ⟨rfl, rfl⟩
set_option maxHeartbeats 4000000 in
theorem item_bad (g : Nat) (E : Env) (kk : Option Nat) (T : ByteArray) (r : Rd) (bt gs : Nat) (vl : Value) (bl bsp bw gd : Nat) (d : Def) (n : Nat) (nm : List UInt8) (hw : WOk E kk r.list ⟨0, n, nm⟩) (hq1 : d.e.needs < 2 ^ 62) (hq2 : needed E r.list ⟨0, n, nm⟩ < 2 ^ 62) (ho : r.open_ = some d) (w : World) (F : Nat → Prop) (hb : All (rdL g E kk T r bt gs vl bl bsp bw (dPtr gd)) w F) :
    Calls Tryz.prog 104 #[dPtr gd, .pointer (some ⟨g, 0, none⟩), wordV ⟨0, n, nm⟩] w (Post (fun u B => u = .tuple #[] ∧ B = AllA (rdL g E kk T { r with open_ := some (item E r.list d ⟨0, n, nm⟩) } bt gs vl bl bsp bw (dPtr gd))) F w) := by
  obtain ⟨vs, ve, hon⟩ := rd_take ho (On.refl (A := AllA _) hb)
  have hon0 := (hon.boxA #[.int .i64 0, .int .i64 (n : Int), .string ⟨nm.toArray⟩] 70).swapA
  have hnd : ∀ w2, On F w (AllA (DefB gd d vs ve :: BlkA w.heap.size 70 #[.int .i64 0, .int .i64 (n : Int), .string ⟨nm.toArray⟩] :: rdM g E kk T r bt gs vl bl bsp bw (dPtr gd))) w2 → Calls Tryz.prog 63 #[.pointer (some ⟨g, 0, none⟩), wordV ⟨0, n, nm⟩] w2 (Fresh' (.int .i64 (needed E r.list ⟨0, n, nm⟩ : Int)) w2) := by
    intro w2 h2
    obtain ⟨F', h3⟩ := rd_asked (h2.swapA.tailA)
    exact needF g E kk T { r with open_ := some d } bt _ hw w2 F' h3
  obtain ⟨_, hD⟩ := hon0.firstA
  have c4 := hD.1.blk.cell 4
  have hlt := hD.1.blk.lt
  simp [defC] at c4
  have hor := or_nat d.e.needs (needed E r.list ⟨0, n, nm⟩) hq1 hq2
  have hsp : item E r.list d ⟨0, n, nm⟩ = (let nd := needed E r.list ⟨0, n, nm⟩; let d1 := ({ d with e := { d.e with needs := d.e.needs ||| nd } } : Def); d1.bad) := rfl
  generalize needed E r.list ⟨0, n, nm⟩ = nd at *
  obtain ⟨d1, hd1⟩ : ∃ d1, ({ d with e := { d.e with needs := d.e.needs ||| nd } } : Def) = d1 := ⟨_, rfl⟩
  simp only [hd1] at hsp
  obtain ⟨R, hR⟩ : ∃ R, item E r.list d ⟨0, n, nm⟩ = R := ⟨_, rfl⟩
  rw [hR] at hsp ⊢
  clear hb hon hD hR hq1 hq2
  replace hd1 := Lib.hid hd1
  replace hsp := Lib.hid hsp
  replace hon0 := Lib.hid hon0
  replace hnd := Lib.hid hnd
  replace hor := Lib.hid hor
  unfold wordV dPtr
  simp only [wordC] at hnd ⊢
  go_enter Tryz.func104, Tryz.ntmps104
  go_wp2_with fail
  go_upto_region 1 with fail
  go_cut [14] (fun a wx => a = .int .i64 (nd : Int) ∧ On F w (AllA (DefB gd d1 vs ve :: BlkA w.heap.size 70 #[.int .i64 0, .int .i64 (n : Int), .string ⟨nm.toArray⟩] :: rdM g E kk T r bt gs vl bl bsp bw (dPtr gd))) wx)
  case first =>
    go_region_with ((go_at_call 63; refine (hnd.out _ hon0.out.drew).mono ?_; rintro e w2 ⟨rfl, hk⟩; have hon2 := hon0.out.drew.keptNob hk; obtain ⟨_, hD⟩ := hon2.firstA; have c4b := hD.1.blk.cell 4; have f4b := hD.1.blk.frozen 4; simp [defC] at c4b; clear hD hk; replace hon2 := Lib.hid hon2))
    all_goals
      go_wp2_with fail
      go_meet
      rw [hor.out]
      exact ⟨rfl, DefB.setOwn hon2.out 4 _ (by rw [← hd1.out]) (by rw [← hd1.out]) (by rw [← hd1.out]; rfl)⟩
  case rest =>
    obtain ⟨rfl, hon3⟩ := hcut
    have hbx := hon3.swapA.blkA
    have x0 := hbx.cell 0
    have x1 := hbx.cell 1
    have x2 := hbx.cell 2
    simp at x0 x1 x2
    have hlt3 := hbx.lt
    clear hbx c4
    replace hon3 := Lib.hid hon3
    have hcl := fun w1 F' hb' => bad_walk gd d1 vs ve w1 F' hb'
    replace hcl := Lib.hid hcl
    go_wp2_with fail
    refine (hon3.out.callA fun F' hb' => hcl.out _ F' hb').mono ?_
    rintro e w4 ⟨v, A', ⟨rfl, rfl⟩, rfl, hon4⟩
    replace hon4 := Lib.hid hon4
    clear x0 x1 x2
    go_wp2_with fail
    go_end0
    rw [hsp.out]
    exact (rd_give hon4.out.swapA.tailA).post ⟨rfl, rfl⟩
set_option maxHeartbeats 4000000 in
theorem item_op (g : Nat) (E : Env) (kk : Option Nat) (T : ByteArray) (r : Rd) (bt gs : Nat) (vl : Value) (bl bsp bw gd : Nat) (d : Def) (n : Nat) (nm : List UInt8) (hw : WOk E kk r.list ⟨1, n, nm⟩) (hq1 : d.e.needs < 2 ^ 62) (hq2 : needed E r.list ⟨1, n, nm⟩ < 2 ^ 62) (ho : r.open_ = some d) (w : World) (F : Nat → Prop) (hb : All (rdL g E kk T r bt gs vl bl bsp bw (dPtr gd)) w F) :
    Calls Tryz.prog 104 #[dPtr gd, .pointer (some ⟨g, 0, none⟩), wordV ⟨1, n, nm⟩] w (Post (fun u B => u = .tuple #[] ∧ B = AllA (rdL g E kk T { r with open_ := some (item E r.list d ⟨1, n, nm⟩) } bt gs vl bl bsp bw (dPtr gd))) F w) := by
  obtain ⟨vs, ve, hon⟩ := rd_take ho (On.refl (A := AllA _) hb)
  have hon0 := (hon.boxA #[.int .i64 1, .int .i64 (n : Int), .string ⟨nm.toArray⟩] 70).swapA
  have hnd : ∀ w2, On F w (AllA (DefB gd d vs ve :: BlkA w.heap.size 70 #[.int .i64 1, .int .i64 (n : Int), .string ⟨nm.toArray⟩] :: rdM g E kk T r bt gs vl bl bsp bw (dPtr gd))) w2 → Calls Tryz.prog 63 #[.pointer (some ⟨g, 0, none⟩), wordV ⟨1, n, nm⟩] w2 (Fresh' (.int .i64 (needed E r.list ⟨1, n, nm⟩ : Int)) w2) := by
    intro w2 h2
    obtain ⟨F', h3⟩ := rd_asked (h2.swapA.tailA)
    exact needF g E kk T { r with open_ := some d } bt _ hw w2 F' h3
  obtain ⟨_, hD⟩ := hon0.firstA
  have c4 := hD.1.blk.cell 4
  have hlt := hD.1.blk.lt
  simp [defC] at c4
  have hor := or_nat d.e.needs (needed E r.list ⟨1, n, nm⟩) hq1 hq2
  have hsp : item E r.list d ⟨1, n, nm⟩ = (let nd := needed E r.list ⟨1, n, nm⟩; let d1 := ({ d with e := { d.e with needs := d.e.needs ||| nd } } : Def); d1.operation n) := rfl
  generalize needed E r.list ⟨1, n, nm⟩ = nd at *
  obtain ⟨d1, hd1⟩ : ∃ d1, ({ d with e := { d.e with needs := d.e.needs ||| nd } } : Def) = d1 := ⟨_, rfl⟩
  simp only [hd1] at hsp
  obtain ⟨R, hR⟩ : ∃ R, item E r.list d ⟨1, n, nm⟩ = R := ⟨_, rfl⟩
  rw [hR] at hsp ⊢
  clear hb hon hD hR hq1 hq2
  replace hd1 := Lib.hid hd1
  replace hsp := Lib.hid hsp
  replace hon0 := Lib.hid hon0
  replace hnd := Lib.hid hnd
  replace hor := Lib.hid hor
  unfold wordV dPtr
  simp only [wordC] at hnd ⊢
  go_enter Tryz.func104, Tryz.ntmps104
  go_wp2_with fail
  go_upto_region 1 with fail
  go_cut [14] (fun a wx => a = .int .i64 (nd : Int) ∧ On F w (AllA (DefB gd d1 vs ve :: BlkA w.heap.size 70 #[.int .i64 1, .int .i64 (n : Int), .string ⟨nm.toArray⟩] :: rdM g E kk T r bt gs vl bl bsp bw (dPtr gd))) wx)
  case first =>
    go_region_with ((go_at_call 63; refine (hnd.out _ hon0.out.drew).mono ?_; rintro e w2 ⟨rfl, hk⟩; have hon2 := hon0.out.drew.keptNob hk; obtain ⟨_, hD⟩ := hon2.firstA; have c4b := hD.1.blk.cell 4; have f4b := hD.1.blk.frozen 4; simp [defC] at c4b; clear hD hk; replace hon2 := Lib.hid hon2))
    all_goals
      go_wp2_with fail
      go_meet
      rw [hor.out]
      exact ⟨rfl, DefB.setOwn hon2.out 4 _ (by rw [← hd1.out]) (by rw [← hd1.out]) (by rw [← hd1.out]; rfl)⟩
  case rest =>
    obtain ⟨rfl, hon3⟩ := hcut
    have hbx := hon3.swapA.blkA
    have x0 := hbx.cell 0
    have x1 := hbx.cell 1
    have x2 := hbx.cell 2
    simp at x0 x1 x2
    have hlt3 := hbx.lt
    clear hbx c4
    replace hon3 := Lib.hid hon3
    have hcl := fun w1 F' hb' => operation_walk gd d1 n (hw.op rfl).1 (hw.op rfl).2 vs ve w1 F' hb'
    replace hcl := Lib.hid hcl
    go_wp2_with fail
    refine (hon3.out.callA fun F' hb' => hcl.out _ F' hb').mono ?_
    rintro e w4 ⟨v, A', ⟨rfl, rfl⟩, rfl, hon4⟩
    replace hon4 := Lib.hid hon4
    clear x0 x1 x2
    go_wp2_with fail
    go_end0
    rw [hsp.out]
    exact (rd_give hon4.out.swapA.tailA).post ⟨rfl, rfl⟩
set_option maxHeartbeats 4000000 in
theorem item_special (g : Nat) (E : Env) (kk : Option Nat) (T : ByteArray) (r : Rd) (bt gs : Nat) (vl : Value) (bl bsp bw gd : Nat) (d : Def) (n : Nat) (nm : List UInt8) (hw : WOk E kk r.list ⟨2, n, nm⟩) (hq1 : d.e.needs < 2 ^ 62) (hq2 : needed E r.list ⟨2, n, nm⟩ < 2 ^ 62) (hok : d.Ok) (hs1 : d.stack.length ≤ 100000) (hs2 : d.ends.length ≤ 100000) (ho : r.open_ = some d) (w : World) (F : Nat → Prop) (hb : All (rdL g E kk T r bt gs vl bl bsp bw (dPtr gd)) w F) :
    Calls Tryz.prog 104 #[dPtr gd, .pointer (some ⟨g, 0, none⟩), wordV ⟨2, n, nm⟩] w (Post (fun u B => u = .tuple #[] ∧ B = AllA (rdL g E kk T { r with open_ := some (item E r.list d ⟨2, n, nm⟩) } bt gs vl bl bsp bw (dPtr gd))) F w) := by
  obtain ⟨vs, ve, hon⟩ := rd_take ho (On.refl (A := AllA _) hb)
  have hon0 := (hon.boxA #[.int .i64 2, .int .i64 (n : Int), .string ⟨nm.toArray⟩] 70).swapA
  have hnd : ∀ w2, On F w (AllA (DefB gd d vs ve :: BlkA w.heap.size 70 #[.int .i64 2, .int .i64 (n : Int), .string ⟨nm.toArray⟩] :: rdM g E kk T r bt gs vl bl bsp bw (dPtr gd))) w2 → Calls Tryz.prog 63 #[.pointer (some ⟨g, 0, none⟩), wordV ⟨2, n, nm⟩] w2 (Fresh' (.int .i64 (needed E r.list ⟨2, n, nm⟩ : Int)) w2) := by
    intro w2 h2
    obtain ⟨F', h3⟩ := rd_asked (h2.swapA.tailA)
    exact needF g E kk T { r with open_ := some d } bt _ hw w2 F' h3
  obtain ⟨_, hD⟩ := hon0.firstA
  have c4 := hD.1.blk.cell 4
  have hlt := hD.1.blk.lt
  simp [defC] at c4
  have hor := or_nat d.e.needs (needed E r.list ⟨2, n, nm⟩) hq1 hq2
  have hsp : item E r.list d ⟨2, n, nm⟩ = (let nd := needed E r.list ⟨2, n, nm⟩; let d1 := ({ d with e := { d.e with needs := d.e.needs ||| nd } } : Def); d1.special n) := rfl
  generalize needed E r.list ⟨2, n, nm⟩ = nd at *
  obtain ⟨d1, hd1⟩ : ∃ d1, ({ d with e := { d.e with needs := d.e.needs ||| nd } } : Def) = d1 := ⟨_, rfl⟩
  simp only [hd1] at hsp
  obtain ⟨R, hR⟩ : ∃ R, item E r.list d ⟨2, n, nm⟩ = R := ⟨_, rfl⟩
  rw [hR] at hsp ⊢
  clear hb hon hD hR hq1 hq2
  replace hd1 := Lib.hid hd1
  replace hsp := Lib.hid hsp
  replace hon0 := Lib.hid hon0
  replace hnd := Lib.hid hnd
  replace hor := Lib.hid hor
  unfold wordV dPtr
  simp only [wordC] at hnd ⊢
  go_enter Tryz.func104, Tryz.ntmps104
  go_wp2_with fail
  go_upto_region 1 with fail
  go_cut [14] (fun a wx => a = .int .i64 (nd : Int) ∧ On F w (AllA (DefB gd d1 vs ve :: BlkA w.heap.size 70 #[.int .i64 2, .int .i64 (n : Int), .string ⟨nm.toArray⟩] :: rdM g E kk T r bt gs vl bl bsp bw (dPtr gd))) wx)
  case first =>
    go_region_with ((go_at_call 63; refine (hnd.out _ hon0.out.drew).mono ?_; rintro e w2 ⟨rfl, hk⟩; have hon2 := hon0.out.drew.keptNob hk; obtain ⟨_, hD⟩ := hon2.firstA; have c4b := hD.1.blk.cell 4; have f4b := hD.1.blk.frozen 4; simp [defC] at c4b; clear hD hk; replace hon2 := Lib.hid hon2))
    all_goals
      go_wp2_with fail
      go_meet
      rw [hor.out]
      exact ⟨rfl, DefB.setOwn hon2.out 4 _ (by rw [← hd1.out]) (by rw [← hd1.out]) (by rw [← hd1.out]; rfl)⟩
  case rest =>
    obtain ⟨rfl, hon3⟩ := hcut
    have hbx := hon3.swapA.blkA
    have x0 := hbx.cell 0
    have x1 := hbx.cell 1
    have x2 := hbx.cell 2
    simp at x0 x1 x2
    have hlt3 := hbx.lt
    clear hbx c4
    replace hon3 := Lib.hid hon3
    have hcl := fun w1 F' hb' => special_walk gd d1 n (by rw [← hd1.out]; exact hok) (by rw [← hd1.out]; exact hs1) (by rw [← hd1.out]; exact hs2) vs ve w1 F' hb'
    replace hcl := Lib.hid hcl
    go_wp2_with fail
    refine (hon3.out.callA fun F' hb' => hcl.out _ F' hb').mono ?_
    rintro e w4 ⟨v, A', ⟨rfl, vs', ve', rfl⟩, rfl, hon4⟩
    replace hon4 := Lib.hid hon4
    clear x0 x1 x2
    go_wp2_with fail
    go_end0
    rw [hsp.out]
    exact (rd_give hon4.out.swapA.tailA).post ⟨rfl, rfl⟩
set_option maxHeartbeats 4000000 in
theorem item_own (g : Nat) (E : Env) (kk : Option Nat) (T : ByteArray) (r : Rd) (bt gs : Nat) (vl : Value) (bl bsp bw gd : Nat) (d : Def) (n : Nat) (nm : List UInt8) (hw : WOk E kk r.list ⟨4, n, nm⟩) (hq1 : d.e.needs < 2 ^ 62) (hq2 : needed E r.list ⟨4, n, nm⟩ < 2 ^ 62) (ho : r.open_ = some d) (w : World) (F : Nat → Prop) (hb : All (rdL g E kk T r bt gs vl bl bsp bw (dPtr gd)) w F) :
    Calls Tryz.prog 104 #[dPtr gd, .pointer (some ⟨g, 0, none⟩), wordV ⟨4, n, nm⟩] w (Post (fun u B => u = .tuple #[] ∧ B = AllA (rdL g E kk T { r with open_ := some (item E r.list d ⟨4, n, nm⟩) } bt gs vl bl bsp bw (dPtr gd))) F w) := by
  obtain ⟨vs, ve, hon⟩ := rd_take ho (On.refl (A := AllA _) hb)
  have hon0 := (hon.boxA #[.int .i64 4, .int .i64 (n : Int), .string ⟨nm.toArray⟩] 70).swapA
  have hnd : ∀ w2, On F w (AllA (DefB gd d vs ve :: BlkA w.heap.size 70 #[.int .i64 4, .int .i64 (n : Int), .string ⟨nm.toArray⟩] :: rdM g E kk T r bt gs vl bl bsp bw (dPtr gd))) w2 → Calls Tryz.prog 63 #[.pointer (some ⟨g, 0, none⟩), wordV ⟨4, n, nm⟩] w2 (Fresh' (.int .i64 (needed E r.list ⟨4, n, nm⟩ : Int)) w2) := by
    intro w2 h2
    obtain ⟨F', h3⟩ := rd_asked (h2.swapA.tailA)
    exact needF g E kk T { r with open_ := some d } bt _ hw w2 F' h3
  obtain ⟨_, hD⟩ := hon0.firstA
  have c4 := hD.1.blk.cell 4
  have hlt := hD.1.blk.lt
  simp [defC] at c4
  have hor := or_nat d.e.needs (needed E r.list ⟨4, n, nm⟩) hq1 hq2
  have hsp : item E r.list d ⟨4, n, nm⟩ = (let nd := needed E r.list ⟨4, n, nm⟩; let d1 := ({ d with e := { d.e with needs := d.e.needs ||| nd } } : Def); (let e := effect E r.list ⟨4, n, nm⟩; (if e.known then d1 else d1.bad).takes e.inn e.out)) := rfl
  have hef : ∀ w2 D, On F w (AllA (DefB gd D vs ve :: BlkA w.heap.size 70 #[.int .i64 4, .int .i64 (n : Int), .string ⟨nm.toArray⟩] :: rdM g E kk T r bt gs vl bl bsp bw (dPtr gd))) w2 → Calls Tryz.prog 98 #[.pointer (some ⟨g, 0, none⟩), wordV ⟨4, n, nm⟩] w2 (Fresh' (effV (effect E r.list ⟨4, n, nm⟩)) w2) := by
    intro w2 D h2
    obtain ⟨F', h3⟩ := rd_asked (h2.swapA.tailA)
    exact effO g E kk T { r with open_ := some D } bt _ rfl (hw.own rfl) w2 F' h3
  generalize effect E r.list ⟨4, n, nm⟩ = ef at *
  obtain ⟨en, ei, eo, ek, eq⟩ := ef
  generalize needed E r.list ⟨4, n, nm⟩ = nd at *
  obtain ⟨d1, hd1⟩ : ∃ d1, ({ d with e := { d.e with needs := d.e.needs ||| nd } } : Def) = d1 := ⟨_, rfl⟩
  simp only [hd1] at hsp
  obtain ⟨R, hR⟩ : ∃ R, item E r.list d ⟨4, n, nm⟩ = R := ⟨_, rfl⟩
  rw [hR] at hsp ⊢
  clear hb hon hD hR hq1 hq2
  replace hd1 := Lib.hid hd1
  replace hsp := Lib.hid hsp
  replace hon0 := Lib.hid hon0
  replace hnd := Lib.hid hnd
  replace hor := Lib.hid hor
  unfold wordV dPtr
  simp only [wordC] at hnd ⊢
  go_enter Tryz.func104, Tryz.ntmps104
  go_wp2_with fail
  go_upto_region 1 with fail
  go_cut [14] (fun a wx => a = .int .i64 (nd : Int) ∧ On F w (AllA (DefB gd d1 vs ve :: BlkA w.heap.size 70 #[.int .i64 4, .int .i64 (n : Int), .string ⟨nm.toArray⟩] :: rdM g E kk T r bt gs vl bl bsp bw (dPtr gd))) wx)
  case first =>
    go_region_with ((go_at_call 63; refine (hnd.out _ hon0.out.drew).mono ?_; rintro e w2 ⟨rfl, hk⟩; have hon2 := hon0.out.drew.keptNob hk; obtain ⟨_, hD⟩ := hon2.firstA; have c4b := hD.1.blk.cell 4; have f4b := hD.1.blk.frozen 4; simp [defC] at c4b; clear hD hk; replace hon2 := Lib.hid hon2))
    all_goals
      go_wp2_with fail
      go_meet
      rw [hor.out]
      exact ⟨rfl, DefB.setOwn hon2.out 4 _ (by rw [← hd1.out]) (by rw [← hd1.out]) (by rw [← hd1.out]; rfl)⟩
  case rest =>
    obtain ⟨rfl, hon3⟩ := hcut
    have hbx := hon3.swapA.blkA
    have x0 := hbx.cell 0
    have x1 := hbx.cell 1
    have x2 := hbx.cell 2
    simp at x0 x1 x2
    have hlt3 := hbx.lt
    clear hbx c4
    replace hon3 := Lib.hid hon3
    replace hef := Lib.hid hef
    unfold effV wordV at hef
    simp only [wordC, effC] at hef
    go_wp2_with fail
    refine (hef.out _ d1 hon3.out).mono ?_
    rintro e w4 ⟨rfl, hk4⟩
    have hon4 := hon3.out.keptNob hk4
    clear hk4 x0 x1 x2
    replace hon4 := Lib.hid hon4
    rcases ek with _ | _
    · have hbd := fun w1 F' hb' => bad_walk gd d1 vs ve w1 F' hb'
      have htk := fun w1 F' hb' => takes_walk gd d1.bad ei eo vs ve w1 F' hb'
      replace hbd := Lib.hid hbd
      replace htk := Lib.hid htk
      go_wp2_with fail
      refine (((hon4.out.boxA #[.string ⟨en.toArray⟩, .int .i64 ei, .int .i64 eo, .bool false, .int .i64 (eq : Int)] 34).swapA).callA fun F' hb' => hbd.out _ F' hb').mono ?_
      rintro e w5 ⟨v, A', ⟨rfl, rfl⟩, rfl, hon5⟩
      have hbx := hon5.swapA.blkA
      have y1 := hbx.cell 1
      have y2 := hbx.cell 2
      simp at y1 y2
      clear hbx
      have hon5b := hon5.swapA.tailA
      clear hon5
      replace hon5b := Lib.hid hon5b
      go_wp2_with fail
      refine (hon5b.out.callA fun F' hb' => htk.out _ F' hb').mono ?_
      rintro e w6 ⟨v, A', ⟨rfl, rfl⟩, rfl, hon6⟩
      replace hon6 := Lib.hid hon6
      clear y1 y2
      go_wp2_with fail
      go_end0
      rw [hsp.out]
      exact (rd_give hon6.out.swapA.tailA).post ⟨rfl, rfl⟩
    · have htk := fun w1 F' hb' => takes_walk gd d1 ei eo vs ve w1 F' hb'
      replace htk := Lib.hid htk
      go_wp2_with fail
      refine ((hon4.out.alloc _).callA fun F' hb' => htk.out _ F' hb').mono ?_
      rintro e w5 ⟨v, A', ⟨rfl, rfl⟩, rfl, hon5⟩
      replace hon5 := Lib.hid hon5
      go_wp2_with fail
      go_end0
      rw [hsp.out]
      exact (rd_give hon5.out.swapA.tailA).post ⟨rfl, rfl⟩

set_option maxHeartbeats 4000000 in
theorem item_ker (g : Nat) (E : Env) (kk : Option Nat) (T : ByteArray) (r : Rd) (bt gs : Nat) (vl : Value) (bl bsp bw gd : Nat) (d : Def) (n : Nat) (nm : List UInt8) (hw : WOk E kk r.list ⟨3, n, nm⟩) (hq1 : d.e.needs < 2 ^ 62) (hq2 : needed E r.list ⟨3, n, nm⟩ < 2 ^ 62) (ho : r.open_ = some d) (w : World) (F : Nat → Prop) (hb : All (rdL g E kk T r bt gs vl bl bsp bw (dPtr gd)) w F) :
    Calls Tryz.prog 104 #[dPtr gd, .pointer (some ⟨g, 0, none⟩), wordV ⟨3, n, nm⟩] w (Post (fun u B => u = .tuple #[] ∧ B = AllA (rdL g E kk T { r with open_ := some (item E r.list d ⟨3, n, nm⟩) } bt gs vl bl bsp bw (dPtr gd))) F w) := by
  obtain ⟨vs, ve, hon⟩ := rd_take ho (On.refl (A := AllA _) hb)
  have hon0 := (hon.boxA #[.int .i64 3, .int .i64 (n : Int), .string ⟨nm.toArray⟩] 70).swapA
  have hnd : ∀ w2, On F w (AllA (DefB gd d vs ve :: BlkA w.heap.size 70 #[.int .i64 3, .int .i64 (n : Int), .string ⟨nm.toArray⟩] :: rdM g E kk T r bt gs vl bl bsp bw (dPtr gd))) w2 → Calls Tryz.prog 63 #[.pointer (some ⟨g, 0, none⟩), wordV ⟨3, n, nm⟩] w2 (Fresh' (.int .i64 (needed E r.list ⟨3, n, nm⟩ : Int)) w2) := by
    intro w2 h2
    obtain ⟨F', h3⟩ := rd_asked (h2.swapA.tailA)
    exact needF g E kk T { r with open_ := some d } bt _ hw w2 F' h3
  obtain ⟨_, hD⟩ := hon0.firstA
  have c4 := hD.1.blk.cell 4
  have hlt := hD.1.blk.lt
  simp [defC] at c4
  have hor := or_nat d.e.needs (needed E r.list ⟨3, n, nm⟩) hq1 hq2
  have hsp : item E r.list d ⟨3, n, nm⟩ = (let nd := needed E r.list ⟨3, n, nm⟩; let d1 := ({ d with e := { d.e with needs := d.e.needs ||| nd } } : Def); (let e := effect E r.list ⟨3, n, nm⟩; (if e.known then d1 else d1.bad).takes e.inn e.out)) := rfl
  have hef : ∀ w2 D, On F w (AllA (DefB gd D vs ve :: BlkA w.heap.size 70 #[.int .i64 3, .int .i64 (n : Int), .string ⟨nm.toArray⟩] :: rdM g E kk T r bt gs vl bl bsp bw (dPtr gd))) w2 → Calls Tryz.prog 98 #[.pointer (some ⟨g, 0, none⟩), wordV ⟨3, n, nm⟩] w2 (Fresh' (effV (effect E r.list ⟨3, n, nm⟩)) w2) := by
    intro w2 D h2
    obtain ⟨F', h3⟩ := rd_asked (h2.swapA.tailA)
    exact effK g E kk T { r with open_ := some D } bt _ rfl (hw.ker rfl) w2 F' h3
  generalize effect E r.list ⟨3, n, nm⟩ = ef at *
  obtain ⟨en, ei, eo, ek, eq⟩ := ef
  generalize needed E r.list ⟨3, n, nm⟩ = nd at *
  obtain ⟨d1, hd1⟩ : ∃ d1, ({ d with e := { d.e with needs := d.e.needs ||| nd } } : Def) = d1 := ⟨_, rfl⟩
  simp only [hd1] at hsp
  obtain ⟨R, hR⟩ : ∃ R, item E r.list d ⟨3, n, nm⟩ = R := ⟨_, rfl⟩
  rw [hR] at hsp ⊢
  clear hb hon hD hR hq1 hq2
  replace hd1 := Lib.hid hd1
  replace hsp := Lib.hid hsp
  replace hon0 := Lib.hid hon0
  replace hnd := Lib.hid hnd
  replace hor := Lib.hid hor
  unfold wordV dPtr
  simp only [wordC] at hnd ⊢
  go_enter Tryz.func104, Tryz.ntmps104
  go_wp2_with fail
  go_upto_region 1 with fail
  go_cut [14] (fun a wx => a = .int .i64 (nd : Int) ∧ On F w (AllA (DefB gd d1 vs ve :: BlkA w.heap.size 70 #[.int .i64 3, .int .i64 (n : Int), .string ⟨nm.toArray⟩] :: rdM g E kk T r bt gs vl bl bsp bw (dPtr gd))) wx)
  case first =>
    go_region_with ((go_at_call 63; refine (hnd.out _ hon0.out.drew).mono ?_; rintro e w2 ⟨rfl, hk⟩; have hon2 := hon0.out.drew.keptNob hk; obtain ⟨_, hD⟩ := hon2.firstA; have c4b := hD.1.blk.cell 4; have f4b := hD.1.blk.frozen 4; simp [defC] at c4b; clear hD hk; replace hon2 := Lib.hid hon2))
    all_goals
      go_wp2_with fail
      go_meet
      rw [hor.out]
      exact ⟨rfl, DefB.setOwn hon2.out 4 _ (by rw [← hd1.out]) (by rw [← hd1.out]) (by rw [← hd1.out]; rfl)⟩
  case rest =>
    obtain ⟨rfl, hon3⟩ := hcut
    have hbx := hon3.swapA.blkA
    have x0 := hbx.cell 0
    have x1 := hbx.cell 1
    have x2 := hbx.cell 2
    simp at x0 x1 x2
    have hlt3 := hbx.lt
    clear hbx c4
    replace hon3 := Lib.hid hon3
    replace hef := Lib.hid hef
    unfold effV wordV at hef
    simp only [wordC, effC] at hef
    go_wp2_with fail
    refine (hef.out _ d1 hon3.out).mono ?_
    rintro e w4 ⟨rfl, hk4⟩
    have hon4 := hon3.out.keptNob hk4
    clear hk4 x0 x1 x2
    replace hon4 := Lib.hid hon4
    rcases ek with _ | _
    · have hbd := fun w1 F' hb' => bad_walk gd d1 vs ve w1 F' hb'
      have htk := fun w1 F' hb' => takes_walk gd d1.bad ei eo vs ve w1 F' hb'
      replace hbd := Lib.hid hbd
      replace htk := Lib.hid htk
      go_wp2_with fail
      refine (((hon4.out.boxA #[.string ⟨en.toArray⟩, .int .i64 ei, .int .i64 eo, .bool false, .int .i64 (eq : Int)] 34).swapA).callA fun F' hb' => hbd.out _ F' hb').mono ?_
      rintro e w5 ⟨v, A', ⟨rfl, rfl⟩, rfl, hon5⟩
      have hbx := hon5.swapA.blkA
      have y1 := hbx.cell 1
      have y2 := hbx.cell 2
      simp at y1 y2
      clear hbx
      have hon5b := hon5.swapA.tailA
      clear hon5
      replace hon5b := Lib.hid hon5b
      go_wp2_with fail
      refine (hon5b.out.callA fun F' hb' => htk.out _ F' hb').mono ?_
      rintro e w6 ⟨v, A', ⟨rfl, rfl⟩, rfl, hon6⟩
      replace hon6 := Lib.hid hon6
      clear y1 y2
      go_wp2_with fail
      go_end0
      rw [hsp.out]
      exact (rd_give hon6.out.swapA.tailA).post ⟨rfl, rfl⟩
    · have htk := fun w1 F' hb' => takes_walk gd d1 ei eo vs ve w1 F' hb'
      replace htk := Lib.hid htk
      go_wp2_with fail
      refine ((hon4.out.alloc _).callA fun F' hb' => htk.out _ F' hb').mono ?_
      rintro e w5 ⟨v, A', ⟨rfl, rfl⟩, rfl, hon5⟩
      replace hon5 := Lib.hid hon5
      go_wp2_with fail
      go_end0
      rw [hsp.out]
      exact (rd_give hon5.out.swapA.tailA).post ⟨rfl, rfl⟩

theorem item_walk (g : Nat) (E : Env) (kk : Option Nat) (T : ByteArray) (r : Rd) (bt gs : Nat) (vl : Value) (bl bsp bw gd : Nat) (d : Def) (wd : W) (hw : WOk E kk r.list wd) (hq1 : d.e.needs < 2 ^ 62) (hq2 : needed E r.list wd < 2 ^ 62) (hok : d.Ok) (hs1 : d.stack.length ≤ 100000) (hs2 : d.ends.length ≤ 100000) (ho : r.open_ = some d) (w : World) (F : Nat → Prop) (hb : All (rdL g E kk T r bt gs vl bl bsp bw (dPtr gd)) w F) :
    Calls Tryz.prog 104 #[dPtr gd, .pointer (some ⟨g, 0, none⟩), wordV wd] w (Post (fun u B => u = .tuple #[] ∧ B = AllA (rdL g E kk T { r with open_ := some (item E r.list d wd) } bt gs vl bl bsp bw (dPtr gd))) F w) := by
  have h5 := hw.five
  obtain ⟨kd, n, nm⟩ := wd
  simp only at h5
  have hc : kd = 0 ∨ kd = 1 ∨ kd = 2 ∨ kd = 3 ∨ kd = 4 ∨ kd = 5 := by omega
  rcases hc with rfl | rfl | rfl | rfl | rfl | rfl
  · exact item_bad g E kk T r bt gs vl bl bsp bw gd d n nm hw hq1 hq2 ho w F hb
  · exact item_op g E kk T r bt gs vl bl bsp bw gd d n nm hw hq1 hq2 ho w F hb
  · exact item_special g E kk T r bt gs vl bl bsp bw gd d n nm hw hq1 hq2 hok hs1 hs2 ho w F hb
  · exact item_ker g E kk T r bt gs vl bl bsp bw gd d n nm hw hq1 hq2 ho w F hb
  · exact item_own g E kk T r bt gs vl bl bsp bw gd d n nm hw hq1 hq2 ho w F hb
  · exact item_num g E kk T r bt gs vl bl bsp bw gd d n nm hw hq1 hq2 ho w F hb
end Look
end Go.Proofs.YthejfkkmcbdlhaaGreatDoor
