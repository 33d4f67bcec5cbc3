/- The document's end of a definition. No condition. -/
import Derived.Test.YthejfkkmcbdlhaaGreatDoorQDocA
import Derived.BigRegion
namespace Go.Proofs.YthejfkkmcbdlhaaGreatDoor
set_option linter.unusedVariables false
set_option maxRecDepth 100000
open Go.RowKit Go.Lib
namespace Look
/-- an effect, whatever it is, of that name -/
def IsEff (nm : List UInt8) (u : Value) : Prop := ∃ i o k d b, u = .agg #[.string ⟨nm.toArray⟩, .int .i64 i, .int .i64 o, .bool k, .int .i64 d, .bool b]
set_option maxHeartbeats 4000000 in
theorem d_end (g : Nat) (nm : List UInt8) (l : List Open) (v : Value) (w : World) (F : Nat → Prop) (hb : (DdB g nm l v).holds w F) :
    Calls Tryz.prog 55 #[.pointer (some ⟨g, 0, none⟩)] w (Post (fun u B => IsEff nm u ∧ B = DdB g nm l v) F w) := by
  have hon := On.refl hb
  have hbad := fun w1 F' hb' => d_bad g nm l v w1 F' hb'
  have hends := fun w1 F' hb' => d_ends g nm l v w1 F' hb'
  have o1 := (On.boxA hon.one #[.string ⟨#[]⟩, .int .i64 0, .int .i64 0, .bool false, .int .i64 0, .bool false] 87).swapA
  obtain ⟨⟨kn, nd, lo, n0, h0, r, dd, en, hh, hk⟩, hr, -⟩ := hb
  have hgl := hk.lt
  obtain ⟨p, cap, rfl⟩ : ∃ p cap, v = .slice p l.length cap := ownsRow_slice hr
  obtain ⟨L, hL⟩ : ∃ L, l.length = L := ⟨_, rfl⟩
  rw [hL] at o1 hbad hends ⊢
  clear hk hr hon hL
  obtain ⟨kn, nd, lo, n0, h0, r, dd, en, hh, hk⟩ := DdB.open_ o1.headA
  have c8 := hk.cell 8
  simp only [ddC] at c8
  simp at c8
  clear hk
  replace o1 := Lib.hid o1
  replace hbad := Lib.hid hbad
  replace hends := Lib.hid hends
  rcases Nat.eq_zero_or_pos L with h0' | h0'
  · have t1 : decide ((L : Int) > 0) = false := by rw [decide_eq_false_iff_not]; omega
    go_enter Tryz.func55, Tryz.ntmps55
    go_wp2_with fail
    refine (o1.out.callA fun F' hb' => hends.out _ F' hb').mono ?_
    rintro e w2 ⟨v', A', ⟨rfl, rfl⟩, rfl, hon2⟩
    obtain ⟨kn, nd, lo, n0, h0, r, dd, en, hh, hk⟩ := DdB.open_ hon2.headA
    have d0 := hk.cell 0
    have d1 := hk.cell 1
    have d2 := hk.cell 2
    have d3 := hk.cell 3
    have d4 := hk.cell 4
    have d9 := hk.cell 9
    have d10 := hk.cell 10
    simp [ddC] at d0 d1 d2 d3 d4 d9 d10
    have hkl := hk.lt
    have hw2 : w.heap.size < w2.heap.size := by
      obtain ⟨_, hBR⟩ := hon2.swapA.firstA
      exact hBR.1.lt
    clear hk c8
    replace hw2 := Lib.hid hw2
    replace hon2 := Lib.hid hon2
    go_wp2_with fail
    go_region
    have hon3 := (On.boxA hon2.out #[.string ⟨nm.toArray⟩, .int .i64 0, .int .i64 0, .bool kn, .int .i64 nd, .bool lo] 87).drew
    have hRE := hw2.out
    obtain ⟨w3, hw3⟩ : ∃ w3, (w2.alloc (.cells #[.string ⟨nm.toArray⟩, .int .i64 0, .int .i64 0, .bool kn, .int .i64 nd, .bool lo] 87)).drew = w3 := ⟨_, rfl⟩
    rw [hw3] at hon3 ⊢
    generalize w2.heap.size = E at *
    generalize w.heap.size = R at *
    clear hw3 hw2 hon2 d0 d1 d2 d3 d4 d9 d10
    have hBE := hon3.blkA
    obtain ⟨_, hBR⟩ := hon3.mem (A := BlkA R 87 #[.string ⟨#[]⟩, .int .i64 0, .int .i64 0, .bool false, .int .i64 0, .bool false]) (by simp)
    obtain ⟨kn2, nd2, lo2, n2, h2, r2, dd2, en2, hh2, hk⟩ := DdB.open_ hon3.tailA.headA
    have d1 := hk.cell 1
    have d4 := hk.cell 4
    have d9 := hk.cell 9
    have d10 := hk.cell 10
    simp only [ddC] at d1 d4 d9 d10
    simp at d1 d4 d9 d10
    have e0 := hBE.cell 0
    have e1 := hBE.cell 1
    have e2 := hBE.cell 2
    have e3 := hBE.cell 3
    have e4 := hBE.cell 4
    have e5 := hBE.cell 5
    have z1 := hBE.frozen 1
    have z2 := hBE.frozen 2
    have y0 := hBR.1.frozen 0
    have y1 := hBR.1.frozen 1
    have y2 := hBR.1.frozen 2
    have y3 := hBR.1.frozen 3
    have y4 := hBR.1.frozen 4
    have y5 := hBR.1.frozen 5
    have b0 := hBR.1.cell 0
    have b1 := hBR.1.cell 1
    have b2 := hBR.1.cell 2
    have b3 := hBR.1.cell 3
    have b4 := hBR.1.cell 4
    have b5 := hBR.1.cell 5
    simp at e0 e1 e2 e3 e4 e5 b0 b1 b2 b3 b4 b5
    have hgE : g ≠ E := by omega
    have hgR : g ≠ R := by omega
    have hRE2 : R ≠ E := by omega
    clear hk hBE hBR
    cases kn2
    · have hon6 := (((((On.pullA (A := BlkA R 87 #[.string ⟨#[]⟩, .int .i64 0, .int .i64 0, .bool false, .int .i64 0, .bool false]) (L2 := []) [BlkA E 87 #[.string ⟨nm.toArray⟩, .int .i64 0, .int .i64 0, .bool kn, .int .i64 nd, .bool lo], DdB g nm l (.slice p L cap)] hon3).setA 0 (.string ⟨nm.toArray⟩)).setA 1 (.int .i64 0)).setA 2 (.int .i64 0)).setA 3 (.bool kn)).setA 4 (.int .i64 nd) |>.setA 5 (.bool lo)
      have hB := hon6.blkA
      have c0 := hB.cell 0
      have c1 := hB.cell 1
      have c2 := hB.cell 2
      have c3 := hB.cell 3
      have c4 := hB.cell 4
      have c5 := hB.cell 5
      simp at c0 c1 c2 c3 c4 c5
      clear hB hon3
      replace hon6 := Lib.hid hon6
      go_wp2_with fail
      refine bodyPost_ret (v := .agg #[.string ⟨nm.toArray⟩, .int .i64 0, .int .i64 0, .bool kn, .int .i64 nd, .bool lo]) (by simp [results, Tryz.results55, go_sem, c0, c1, c2, c3, c4, c5]) rfl ?_
      exact (hon6.out.tailA.tailA.headA).post ⟨⟨0, 0, kn, nd, lo, rfl⟩, rfl⟩
    · cases en2
      · have hon5 := (hon3.setA 1 (.int .i64 n2)).setA 2 (.int .i64 n2)
        have hon6 := ((((((On.pullA (A := BlkA R 87 #[.string ⟨#[]⟩, .int .i64 0, .int .i64 0, .bool false, .int .i64 0, .bool false]) (L2 := []) [_, _] hon5).setA 0 (.string ⟨nm.toArray⟩)).setA 1 (.int .i64 n2)).setA 2 (.int .i64 n2)).setA 3 (.bool kn)).setA 4 (.int .i64 nd)).setA 5 (.bool lo)
        clear hon3 hon5
        replace hon6 := Lib.hid hon6
        go_wp2_with fail
        have hB := hon6.out.blkA
        have c0 := hB.cell 0
        have c1 := hB.cell 1
        have c2 := hB.cell 2
        have c3 := hB.cell 3
        have c4 := hB.cell 4
        have c5 := hB.cell 5
        simp at c0 c1 c2 c3 c4 c5
        refine bodyPost_ret (v := .agg #[.string ⟨nm.toArray⟩, .int .i64 n2, .int .i64 n2, .bool kn, .int .i64 nd, .bool lo]) (by simp [results, Tryz.results55, go_sem, c0, c1, c2, c3, c4, c5]) rfl ?_
        exact (hon6.out.tailA.tailA.headA).post ⟨⟨n2, n2, kn, nd, lo, rfl⟩, rfl⟩
      · go_wp2_with fail
        go_region
        have hon5 := (((hon3.setA 1 (.int .i64 n2)).setA 2 (.int .i64 n2)).setA 2 (.int .i64 (wrap64 (n2 + hh2)))).drew
        obtain ⟨w5, hw5⟩ : ∃ w5, (((w3.setCell ⟨E, 1, none⟩ (.int .i64 n2)).setCell ⟨E, 2, none⟩ (.int .i64 n2)).setCell ⟨E, 2, none⟩ (.int .i64 (wrap64 (n2 + hh2)))).drew = w5 := ⟨_, rfl⟩
        rw [hw5] at hon5 ⊢
        clear hon3 hw5 e0 e1 e2 e3 e4 e5 z1 z2 y0 y1 y2 y3 y4 y5 b0 b1 b2 b3 b4 b5 d1 d4 d9 d10
        generalize wrap64 (n2 + hh2) = x2 at *
        have hBE := hon5.blkA
        obtain ⟨_, hBR⟩ := hon5.mem (A := BlkA R 87 #[.string ⟨#[]⟩, .int .i64 0, .int .i64 0, .bool false, .int .i64 0, .bool false]) (by simp)
        have e0 := hBE.cell 0
        have e1 := hBE.cell 1
        have e2 := hBE.cell 2
        have e3 := hBE.cell 3
        have e4 := hBE.cell 4
        have e5 := hBE.cell 5
        have y0 := hBR.1.frozen 0
        have y1 := hBR.1.frozen 1
        have y2 := hBR.1.frozen 2
        have y3 := hBR.1.frozen 3
        have y4 := hBR.1.frozen 4
        have y5 := hBR.1.frozen 5
        have b0 := hBR.1.cell 0
        have b1 := hBR.1.cell 1
        have b2 := hBR.1.cell 2
        have b3 := hBR.1.cell 3
        have b4 := hBR.1.cell 4
        have b5 := hBR.1.cell 5
        simp at e0 e1 e2 e3 e4 e5 b0 b1 b2 b3 b4 b5
        have hon6 := (((((((On.pullA (A := BlkA R 87 #[.string ⟨#[]⟩, .int .i64 0, .int .i64 0, .bool false, .int .i64 0, .bool false]) (L2 := []) [_, _] hon5).setA 0 (.string ⟨nm.toArray⟩)).setA 1 (.int .i64 n2)).setA 2 (.int .i64 x2)).setA 3 (.bool kn)).setA 4 (.int .i64 nd))).setA 5 (.bool lo)
        have hB := hon6.blkA
        have c0 := hB.cell 0
        have c1 := hB.cell 1
        have c2 := hB.cell 2
        have c3 := hB.cell 3
        have c4 := hB.cell 4
        have c5 := hB.cell 5
        simp at c0 c1 c2 c3 c4 c5
        clear hB hon5 hBE hBR
        replace hon6 := Lib.hid hon6
        go_wp2_with fail
        refine bodyPost_ret (v := .agg #[.string ⟨nm.toArray⟩, .int .i64 n2, .int .i64 x2, .bool kn, .int .i64 nd, .bool lo]) (by simp [results, Tryz.results55, go_sem, c0, c1, c2, c3, c4, c5]) rfl ?_
        exact (hon6.out.tailA.tailA.headA).post ⟨⟨n2, _, kn, nd, lo, rfl⟩, rfl⟩
  · have t1 : decide ((L : Int) > 0) = true := by rw [decide_eq_true_eq]; omega
    go_enter Tryz.func55, Tryz.ntmps55
    go_wp2_with fail
    refine (o1.out.callA fun F' hb' => hbad.out _ F' hb').mono ?_
    rintro e w1 ⟨v', A', ⟨rfl, rfl⟩, rfl, hon1⟩
    clear c8
    replace hon1 := Lib.hid hon1
    go_wp2_with fail
    refine (hon1.out.callA fun F' hb' => hends.out _ F' hb').mono ?_
    rintro e w2 ⟨v', A', ⟨rfl, rfl⟩, rfl, hon2⟩
    obtain ⟨kn, nd, lo, n0, h0, r, dd, en, hh, hk⟩ := DdB.open_ hon2.headA
    have d0 := hk.cell 0
    have d1 := hk.cell 1
    have d2 := hk.cell 2
    have d3 := hk.cell 3
    have d4 := hk.cell 4
    have d9 := hk.cell 9
    have d10 := hk.cell 10
    simp [ddC] at d0 d1 d2 d3 d4 d9 d10
    have hkl := hk.lt
    have hw2 : w.heap.size < w2.heap.size := by
      obtain ⟨_, hBR⟩ := hon2.swapA.firstA
      exact hBR.1.lt
    clear hk
    replace hw2 := Lib.hid hw2
    replace hon2 := Lib.hid hon2
    go_wp2_with fail
    go_region
    have hon3 := (On.boxA hon2.out #[.string ⟨nm.toArray⟩, .int .i64 0, .int .i64 0, .bool kn, .int .i64 nd, .bool lo] 87).drew
    have hRE := hw2.out
    obtain ⟨w3, hw3⟩ : ∃ w3, (w2.alloc (.cells #[.string ⟨nm.toArray⟩, .int .i64 0, .int .i64 0, .bool kn, .int .i64 nd, .bool lo] 87)).drew = w3 := ⟨_, rfl⟩
    rw [hw3] at hon3 ⊢
    generalize w2.heap.size = E at *
    generalize w.heap.size = R at *
    clear hw3 hw2 hon2 d0 d1 d2 d3 d4 d9 d10
    have hBE := hon3.blkA
    obtain ⟨_, hBR⟩ := hon3.mem (A := BlkA R 87 #[.string ⟨#[]⟩, .int .i64 0, .int .i64 0, .bool false, .int .i64 0, .bool false]) (by simp)
    obtain ⟨kn2, nd2, lo2, n2, h2, r2, dd2, en2, hh2, hk⟩ := DdB.open_ hon3.tailA.headA
    have d1 := hk.cell 1
    have d4 := hk.cell 4
    have d9 := hk.cell 9
    have d10 := hk.cell 10
    simp only [ddC] at d1 d4 d9 d10
    simp at d1 d4 d9 d10
    have e0 := hBE.cell 0
    have e1 := hBE.cell 1
    have e2 := hBE.cell 2
    have e3 := hBE.cell 3
    have e4 := hBE.cell 4
    have e5 := hBE.cell 5
    have z1 := hBE.frozen 1
    have z2 := hBE.frozen 2
    have y0 := hBR.1.frozen 0
    have y1 := hBR.1.frozen 1
    have y2 := hBR.1.frozen 2
    have y3 := hBR.1.frozen 3
    have y4 := hBR.1.frozen 4
    have y5 := hBR.1.frozen 5
    have b0 := hBR.1.cell 0
    have b1 := hBR.1.cell 1
    have b2 := hBR.1.cell 2
    have b3 := hBR.1.cell 3
    have b4 := hBR.1.cell 4
    have b5 := hBR.1.cell 5
    simp at e0 e1 e2 e3 e4 e5 b0 b1 b2 b3 b4 b5
    have hgE : g ≠ E := by omega
    have hgR : g ≠ R := by omega
    have hRE2 : R ≠ E := by omega
    clear hk hBE hBR
    cases kn2
    · have hon6 := (((((On.pullA (A := BlkA R 87 #[.string ⟨#[]⟩, .int .i64 0, .int .i64 0, .bool false, .int .i64 0, .bool false]) (L2 := []) [BlkA E 87 #[.string ⟨nm.toArray⟩, .int .i64 0, .int .i64 0, .bool kn, .int .i64 nd, .bool lo], DdB g nm l (.slice p L cap)] hon3).setA 0 (.string ⟨nm.toArray⟩)).setA 1 (.int .i64 0)).setA 2 (.int .i64 0)).setA 3 (.bool kn)).setA 4 (.int .i64 nd) |>.setA 5 (.bool lo)
      have hB := hon6.blkA
      have c0 := hB.cell 0
      have c1 := hB.cell 1
      have c2 := hB.cell 2
      have c3 := hB.cell 3
      have c4 := hB.cell 4
      have c5 := hB.cell 5
      simp at c0 c1 c2 c3 c4 c5
      clear hB hon3
      replace hon6 := Lib.hid hon6
      go_wp2_with fail
      refine bodyPost_ret (v := .agg #[.string ⟨nm.toArray⟩, .int .i64 0, .int .i64 0, .bool kn, .int .i64 nd, .bool lo]) (by simp [results, Tryz.results55, go_sem, c0, c1, c2, c3, c4, c5]) rfl ?_
      exact (hon6.out.tailA.tailA.headA).post ⟨⟨0, 0, kn, nd, lo, rfl⟩, rfl⟩
    · cases en2
      · have hon5 := (hon3.setA 1 (.int .i64 n2)).setA 2 (.int .i64 n2)
        have hon6 := ((((((On.pullA (A := BlkA R 87 #[.string ⟨#[]⟩, .int .i64 0, .int .i64 0, .bool false, .int .i64 0, .bool false]) (L2 := []) [_, _] hon5).setA 0 (.string ⟨nm.toArray⟩)).setA 1 (.int .i64 n2)).setA 2 (.int .i64 n2)).setA 3 (.bool kn)).setA 4 (.int .i64 nd)).setA 5 (.bool lo)
        clear hon3 hon5
        replace hon6 := Lib.hid hon6
        go_wp2_with fail
        have hB := hon6.out.blkA
        have c0 := hB.cell 0
        have c1 := hB.cell 1
        have c2 := hB.cell 2
        have c3 := hB.cell 3
        have c4 := hB.cell 4
        have c5 := hB.cell 5
        simp at c0 c1 c2 c3 c4 c5
        refine bodyPost_ret (v := .agg #[.string ⟨nm.toArray⟩, .int .i64 n2, .int .i64 n2, .bool kn, .int .i64 nd, .bool lo]) (by simp [results, Tryz.results55, go_sem, c0, c1, c2, c3, c4, c5]) rfl ?_
        exact (hon6.out.tailA.tailA.headA).post ⟨⟨n2, n2, kn, nd, lo, rfl⟩, rfl⟩
      · go_wp2_with fail
        go_region
        have hon5 := (((hon3.setA 1 (.int .i64 n2)).setA 2 (.int .i64 n2)).setA 2 (.int .i64 (wrap64 (n2 + hh2)))).drew
        obtain ⟨w5, hw5⟩ : ∃ w5, (((w3.setCell ⟨E, 1, none⟩ (.int .i64 n2)).setCell ⟨E, 2, none⟩ (.int .i64 n2)).setCell ⟨E, 2, none⟩ (.int .i64 (wrap64 (n2 + hh2)))).drew = w5 := ⟨_, rfl⟩
        rw [hw5] at hon5 ⊢
        clear hon3 hw5 e0 e1 e2 e3 e4 e5 z1 z2 y0 y1 y2 y3 y4 y5 b0 b1 b2 b3 b4 b5 d1 d4 d9 d10
        generalize wrap64 (n2 + hh2) = x2 at *
        have hBE := hon5.blkA
        obtain ⟨_, hBR⟩ := hon5.mem (A := BlkA R 87 #[.string ⟨#[]⟩, .int .i64 0, .int .i64 0, .bool false, .int .i64 0, .bool false]) (by simp)
        have e0 := hBE.cell 0
        have e1 := hBE.cell 1
        have e2 := hBE.cell 2
        have e3 := hBE.cell 3
        have e4 := hBE.cell 4
        have e5 := hBE.cell 5
        have y0 := hBR.1.frozen 0
        have y1 := hBR.1.frozen 1
        have y2 := hBR.1.frozen 2
        have y3 := hBR.1.frozen 3
        have y4 := hBR.1.frozen 4
        have y5 := hBR.1.frozen 5
        have b0 := hBR.1.cell 0
        have b1 := hBR.1.cell 1
        have b2 := hBR.1.cell 2
        have b3 := hBR.1.cell 3
        have b4 := hBR.1.cell 4
        have b5 := hBR.1.cell 5
        simp at e0 e1 e2 e3 e4 e5 b0 b1 b2 b3 b4 b5
        have hon6 := (((((((On.pullA (A := BlkA R 87 #[.string ⟨#[]⟩, .int .i64 0, .int .i64 0, .bool false, .int .i64 0, .bool false]) (L2 := []) [_, _] hon5).setA 0 (.string ⟨nm.toArray⟩)).setA 1 (.int .i64 n2)).setA 2 (.int .i64 x2)).setA 3 (.bool kn)).setA 4 (.int .i64 nd))).setA 5 (.bool lo)
        have hB := hon6.blkA
        have c0 := hB.cell 0
        have c1 := hB.cell 1
        have c2 := hB.cell 2
        have c3 := hB.cell 3
        have c4 := hB.cell 4
        have c5 := hB.cell 5
        simp at c0 c1 c2 c3 c4 c5
        clear hB hon5 hBE hBR
        replace hon6 := Lib.hid hon6
        go_wp2_with fail
        refine bodyPost_ret (v := .agg #[.string ⟨nm.toArray⟩, .int .i64 n2, .int .i64 x2, .bool kn, .int .i64 nd, .bool lo]) (by simp [results, Tryz.results55, go_sem, c0, c1, c2, c3, c4, c5]) rfl ?_
        exact (hon6.out.tailA.tailA.headA).post ⟨⟨n2, _, kn, nd, lo, rfl⟩, rfl⟩
end Look
end Go.Proofs.YthejfkkmcbdlhaaGreatDoor
