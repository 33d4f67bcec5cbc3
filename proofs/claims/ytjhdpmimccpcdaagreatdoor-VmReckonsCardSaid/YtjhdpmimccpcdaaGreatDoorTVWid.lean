/- Chapter 1: cells of two words: products, quotients. Conditions: as written. -/
import Derived.Test.YtjhdpmimccpcdaaGreatDoorTVDiv64
import Derived.Test.YtjhdpmimccpcdaaGreatDoorT00
import Derived.Shelf.Spec.BitsCarry
import Derived.BigRegion
import Derived.Deep.RegionHeld
namespace Go.Proofs.YtjhdpmimccpcdaaGreatDoor
set_option linter.unusedVariables false
set_option maxRecDepth 100000
open Go.RowKit Go.Lib Go.Deep
namespace Vm
/-- a cell as a word without a sign -/
def uw (a : Int) : Nat := (a % 18446744073709551616).toNat
theorem uw_lt (a : Int) : uw a < 18446744073709551616 := by unfold uw; omega
theorem uw_wrap (a : Int) : IntKind.u64.wrap a = (uw a : Int) := by rw [IntKind.wrap_u64]; unfold uw; omega
theorem On.outN {w w' : World} {A : Asr} (h : On Nob w A w') : Below w.heap.size w w' := let ⟨_, _, hk, _⟩ := h; hk.below0
def utHi (a b : Int) : Int := wrap64 ((uw a * uw b / 18446744073709551616 : Nat) : Int)
def utLo (a b : Int) : Int := wrap64 ((uw a * uw b % 18446744073709551616 : Nat) : Int)
theorem c_utimes (a b : Int) (w : World) : Calls Tryz.prog 152 #[.int .i64 a, .int .i64 b] w (Quiet (.agg #[.int .i64 (utLo a b), .int .i64 (utHi a b)]) w) := by
  have hm := fun w => Tryz.bits_Mul64 (uw a) (uw b) (uw_lt a) (uw_lt b) w
  have e1 := uw_wrap a
  have e2 := uw_wrap b
  unfold utLo utHi
  generalize uw a * uw b / 18446744073709551616 = h at *
  generalize uw a * uw b % 18446744073709551616 = l at *
  generalize uw a = ua at *
  generalize uw b = ub at *
  replace hm := Lib.hid hm
  go_enter Tryz.func152, Tryz.ntmps152
  go_wp2_with fail
  refine (hm.out _).mono ?_
  rintro e w1 ⟨rfl, rfl⟩
  simp only []
  go_wp2
  exact bodyPost_ret (v := .agg #[.int .i64 (wrap64 (l : Int)), .int .i64 (wrap64 (h : Int))]) (by simp [results, Tryz.results152, go_sem]) rfl ⟨rfl, ((On.refl (A := AllA []) (F := Nob) (w := w) (fun _ h => h)).box _ _).outN⟩
/-- the higher cell of a product with signs -/
def tHi (a b : Int) : Int := wrap64 (utHi a b - wrap64 (bits .and .i64 (a / 9223372036854775808) b + bits .and .i64 (b / 9223372036854775808) a))
theorem c_times (a b : Int) (w : World) : Calls Tryz.prog 151 #[.int .i64 a, .int .i64 b] w (Quiet (.agg #[.int .i64 (utLo a b), .int .i64 (tHi a b)]) w) := by
  have hu := fun w => c_utimes a b w
  unfold tHi
  generalize utLo a b = l at *
  generalize utHi a b = h at *
  have hbx : On Nob w (AllA [BlkA w.heap.size 234 #[.int .i64 0, .int .i64 0]]) (w.alloc (.cells #[.int .i64 0, .int .i64 0] 234)) := (On.refl (A := AllA []) (F := Nob) (w := w) (fun _ h => h)).box _ _
  replace hu := Lib.hid hu
  replace hbx := Lib.hid hbx
  go_enter Tryz.func151, Tryz.ntmps151
  go_wp2_with fail
  refine (hu.out _).mono ?_
  rintro e w1 ⟨rfl, hb⟩
  simp only []
  have h1 := hbx.out.below hb
  have c0 : w1.cell? ⟨w.heap.size, 0, none⟩ = some (.int .i64 0) := (h1.blkAt 0 rfl).cell 0
  have c1 : w1.cell? ⟨w.heap.size, 1, none⟩ = some (.int .i64 0) := (h1.blkAt 0 rfl).cell 1
  have f0 := (h1.blkAt 0 rfl).frozen 0
  have f1 := (h1.blkAt 0 rfl).frozen 1
  have lt := (h1.blkAt 0 rfl).lt
  replace h1 := Lib.hid h1
  clear hb
  go_wp2
  generalize wrap64 (h - wrap64 (bits .and .i64 (a / 9223372036854775808) b + bits .and .i64 (b / 9223372036854775808) a)) = t at *
  have h2 := ((h1.out.setAt 0 rfl 0 (.int .i64 l)).setAt 0 rfl 1 (.int .i64 t)).box #[.int .i64 l, .int .i64 t] 234
  have d0 := (h2.blkAt 1 rfl).cell 0
  have d1 := (h2.blkAt 1 rfl).cell 1
  exact bodyPost_ret (v := .agg #[.int .i64 l, .int .i64 t]) (by simp [results, Tryz.results151, go_sem, d0, d1]) rfl ⟨rfl, h2.outN⟩
theorem sub64_run (x y b : Nat) (hb : b ≤ 1) (w : World) : (callFunc 299 #[.int .u64 (x : Int), .int .u64 (y : Int), .int .u64 (b : Int)]).run Tryz.prog w =
      .ok (.value (.tuple #[.int .u64 (((x + 18446744073709551616 - y - b) % 18446744073709551616 : Nat) : Int), .int .u64 ((if x < y + b then 1 else 0 : Nat) : Int)])) w := by
  rw [run_callFunc_extern Tryz.func299 (by kernel_rfl) (by kernel_rfl) (by kernel_rfl) (e := sub64Entry) (by kernel_rfl), run_sub64 x y b hb]
  rfl
/-- two words by one, without a sign -/
def udQ (lo hi n : Int) : Int := wrap64 (((uw hi * 18446744073709551616 + uw lo) / uw n : Nat) : Int)
def udR (lo hi n : Int) : Int := wrap64 (((uw hi * 18446744073709551616 + uw lo) % uw n : Nat) : Int)
def udOut (hi n : Int) : Bool := decide (uw n ≤ uw hi)
def tri (out : Bool) (q r : Int) : Value := if out then .tuple #[.int .i64 0, .int .i64 0, .int .i64 7] else .tuple #[.int .i64 q, .int .i64 r, .int .i64 0]
theorem c_udiv (lo hi n : Int) (w : World) : Calls Tryz.prog 153 #[.agg #[.int .i64 lo, .int .i64 hi], .int .i64 n] w (Quiet (tri (udOut hi n) (udQ lo hi n) (udR lo hi n)) w) := by
  have hbx : On Nob w (AllA [BlkA w.heap.size 234 #[.int .i64 lo, .int .i64 hi]]) (w.alloc (.cells #[.int .i64 lo, .int .i64 hi] 234)) := (On.refl (A := AllA []) (F := Nob) (w := w) (fun _ h => h)).box _ _
  have e1 := uw_wrap lo
  have e2 := uw_wrap hi
  have e3 := uw_wrap n
  have hlo := uw_lt lo
  have hhi := uw_lt hi
  have hn := uw_lt n
  unfold udQ udR udOut
  generalize uw lo = ul at *
  generalize uw hi = uh at *
  generalize uw n = un at *
  replace hbx := Lib.hid hbx
  by_cases h : un ≤ uh
  · have t1 : decide (un ≤ uh) = true := decide_eq_true h
    rw [t1]
    clear hlo hhi hn
    replace h := Lib.hid h
    generalize wrap64 _ = q
    generalize wrap64 _ = r
    show Calls _ _ _ _ (Quiet (.tuple #[.int .i64 0, .int .i64 0, .int .i64 7]) w)
    go_enter Tryz.func153, Tryz.ntmps153
    go_wp2
    exact bodyPost_ret (v := .tuple #[.int .i64 0, .int .i64 0, .int .i64 7]) (by simp [results, Tryz.results153, go_sem]) rfl ⟨rfl, hbx.out.outN⟩
  · have t1 : decide (un ≤ uh) = false := decide_eq_false h
    rw [t1]
    have hd := fun w => div64_walk uh ul un (by omega) hlo hn w
    generalize (uh * 18446744073709551616 + ul) / un = Q at *
    generalize (uh * 18446744073709551616 + ul) % un = R at *
    clear hlo hhi hn
    replace h := Lib.hid h
    replace hd := Lib.hid hd
    show Calls _ _ _ _ (Quiet (.tuple #[.int .i64 (wrap64 (Q : Int)), .int .i64 (wrap64 (R : Int)), .int .i64 0]) w)
    go_enter Tryz.func153, Tryz.ntmps153
    go_wp2_with fail
    refine (hd.out _).mono ?_
    rintro e w1 ⟨rfl, k, rfl⟩
    simp only []
    go_wp2
    exact bodyPost_ret (v := .tuple #[.int .i64 (wrap64 (Q : Int)), .int .i64 (wrap64 (R : Int)), .int .i64 0]) (by simp [results, Tryz.results153, go_sem]) rfl ⟨rfl, (hbx.out.drewN k).outN⟩
/-- two words with the other sign -/
def opLo (lo : Int) : Int := wrap64 (((18446744073709551616 - uw lo) % 18446744073709551616 : Nat) : Int)
def opB (lo : Int) : Nat := if 0 < uw lo then 1 else 0
def opHi (lo hi : Int) : Int := wrap64 (((18446744073709551616 - uw hi - opB lo) % 18446744073709551616 : Nat) : Int)
theorem c_opp (lo hi : Int) (w : World) : Calls Tryz.prog 244 #[.agg #[.int .i64 lo, .int .i64 hi]] w (Quiet (.agg #[.int .i64 (opLo lo), .int .i64 (opHi lo hi)]) w) := by
  have hbx : On Nob w (AllA [BlkA w.heap.size 234 #[.int .i64 lo, .int .i64 hi]]) (w.alloc (.cells #[.int .i64 lo, .int .i64 hi] 234)) := (On.refl (A := AllA []) (F := Nob) (w := w) (fun _ h => h)).box _ _
  have hb2 := hbx.box #[.int .i64 (opLo lo), .int .i64 (opHi lo hi)] 234
  have e1 := uw_wrap lo
  have e2 := uw_wrap hi
  have h1 := fun w => sub64_run 0 (uw lo) 0 (by omega) w
  have hob : opB lo ≤ 1 := by unfold opB; split <;> omega
  have h2 := fun w => sub64_run 0 (uw hi) (opB lo) hob w
  unfold opHi opLo at *
  have ho : (if 0 < uw lo + 0 then 1 else 0 : Nat) = opB lo := rfl
  rw [ho, Nat.zero_add, Nat.sub_zero] at h1
  rw [Nat.zero_add] at h2
  generalize opB lo = b at *
  generalize (18446744073709551616 - uw lo) % 18446744073709551616 = A at *
  generalize (18446744073709551616 - uw hi - b) % 18446744073709551616 = B at *
  generalize uw lo = ul at *
  generalize (if 0 < uw hi + b then 1 else 0 : Nat) = b2 at *
  generalize uw hi = uh at *
  replace hb2 := Lib.hid hb2
  clear hbx hob ho
  have h1' : ∀ w, (callFunc 299 #[.int .u64 0, .int .u64 (ul : Int), .int .u64 0]).run Tryz.prog w = .ok (.value (.tuple #[.int .u64 (A : Int), .int .u64 (b : Int)])) w := h1
  have h2' : ∀ w, (callFunc 299 #[.int .u64 0, .int .u64 (uh : Int), .int .u64 (b : Int)]).run Tryz.prog w = .ok (.value (.tuple #[.int .u64 (B : Int), .int .u64 (b2 : Int)])) w := h2
  clear h1 h2
  go_enter Tryz.func244, Tryz.ntmps244
  go_wp2
  exact bodyPost_ret (v := .agg #[.int .i64 (wrap64 (A : Int)), .int .i64 (wrap64 (B : Int))]) (by simp [results, Tryz.results244, go_sem]) rfl ⟨rfl, hb2.out.outN⟩
/-- two words by one, with signs, rounded toward 0 -/
def dvLo (lo hi : Int) : Int := if hi < 0 then opLo lo else lo
def dvHi (lo hi : Int) : Int := if hi < 0 then opHi lo hi else hi
def dvM (n : Int) : Int := if n < 0 then wrap64 (-n) else n
def dvQ0 (lo hi n : Int) : Int := udQ (dvLo lo hi) (dvHi lo hi) (dvM n)
def dvR0 (lo hi n : Int) : Int := udR (dvLo lo hi) (dvHi lo hi) (dvM n)
def dvOut0 (lo hi n : Int) : Bool := udOut (dvHi lo hi) (dvM n)
def dvSame (hi n : Int) : Bool := decide (hi < 0) == decide (n < 0)
def dvOut (lo hi n : Int) : Bool := dvOut0 lo hi n || (if dvSame hi n then decide (dvQ0 lo hi n < 0) else decide (dvQ0 lo hi n < 0) && decide (dvQ0 lo hi n ≠ -9223372036854775808))
def dvQ (lo hi n : Int) : Int := if dvSame hi n then dvQ0 lo hi n else wrap64 (-dvQ0 lo hi n)
def dvR (lo hi n : Int) : Int := if hi < 0 then wrap64 (-dvR0 lo hi n) else dvR0 lo hi n
theorem two_box (lo hi n : Int) (w : World) : On Nob w (AllA [BlkA (w.heap.size + 1) 298 #[.bool (decide (hi < 0)), .bool (decide (n < 0))], BlkA w.heap.size 234 #[.int .i64 lo, .int .i64 hi]]) ((w.alloc (.cells #[.int .i64 lo, .int .i64 hi] 234)).alloc (.cells #[.bool (decide (hi < 0)), .bool (decide (n < 0))] 298)) := by
  have h := ((On.refl (A := AllA []) (F := Nob) (w := w) (fun _ h => h)).box #[.int .i64 lo, .int .i64 hi] 234).box #[.bool (decide (hi < 0)), .bool (decide (n < 0))] 298
  simp only [World.size_alloc] at h
  exact h
set_option maxHeartbeats 1000000 in
theorem c_div_pp (lo hi n : Int) (ha : decide (hi < 0) = false) (hb : decide (n < 0) = false) (w : World) : Calls Tryz.prog 200 #[.agg #[.int .i64 lo, .int .i64 hi], .int .i64 n] w (Quiet (tri (dvOut lo hi n) (dvQ lo hi n) (dvR lo hi n)) w) := by
  have hbx := two_box lo hi n w
  rw [ha, hb] at hbx
  have hu := fun w => c_udiv (dvLo lo hi) (dvHi lo hi) (dvM n) w
  have eS : dvSame hi n = true := by unfold dvSame; rw [ha, hb]; rfl
  have eM : dvM n = n := if_neg (by simpa using hb)
  have eL : dvLo lo hi = lo := if_neg (by simpa using ha)
  have eH : dvHi lo hi = hi := if_neg (by simpa using ha)
  have eR : dvR lo hi n = dvR0 lo hi n := if_neg (by simpa using ha)
  have eO : dvOut lo hi n = (dvOut0 lo hi n || (decide (dvQ0 lo hi n < 0))) := by unfold dvOut; rw [eS, if_pos rfl]
  have eQ : dvQ lo hi n = dvQ0 lo hi n := by unfold dvQ; rw [eS, if_pos rfl]
  have hu2 : ∀ w, Calls Tryz.prog 153 #[.agg #[.int .i64 (dvLo lo hi), .int .i64 (dvHi lo hi)], .int .i64 (dvM n)] w (Quiet (tri (dvOut0 lo hi n) (dvQ0 lo hi n) (dvR0 lo hi n)) w) := hu
  rw [eL, eH, eM] at hu2
  rw [eR, eQ, eO]
  generalize dvOut0 lo hi n = o at *
  generalize dvQ0 lo hi n = Q at *
  generalize dvR0 lo hi n = R at *
  replace hbx := Lib.hid hbx
  replace hu2 := Lib.hid hu2
  clear hu eS eL eH eR eO eQ eM
  cases o with
  | true =>
    show Calls _ _ _ _ (Quiet (.tuple #[.int .i64 0, .int .i64 0, .int .i64 7]) w)
    go_enter Tryz.func200, Tryz.ntmps200
    go_wp2_with fail
    refine (hu2.out _).mono ?_
    rintro e w3 ⟨rfl, hb3⟩
    unfold tri
    simp only []
    have h3 := Lib.hid (hbx.out.below hb3)
    have z0 : w3.cell? ⟨w.heap.size + 1, 0, none⟩ = some (.bool false) := (h3.out.blkAt 0 rfl).cell 0
    have z1 : w3.cell? ⟨w.heap.size + 1, 1, none⟩ = some (.bool false) := (h3.out.blkAt 0 rfl).cell 1
    clear hb3
    go_wp2
    exact bodyPost_ret (v := .tuple #[.int .i64 0, .int .i64 0, .int .i64 7]) (by simp [results, Tryz.results200, go_sem]) rfl ⟨rfl, h3.out.outN⟩
  | false =>
    by_cases hq : Q < 0
    · have t1 : decide (Q < 0) = true := decide_eq_true hq
      rw [t1]
      replace hq := Lib.hid hq
      show Calls _ _ _ _ (Quiet (.tuple #[.int .i64 0, .int .i64 0, .int .i64 7]) w)
      go_enter Tryz.func200, Tryz.ntmps200
      go_wp2_with fail
      refine (hu2.out _).mono ?_
      rintro e w3 ⟨rfl, hb3⟩
      unfold tri
      simp only []
      have h3 := Lib.hid (hbx.out.below hb3)
      have z0 : w3.cell? ⟨w.heap.size + 1, 0, none⟩ = some (.bool false) := (h3.out.blkAt 0 rfl).cell 0
      have z1 : w3.cell? ⟨w.heap.size + 1, 1, none⟩ = some (.bool false) := (h3.out.blkAt 0 rfl).cell 1
      clear hb3
      go_wp2
      exact bodyPost_ret (v := .tuple #[.int .i64 0, .int .i64 0, .int .i64 7]) (by simp [results, Tryz.results200, go_sem]) rfl ⟨rfl, h3.out.outN⟩
    · have t1 : decide (Q < 0) = false := decide_eq_false hq
      rw [t1]
      replace hq := Lib.hid hq
      show Calls _ _ _ _ (Quiet (.tuple #[.int .i64 (Q), .int .i64 (R), .int .i64 0]) w)
      go_enter Tryz.func200, Tryz.ntmps200
      go_wp2_with fail
      refine (hu2.out _).mono ?_
      rintro e w3 ⟨rfl, hb3⟩
      unfold tri
      simp only []
      have h3 := Lib.hid (hbx.out.below hb3)
      have z0 : w3.cell? ⟨w.heap.size + 1, 0, none⟩ = some (.bool false) := (h3.out.blkAt 0 rfl).cell 0
      have z1 : w3.cell? ⟨w.heap.size + 1, 1, none⟩ = some (.bool false) := (h3.out.blkAt 0 rfl).cell 1
      clear hb3
      go_wp2
      exact bodyPost_ret (v := .tuple #[.int .i64 (Q), .int .i64 (R), .int .i64 0]) (by simp [results, Tryz.results200, go_sem]) rfl ⟨rfl, h3.out.outN⟩
set_option maxHeartbeats 1000000 in
theorem c_div_pn (lo hi n : Int) (ha : decide (hi < 0) = false) (hb : decide (n < 0) = true) (w : World) : Calls Tryz.prog 200 #[.agg #[.int .i64 lo, .int .i64 hi], .int .i64 n] w (Quiet (tri (dvOut lo hi n) (dvQ lo hi n) (dvR lo hi n)) w) := by
  have hbx := two_box lo hi n w
  rw [ha, hb] at hbx
  have hu := fun w => c_udiv (dvLo lo hi) (dvHi lo hi) (dvM n) w
  have eS : dvSame hi n = false := by unfold dvSame; rw [ha, hb]; rfl
  have eM : dvM n = wrap64 (-n) := if_pos (by simpa using hb)
  have eL : dvLo lo hi = lo := if_neg (by simpa using ha)
  have eH : dvHi lo hi = hi := if_neg (by simpa using ha)
  have eR : dvR lo hi n = dvR0 lo hi n := if_neg (by simpa using ha)
  have eO : dvOut lo hi n = (dvOut0 lo hi n || (decide (dvQ0 lo hi n < 0) && decide (dvQ0 lo hi n ≠ -9223372036854775808))) := by unfold dvOut; rw [eS, if_neg (by decide)]
  have eQ : dvQ lo hi n = wrap64 (-dvQ0 lo hi n) := by unfold dvQ; rw [eS, if_neg (by decide)]
  have hu2 : ∀ w, Calls Tryz.prog 153 #[.agg #[.int .i64 (dvLo lo hi), .int .i64 (dvHi lo hi)], .int .i64 (dvM n)] w (Quiet (tri (dvOut0 lo hi n) (dvQ0 lo hi n) (dvR0 lo hi n)) w) := hu
  rw [eL, eH, eM] at hu2
  rw [eR, eQ, eO]
  generalize dvOut0 lo hi n = o at *
  generalize dvQ0 lo hi n = Q at *
  generalize dvR0 lo hi n = R at *
  replace hbx := Lib.hid hbx
  replace hu2 := Lib.hid hu2
  clear hu eS eL eH eR eO eQ eM
  cases o with
  | true =>
    show Calls _ _ _ _ (Quiet (.tuple #[.int .i64 0, .int .i64 0, .int .i64 7]) w)
    go_enter Tryz.func200, Tryz.ntmps200
    go_wp2_with fail
    refine (hu2.out _).mono ?_
    rintro e w3 ⟨rfl, hb3⟩
    unfold tri
    simp only []
    have h3 := Lib.hid (hbx.out.below hb3)
    have z0 : w3.cell? ⟨w.heap.size + 1, 0, none⟩ = some (.bool false) := (h3.out.blkAt 0 rfl).cell 0
    have z1 : w3.cell? ⟨w.heap.size + 1, 1, none⟩ = some (.bool true) := (h3.out.blkAt 0 rfl).cell 1
    clear hb3
    go_wp2
    exact bodyPost_ret (v := .tuple #[.int .i64 0, .int .i64 0, .int .i64 7]) (by simp [results, Tryz.results200, go_sem]) rfl ⟨rfl, h3.out.outN⟩
  | false =>
    by_cases hq : Q < 0
    · have t1 : decide (Q < 0) = true := decide_eq_true hq
      by_cases hm : Q = -9223372036854775808
      · have t2 : (Q != -9223372036854775808) = false := by simpa using hm
        have t3 : decide (Q ≠ -9223372036854775808) = false := decide_eq_false (by simpa using hm)
        rw [t1, t3]
        replace hq := Lib.hid hq
        replace hm := Lib.hid hm
        clear t3
        show Calls _ _ _ _ (Quiet (.tuple #[.int .i64 (wrap64 (-Q)), .int .i64 (R), .int .i64 0]) w)
        go_enter Tryz.func200, Tryz.ntmps200
        go_wp2_with fail
        refine (hu2.out _).mono ?_
        rintro e w3 ⟨rfl, hb3⟩
        unfold tri
        simp only []
        have h3 := Lib.hid (hbx.out.below hb3)
        have z0 : w3.cell? ⟨w.heap.size + 1, 0, none⟩ = some (.bool false) := (h3.out.blkAt 0 rfl).cell 0
        have z1 : w3.cell? ⟨w.heap.size + 1, 1, none⟩ = some (.bool true) := (h3.out.blkAt 0 rfl).cell 1
        clear hb3
        go_wp2
        exact bodyPost_ret (v := .tuple #[.int .i64 (wrap64 (-Q)), .int .i64 (R), .int .i64 0]) (by simp [results, Tryz.results200, go_sem]) rfl ⟨rfl, h3.out.outN⟩
      · have t2 : (Q != -9223372036854775808) = true := by simpa using hm
        have t3 : decide (Q ≠ -9223372036854775808) = true := decide_eq_true hm
        rw [t1, t3]
        replace hq := Lib.hid hq
        replace hm := Lib.hid hm
        clear t3
        show Calls _ _ _ _ (Quiet (.tuple #[.int .i64 0, .int .i64 0, .int .i64 7]) w)
        go_enter Tryz.func200, Tryz.ntmps200
        go_wp2_with fail
        refine (hu2.out _).mono ?_
        rintro e w3 ⟨rfl, hb3⟩
        unfold tri
        simp only []
        have h3 := Lib.hid (hbx.out.below hb3)
        have z0 : w3.cell? ⟨w.heap.size + 1, 0, none⟩ = some (.bool false) := (h3.out.blkAt 0 rfl).cell 0
        have z1 : w3.cell? ⟨w.heap.size + 1, 1, none⟩ = some (.bool true) := (h3.out.blkAt 0 rfl).cell 1
        clear hb3
        go_wp2
        exact bodyPost_ret (v := .tuple #[.int .i64 0, .int .i64 0, .int .i64 7]) (by simp [results, Tryz.results200, go_sem]) rfl ⟨rfl, h3.out.outN⟩
    · have t1 : decide (Q < 0) = false := decide_eq_false hq
      rw [t1]
      replace hq := Lib.hid hq
      show Calls _ _ _ _ (Quiet (.tuple #[.int .i64 (wrap64 (-Q)), .int .i64 (R), .int .i64 0]) w)
      go_enter Tryz.func200, Tryz.ntmps200
      go_wp2_with fail
      refine (hu2.out _).mono ?_
      rintro e w3 ⟨rfl, hb3⟩
      unfold tri
      simp only []
      have h3 := Lib.hid (hbx.out.below hb3)
      have z0 : w3.cell? ⟨w.heap.size + 1, 0, none⟩ = some (.bool false) := (h3.out.blkAt 0 rfl).cell 0
      have z1 : w3.cell? ⟨w.heap.size + 1, 1, none⟩ = some (.bool true) := (h3.out.blkAt 0 rfl).cell 1
      clear hb3
      go_wp2
      exact bodyPost_ret (v := .tuple #[.int .i64 (wrap64 (-Q)), .int .i64 (R), .int .i64 0]) (by simp [results, Tryz.results200, go_sem]) rfl ⟨rfl, h3.out.outN⟩
set_option maxHeartbeats 1000000 in
theorem c_div_np (lo hi n : Int) (ha : decide (hi < 0) = true) (hb : decide (n < 0) = false) (w : World) : Calls Tryz.prog 200 #[.agg #[.int .i64 lo, .int .i64 hi], .int .i64 n] w (Quiet (tri (dvOut lo hi n) (dvQ lo hi n) (dvR lo hi n)) w) := by
  have hbx := two_box lo hi n w
  rw [ha, hb] at hbx
  have hu := fun w => c_udiv (dvLo lo hi) (dvHi lo hi) (dvM n) w
  have eS : dvSame hi n = false := by unfold dvSame; rw [ha, hb]; rfl
  have eM : dvM n = n := if_neg (by simpa using hb)
  have eL : dvLo lo hi = opLo lo := if_pos (by simpa using ha)
  have eH : dvHi lo hi = opHi lo hi := if_pos (by simpa using ha)
  have eR : dvR lo hi n = wrap64 (-dvR0 lo hi n) := if_pos (by simpa using ha)
  have ho := fun w => c_opp lo hi w
  have eO : dvOut lo hi n = (dvOut0 lo hi n || (decide (dvQ0 lo hi n < 0) && decide (dvQ0 lo hi n ≠ -9223372036854775808))) := by unfold dvOut; rw [eS, if_neg (by decide)]
  have eQ : dvQ lo hi n = wrap64 (-dvQ0 lo hi n) := by unfold dvQ; rw [eS, if_neg (by decide)]
  have hu2 : ∀ w, Calls Tryz.prog 153 #[.agg #[.int .i64 (dvLo lo hi), .int .i64 (dvHi lo hi)], .int .i64 (dvM n)] w (Quiet (tri (dvOut0 lo hi n) (dvQ0 lo hi n) (dvR0 lo hi n)) w) := hu
  rw [eL, eH, eM] at hu2
  rw [eR, eQ, eO]
  generalize opLo lo = lo2 at *
  generalize opHi lo hi = hi2 at *
  generalize dvOut0 lo hi n = o at *
  generalize dvQ0 lo hi n = Q at *
  generalize dvR0 lo hi n = R at *
  replace ho := Lib.hid ho
  replace hbx := Lib.hid hbx
  replace hu2 := Lib.hid hu2
  clear hu eS eL eH eR eO eQ eM
  cases o with
  | true =>
    show Calls _ _ _ _ (Quiet (.tuple #[.int .i64 0, .int .i64 0, .int .i64 7]) w)
    go_enter Tryz.func200, Tryz.ntmps200
    go_wp2_with fail
    refine (ho.out _).mono ?_
    rintro e w1 ⟨rfl, hb1⟩
    simp only []
    have h1 := hbx.out.below hb1
    have c0 : w1.cell? ⟨w.heap.size, 0, none⟩ = some (.int .i64 lo) := (h1.blkAt 1 rfl).cell 0
    have c1 : w1.cell? ⟨w.heap.size, 1, none⟩ = some (.int .i64 hi) := (h1.blkAt 1 rfl).cell 1
    have f0 := (h1.blkAt 1 rfl).frozen 0
    have f1 := (h1.blkAt 1 rfl).frozen 1
    have s0 : w1.cell? ⟨w.heap.size + 1, 0, none⟩ = some (.bool true) := (h1.blkAt 0 rfl).cell 0
    have s1 : w1.cell? ⟨w.heap.size + 1, 1, none⟩ = some (.bool false) := (h1.blkAt 0 rfl).cell 1
    have h2 := (h1.setAt 1 rfl 0 (.int .i64 lo2)).setAt 1 rfl 1 (.int .i64 hi2)
    replace h1 := Lib.hid h1
    replace h2 := Lib.hid h2
    clear hb1
    go_wp2_with fail
    refine (hu2.out _).mono ?_
    rintro e w3 ⟨rfl, hb3⟩
    unfold tri
    simp only []
    have h3 := Lib.hid (h2.out.below hb3)
    have z0 : w3.cell? ⟨w.heap.size + 1, 0, none⟩ = some (.bool true) := (h3.out.blkAt 0 rfl).cell 0
    have z1 : w3.cell? ⟨w.heap.size + 1, 1, none⟩ = some (.bool false) := (h3.out.blkAt 0 rfl).cell 1
    clear hb3
    go_wp2
    exact bodyPost_ret (v := .tuple #[.int .i64 0, .int .i64 0, .int .i64 7]) (by simp [results, Tryz.results200, go_sem]) rfl ⟨rfl, h3.out.outN⟩
  | false =>
    by_cases hq : Q < 0
    · have t1 : decide (Q < 0) = true := decide_eq_true hq
      by_cases hm : Q = -9223372036854775808
      · have t2 : (Q != -9223372036854775808) = false := by simpa using hm
        have t3 : decide (Q ≠ -9223372036854775808) = false := decide_eq_false (by simpa using hm)
        rw [t1, t3]
        replace hq := Lib.hid hq
        replace hm := Lib.hid hm
        clear t3
        show Calls _ _ _ _ (Quiet (.tuple #[.int .i64 (wrap64 (-Q)), .int .i64 (wrap64 (-R)), .int .i64 0]) w)
        go_enter Tryz.func200, Tryz.ntmps200
        go_wp2_with fail
        refine (ho.out _).mono ?_
        rintro e w1 ⟨rfl, hb1⟩
        simp only []
        have h1 := hbx.out.below hb1
        have c0 : w1.cell? ⟨w.heap.size, 0, none⟩ = some (.int .i64 lo) := (h1.blkAt 1 rfl).cell 0
        have c1 : w1.cell? ⟨w.heap.size, 1, none⟩ = some (.int .i64 hi) := (h1.blkAt 1 rfl).cell 1
        have f0 := (h1.blkAt 1 rfl).frozen 0
        have f1 := (h1.blkAt 1 rfl).frozen 1
        have s0 : w1.cell? ⟨w.heap.size + 1, 0, none⟩ = some (.bool true) := (h1.blkAt 0 rfl).cell 0
        have s1 : w1.cell? ⟨w.heap.size + 1, 1, none⟩ = some (.bool false) := (h1.blkAt 0 rfl).cell 1
        have h2 := (h1.setAt 1 rfl 0 (.int .i64 lo2)).setAt 1 rfl 1 (.int .i64 hi2)
        replace h1 := Lib.hid h1
        replace h2 := Lib.hid h2
        clear hb1
        go_wp2_with fail
        refine (hu2.out _).mono ?_
        rintro e w3 ⟨rfl, hb3⟩
        unfold tri
        simp only []
        have h3 := Lib.hid (h2.out.below hb3)
        have z0 : w3.cell? ⟨w.heap.size + 1, 0, none⟩ = some (.bool true) := (h3.out.blkAt 0 rfl).cell 0
        have z1 : w3.cell? ⟨w.heap.size + 1, 1, none⟩ = some (.bool false) := (h3.out.blkAt 0 rfl).cell 1
        clear hb3
        go_wp2
        exact bodyPost_ret (v := .tuple #[.int .i64 (wrap64 (-Q)), .int .i64 (wrap64 (-R)), .int .i64 0]) (by simp [results, Tryz.results200, go_sem]) rfl ⟨rfl, h3.out.outN⟩
      · have t2 : (Q != -9223372036854775808) = true := by simpa using hm
        have t3 : decide (Q ≠ -9223372036854775808) = true := decide_eq_true hm
        rw [t1, t3]
        replace hq := Lib.hid hq
        replace hm := Lib.hid hm
        clear t3
        show Calls _ _ _ _ (Quiet (.tuple #[.int .i64 0, .int .i64 0, .int .i64 7]) w)
        go_enter Tryz.func200, Tryz.ntmps200
        go_wp2_with fail
        refine (ho.out _).mono ?_
        rintro e w1 ⟨rfl, hb1⟩
        simp only []
        have h1 := hbx.out.below hb1
        have c0 : w1.cell? ⟨w.heap.size, 0, none⟩ = some (.int .i64 lo) := (h1.blkAt 1 rfl).cell 0
        have c1 : w1.cell? ⟨w.heap.size, 1, none⟩ = some (.int .i64 hi) := (h1.blkAt 1 rfl).cell 1
        have f0 := (h1.blkAt 1 rfl).frozen 0
        have f1 := (h1.blkAt 1 rfl).frozen 1
        have s0 : w1.cell? ⟨w.heap.size + 1, 0, none⟩ = some (.bool true) := (h1.blkAt 0 rfl).cell 0
        have s1 : w1.cell? ⟨w.heap.size + 1, 1, none⟩ = some (.bool false) := (h1.blkAt 0 rfl).cell 1
        have h2 := (h1.setAt 1 rfl 0 (.int .i64 lo2)).setAt 1 rfl 1 (.int .i64 hi2)
        replace h1 := Lib.hid h1
        replace h2 := Lib.hid h2
        clear hb1
        go_wp2_with fail
        refine (hu2.out _).mono ?_
        rintro e w3 ⟨rfl, hb3⟩
        unfold tri
        simp only []
        have h3 := Lib.hid (h2.out.below hb3)
        have z0 : w3.cell? ⟨w.heap.size + 1, 0, none⟩ = some (.bool true) := (h3.out.blkAt 0 rfl).cell 0
        have z1 : w3.cell? ⟨w.heap.size + 1, 1, none⟩ = some (.bool false) := (h3.out.blkAt 0 rfl).cell 1
        clear hb3
        go_wp2
        exact bodyPost_ret (v := .tuple #[.int .i64 0, .int .i64 0, .int .i64 7]) (by simp [results, Tryz.results200, go_sem]) rfl ⟨rfl, h3.out.outN⟩
    · have t1 : decide (Q < 0) = false := decide_eq_false hq
      rw [t1]
      replace hq := Lib.hid hq
      show Calls _ _ _ _ (Quiet (.tuple #[.int .i64 (wrap64 (-Q)), .int .i64 (wrap64 (-R)), .int .i64 0]) w)
      go_enter Tryz.func200, Tryz.ntmps200
      go_wp2_with fail
      refine (ho.out _).mono ?_
      rintro e w1 ⟨rfl, hb1⟩
      simp only []
      have h1 := hbx.out.below hb1
      have c0 : w1.cell? ⟨w.heap.size, 0, none⟩ = some (.int .i64 lo) := (h1.blkAt 1 rfl).cell 0
      have c1 : w1.cell? ⟨w.heap.size, 1, none⟩ = some (.int .i64 hi) := (h1.blkAt 1 rfl).cell 1
      have f0 := (h1.blkAt 1 rfl).frozen 0
      have f1 := (h1.blkAt 1 rfl).frozen 1
      have s0 : w1.cell? ⟨w.heap.size + 1, 0, none⟩ = some (.bool true) := (h1.blkAt 0 rfl).cell 0
      have s1 : w1.cell? ⟨w.heap.size + 1, 1, none⟩ = some (.bool false) := (h1.blkAt 0 rfl).cell 1
      have h2 := (h1.setAt 1 rfl 0 (.int .i64 lo2)).setAt 1 rfl 1 (.int .i64 hi2)
      replace h1 := Lib.hid h1
      replace h2 := Lib.hid h2
      clear hb1
      go_wp2_with fail
      refine (hu2.out _).mono ?_
      rintro e w3 ⟨rfl, hb3⟩
      unfold tri
      simp only []
      have h3 := Lib.hid (h2.out.below hb3)
      have z0 : w3.cell? ⟨w.heap.size + 1, 0, none⟩ = some (.bool true) := (h3.out.blkAt 0 rfl).cell 0
      have z1 : w3.cell? ⟨w.heap.size + 1, 1, none⟩ = some (.bool false) := (h3.out.blkAt 0 rfl).cell 1
      clear hb3
      go_wp2
      exact bodyPost_ret (v := .tuple #[.int .i64 (wrap64 (-Q)), .int .i64 (wrap64 (-R)), .int .i64 0]) (by simp [results, Tryz.results200, go_sem]) rfl ⟨rfl, h3.out.outN⟩
set_option maxHeartbeats 1000000 in
theorem c_div_nn (lo hi n : Int) (ha : decide (hi < 0) = true) (hb : decide (n < 0) = true) (w : World) : Calls Tryz.prog 200 #[.agg #[.int .i64 lo, .int .i64 hi], .int .i64 n] w (Quiet (tri (dvOut lo hi n) (dvQ lo hi n) (dvR lo hi n)) w) := by
  have hbx := two_box lo hi n w
  rw [ha, hb] at hbx
  have hu := fun w => c_udiv (dvLo lo hi) (dvHi lo hi) (dvM n) w
  have eS : dvSame hi n = true := by unfold dvSame; rw [ha, hb]; rfl
  have eM : dvM n = wrap64 (-n) := if_pos (by simpa using hb)
  have eL : dvLo lo hi = opLo lo := if_pos (by simpa using ha)
  have eH : dvHi lo hi = opHi lo hi := if_pos (by simpa using ha)
  have eR : dvR lo hi n = wrap64 (-dvR0 lo hi n) := if_pos (by simpa using ha)
  have ho := fun w => c_opp lo hi w
  have eO : dvOut lo hi n = (dvOut0 lo hi n || (decide (dvQ0 lo hi n < 0))) := by unfold dvOut; rw [eS, if_pos rfl]
  have eQ : dvQ lo hi n = dvQ0 lo hi n := by unfold dvQ; rw [eS, if_pos rfl]
  have hu2 : ∀ w, Calls Tryz.prog 153 #[.agg #[.int .i64 (dvLo lo hi), .int .i64 (dvHi lo hi)], .int .i64 (dvM n)] w (Quiet (tri (dvOut0 lo hi n) (dvQ0 lo hi n) (dvR0 lo hi n)) w) := hu
  rw [eL, eH, eM] at hu2
  rw [eR, eQ, eO]
  generalize opLo lo = lo2 at *
  generalize opHi lo hi = hi2 at *
  generalize dvOut0 lo hi n = o at *
  generalize dvQ0 lo hi n = Q at *
  generalize dvR0 lo hi n = R at *
  replace ho := Lib.hid ho
  replace hbx := Lib.hid hbx
  replace hu2 := Lib.hid hu2
  clear hu eS eL eH eR eO eQ eM
  cases o with
  | true =>
    show Calls _ _ _ _ (Quiet (.tuple #[.int .i64 0, .int .i64 0, .int .i64 7]) w)
    go_enter Tryz.func200, Tryz.ntmps200
    go_wp2_with fail
    refine (ho.out _).mono ?_
    rintro e w1 ⟨rfl, hb1⟩
    simp only []
    have h1 := hbx.out.below hb1
    have c0 : w1.cell? ⟨w.heap.size, 0, none⟩ = some (.int .i64 lo) := (h1.blkAt 1 rfl).cell 0
    have c1 : w1.cell? ⟨w.heap.size, 1, none⟩ = some (.int .i64 hi) := (h1.blkAt 1 rfl).cell 1
    have f0 := (h1.blkAt 1 rfl).frozen 0
    have f1 := (h1.blkAt 1 rfl).frozen 1
    have s0 : w1.cell? ⟨w.heap.size + 1, 0, none⟩ = some (.bool true) := (h1.blkAt 0 rfl).cell 0
    have s1 : w1.cell? ⟨w.heap.size + 1, 1, none⟩ = some (.bool true) := (h1.blkAt 0 rfl).cell 1
    have h2 := (h1.setAt 1 rfl 0 (.int .i64 lo2)).setAt 1 rfl 1 (.int .i64 hi2)
    replace h1 := Lib.hid h1
    replace h2 := Lib.hid h2
    clear hb1
    go_wp2_with fail
    refine (hu2.out _).mono ?_
    rintro e w3 ⟨rfl, hb3⟩
    unfold tri
    simp only []
    have h3 := Lib.hid (h2.out.below hb3)
    have z0 : w3.cell? ⟨w.heap.size + 1, 0, none⟩ = some (.bool true) := (h3.out.blkAt 0 rfl).cell 0
    have z1 : w3.cell? ⟨w.heap.size + 1, 1, none⟩ = some (.bool true) := (h3.out.blkAt 0 rfl).cell 1
    clear hb3
    go_wp2
    exact bodyPost_ret (v := .tuple #[.int .i64 0, .int .i64 0, .int .i64 7]) (by simp [results, Tryz.results200, go_sem]) rfl ⟨rfl, h3.out.outN⟩
  | false =>
    by_cases hq : Q < 0
    · have t1 : decide (Q < 0) = true := decide_eq_true hq
      rw [t1]
      replace hq := Lib.hid hq
      show Calls _ _ _ _ (Quiet (.tuple #[.int .i64 0, .int .i64 0, .int .i64 7]) w)
      go_enter Tryz.func200, Tryz.ntmps200
      go_wp2_with fail
      refine (ho.out _).mono ?_
      rintro e w1 ⟨rfl, hb1⟩
      simp only []
      have h1 := hbx.out.below hb1
      have c0 : w1.cell? ⟨w.heap.size, 0, none⟩ = some (.int .i64 lo) := (h1.blkAt 1 rfl).cell 0
      have c1 : w1.cell? ⟨w.heap.size, 1, none⟩ = some (.int .i64 hi) := (h1.blkAt 1 rfl).cell 1
      have f0 := (h1.blkAt 1 rfl).frozen 0
      have f1 := (h1.blkAt 1 rfl).frozen 1
      have s0 : w1.cell? ⟨w.heap.size + 1, 0, none⟩ = some (.bool true) := (h1.blkAt 0 rfl).cell 0
      have s1 : w1.cell? ⟨w.heap.size + 1, 1, none⟩ = some (.bool true) := (h1.blkAt 0 rfl).cell 1
      have h2 := (h1.setAt 1 rfl 0 (.int .i64 lo2)).setAt 1 rfl 1 (.int .i64 hi2)
      replace h1 := Lib.hid h1
      replace h2 := Lib.hid h2
      clear hb1
      go_wp2_with fail
      refine (hu2.out _).mono ?_
      rintro e w3 ⟨rfl, hb3⟩
      unfold tri
      simp only []
      have h3 := Lib.hid (h2.out.below hb3)
      have z0 : w3.cell? ⟨w.heap.size + 1, 0, none⟩ = some (.bool true) := (h3.out.blkAt 0 rfl).cell 0
      have z1 : w3.cell? ⟨w.heap.size + 1, 1, none⟩ = some (.bool true) := (h3.out.blkAt 0 rfl).cell 1
      clear hb3
      go_wp2
      exact bodyPost_ret (v := .tuple #[.int .i64 0, .int .i64 0, .int .i64 7]) (by simp [results, Tryz.results200, go_sem]) rfl ⟨rfl, h3.out.outN⟩
    · have t1 : decide (Q < 0) = false := decide_eq_false hq
      rw [t1]
      replace hq := Lib.hid hq
      show Calls _ _ _ _ (Quiet (.tuple #[.int .i64 (Q), .int .i64 (wrap64 (-R)), .int .i64 0]) w)
      go_enter Tryz.func200, Tryz.ntmps200
      go_wp2_with fail
      refine (ho.out _).mono ?_
      rintro e w1 ⟨rfl, hb1⟩
      simp only []
      have h1 := hbx.out.below hb1
      have c0 : w1.cell? ⟨w.heap.size, 0, none⟩ = some (.int .i64 lo) := (h1.blkAt 1 rfl).cell 0
      have c1 : w1.cell? ⟨w.heap.size, 1, none⟩ = some (.int .i64 hi) := (h1.blkAt 1 rfl).cell 1
      have f0 := (h1.blkAt 1 rfl).frozen 0
      have f1 := (h1.blkAt 1 rfl).frozen 1
      have s0 : w1.cell? ⟨w.heap.size + 1, 0, none⟩ = some (.bool true) := (h1.blkAt 0 rfl).cell 0
      have s1 : w1.cell? ⟨w.heap.size + 1, 1, none⟩ = some (.bool true) := (h1.blkAt 0 rfl).cell 1
      have h2 := (h1.setAt 1 rfl 0 (.int .i64 lo2)).setAt 1 rfl 1 (.int .i64 hi2)
      replace h1 := Lib.hid h1
      replace h2 := Lib.hid h2
      clear hb1
      go_wp2_with fail
      refine (hu2.out _).mono ?_
      rintro e w3 ⟨rfl, hb3⟩
      unfold tri
      simp only []
      have h3 := Lib.hid (h2.out.below hb3)
      have z0 : w3.cell? ⟨w.heap.size + 1, 0, none⟩ = some (.bool true) := (h3.out.blkAt 0 rfl).cell 0
      have z1 : w3.cell? ⟨w.heap.size + 1, 1, none⟩ = some (.bool true) := (h3.out.blkAt 0 rfl).cell 1
      clear hb3
      go_wp2
      exact bodyPost_ret (v := .tuple #[.int .i64 (Q), .int .i64 (wrap64 (-R)), .int .i64 0]) (by simp [results, Tryz.results200, go_sem]) rfl ⟨rfl, h3.out.outN⟩
theorem c_div (lo hi n : Int) (w : World) : Calls Tryz.prog 200 #[.agg #[.int .i64 lo, .int .i64 hi], .int .i64 n] w (Quiet (tri (dvOut lo hi n) (dvQ lo hi n) (dvR lo hi n)) w) := by
  rcases ha : decide (hi < 0) with _ | _
  · rcases hb : decide (n < 0) with _ | _
    · exact c_div_pp lo hi n ha hb w
    · exact c_div_pn lo hi n ha hb w
  · rcases hb : decide (n < 0) with _ | _
    · exact c_div_np lo hi n ha hb w
    · exact c_div_nn lo hi n ha hb w
/-- rounded down -/
def fdOff (lo hi n : Int) : Bool := !dvOut lo hi n && (decide (dvR lo hi n ≠ 0) && decide (bits .xor .i64 (dvR lo hi n) n < 0))
def fdOut (lo hi n : Int) : Bool := dvOut lo hi n || (fdOff lo hi n && decide (dvQ lo hi n = -9223372036854775808))
def fdQ (lo hi n : Int) : Int := if fdOff lo hi n then wrap64 (dvQ lo hi n - 1) else dvQ lo hi n
def fdR (lo hi n : Int) : Int := if fdOff lo hi n then wrap64 (dvR lo hi n + n) else dvR lo hi n
set_option maxHeartbeats 1000000 in
theorem c_fdiv_out (lo hi n : Int) (ho : dvOut lo hi n = true) (w : World) : Calls Tryz.prog 150 #[.agg #[.int .i64 lo, .int .i64 hi], .int .i64 n] w (Quiet (tri (fdOut lo hi n) (fdQ lo hi n) (fdR lo hi n)) w) := by
  have hd := fun w => c_div lo hi n w
  have hbx : On Nob w (AllA [BlkA w.heap.size 234 #[.int .i64 lo, .int .i64 hi]]) (w.alloc (.cells #[.int .i64 lo, .int .i64 hi] 234)) := (On.refl (A := AllA []) (F := Nob) (w := w) (fun _ h => h)).box _ _
  have e1 : fdOut lo hi n = true := by unfold fdOut; simp only [ho, Bool.true_or]
  rw [e1]
  generalize fdQ lo hi n = Q1
  generalize fdR lo hi n = R1
  generalize dvQ lo hi n = Q at *
  generalize dvR lo hi n = R at *
  generalize dvOut lo hi n = o at *
  subst ho
  clear e1
  show Calls _ _ _ _ (Quiet (.tuple #[.int .i64 0, .int .i64 0, .int .i64 7]) w)
  replace hd := Lib.hid hd
  replace hbx := Lib.hid hbx
  go_enter Tryz.func150, Tryz.ntmps150
  go_wp2_with fail
  refine (hd.out _).mono ?_
  rintro e w3 ⟨rfl, hb3⟩
  unfold tri
  simp only []
  have h3 := Lib.hid (hbx.out.below hb3)
  clear hb3
  go_wp2
  exact bodyPost_ret (v := .tuple #[.int .i64 0, .int .i64 0, .int .i64 7]) (by simp [results, Tryz.results150, go_sem]) rfl ⟨rfl, h3.out.outN⟩
set_option maxHeartbeats 1000000 in
theorem c_fdiv_zero (lo hi n : Int) (ho : dvOut lo hi n = false) (hr : dvR lo hi n = 0) (w : World) : Calls Tryz.prog 150 #[.agg #[.int .i64 lo, .int .i64 hi], .int .i64 n] w (Quiet (tri (fdOut lo hi n) (fdQ lo hi n) (fdR lo hi n)) w) := by
  have hd := fun w => c_div lo hi n w
  have hbx : On Nob w (AllA [BlkA w.heap.size 234 #[.int .i64 lo, .int .i64 hi]]) (w.alloc (.cells #[.int .i64 lo, .int .i64 hi] 234)) := (On.refl (A := AllA []) (F := Nob) (w := w) (fun _ h => h)).box _ _
  have e0 : fdOff lo hi n = false := by unfold fdOff; simp [hr]
  have e1 : fdOut lo hi n = false := by unfold fdOut; simp only [ho, e0, Bool.false_or, Bool.false_and]
  have e2 : fdQ lo hi n = dvQ lo hi n := by unfold fdQ; rw [e0, if_neg (by decide)]
  have e3 : fdR lo hi n = dvR lo hi n := by unfold fdR; rw [e0, if_neg (by decide)]
  rw [e1, e2, e3]
  clear e1 e2 e3 e0
  generalize dvQ lo hi n = Q at *
  generalize dvR lo hi n = R at *
  generalize dvOut lo hi n = o at *
  subst ho
  have t1 : (R != 0) = false := by simpa using hr
  replace hr := Lib.hid hr
  show Calls _ _ _ _ (Quiet (.tuple #[.int .i64 (Q), .int .i64 (R), .int .i64 0]) w)
  replace hd := Lib.hid hd
  replace hbx := Lib.hid hbx
  go_enter Tryz.func150, Tryz.ntmps150
  go_wp2_with fail
  refine (hd.out _).mono ?_
  rintro e w3 ⟨rfl, hb3⟩
  unfold tri
  simp only []
  have h3 := Lib.hid (hbx.out.below hb3)
  clear hb3
  go_wp2
  exact bodyPost_ret (v := .tuple #[.int .i64 (Q), .int .i64 (R), .int .i64 0]) (by simp [results, Tryz.results150, go_sem]) rfl ⟨rfl, h3.out.outN⟩
set_option maxHeartbeats 1000000 in
theorem c_fdiv_alike (lo hi n : Int) (ho : dvOut lo hi n = false) (hr : dvR lo hi n ≠ 0) (hx : ¬ bits .xor .i64 (dvR lo hi n) n < 0) (w : World) : Calls Tryz.prog 150 #[.agg #[.int .i64 lo, .int .i64 hi], .int .i64 n] w (Quiet (tri (fdOut lo hi n) (fdQ lo hi n) (fdR lo hi n)) w) := by
  have hd := fun w => c_div lo hi n w
  have hbx : On Nob w (AllA [BlkA w.heap.size 234 #[.int .i64 lo, .int .i64 hi]]) (w.alloc (.cells #[.int .i64 lo, .int .i64 hi] 234)) := (On.refl (A := AllA []) (F := Nob) (w := w) (fun _ h => h)).box _ _
  have e0 : fdOff lo hi n = false := by unfold fdOff; simp [hx]
  have e1 : fdOut lo hi n = false := by unfold fdOut; simp only [ho, e0, Bool.false_or, Bool.false_and]
  have e2 : fdQ lo hi n = dvQ lo hi n := by unfold fdQ; rw [e0, if_neg (by decide)]
  have e3 : fdR lo hi n = dvR lo hi n := by unfold fdR; rw [e0, if_neg (by decide)]
  rw [e1, e2, e3]
  clear e1 e2 e3 e0
  generalize dvQ lo hi n = Q at *
  generalize dvR lo hi n = R at *
  generalize dvOut lo hi n = o at *
  subst ho
  have t1 : (R != 0) = true := by simpa using hr
  have t2 : decide (bits .xor .i64 R n < 0) = false := decide_eq_false hx
  replace hr := Lib.hid hr
  replace hx := Lib.hid hx
  show Calls _ _ _ _ (Quiet (.tuple #[.int .i64 (Q), .int .i64 (R), .int .i64 0]) w)
  replace hd := Lib.hid hd
  replace hbx := Lib.hid hbx
  go_enter Tryz.func150, Tryz.ntmps150
  go_wp2_with fail
  refine (hd.out _).mono ?_
  rintro e w3 ⟨rfl, hb3⟩
  unfold tri
  simp only []
  have h3 := Lib.hid (hbx.out.below hb3)
  clear hb3
  go_wp2
  exact bodyPost_ret (v := .tuple #[.int .i64 (Q), .int .i64 (R), .int .i64 0]) (by simp [results, Tryz.results150, go_sem]) rfl ⟨rfl, h3.out.outN⟩
set_option maxHeartbeats 1000000 in
theorem c_fdiv_min (lo hi n : Int) (ho : dvOut lo hi n = false) (hr : dvR lo hi n ≠ 0) (hx : bits .xor .i64 (dvR lo hi n) n < 0) (hm : dvQ lo hi n = -9223372036854775808) (w : World) : Calls Tryz.prog 150 #[.agg #[.int .i64 lo, .int .i64 hi], .int .i64 n] w (Quiet (tri (fdOut lo hi n) (fdQ lo hi n) (fdR lo hi n)) w) := by
  have hd := fun w => c_div lo hi n w
  have hbx : On Nob w (AllA [BlkA w.heap.size 234 #[.int .i64 lo, .int .i64 hi]]) (w.alloc (.cells #[.int .i64 lo, .int .i64 hi] 234)) := (On.refl (A := AllA []) (F := Nob) (w := w) (fun _ h => h)).box _ _
  have e0 : fdOff lo hi n = true := by unfold fdOff; simp [hx, ho, hr]
  have e1 : fdOut lo hi n = true := by unfold fdOut; simp only [e0, decide_eq_true hm, Bool.and_self, Bool.or_true]
  rw [e1]
  generalize fdQ lo hi n = Q1
  generalize fdR lo hi n = R1
  clear e1 e0
  generalize dvQ lo hi n = Q at *
  generalize dvR lo hi n = R at *
  generalize dvOut lo hi n = o at *
  subst ho
  have t1 : (R != 0) = true := by simpa using hr
  have t2 : decide (bits .xor .i64 R n < 0) = true := decide_eq_true hx
  have t3 : (Q == -9223372036854775808) = true := by simpa using hm
  replace hr := Lib.hid hr
  replace hx := Lib.hid hx
  replace hm := Lib.hid hm
  show Calls _ _ _ _ (Quiet (.tuple #[.int .i64 0, .int .i64 0, .int .i64 7]) w)
  replace hd := Lib.hid hd
  replace hbx := Lib.hid hbx
  go_enter Tryz.func150, Tryz.ntmps150
  go_wp2_with fail
  refine (hd.out _).mono ?_
  rintro e w3 ⟨rfl, hb3⟩
  unfold tri
  simp only []
  have h3 := Lib.hid (hbx.out.below hb3)
  clear hb3
  go_wp2
  exact bodyPost_ret (v := .tuple #[.int .i64 0, .int .i64 0, .int .i64 7]) (by simp [results, Tryz.results150, go_sem]) rfl ⟨rfl, h3.out.outN⟩
set_option maxHeartbeats 1000000 in
theorem c_fdiv_off (lo hi n : Int) (ho : dvOut lo hi n = false) (hr : dvR lo hi n ≠ 0) (hx : bits .xor .i64 (dvR lo hi n) n < 0) (hm : dvQ lo hi n ≠ -9223372036854775808) (w : World) : Calls Tryz.prog 150 #[.agg #[.int .i64 lo, .int .i64 hi], .int .i64 n] w (Quiet (tri (fdOut lo hi n) (fdQ lo hi n) (fdR lo hi n)) w) := by
  have hd := fun w => c_div lo hi n w
  have hbx : On Nob w (AllA [BlkA w.heap.size 234 #[.int .i64 lo, .int .i64 hi]]) (w.alloc (.cells #[.int .i64 lo, .int .i64 hi] 234)) := (On.refl (A := AllA []) (F := Nob) (w := w) (fun _ h => h)).box _ _
  have e0 : fdOff lo hi n = true := by unfold fdOff; simp [hx, ho, hr]
  have e1 : fdOut lo hi n = false := by unfold fdOut; simp [ho, hm]
  have e2 : fdQ lo hi n = wrap64 (dvQ lo hi n - 1) := by unfold fdQ; rw [e0, if_pos rfl]
  have e3 : fdR lo hi n = wrap64 (dvR lo hi n + n) := by unfold fdR; rw [e0, if_pos rfl]
  rw [e1, e2, e3]
  clear e1 e2 e3 e0
  generalize dvQ lo hi n = Q at *
  generalize dvR lo hi n = R at *
  generalize dvOut lo hi n = o at *
  subst ho
  have t1 : (R != 0) = true := by simpa using hr
  have t2 : decide (bits .xor .i64 R n < 0) = true := decide_eq_true hx
  have t3 : (Q == -9223372036854775808) = false := by simpa using hm
  replace hr := Lib.hid hr
  replace hx := Lib.hid hx
  replace hm := Lib.hid hm
  show Calls _ _ _ _ (Quiet (.tuple #[.int .i64 (wrap64 (Q - 1)), .int .i64 (wrap64 (R + n)), .int .i64 0]) w)
  replace hd := Lib.hid hd
  replace hbx := Lib.hid hbx
  go_enter Tryz.func150, Tryz.ntmps150
  go_wp2_with fail
  refine (hd.out _).mono ?_
  rintro e w3 ⟨rfl, hb3⟩
  unfold tri
  simp only []
  have h3 := Lib.hid (hbx.out.below hb3)
  clear hb3
  go_wp2
  exact bodyPost_ret (v := .tuple #[.int .i64 (wrap64 (Q - 1)), .int .i64 (wrap64 (R + n)), .int .i64 0]) (by simp [results, Tryz.results150, go_sem]) rfl ⟨rfl, h3.out.outN⟩
theorem c_fdiv (lo hi n : Int) (w : World) : Calls Tryz.prog 150 #[.agg #[.int .i64 lo, .int .i64 hi], .int .i64 n] w (Quiet (tri (fdOut lo hi n) (fdQ lo hi n) (fdR lo hi n)) w) := by
  rcases ho : dvOut lo hi n with _ | _
  · by_cases hr : dvR lo hi n = 0
    · exact c_fdiv_zero lo hi n ho hr w
    · by_cases hx : bits .xor .i64 (dvR lo hi n) n < 0
      · by_cases hm : dvQ lo hi n = -9223372036854775808
        · exact c_fdiv_min lo hi n ho hr hx hm w
        · exact c_fdiv_off lo hi n ho hr hx hm w
      · exact c_fdiv_alike lo hi n ho hr hx w
  · exact c_fdiv_out lo hi n ho w
theorem c_sdiv (lo hi n : Int) (w : World) : Calls Tryz.prog 154 #[.agg #[.int .i64 lo, .int .i64 hi], .int .i64 n] w (Quiet (tri (dvOut lo hi n) (dvQ lo hi n) (dvR lo hi n)) w) := by
  have hd := fun w => c_div lo hi n w
  have hbx : On Nob w (AllA [BlkA w.heap.size 234 #[.int .i64 lo, .int .i64 hi]]) (w.alloc (.cells #[.int .i64 lo, .int .i64 hi] 234)) := (On.refl (A := AllA []) (F := Nob) (w := w) (fun _ h => h)).box _ _
  replace hbx := Lib.hid hbx
  generalize dvQ lo hi n = Q at *
  generalize dvR lo hi n = R at *
  generalize dvOut lo hi n = o at *
  replace hd := Lib.hid hd
  cases o with
  | true =>
    show Calls _ _ _ _ (Quiet (.tuple #[.int .i64 0, .int .i64 0, .int .i64 7]) w)
    go_enter Tryz.func154, Tryz.ntmps154
    go_wp2_with fail
    refine (hd.out _).mono ?_
    rintro e w3 ⟨rfl, hb3⟩
    unfold tri
    simp only []
    replace hb3 := Lib.hid hb3
    go_wp2
    exact bodyPost_ret (v := .tuple #[.int .i64 0, .int .i64 0, .int .i64 7]) (by simp [results, Tryz.results154, go_sem]) rfl ⟨rfl, (hbx.out.below hb3.out).outN⟩
  | false =>
    show Calls _ _ _ _ (Quiet (.tuple #[.int .i64 Q, .int .i64 R, .int .i64 0]) w)
    go_enter Tryz.func154, Tryz.ntmps154
    go_wp2_with fail
    refine (hd.out _).mono ?_
    rintro e w3 ⟨rfl, hb3⟩
    unfold tri
    simp only []
    replace hb3 := Lib.hid hb3
    go_wp2
    exact bodyPost_ret (v := .tuple #[.int .i64 Q, .int .i64 R, .int .i64 0]) (by simp [results, Tryz.results154, go_sem]) rfl ⟨rfl, (hbx.out.below hb3.out).outN⟩
end Vm
end Go.Proofs.YtjhdpmimccpcdaaGreatDoor
