/- Chapter 11: what every instruction asks ahead. Conditions: as written. -/
import Derived.Test.YtjhdpmimccpcdaaGreatDoorQ19
namespace Go.Proofs.YtjhdpmimccpcdaaGreatDoor
set_option linter.unusedVariables false
set_option maxRecDepth 100000
open Go.RowKit Go.Lib Go.Deep
namespace Vm
def Small (p : Int × Int) : Prop := 0 ≤ p.1 ∧ p.1 ≤ 4 ∧ 0 ≤ p.2 ∧ p.2 ≤ 4
theorem ite_p {α : Type} {P : α → Prop} {c : Prop} [Decidable c] {a b : α} (h1 : P a) (h2 : P b) : P (if c then a else b) := by split <;> assumption
theorem small_lit (a b : Int) (h : 0 ≤ a ∧ a ≤ 4 ∧ 0 ≤ b ∧ b ≤ 4) : Small (a, b) := h
theorem wants_le (op : Int) : 0 ≤ (Code.wants op).1 ∧ (Code.wants op).1 ≤ 4 ∧ 0 ≤ (Code.wants op).2 ∧ (Code.wants op).2 ≤ 4 := by
  show Small (Code.wants op)
  unfold Code.wants
  repeat' apply ite_p
  all_goals exact small_lit _ _ (by decide)
theorem returns_le (op arg : Int) (b : Bool) : 0 ≤ (returns op arg b).1 ∧ (returns op arg b).1 ≤ 4 ∧ 0 ≤ (returns op arg b).2 ∧ (returns op arg b).2 ≤ 4 := by
  show Small (returns op arg b)
  unfold returns
  repeat' apply ite_p
  all_goals exact small_lit _ _ (by decide)
theorem v_wants (op : Int) (w : World) : Calls Tryz.prog 106 #[.int .i64 op] w (Quiet (.tuple #[.int .i64 (Code.wants op).1, .int .i64 (Code.wants op).2]) w) := by
  rcases h : Code.inOps op with _ | _
  · refine (wants_out op h w).mono ?_
    rintro e w' ⟨rfl, rfl⟩
    refine ⟨?_, Below.refl _ _⟩
    have : Code.wants op = (0, 0) := by
      have h1 : op < 1 ∨ 106 < op := by unfold Code.inOps at h; simp at h; omega
      unfold Code.wants
      simp only [List.mem_cons, List.mem_nil_iff, or_false]
      repeat' rw [if_neg (by omega)]
    rw [this]
  · unfold Code.inOps at h
    simp at h
    obtain ⟨i, hi, rfl⟩ : ∃ i : Nat, i < 106 ∧ op = (i : Int) + 1 := ⟨(op - 1).toNat, by omega, by omega⟩
    refine (wants_in i hi w).mono ?_
    rintro e w' ⟨rfl, n, rfl⟩
    exact ⟨rfl, ((Kept.refl Nob _).drewN _).below0⟩
/-- a call that throws, in a region that draws its order: what would follow is not reached -/
theorem dead {P : Program} {f : FuncId} {args : Array Value} {w : World} {Q : Ending → World → Prop} {n : Int} (hc : Calls P f args w (Thrown n w)) (hp : Q (.panicked [flt n]) w)
    (hk : False → ∀ e w', e = .returned (.tuple #[]) → w' = w → Q e w') : Calls P f args w Q := hc.mono fun e w' h => by
  obtain ⟨rfl, rfl⟩ := h
  exact hp
structure Rn.Ok (x : Rn) : Prop where
  base : 0 ≤ x.base
  base2 : x.base ≤ 512
  next : V64 x.next
  pc : V64 x.pc
  left : 0 ≤ x.left
  left2 : x.left ≤ 1000000
section
variable {w w' : World} {F : Nat → Prop} {c : Vc} {g : Nat} {x : Rn} {src : Value} {s : Mt}
set_option maxHeartbeats 2000000 in
theorem v_asks (hb : (VA c g x src s).holds w F) (hs : s.Ok) (hx : x.Ok) (i : Inst) :
    Calls Tryz.prog 82 #[.pointer (some ⟨g, 0, none⟩), i.v] w (Got (tryE (asks i x s)) (VA c g x src s) F w) := by
  obtain ⟨op, arg, lit, cells⟩ := i
  show Calls _ _ #[_, .agg #[.int .i64 op, .int .i64 arg, .int .i64 lit, .int .i64 cells]] _ _
  have hon := ((On.refl hb).box #[.int .i64 op, .int .i64 arg, .int .i64 lit, .int .i64 cells] 178)
  have hw := wants_le op
  have hwa := fun w => v_wants op w
  obtain ⟨A, hA⟩ : ∃ A, asks ⟨op, arg, lit, cells⟩ x s = A := ⟨_, rfl⟩
  rw [hA]
  have hask := hA
  unfold asks at hask
  simp only at hask
  obtain ⟨⟨tk, ly⟩, htk⟩ : ∃ p, Code.wants op = p := ⟨_, rfl⟩
  rw [htk] at hw hwa hask
  simp only at hw hwa hask
  replace hask := Lib.hid hask
  replace hwa := Lib.hid hwa
  replace hon := Lib.hid hon
  have hrl := returns_le op arg s.same
  have htop := fun w1 (h1 : On F w (VA c g x src s) w1) => v_top h1 hs 0
  generalize s.top 0 = t0 at *
  replace htop := Lib.hid htop
  have hret := fun w1 (h1 : On F w (VA c g x src s) w1) => v_returns h1 hs ⟨op, arg, lit, cells⟩
  obtain ⟨⟨off, on⟩, hoo⟩ : ∃ p, returns op arg s.same = p := ⟨_, rfl⟩
  simp only [hoo] at hret hask hrl
  replace hret := Lib.hid hret
  clear hb hA htk hoo
  have hdle := hs.dle
  have hrle := hs.rle
  have hb1 := hx.base
  have hb2 := hx.base2
  replace hs := Lib.hid hs
  replace hx := Lib.hid hx
  go_enter Tryz.func82, Tryz.ntmps82
  go_wp2_with fail
  refine (hwa.out _).mono ?_
  rintro e w1 ⟨rfl, hb1⟩
  have hon1 := hon.out.below hb1
  have b0 : w1.cell? ⟨w.heap.size, 0, none⟩ = some (.int .i64 op) := (hon1.blkAt 0 rfl).cell 0
  have b1 : w1.cell? ⟨w.heap.size, 1, none⟩ = some (.int .i64 arg) := (hon1.blkAt 0 rfl).cell 1
  have b2 : w1.cell? ⟨w.heap.size, 2, none⟩ = some (.int .i64 lit) := (hon1.blkAt 0 rfl).cell 2
  have b3 : w1.cell? ⟨w.heap.size, 3, none⟩ = some (.int .i64 cells) := (hon1.blkAt 0 rfl).cell 3
  have r0 := hon1.tail.r0
  have r7 := hon1.tail.r7
  have m5 := hon1.tail.m5
  have m6 := hon1.tail.m6
  have hdep := k_depth hon1.tail.sd
  replace hon1 := Lib.hid hon1
  replace hdep := Lib.hid hdep
  clear hb1
  go_wp2_with fail
  refine hdep.out.mono ?_
  rintro e w2 ⟨rfl, rfl⟩
  by_cases k1 : tk ≤ (s.d : Int)
  rotate_left
  · have k1' : decide (tk ≤ (s.d : Int)) = false := decide_eq_false k1
    have hA1 : A = 1 := by rw [← hask.out]; rw [if_pos (by omega)]
    subst hA1
    clear k1
    go_wp2_with fail
    refine (must_no _ _).mono ?_
    rintro e w3 ⟨rfl, rfl⟩
    go_wp2
    exact ⟨rfl, rfl, hon1.out.tail⟩
  have k1' : decide (tk ≤ (s.d : Int)) = true := decide_eq_true k1
  go_wp2_with fail
  refine (must_ok _ _).mono ?_
  rintro e w3 ⟨rfl, rfl⟩
  go_wp2_with fail
  refine (hret.out _ hon1.out.tail).mono ?_
  rintro e w4 ⟨rfl, hb4⟩
  have hon4 := hon1.out.below hb4
  have b0 : w4.cell? ⟨w.heap.size, 0, none⟩ = some (.int .i64 op) := (hon4.blkAt 0 rfl).cell 0
  have r0 := hon4.tail.r0
  have r1 := hon4.tail.r1
  have r7 := hon4.tail.r7
  have m3 := hon4.tail.m3
  have m5 := hon4.tail.m5
  have m6 := hon4.tail.m6
  have hdep := k_depth hon4.tail.sd.drew
  have hdepR := k_depth hon4.tail.sr.drew
  replace hon4 := Lib.hid hon4
  replace hdep := Lib.hid hdep
  replace hdepR := Lib.hid hdepR
  clear hb4
  have hwr : IntKind.i64.wrap ((s.r : Int) - x.base) = (s.r : Int) - x.base := IntWalk.i64_in _ (by omega)
  by_cases k2 : off ≤ (s.r : Int) - x.base
  rotate_left
  · have k2' : decide (off ≤ IntKind.i64.wrap ((s.r : Int) - x.base)) = false := decide_eq_false (by rw [hwr]; exact k2)
    have hA1 : A = 3 := by rw [← hask.out]; rw [if_neg (by omega), if_pos (by omega)]
    subst hA1
    clear k2 hwr
    go_wp2_with fail
    go_region_held (fun w' => w'.cell? ⟨g, 0, none⟩ = some (.pointer (some ⟨c.gM, 0, none⟩)) ∧ w'.cell? ⟨c.gM, 6, none⟩ = some (.pointer (some ⟨c.gR, 0, none⟩)) ∧ w'.cell? ⟨g, 7, none⟩ = some (.int .i64 x.base)) (go_keep)
      ((first
        | (go_at_call 17; refine hdepR.out.mono ?_; rintro e w5 ⟨rfl, rfl⟩)
        | (go_at_call 107; refine dead (must_no _ _) ⟨rfl, rfl, hon4.out.tail.drew⟩ ?_; intro hF e w5 he hw; subst he; subst hw; replace hF := Lib.hid hF)))
    all_goals exact hF.out.elim
  have k2' : decide (off ≤ IntKind.i64.wrap ((s.r : Int) - x.base)) = true := decide_eq_true (by rw [hwr]; exact k2)
  clear hwr
  go_wp2_with fail
  go_region_held (fun w' => w'.cell? ⟨g, 0, none⟩ = some (.pointer (some ⟨c.gM, 0, none⟩)) ∧ w'.cell? ⟨c.gM, 6, none⟩ = some (.pointer (some ⟨c.gR, 0, none⟩)) ∧ w'.cell? ⟨g, 7, none⟩ = some (.int .i64 x.base)) (go_keep)
    ((first
      | (go_at_call 17; refine hdepR.out.mono ?_; rintro e w5 ⟨rfl, rfl⟩)
      | (go_at_call 107; refine (must_ok _ _).mono ?_; rintro e w5 ⟨rfl, rfl⟩)))
  clear k2'
  -- is it ?DUP over 0
  obtain ⟨q, hq⟩ : ∃ q : Bool, decide (op = 26 ∧ t0 = 0) = q := ⟨_, rfl⟩
  have hon5 := hon4.out.drew
  replace hon5 := Lib.hid hon5
  go_upto_region 5 with fail
  go_cut [55] (fun a wx => a = .bool q ∧ On F w (AllA (BlkA w.heap.size 178 #[.int .i64 op, .int .i64 arg, .int .i64 lit, .int .i64 cells] :: vL c g x src s)) wx)
  case first =>
    by_cases h26 : op = 26
    · have e1 : (op == 26) = true := by simpa using h26
      have e2 : (t0 == 0) = q := by rw [← hq]; simp [h26]; rfl
      clear hq h26
      replace e2 := Lib.hid e2
      go_wp2_with fail
      refine (htop.out _ hon5.out.tail).mono ?_
      rintro e w6 ⟨rfl, hb6⟩
      replace hb6 := Lib.hid hb6
      go_wp2_with fail
      go_meet
      exact ⟨by rw [e2.out], hon5.out.below hb6.out⟩
    · have e1 : (op == 26) = false := by simpa using h26
      have e2 : q = false := by rw [← hq]; simp [h26]
      subst e2
      clear hq h26
      go_wp2_with fail
      go_meet
      exact ⟨rfl, hon5.out⟩
  case rest =>
    obtain ⟨rfl, hon6⟩ := hcut
    obtain ⟨L, hL⟩ : ∃ L, (if op = 26 ∧ t0 = 0 then tk else ly) = L := ⟨_, rfl⟩
    have hask2 := hask.out
    rw [hL] at hask2
    have hLq : (if q then tk else ly) = L := by
      rw [← hL, ← hq]
      by_cases hh : op = 26 ∧ t0 = 0
      · simp [hh]
      · simp [hh]
    have hL0 : 0 ≤ L ∧ L ≤ 4 := by rw [← hLq]; split <;> omega
    clear hL hq hask
    replace hask := Lib.hid hask2
    replace hon6 := Lib.hid hon6
    clear hask2 hon5 hon4 hon1 hdep hdepR
    go_upto_if 55 with fail
    go_cut [5] (fun a wx => a = .int .i64 L ∧ On F w (AllA (BlkA w.heap.size 178 #[.int .i64 op, .int .i64 arg, .int .i64 lit, .int .i64 cells] :: vL c g x src s)) wx)
    case first =>
      cases q
      · obtain rfl : ly = L := by simpa using hLq
        go_wp2_with fail
        go_meet
        exact ⟨rfl, hon6.out⟩
      · obtain rfl : tk = L := by simpa using hLq
        go_wp2_with fail
        go_meet
        exact ⟨rfl, hon6.out⟩
    case rest =>
      obtain ⟨rfl, hon7⟩ := hcut
      clear hLq hon6
      have q0 : wc.cell? ⟨w.heap.size, 0, none⟩ = some (.int .i64 op) := (hon7.blkAt 0 rfl).cell 0
      have q00 := hon7.tail.r0
      have q1 := hon7.tail.r1
      have q3 := hon7.tail.m3
      have q5 := hon7.tail.m5
      have q6 := hon7.tail.m6
      have hdepD := k_depth hon7.tail.sd.drew
      have hdepR := k_depth hon7.tail.sr.drew.drew
      have hrooD := k_room hon7.tail.sd.drew
      have hrooR := k_room hon7.tail.sr.drew.drew
      obtain ⟨TF, hcr⟩ := hon7.drew.drew.tail.crep
      have hhas := fun w1 cc (h1 : CRep w1 c.gT s.T TF) => h1.has x.mode cc
      replace hon7 := Lib.hid hon7
      replace hdepD := Lib.hid hdepD
      replace hdepR := Lib.hid hdepR
      replace hrooD := Lib.hid hrooD
      replace hrooR := Lib.hid hrooR
      replace hhas := Lib.hid hhas
      replace hcr := Lib.hid hcr
      have hrmD := hs.out.pd.rm
      have hrmR := hs.out.pr.rm
      have w1 : IntKind.i64.wrap (IntKind.i64.wrap ((s.d : Int) - tk) + L) = (s.d : Int) - tk + L := by rw [IntWalk.i64_in ((s.d : Int) - tk) (by omega), IntWalk.i64_in _ (by omega)]
      have w2 : IntKind.i64.wrap (IntKind.i64.wrap ((s.r : Int) - off) + on) = (s.r : Int) - off + on := by rw [IntWalk.i64_in ((s.r : Int) - off) (by omega), IntWalk.i64_in _ (by omega)]
      by_cases k3 : (s.d : Int) - tk + L ≤ (s.pd.rm : Int)
      rotate_left
      · have k3' : decide (IntKind.i64.wrap (IntKind.i64.wrap ((s.d : Int) - tk) + L) ≤ (s.pd.rm : Int)) = false := decide_eq_false (by rw [w1]; exact k3)
        have hA1 : A = 2 := by rw [← hask.out]; rw [if_neg (by omega), if_neg (by omega), if_pos (by omega)]
        subst hA1
        clear k3 w1 w2
        go_wp2_with fail
        go_region_held (fun w' => w'.cell? ⟨g, 0, none⟩ = some (.pointer (some ⟨c.gM, 0, none⟩)) ∧ w'.cell? ⟨c.gM, 5, none⟩ = some (.pointer (some ⟨c.gD, 0, none⟩))) (go_keep)
          ((first
            | (go_at_call 17; refine hdepD.out.mono ?_; rintro e w5 ⟨rfl, rfl⟩)
            | (go_at_call 110; refine hrooD.out.mono ?_; rintro e w5 ⟨rfl, rfl⟩)
            | (go_at_call 107; refine dead (must_no _ _) ⟨rfl, rfl, hon7.out.tail.drew⟩ ?_; intro hF e w5 he hw; subst he; subst hw; replace hF := Lib.hid hF)))
        all_goals exact hF.out.elim
      have k3' : decide (IntKind.i64.wrap (IntKind.i64.wrap ((s.d : Int) - tk) + L) ≤ (s.pd.rm : Int)) = true := decide_eq_true (by rw [w1]; exact k3)
      replace w2 := Lib.hid w2
      clear w1
      go_wp2_with fail
      go_region_held (fun w' => w'.cell? ⟨g, 0, none⟩ = some (.pointer (some ⟨c.gM, 0, none⟩)) ∧ w'.cell? ⟨c.gM, 5, none⟩ = some (.pointer (some ⟨c.gD, 0, none⟩))) (go_keep)
        ((first
          | (go_at_call 17; refine hdepD.out.mono ?_; rintro e w5 ⟨rfl, rfl⟩)
          | (go_at_call 110; refine hrooD.out.mono ?_; rintro e w5 ⟨rfl, rfl⟩)
          | (go_at_call 107; refine (must_ok _ _).mono ?_; rintro e w5 ⟨rfl, rfl⟩)))
      clear k3'
      by_cases k4 : (s.r : Int) - off + on ≤ (s.pr.rm : Int)
      rotate_left
      · have k4' : decide (IntKind.i64.wrap (IntKind.i64.wrap ((s.r : Int) - off) + on) ≤ (s.pr.rm : Int)) = false := decide_eq_false (by rw [w2.out]; exact k4)
        have hA1 : A = 4 := by rw [← hask.out]; rw [if_neg (by omega), if_neg (by omega), if_neg (by omega), if_pos (by omega)]
        subst hA1
        clear k4 w2
        go_wp2_with fail
        go_region_held (fun w' => w'.cell? ⟨g, 0, none⟩ = some (.pointer (some ⟨c.gM, 0, none⟩)) ∧ w'.cell? ⟨c.gM, 6, none⟩ = some (.pointer (some ⟨c.gR, 0, none⟩))) (go_keep)
          ((first
            | (go_at_call 17; refine hdepR.out.mono ?_; rintro e w5 ⟨rfl, rfl⟩)
            | (go_at_call 110; refine hrooR.out.mono ?_; rintro e w5 ⟨rfl, rfl⟩)
            | (go_at_call 107; refine dead (must_no _ _) ⟨rfl, rfl, hon7.out.tail.drew.drew⟩ ?_; intro hF e w5 he hw; subst he; subst hw; replace hF := Lib.hid hF)))
        all_goals exact hF.out.elim
      have k4' : decide (IntKind.i64.wrap (IntKind.i64.wrap ((s.r : Int) - off) + on) ≤ (s.pr.rm : Int)) = true := decide_eq_true (by rw [w2.out]; exact k4)
      clear w2
      go_wp2_with fail
      go_region_held (fun w' => w'.cell? ⟨g, 0, none⟩ = some (.pointer (some ⟨c.gM, 0, none⟩)) ∧ w'.cell? ⟨c.gM, 6, none⟩ = some (.pointer (some ⟨c.gR, 0, none⟩))) (go_keep)
        ((first
          | (go_at_call 17; refine hdepR.out.mono ?_; rintro e w5 ⟨rfl, rfl⟩)
          | (go_at_call 110; refine hrooR.out.mono ?_; rintro e w5 ⟨rfl, rfl⟩)
          | (go_at_call 107; refine (must_ok _ _).mono ?_; rintro e w5 ⟨rfl, rfl⟩)))
      clear k4'
      go_wp2_with fail
      refine (v_needs op _).mono ?_
      rintro e w5 ⟨rfl, rfl⟩
      have hA1 : (if needs op ≠ 0 ∧ Caps.has s.T.pupil x.mode (needs op) = false then 11 else 0) = A := by
        have h := hask.out
        rw [if_neg (by omega), if_neg (by omega), if_neg (by omega), if_neg (by omega)] at h
        exact h
      clear hask k1 k2 k3 k4
      generalize needs op = nd at *
      by_cases k5 : nd = 0
      · have e1 : (nd == 0) = true := by simpa using k5
        have e2 : (nd != 0) = false := by simpa using k5
        have hA2 : A = 0 := by rw [← hA1, if_neg (by simp [k5])]
        subst hA2
        clear k5 hA1
        go_wp2
        go_end0
        exact ⟨rfl, hon7.out.tail.drew.drew⟩
      · have e1 : (nd == 0) = false := by simpa using k5
        have e2 : (nd != 0) = true := by simpa using k5
        have hh := hhas.out wc.drew.drew.drew nd ((TabA c.gT s.T).kept hcr.out ((Kept.refl Nob _).drew) (fun _ _ h => h))
        rcases hcp : Caps.has s.T.pupil x.mode nd with _ | _
        · have hA2 : A = 11 := by rw [← hA1, if_pos ⟨k5, hcp⟩]
          rw [hcp] at hh
          subst hA2
          replace hh := Lib.hid hh
          clear k5 hA1 hcp
          go_wp2_with fail
          go_region_held (fun w' => w'.cell? ⟨g, 0, none⟩ = some (.pointer (some ⟨c.gM, 0, none⟩)) ∧ w'.cell? ⟨c.gM, 3, none⟩ = some (.pointer (some ⟨c.gT, 0, none⟩)) ∧ w'.cell? ⟨g, 1, none⟩ = some (.int .i64 x.mode)) (go_keep)
            ((first
              | (go_at_call 112; refine hh.out.mono ?_; rintro e w5 ⟨rfl, rfl⟩)
              | (go_at_call 107; refine dead (must_no _ _) ⟨rfl, rfl, hon7.out.tail.drew.drew.drew⟩ ?_; intro hF e w5 he hw; subst he; subst hw; replace hF := Lib.hid hF)))
          all_goals exact hF.out.elim
        · have hA2 : A = 0 := by rw [← hA1, if_neg (by rintro ⟨_, h⟩; rw [hcp] at h; cases h)]
          rw [hcp] at hh
          subst hA2
          replace hh := Lib.hid hh
          clear k5 hA1 hcp
          go_wp2_with fail
          go_region_held (fun w' => w'.cell? ⟨g, 0, none⟩ = some (.pointer (some ⟨c.gM, 0, none⟩)) ∧ w'.cell? ⟨c.gM, 3, none⟩ = some (.pointer (some ⟨c.gT, 0, none⟩)) ∧ w'.cell? ⟨g, 1, none⟩ = some (.int .i64 x.mode)) (go_keep)
            ((first
              | (go_at_call 112; refine hh.out.mono ?_; rintro e w5 ⟨rfl, rfl⟩)
              | (go_at_call 107; refine (must_ok _ _).mono ?_; rintro e w5 ⟨rfl, rfl⟩)))
          go_wp2
          go_end0
          exact ⟨rfl, hon7.out.tail.drew.drew.drew⟩
end
end Vm
end Go.Proofs.YtjhdpmimccpcdaaGreatDoor
