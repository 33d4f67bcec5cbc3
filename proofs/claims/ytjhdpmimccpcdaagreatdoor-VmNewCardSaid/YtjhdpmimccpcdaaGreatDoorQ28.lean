/- Chapter 11: a machine's Run. Conditions: as written. -/
import Derived.Test.YtjhdpmimccpcdaaGreatDoorQVPlay
namespace Go.Proofs.YtjhdpmimccpcdaaGreatDoor
set_option linter.unusedVariables false
set_option maxRecDepth 100000
open Go.RowKit Go.Lib Go.Deep
namespace Vm
/-- a machine, and all that it works on -/
def mL (c : Vc) (s : Mt) : List Asr := MachA c s :: ImgA c.gI s.S :: StkA c.gI c.gD s.pd s.d :: StkA c.gI c.gR s.pr s.r :: TabA c.gT s.T :: DictA c.gI c.gS c.sfr c.sto s.hs s.ls :: DictA c.gI c.gK c.kfr c.kto s.hk s.lk :: c.tl s.seen :: c.rest
theorem vL_eq (c : Vc) (g : Nat) (x : Rn) (src : Value) (s : Mt) : vL c g x src s = RunA c g x src :: mL c s := rfl
def clip (fuel : Int) : Int := max 0 (min fuel 1000000)
def Rn.start (mode fuel : Int) : Rn := ⟨mode, clip fuel, 0, 0, false, false, 0⟩
theorem start_ok (mode fuel : Int) : (Rn.start mode fuel).Ok := by
  have h : 0 ≤ clip fuel ∧ clip fuel ≤ 1000000 := by unfold clip; omega
  exact ⟨by show (0 : Int) ≤ 0; omega, by show (0 : Int) ≤ 512; omega, by show V64 0; unfold V64; omega, by show V64 0; unfold V64; omega, h.1, h.2⟩
/-- all stays well -/
theorem goesS_ok : ∀ (n : Nat) (x : Rn) (s : Mt) (q : Rs), s.Ok → x.Ok → goesS n x s = some q → q.s.Ok ∧ (0 ≤ q.x.left ∧ q.x.left ≤ x.left) ∧ q.s.tells = s.tells
  | 0, _, _, _, _, _, h => by cases h
  | n + 1, x, s, q, hs, hx, h => by
    unfold goesS at h
    have h1 := hx.left
    have h2 := hx.left2
    have hst : ∀ r, stepS x s = some r → r.s.Ok ∧ (0 ≤ r.x.left ∧ r.x.left ≤ x.left) ∧ r.s.tells = s.tells ∧ (r.f = 0 → r.x.Ok) := by
      intro r hr
      unfold stepS at hr
      by_cases hl : x.left = 0
      · rw [if_pos hl] at hr
        obtain rfl := Option.some.inj hr
        exact ⟨hs, ⟨h1, Int.le_refl _⟩, rfl, fun h => by cases h⟩
      rw [if_neg hl] at hr
      by_cases hf : (s.S.fetch x.mode x.pc).2 ≠ 0
      · rw [if_pos hf] at hr
        obtain rfl := Option.some.inj hr
        exact ⟨hs, ⟨by show 0 ≤ x.left - 1; omega, by show x.left - 1 ≤ x.left; omega⟩, rfl, fun h => absurd h hf⟩
      rw [if_neg hf] at hr
      have hx2 : ({ x with left := x.left - 1, next := wrap64 (x.pc + 8 * (s.S.fetch x.mode x.pc).1.cells) } : Rn).Ok :=
        ⟨hx.base, hx.base2, wrap_v64 _, hx.pc, by show 0 ≤ x.left - 1; omega, by show x.left - 1 ≤ 1000000; omega⟩
      simp only at hr
      generalize (s.S.fetch x.mode x.pc).1 = i at *
      have hl2 : ({ x with left := x.left - 1, next := wrap64 (x.pc + 8 * i.cells) } : Rn).left = x.left - 1 := rfl
      generalize ({ x with left := x.left - 1, next := wrap64 (x.pc + 8 * i.cells) } : Rn) = x2 at *
      by_cases ha : asks i x2 s ≠ 0
      · rw [if_pos ha] at hr
        obtain rfl := Option.some.inj hr
        exact ⟨hs, ⟨by show 0 ≤ x2.left; omega, by show x2.left ≤ x.left; omega⟩, rfl, fun h => absurd h ha⟩
      rw [if_neg ha] at hr
      rcases hp : parts i with _ | Q
      · rw [hp] at hr; cases hr
      rw [hp] at hr
      obtain ⟨_, hke⟩ := parts_ok i Q hp
      obtain ⟨hs3, hx3, ht3, hl3, _⟩ := hke x2 s hs hx2 (Asked.of (by simpa using ha))
      simp only [Option.map_some] at hr
      generalize Q x2 s = R at *
      by_cases hR : R.f ≠ 0
      · rw [if_pos hR] at hr
        obtain rfl := Option.some.inj hr
        exact ⟨hs3, ⟨by omega, by omega⟩, ht3, fun h => absurd h hR⟩
      rw [if_neg hR] at hr
      obtain rfl := Option.some.inj hr
      refine ⟨told_ok hs3 _ _, ⟨by show 0 ≤ R.x.left; omega, by show R.x.left ≤ x.left; omega⟩, ?_, fun _ => ⟨hx3.base, hx3.base2, hx3.next, hx3.next, hx3.left, hx3.left2⟩⟩
      show (R.s.told R.x i.op).tells = s.tells
      unfold Mt.told
      split <;> exact ht3
    rcases hr : stepS x s with _ | r
    · rw [hr] at h; cases h
    rw [hr] at h
    obtain ⟨a1, a2, a3, a4⟩ := hst r hr
    simp only at h
    by_cases hf : r.f ≠ 0
    · rw [if_pos hf] at h
      obtain rfl := Option.some.inj h
      exact ⟨a1, a2, a3⟩
    rw [if_neg hf] at h
    by_cases ho : r.x.over = true
    · rw [if_pos ho] at h
      obtain rfl := Option.some.inj h
      exact ⟨a1, a2, a3⟩
    rw [if_neg ho] at h
    obtain ⟨c1, c2, c3⟩ := goesS_ok n r.x r.s q a1 (a4 (by simpa using hf)) h
    exact ⟨c1, ⟨c2.1, by omega⟩, c3.trans a3⟩
section
variable {w w' : World} {F : Nat → Prop} {c : Vc} {s : Mt}
set_option maxHeartbeats 1000000 in
theorem v_run (hb : (AllA (mL c s)).holds w F) (hs : s.Ok) (htell : TellOk c s.tells) (mode xt fuel : Int) (hxt : V64 xt) (sp : Option Addr) (hroom : 1 ≤ s.pr.rm - s.r) (hsn : s.seen.length ≤ 900000000) (q : Rs)
    (hq : goesS ((clip fuel).toNat + 1) { Rn.start mode fuel with pc := xt } (s.pushR [0]) = some q) :
    Calls Tryz.prog 20 #[.pointer (some ⟨c.gM, 0, none⟩), .int .i64 mode, .int .i64 xt, .int .i64 fuel, .pointer sp] w (Got (.returned (.tuple #[.int .i64 q.f, .int .i64 (clip fuel - q.x.left)])) (AllA (mL c q.s)) F w) := by
  have hon := (On.refl hb).box (runC c (Rn.start mode fuel) (.pointer sp)) 121
  have hok : (Rn.start mode fuel).Ok := start_ok mode fuel
  have hq' : goesS ((Rn.start mode fuel).left.toNat + 1) { Rn.start mode fuel with pc := xt } (s.pushR [0]) = some q := hq
  have hbd := (goesS_ok _ { Rn.start mode fuel with pc := xt } _ _ (pushR_ok hs [0] hroom) ⟨hok.base, hok.base2, hok.next, hxt, hok.left, hok.left2⟩ hq).2.1
  have hcl : 0 ≤ clip fuel ∧ clip fuel ≤ 1000000 := by unfold clip; omega
  have hbd2 : q.x.left ≤ clip fuel := hbd.2
  have hbd1 := hbd.1
  have hpl := On.callG (A := AllA (RunA c w.heap.size (Rn.start mode fuel) (.pointer sp) :: mL c s)) hon (fun F' hb' => v_play (c := c) (g := w.heap.size) (x := Rn.start mode fuel) (src := (.pointer sp)) (s := s) hb' hs hok xt hxt q hq' hroom htell (by have h2 := hok.left2; omega))
  have hr : runC c (Rn.start mode fuel) (.pointer sp) = #[.pointer (some ⟨c.gM, 0, none⟩), .int .i64 mode, .int .i64 (clip fuel), .int .i64 0, .int .i64 0, .bool false, .bool false, .int .i64 0, .pointer sp] := rfl
  rw [hr] at hpl
  have hmm : max 0 (min fuel 1000000) = clip fuel := rfl
  replace hpl := Lib.hid hpl
  clear hb hon hbd hq hq' hr hok hs htell
  generalize clip fuel = L at *
  go_enter Tryz.func20, Tryz.ntmps20
  go_wp2_with fail
  refine hpl.out.mono ?_
  rintro e w1 ⟨rfl, h⟩
  have c2 : w1.cell? ⟨w.heap.size, 2, none⟩ = some (.int .i64 q.x.left) := (h.blkAt 0 rfl).cell 2
  replace h := Lib.hid h
  go_wp2_with fail
  go_quiet (fail)
  go_wp2
  go_ret2
  exact ⟨rfl, h.out.tail.drewN _⟩
end
end Vm
end Go.Proofs.YtjhdpmimccpcdaaGreatDoor
/- Chapters 4, 8, 10, 11: what is made: stacks, wordlists, a turtle. Conditions: as written. -/
namespace Go.Proofs.YtjhdpmimccpcdaaGreatDoor
set_option linter.unusedVariables false
set_option maxRecDepth 100000
open Go.RowKit Go.Lib Go.Deep
namespace Vm
section
variable {w w' : World} {F : Nat → Prop} {gI gb : Nat} {S : Img}
/-- where the stacks lie in an image -/
def pdOf (S : Img) : Pl := ⟨S.beg 4, S.d / 8, 1, 2⟩
def prOf (S : Img) : Pl := ⟨S.beg 5, S.r / 8, 3, 4⟩
def MadeStk (gI : Nat) (p : Pl) (e : Ending) (B : Asr) : Prop := ∃ g, e = .returned (.tuple #[.pointer (some ⟨g, 0, none⟩), .int .i64 0]) ∧ B = StkA gI g p 0
theorem new_post {g : Nat} {t : TypeId} {cs : Array Value} (hb : Blk w' g t cs) (hk : Kept Nob w w') (hg : w.heap.size ≤ g) : On Nob w (BlkA g t cs) w' :=
  ⟨fun k => k = g, ⟨hb, fun _ => Iff.rfl⟩, hk, fun k h => .inr (by rw [h]; exact hg)⟩
theorem n_stackD (hi : IRep w gI gb S) (hd : S.d ≤ 4096) : Calls Tryz.prog 50 #[.pointer (some ⟨gI, 0, none⟩), .int .i64 4] w (PostE (MadeStk gI (pdOf S)) Nob w) := by
  have hbx := (On.refl (A := AllA []) (F := Nob) (w := w) (fun _ h => h)).box (stkC gI ⟨0, 0, 1, 2⟩ 0) 113
  have hsp := i_span (w := w.alloc (.cells (stkC gI ⟨0, 0, 1, 2⟩ 0) 113)) ⟨hi.blk.alloc _, hi.row.alloc _, hi.ok⟩ 4 (by omega) (by omega)
  have e5 : S.beg (4 + 1) = S.beg 4 + S.d := by simp [Img.beg]
  have hsm : S.beg 4 ≤ 143360 := Nat.le_trans (S.beg_mono (by omega) (by omega) (by omega)) hi.ok.small
  rw [e5] at hsp
  have hp : pdOf S = ⟨S.beg 4, S.d / 8, 1, 2⟩ := rfl
  rw [hp]
  generalize S.beg 4 = b at *
  generalize S.d = d at *
  have hst : stkC gI ⟨0, 0, 1, 2⟩ 0 = #[.pointer (some ⟨gI, 0, none⟩), .int .i64 0, .int .i64 0, .int .i64 0, .int .i64 1, .int .i64 2] := rfl
  rw [hst] at hsp hbx
  replace hsp := Lib.hid hsp
  replace hbx := Lib.hid hbx
  clear hi hp hst e5
  go_enter Tryz.func50, Tryz.ntmps50
  go_wp2_with fail
  refine hsp.out.mono ?_
  rintro e w1 ⟨rfl, n, rfl⟩
  have hon := hbx.out.drewN n
  have f1 := (hon.blkAt 0 rfl).frozen 1
  have f2 := (hon.blkAt 0 rfl).frozen 2
  have c1 : ((w.alloc (.cells #[.pointer (some ⟨gI, 0, none⟩), .int .i64 0, .int .i64 0, .int .i64 0, .int .i64 1, .int .i64 2] 113)).drewN n).cell? ⟨w.heap.size, 1, none⟩ = some (.int .i64 0) := (hon.blkAt 0 rfl).cell 1
  have c2 : ((w.alloc (.cells #[.pointer (some ⟨gI, 0, none⟩), .int .i64 0, .int .i64 0, .int .i64 0, .int .i64 1, .int .i64 2] 113)).drewN n).cell? ⟨w.heap.size, 2, none⟩ = some (.int .i64 0) := (hon.blkAt 0 rfl).cell 2
  have hq : ((b : Int) + (d : Int) - (b : Int)) / 8 = ((d / 8 : Nat) : Int) := by omega
  have hcs : ((#[.pointer (some ⟨gI, 0, none⟩), .int .i64 0, .int .i64 0, .int .i64 0, .int .i64 1, .int .i64 2] : Array Value).setIfInBounds 1 (.int .i64 (b : Int))).setIfInBounds 2 (.int .i64 (((b : Int) + (d : Int) - (b : Int)) / 8)) = stkC gI ⟨b, d / 8, 1, 2⟩ 0 := by rw [hq]; rfl
  have hfin2 : On Nob w (AllA [BlkA w.heap.size 113 (((#[.pointer (some ⟨gI, 0, none⟩), .int .i64 0, .int .i64 0, .int .i64 0, .int .i64 1, .int .i64 2] : Array Value).setIfInBounds 1 (.int .i64 (b : Int))).setIfInBounds 2 (.int .i64 (((b : Int) + (d : Int) - (b : Int)) / 8)))]) _ := (hon.setAt 0 rfl 1 (.int .i64 (b : Int))).setAt 0 rfl 2 (.int .i64 (((b : Int) + (d : Int) - (b : Int)) / 8))
  rw [hcs] at hfin2
  replace hfin2 := Lib.hid hfin2
  clear hon hq hcs
  go_wp2
  go_ret2
  exact ⟨_, ⟨w.heap.size, rfl, rfl⟩, hfin2.out.ofOne⟩
theorem n_stackR (hi : IRep w gI gb S) (hd : S.r ≤ 4096) : Calls Tryz.prog 50 #[.pointer (some ⟨gI, 0, none⟩), .int .i64 5] w (PostE (MadeStk gI (prOf S)) Nob w) := by
  have hbx := (On.refl (A := AllA []) (F := Nob) (w := w) (fun _ h => h)).box (stkC gI ⟨0, 0, 3, 4⟩ 0) 113
  have hsp := i_span (w := w.alloc (.cells (stkC gI ⟨0, 0, 3, 4⟩ 0) 113)) ⟨hi.blk.alloc _, hi.row.alloc _, hi.ok⟩ 5 (by omega) (by omega)
  have e5 : S.beg (5 + 1) = S.beg 5 + S.r := by simp [Img.beg]
  have hsm : S.beg 5 ≤ 143360 := Nat.le_trans (S.beg_mono (by omega) (by omega) (by omega)) hi.ok.small
  rw [e5] at hsp
  have hp : prOf S = ⟨S.beg 5, S.r / 8, 3, 4⟩ := rfl
  rw [hp]
  generalize S.beg 5 = b at *
  generalize S.r = d at *
  have hst : stkC gI ⟨0, 0, 3, 4⟩ 0 = #[.pointer (some ⟨gI, 0, none⟩), .int .i64 0, .int .i64 0, .int .i64 0, .int .i64 3, .int .i64 4] := rfl
  rw [hst] at hsp hbx
  replace hsp := Lib.hid hsp
  replace hbx := Lib.hid hbx
  clear hi hp hst e5
  go_enter Tryz.func50, Tryz.ntmps50
  go_wp2_with fail
  refine hsp.out.mono ?_
  rintro e w1 ⟨rfl, n, rfl⟩
  have hon := hbx.out.drewN n
  have f1 := (hon.blkAt 0 rfl).frozen 1
  have f2 := (hon.blkAt 0 rfl).frozen 2
  have c1 : ((w.alloc (.cells #[.pointer (some ⟨gI, 0, none⟩), .int .i64 0, .int .i64 0, .int .i64 0, .int .i64 3, .int .i64 4] 113)).drewN n).cell? ⟨w.heap.size, 1, none⟩ = some (.int .i64 0) := (hon.blkAt 0 rfl).cell 1
  have c2 : ((w.alloc (.cells #[.pointer (some ⟨gI, 0, none⟩), .int .i64 0, .int .i64 0, .int .i64 0, .int .i64 3, .int .i64 4] 113)).drewN n).cell? ⟨w.heap.size, 2, none⟩ = some (.int .i64 0) := (hon.blkAt 0 rfl).cell 2
  have hq : ((b : Int) + (d : Int) - (b : Int)) / 8 = ((d / 8 : Nat) : Int) := by omega
  have hcs : ((#[.pointer (some ⟨gI, 0, none⟩), .int .i64 0, .int .i64 0, .int .i64 0, .int .i64 3, .int .i64 4] : Array Value).setIfInBounds 1 (.int .i64 (b : Int))).setIfInBounds 2 (.int .i64 (((b : Int) + (d : Int) - (b : Int)) / 8)) = stkC gI ⟨b, d / 8, 3, 4⟩ 0 := by rw [hq]; rfl
  have hfin2 : On Nob w (AllA [BlkA w.heap.size 113 (((#[.pointer (some ⟨gI, 0, none⟩), .int .i64 0, .int .i64 0, .int .i64 0, .int .i64 3, .int .i64 4] : Array Value).setIfInBounds 1 (.int .i64 (b : Int))).setIfInBounds 2 (.int .i64 (((b : Int) + (d : Int) - (b : Int)) / 8)))]) _ := (hon.setAt 0 rfl 1 (.int .i64 (b : Int))).setAt 0 rfl 2 (.int .i64 (((b : Int) + (d : Int) - (b : Int)) / 8))
  rw [hcs] at hfin2
  replace hfin2 := Lib.hid hfin2
  clear hon hq hcs
  go_wp2
  go_ret2
  exact ⟨_, ⟨w.heap.size, rfl, rfl⟩, hfin2.out.ofOne⟩
end
end Vm
end Go.Proofs.YtjhdpmimccpcdaaGreatDoor
