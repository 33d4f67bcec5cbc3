/- Chapter 11: a machine's Run. Conditions: as written. -/
import Derived.Test.YtjhdpmimccpcdaaGreatDoorQVPlay
import Derived.Test.YtjhdpmimccpcdaaGreatDoorQ25
namespace Go.Proofs.YtjhdpmimccpcdaaGreatDoor
set_option linter.unusedVariables false
set_option maxRecDepth 100000
open Go.RowKit Go.Lib Go.Deep
namespace Vm
def clip (fuel : Int) : Int := max 0 (min fuel 1000000)
def Rn.start (mode fuel : Int) : Rn := ⟨mode, clip fuel, 0, 0, false, false, 0⟩
theorem start_ok (mode fuel : Int) : (Rn.start mode fuel).Ok := by
  have h : 0 ≤ clip fuel ∧ clip fuel ≤ 1000000 := by unfold clip; omega
  exact ⟨by show (0 : Int) ≤ 0; omega, by show (0 : Int) ≤ 512; omega, by show V64 0; unfold V64; omega, by show V64 0; unfold V64; omega, h.1, h.2⟩
/-- all stays well -/
theorem goesS_ok : ∀ (n : Nat) (x : Rn) (s : Mt) (q : Rs), s.Ok → x.Ok → goesS n x s = some q → q.s.Ok ∧ (0 ≤ q.x.left ∧ q.x.left ≤ x.left) ∧ q.s.tells = s.tells
  | 0, _, _, _, _, _, h => by cases h
  | n + 1, x, s, q, hs, hx, h => by
    unfold goesS at h
    have h1 := hx.left
    have h2 := hx.left2
    have hst : ∀ r, stepS x s = some r → r.s.Ok ∧ (0 ≤ r.x.left ∧ r.x.left ≤ x.left) ∧ r.s.tells = s.tells ∧ (r.f = 0 → r.x.Ok) := by
      intro r hr
      unfold stepS at hr
      by_cases hl : x.left = 0
      · rw [if_pos hl] at hr
        obtain rfl := Option.some.inj hr
        exact ⟨hs, ⟨h1, Int.le_refl _⟩, rfl, fun h => by cases h⟩
      rw [if_neg hl] at hr
      by_cases hf : (s.S.fetch x.mode x.pc).2 ≠ 0
      · rw [if_pos hf] at hr
        obtain rfl := Option.some.inj hr
        exact ⟨hs, ⟨by show 0 ≤ x.left - 1; omega, by show x.left - 1 ≤ x.left; omega⟩, rfl, fun h => absurd h hf⟩
      rw [if_neg hf] at hr
      have hx2 : ({ x with left := x.left - 1, next := wrap64 (x.pc + 8 * (s.S.fetch x.mode x.pc).1.cells) } : Rn).Ok :=
        ⟨hx.base, hx.base2, wrap_v64 _, hx.pc, by show 0 ≤ x.left - 1; omega, by show x.left - 1 ≤ 1000000; omega⟩
      simp only at hr
      have hfv := fetch_v64 s.S x.mode x.pc
      generalize (s.S.fetch x.mode x.pc).1 = i at *
      have hl2 : ({ x with left := x.left - 1, next := wrap64 (x.pc + 8 * i.cells) } : Rn).left = x.left - 1 := rfl
      generalize ({ x with left := x.left - 1, next := wrap64 (x.pc + 8 * i.cells) } : Rn) = x2 at *
      by_cases ha : asks i x2 s ≠ 0
      · rw [if_pos ha] at hr
        obtain rfl := Option.some.inj hr
        exact ⟨hs, ⟨by show 0 ≤ x2.left; omega, by show x2.left ≤ x.left; omega⟩, rfl, fun h => absurd h ha⟩
      rw [if_neg ha] at hr
      rcases hp : parts i with _ | Q
      · rw [hp] at hr; cases hr
      rw [hp] at hr
      obtain ⟨_, hke⟩ := parts_ok i Q hp
      obtain ⟨hs3, hx3, ht3, hl3, _⟩ := hke x2 s hs hx2 hfv.1 hfv.2.1 (Asked.of (by simpa using ha))
      simp only [Option.map_some] at hr
      generalize Q x2 s = R at *
      by_cases hR : R.f ≠ 0
      · rw [if_pos hR] at hr
        obtain rfl := Option.some.inj hr
        exact ⟨hs3, ⟨by omega, by omega⟩, ht3, fun h => absurd h hR⟩
      rw [if_neg hR] at hr
      obtain rfl := Option.some.inj hr
      refine ⟨told_ok hs3 _ _, ⟨by show 0 ≤ R.x.left; omega, by show R.x.left ≤ x.left; omega⟩, ?_, fun _ => ⟨hx3.base, hx3.base2, hx3.next, hx3.next, hx3.left, hx3.left2⟩⟩
      show (R.s.told R.x i.op).tells = s.tells
      unfold Mt.told
      split <;> exact ht3
    rcases hr : stepS x s with _ | r
    · rw [hr] at h; cases h
    rw [hr] at h
    obtain ⟨a1, a2, a3, a4⟩ := hst r hr
    simp only at h
    by_cases hf : r.f ≠ 0
    · rw [if_pos hf] at h
      obtain rfl := Option.some.inj h
      exact ⟨a1, a2, a3⟩
    rw [if_neg hf] at h
    by_cases ho : r.x.over = true
    · rw [if_pos ho] at h
      obtain rfl := Option.some.inj h
      exact ⟨a1, a2, a3⟩
    rw [if_neg ho] at h
    obtain ⟨c1, c2, c3⟩ := goesS_ok n r.x r.s q a1 (a4 (by simpa using hf)) h
    exact ⟨c1, ⟨c2.1, by omega⟩, c3.trans a3⟩
section
variable {w w' : World} {F : Nat → Prop} {c : Vc} {s : Mt}
set_option maxHeartbeats 1000000 in
theorem v_run (hb : (AllA (mL c s)).holds w F) (hs : s.Ok) (htell : TellOk c s.tells) (mode xt fuel : Int) (hxt : V64 xt) (sp : Option Addr) (hroom : 1 ≤ s.pr.rm - s.r) (hsn : s.seen.length ≤ 900000000) (q : Rs)
    (hq : goesS ((clip fuel).toNat + 1) { Rn.start mode fuel with pc := xt } (s.pushR [0]) = some q) :
    Calls Tryz.prog 20 #[.pointer (some ⟨c.gM, 0, none⟩), .int .i64 mode, .int .i64 xt, .int .i64 fuel, .pointer sp] w (Got (.returned (.tuple #[.int .i64 q.f, .int .i64 (clip fuel - q.x.left)])) (AllA (mL c q.s)) F w) := by
  have hon := (On.refl hb).box (runC c (Rn.start mode fuel) (.pointer sp)) 121
  have hok : (Rn.start mode fuel).Ok := start_ok mode fuel
  have hq' : goesS ((Rn.start mode fuel).left.toNat + 1) { Rn.start mode fuel with pc := xt } (s.pushR [0]) = some q := hq
  have hbd := (goesS_ok _ { Rn.start mode fuel with pc := xt } _ _ (pushR_ok hs [0] hroom) ⟨hok.base, hok.base2, hok.next, hxt, hok.left, hok.left2⟩ hq).2.1
  have hcl : 0 ≤ clip fuel ∧ clip fuel ≤ 1000000 := by unfold clip; omega
  have hbd2 : q.x.left ≤ clip fuel := hbd.2
  have hbd1 := hbd.1
  have hpl := On.callG (A := AllA (RunA c w.heap.size (Rn.start mode fuel) (.pointer sp) :: mL c s)) hon (fun F' hb' => v_play (c := c) (g := w.heap.size) (x := Rn.start mode fuel) (src := (.pointer sp)) (s := s) hb' hs hok xt hxt q hq' hroom htell (by have h2 := hok.left2; omega))
  have hr : runC c (Rn.start mode fuel) (.pointer sp) = #[.pointer (some ⟨c.gM, 0, none⟩), .int .i64 mode, .int .i64 (clip fuel), .int .i64 0, .int .i64 0, .bool false, .bool false, .int .i64 0, .pointer sp] := rfl
  rw [hr] at hpl
  have hmm : max 0 (min fuel 1000000) = clip fuel := rfl
  replace hpl := Lib.hid hpl
  clear hb hon hbd hq hq' hr hok hs htell
  generalize clip fuel = L at *
  go_enter Tryz.func20, Tryz.ntmps20
  go_wp2_with fail
  refine hpl.out.mono ?_
  rintro e w1 ⟨rfl, h⟩
  have c2 : w1.cell? ⟨w.heap.size, 2, none⟩ = some (.int .i64 q.x.left) := (h.blkAt 0 rfl).cell 2
  replace h := Lib.hid h
  go_wp2_with fail
  go_quiet (fail)
  go_wp2
  go_ret2
  exact ⟨rfl, h.out.tail.drewN _⟩
end
end Vm
end Go.Proofs.YtjhdpmimccpcdaaGreatDoor
