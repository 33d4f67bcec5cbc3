/- Chapter 11: (exit), (lit). Conditions: all was asked. -/
import Derived.Test.YtjhdpmimccpcdaaGreatDoorQVAsks
import Derived.BigRegion
namespace Go.Proofs.YtjhdpmimccpcdaaGreatDoor
set_option linter.unusedVariables false
set_option maxRecDepth 100000
open Go.RowKit Go.Lib Go.Deep
namespace Vm
/-- what asks has shown -/
structure Asked (i : Inst) (x : Rn) (s : Mt) : Prop where
  tk : (Code.wants i.op).1 ≤ (s.d : Int)
  off : (returns i.op i.arg s.same).1 ≤ (s.r : Int) - x.base
  room : (s.d : Int) - (Code.wants i.op).1 + (if i.op = 26 ∧ s.top 0 = 0 then (Code.wants i.op).1 else (Code.wants i.op).2) ≤ s.pd.rm
  rroom : (s.r : Int) - (returns i.op i.arg s.same).1 + (returns i.op i.arg s.same).2 ≤ s.pr.rm
  cap : needs i.op ≠ 0 → Caps.has s.T.pupil x.mode (needs i.op) = true
theorem Asked.of {i : Inst} {x : Rn} {s : Mt} (h : asks i x s = 0) : Asked i x s := by
  unfold asks at h
  by_cases h1 : (s.d : Int) < (Code.wants i.op).1
  · rw [if_pos h1] at h; cases h
  rw [if_neg h1] at h
  by_cases h2 : (s.r : Int) - x.base < (returns i.op i.arg s.same).1
  · rw [if_pos h2] at h; cases h
  rw [if_neg h2] at h
  by_cases h3 : (s.pd.rm : Int) < s.d - (Code.wants i.op).1 + (if i.op = 26 ∧ s.top 0 = 0 then (Code.wants i.op).1 else (Code.wants i.op).2)
  · rw [if_pos h3] at h; cases h
  rw [if_neg h3] at h
  by_cases h4 : (s.pr.rm : Int) < s.r - (returns i.op i.arg s.same).1 + (returns i.op i.arg s.same).2
  · rw [if_pos h4] at h; cases h
  rw [if_neg h4] at h
  by_cases h5 : needs i.op ≠ 0 ∧ Caps.has s.T.pupil x.mode (needs i.op) = false
  · rw [if_pos h5] at h; cases h
  refine ⟨by omega, by omega, by omega, by omega, fun hn => ?_⟩
  rcases hc : Caps.has s.T.pupil x.mode (needs i.op) with _ | _
  · exact absurd ⟨hn, hc⟩ h5
  · rfl
def intsC (l : List Int) : Array Value := (l.map (Value.int .i64)).toArray
/-- the part of an instruction that works on the machine, its cells in a row beside -/
def PartOk (f : FuncId) (i : Inst) (q : Rn → Mt → Rs) : Prop :=
  ∀ (c : Vc) (g : Nat) (x : Rn) (src : Value) (s : Mt) (ba : Nat) (w : World) (F : Nat → Prop), s.Ok → x.Ok → V64 i.arg → V64 i.lit → Asked i x s →
    (AllA (BlkA ba 3 (intsC (s.args (Code.wants i.op).1.toNat)) :: vL c g x src s)).holds w F →
    Calls Tryz.prog f #[.pointer (some ⟨g, 0, none⟩), i.v, .slice (some ⟨ba, 0, none⟩) (Code.wants i.op).1.toNat (Code.wants i.op).1.toNat] w (Got (tryE (q x s).f) (AllA (BlkA ba 3 (intsC (s.args (Code.wants i.op).1.toNat)) :: vL c g (q x s).x src (q x s).s)) F w)
/-- a call on all but the first -/
theorem On.callTail {P : Program} {f : FuncId} {args : Array Value} {w w' : World} {F : Nat → Prop} {B : Asr} {L L' : List Asr} {e0 : Ending} (h : On F w (AllA (B :: L)) w') (hc : ∀ F', (AllA L).holds w' F' → (∃ F3, B.holds w' F3 ∧ ∀ k, F3 k → ¬ F' k) → (∀ k, F' k → F k ∨ w.heap.size ≤ k) → Calls P f args w' (Got e0 (AllA L') F' w')) :
    Calls P f args w' (Got e0 (AllA (B :: L')) F w) := by
  obtain ⟨F', ⟨F1, F2, h1, h2, hd, hF⟩, hk, hF'⟩ := h
  refine (hc F2 h2 ⟨F1, h1, fun k a b => hd k a b⟩ (fun k h => hF' k ((hF k).2 (.inr h)))).mono ?_
  rintro e w2 ⟨rfl, F3, h3, hk3, hF3⟩
  refine ⟨rfl, fun k => F1 k ∨ F3 k, ⟨F1, F3, B.kept h1 hk3 (fun k a b => hd k a b), h3, fun k a b => ?_, fun _ => Iff.rfl⟩, hk.trans' hk3 (fun k h => hF' k ((hF k).2 (.inr h))), ?_⟩
  · rcases hF3 k b with c | c
    · exact hd k a c
    · have := B.lt h1 a; omega
  · rintro k (h | h)
    · exact hF' k ((hF k).2 (.inl h))
    · rcases hF3 k h with c | c
      · exact hF' k ((hF k).2 (.inr c))
      · exact .inr (Nat.le_trans hk.size c)
theorem On.callGW {P : Program} {f : FuncId} {args : Array Value} {w w' : World} {F : Nat → Prop} {A A' : Asr} {e0 : Ending} (h : On F w A w') (hc : ∀ F', A.holds w' F' → (∀ k, F' k → F k ∨ w.heap.size ≤ k) → Calls P f args w' (Got e0 A' F' w')) : Calls P f args w' (Got e0 A' F w) := by
  obtain ⟨F', ha, hk, hF⟩ := h
  refine (hc F' ha hF).mono ?_
  rintro e w2 ⟨rfl, F2, ha2, hk2, hF2⟩
  refine ⟨rfl, F2, ha2, hk.trans' hk2 hF, fun k h => ?_⟩
  rcases hF2 k h with h | h
  · exact hF k h
  · exact .inr (Nat.le_trans hk.size h)
/-- a call on all but the first n -/
theorem On.callDrop {P : Program} {f : FuncId} {args : Array Value} {e0 : Ending} {L' : List Asr} : ∀ (n : Nat) {L : List Asr} {w w' : World} {F : Nat → Prop}, n ≤ L.length → On F w (AllA L) w' →
    (∀ F', (AllA (L.drop n)).holds w' F' → (∀ i B, i < n → L[i]? = some B → ∃ F3, B.holds w' F3 ∧ ∀ k, F3 k → ¬ F' k) → (∀ k, F' k → F k ∨ w.heap.size ≤ k) → Calls P f args w' (Got e0 (AllA L') F' w')) → Calls P f args w' (Got e0 (AllA (L.take n ++ L')) F w)
  | 0, L, w, w', F, _, h, hc => h.callGW fun F' hb hs => hc F' hb (fun i B hi => absurd hi (Nat.not_lt_zero _)) hs
  | n + 1, [], w, w', F, hn, h, hc => by simp at hn
  | n + 1, B :: L, w, w', F, hn, h, hc => h.callTail fun F' hb ⟨F3, h3, hd⟩ hs =>
      On.callDrop n (by simpa using hn) (On.refl hb) fun F'' hb'' hdis hs'' => hc F'' hb'' (fun i C hi hC => by
        cases i with
        | zero =>
          obtain rfl : B = C := by simpa using hC
          refine ⟨F3, h3, fun k hk hk'' => ?_⟩
          rcases hs'' k hk'' with h4 | h4
          · exact hd k hk h4
          · have := All.lt hb'' hk''; omega
        | succ i => exact hdis i C (by omega) (by simpa using hC)) (fun k hk => by
          rcases hs'' k hk with h4 | h4
          · exact hs k h4
          · have := All.lt hb'' hk; omega)
set_option maxHeartbeats 1000000 in
theorem ctl_exit (arg lit cells : Int) : PartOk 114 ⟨1, arg, lit, cells⟩ back := by
  intro c g x src s ba w F hs hx hv1 hv2 hask hb
  have hon := (On.refl hb).box #[.int .i64 1, .int .i64 arg, .int .i64 lit, .int .i64 cells] 178
  have h0 : 0 < s.r := by
    have h1 := hask.off
    have h2 := hx.base
    have e : (returns 1 arg s.same).1 = 1 := rfl
    simp only [e] at h1
    omega
  have hf : (back x s).f = 0 := by unfold back; rw [if_neg (by omega)]
  rw [hf]
  show Calls _ _ #[_, .agg #[.int .i64 1, .int .i64 arg, .int .i64 lit, .int .i64 cells], _] _ (Got (.returned (.tuple #[])) _ _ _)
  have hbk := hon.callDrop 2 (by simp) fun F'' hb'' _ _ => v_back hb'' hs h0
  generalize (back x s).x = x' at *
  generalize (back x s).s = s' at *
  generalize intsC (s.args (Code.wants 1).1.toNat) = ac at *
  generalize (Code.wants 1).1.toNat = n at *
  replace hbk := Lib.hid hbk
  clear hb hs hx hask hf h0 hon
  go_enter Tryz.func114, Tryz.ntmps114
  go_wp2_with fail
  refine hbk.out.mono ?_
  rintro e w1 ⟨rfl, h⟩
  replace h := Lib.hid h
  go_wp2
  go_end0
  exact ⟨rfl, h.out.tail⟩
theorem lays_f {s : Mt} {n : Nat} {l : List Int} (hroom : l.length ≤ s.pd.rm - (s.d - n)) : (s.lays n l).1 = 0 := by unfold Mt.lays; rw [if_neg (by omega)]
/-- lays, under some objects, of a row that is one of them -/
theorem v_lays_under {w w' : World} {F : Nat → Prop} {c : Vc} {g : Nat} {x : Rn} {src : Value} {s : Mt} (m : Nat) {L : List Asr} (hm : m ≤ L.length) (hL : L.drop m = vL c g x src s) (h : On F w (AllA L) w') (hs : s.Ok) (n : Nat) (hn : n ≤ s.d) (l : List Int) (hl : ∀ v ∈ l, V64 v)
    (j : Nat) (hj : j < m) (rb : Nat) (hrow : L[j]? = some (BlkA rb 3 (intsC l))) (hroom : l.length ≤ s.pd.rm - (s.d - n)) :
    Calls Tryz.prog 115 #[.pointer (some ⟨g, 0, none⟩), .int .i64 (n : Int), .slice (some ⟨rb, 0, none⟩) l.length l.length] w' (Got (.returned (.tuple #[])) (AllA (L.take m ++ vL c g x src (s.lays n l).2)) F w) := by
  refine h.callDrop m hm fun F' hb hdis _ => ?_
  rw [hL] at hb
  obtain ⟨F3, hB, hfar⟩ := hdis j _ hj hrow
  refine v_lays hb hs n hn l hl (some ⟨rb, 0, none⟩) l.length ?_ ?_ hroom
  · intro k v hk
    refine ⟨_, rfl, ?_⟩
    have h1 := hB.1.cell k
    have h2 : ((⟨rb, 0, none⟩ : Addr).add k) = ⟨rb, k, none⟩ := by simp [Addr.add]; intro h; exact h.symm
    rw [h2, h1]
    simp [intsC, hk]
  · intro a ha
    obtain rfl : a = ⟨rb, 0, none⟩ := by injection ha with ha; exact ha.symm
    exact ⟨fun hk => hfar rb ((hB.2 rb).2 rfl) hk, hB.1.lt⟩
/-- lays of nothing -/
theorem v_lays_nil {w w' : World} {F : Nat → Prop} {c : Vc} {g : Nat} {x : Rn} {src : Value} {s : Mt} (m : Nat) {L : List Asr} (hm : m ≤ L.length) (hL : L.drop m = vL c g x src s) (h : On F w (AllA L) w') (hs : s.Ok) (n : Nat) (hn : n ≤ s.d) :
    Calls Tryz.prog 115 #[.pointer (some ⟨g, 0, none⟩), .int .i64 (n : Int), .slice none 0 0] w' (Got (.returned (.tuple #[])) (AllA (L.take m ++ vL c g x src (s.lays n []).2)) F w) := by
  refine h.callDrop m hm fun F' hb hdis _ => ?_
  rw [hL] at hb
  refine v_lays hb hs n hn [] (fun v hv => by cases hv) none 0 (fun k v hk => by simp at hk) (fun a ha => by cases ha) (by simp)
set_option maxHeartbeats 1000000 in
theorem ctl_lit (arg lit cells : Int) : PartOk 114 ⟨2, arg, lit, cells⟩ (laysR 0 [lit]) := by
  intro c g x src s ba w F hs hx hv1 hv2 hask hb
  have hon := (On.refl hb).box #[.int .i64 2, .int .i64 arg, .int .i64 lit, .int .i64 cells] 178
  have hroom : [lit].length ≤ s.pd.rm - (s.d - 0) := by
    have h1 := hask.room
    have e1 : (Code.wants 2).1 = 0 := by decide
    have e2 : (Code.wants 2).2 = 1 := by decide
    simp [e1, e2] at h1
    simp
    omega
  have hf : (laysR 0 [lit] x s).f = 0 := lays_f hroom
  rw [hf]
  show Calls _ _ #[_, .agg #[.int .i64 2, .int .i64 arg, .int .i64 lit, .int .i64 cells], _] _ (Got (.returned (.tuple #[])) _ _ _)
  have hbx := hon.box #[.int .i64 lit] 3
  have hz : (w.alloc (.cells #[.int .i64 2, .int .i64 arg, .int .i64 lit, .int .i64 cells] 178)).heap.size = w.heap.size + 1 := by simp
  rw [hz] at hbx
  have hlay := v_lays_under (c := c) (g := g) (x := x) (src := src) (s := s) 3 (by simp) rfl hbx hs 0 (Nat.zero_le _) [lit] (fun v hv => by rw [List.mem_singleton.1 hv]; exact hv2) 0 (by omega) (w.heap.size + 1) rfl hroom
  have b2 : (w.alloc (.cells #[.int .i64 2, .int .i64 arg, .int .i64 lit, .int .i64 cells] 178)).cell? ⟨w.heap.size, 2, none⟩ = some (.int .i64 lit) := (hon.blkAt 0 rfl).cell 2
  show Calls _ _ _ _ (Got _ (AllA (_ :: vL c g x src (s.lays 0 [lit]).2)) _ _)
  generalize (s.lays 0 [lit]).2 = s' at *
  generalize intsC (s.args (Code.wants 2).1.toNat) = ac at *
  generalize (Code.wants 2).1.toNat = n at *
  replace hlay := Lib.hid hlay
  clear hb hs hx hask hf hon hbx hroom
  go_enter Tryz.func114, Tryz.ntmps114
  go_wp2_with fail
  refine hlay.out.mono ?_
  rintro e w1 ⟨rfl, h⟩
  replace h := Lib.hid h
  go_wp2
  go_end0
  exact ⟨rfl, h.out.tail.tail⟩
end Vm
end Go.Proofs.YtjhdpmimccpcdaaGreatDoor
/- Chapter 11: an instruction of which all was asked: the ways into its part. Conditions: all was asked. -/
namespace Go.Proofs.YtjhdpmimccpcdaaGreatDoor
set_option linter.unusedVariables false
set_option maxRecDepth 100000
open Go.RowKit Go.Lib Go.Deep
namespace Vm
/-- an object that holds a row of cells -/
def Carries (B : Asr) (A : Option Addr) (l : List Int) : Prop := ∀ w F, B.holds w F → Ints w A l ∧ ∀ a, A = some a → F a.block
theorem carries_row (rb : Nat) (l : List Int) : Carries (BlkA rb 3 (intsC l)) (some ⟨rb, 0, none⟩) l := by
  intro w F hB
  refine ⟨?_, ?_⟩
  · intro k v hk
    refine ⟨_, rfl, ?_⟩
    have h1 := hB.1.cell k
    have h2 : ((⟨rb, 0, none⟩ : Addr).add k) = ⟨rb, k, none⟩ := by simp [Addr.add]; intro h; exact h.symm
    rw [h2, h1]
    simp [intsC, hk]
  · intro a ha
    obtain rfl : a = ⟨rb, 0, none⟩ := by injection ha with ha; exact ha.symm
    exact (hB.2 rb).2 rfl
theorem carries_nil (B : Asr) : Carries B none [] := fun w F _ => ⟨fun k v hk => by simp at hk, fun a ha => by cases ha⟩
/-- what a part that reckons hands back: a slice of these cells, and what else there is -/
def Gives (l : List Int) (L : List Asr) (F : Nat → Prop) (w : World) (e : Ending) (w' : World) : Prop :=
  ∃ A cap B, e = .returned (.slice A l.length cap) ∧ Carries B A l ∧ On F w (AllA (B :: L)) w'
theorem v_lays_of {w w' : World} {F : Nat → Prop} {c : Vc} {g : Nat} {x : Rn} {src : Value} {s : Mt} {B : Asr} (h : On F w (AllA (B :: vL c g x src s)) w') (hs : s.Ok) (n : Nat) (hn : n ≤ s.d) (l : List Int) (hl : ∀ v ∈ l, V64 v)
    (A : Option Addr) (cap : Nat) (hB : Carries B A l) (hroom : l.length ≤ s.pd.rm - (s.d - n)) :
    Calls Tryz.prog 115 #[.pointer (some ⟨g, 0, none⟩), .int .i64 (n : Int), .slice A l.length cap] w' (Got (.returned (.tuple #[])) (AllA (B :: vL c g x src (s.lays n l).2)) F w) := by
  refine h.callTail fun F' hb ⟨F3, hh, hfar⟩ hs' => ?_
  obtain ⟨h1, h2⟩ := hB _ _ hh
  exact v_lays hb hs n hn l hl A cap h1 (fun a ha => ⟨fun hk => hfar _ (h2 a ha) hk, B.lt hh (h2 a ha)⟩) hroom
def DoesOk (i : Inst) (q : Rn → Mt → Rs) : Prop :=
  ∀ (c : Vc) (g : Nat) (x : Rn) (src : Value) (s : Mt) (w : World) (F : Nat → Prop), s.Ok → x.Ok → V64 i.arg → V64 i.lit → Asked i x s → (VA c g x src s).holds w F →
    Calls Tryz.prog 83 #[.pointer (some ⟨g, 0, none⟩), i.v] w (Got (tryE (q x s).f) (VA c g (q x s).x src (q x s).s) F w)
theorem v_args' {w : World} {F : Nat → Prop} {c : Vc} {g : Nat} {x : Rn} {src : Value} {s : Mt} (hb : (VA c g x src s).holds w F) (hs : s.Ok) (n : Nat) (hn : n ≤ 8) :
    Calls Tryz.prog 113 #[.pointer (some ⟨g, 0, none⟩), .int .i64 (n : Int)] w (Got (.returned (.slice (some ⟨w.heap.size, 0, none⟩) n n)) (AllA (BlkA w.heap.size 3 (intsC (s.args n)) :: vL c g x src s)) F w) := by
  refine (v_args hb hs n hn).mono ?_
  rintro e w' ⟨rfl, h⟩
  rw [argsK_cells] at h
  exact ⟨rfl, h⟩
set_option maxHeartbeats 1000000 in
theorem does_control (i : Inst) (q : Rn → Mt → Rs) (hop : i.op ≤ 20) (hq : PartOk 114 i q) : DoesOk i q := by
  intro c g x src s w F hs hx hv1 hv2 hask hb
  obtain ⟨op, arg, lit, cells⟩ := i
  simp only at hop
  show Calls _ _ #[_, .agg #[.int .i64 op, .int .i64 arg, .int .i64 lit, .int .i64 cells]] _ _
  have hon := (On.refl hb).box #[.int .i64 op, .int .i64 arg, .int .i64 lit, .int .i64 cells] 178
  have hw := wants_le op
  have hwa := fun w => v_wants op w
  obtain ⟨n, hn⟩ : ∃ n : Nat, (Code.wants op).1 = (n : Int) := ⟨(Code.wants op).1.toNat, by omega⟩
  have hn2 : (Code.wants op).1.toNat = n := by omega
  have hn8 : n ≤ 8 := by omega
  rw [hn] at hwa
  generalize (Code.wants op).2 = ly at *
  have hargs := fun w1 (h1 : On F w (AllA (BlkA w.heap.size 178 #[.int .i64 op, .int .i64 arg, .int .i64 lit, .int .i64 cells] :: vL c g x src s)) w1) => h1.callTail fun F' hb' _ _ => v_args' hb' hs n hn8
  have hctl : ∀ w1 w2 ba, On F w (AllA (BlkA w1 178 #[.int .i64 op, .int .i64 arg, .int .i64 lit, .int .i64 cells] :: BlkA ba 3 (intsC (s.args n)) :: vL c g x src s)) w2 →
      Calls Tryz.prog 114 #[.pointer (some ⟨g, 0, none⟩), .agg #[.int .i64 op, .int .i64 arg, .int .i64 lit, .int .i64 cells], .slice (some ⟨ba, 0, none⟩) n n] w2 (Got (tryE (q x s).f) (AllA (BlkA w1 178 #[.int .i64 op, .int .i64 arg, .int .i64 lit, .int .i64 cells] :: BlkA ba 3 (intsC (s.args n)) :: vL c g (q x s).x src (q x s).s)) F w) := by
    intro w1 w2 ba h
    refine h.callTail fun F' hb' _ _ => ?_
    have h1 := hq c g x src s ba w2 F' hs hx hv1 hv2 hask
    simp only [hn2] at h1
    exact h1 hb'
  have hle : decide (op ≤ 20) = true := decide_eq_true hop
  generalize q x s = Q at *
  obtain ⟨f, x', s'⟩ := Q
  simp only at hctl ⊢
  replace hwa := Lib.hid hwa
  replace hargs := Lib.hid hargs
  replace hctl := Lib.hid hctl
  replace hon := Lib.hid hon
  clear hb hq hs hx hask hw hn hn2 hv1 hv2 hop
  go_enter Tryz.func83, Tryz.ntmps83
  go_wp2_with fail
  refine (hwa.out _).mono ?_
  rintro e w1 ⟨rfl, hb1⟩
  have hon1 := hon.out.below hb1
  replace hargs := Lib.hid (hargs.out _ hon1)
  clear hb1
  go_wp2_with fail
  refine hargs.out.mono ?_
  rintro e w2 ⟨rfl, hon2⟩
  have b0 : w2.cell? ⟨w.heap.size, 0, none⟩ = some (.int .i64 op) := (hon2.blkAt 0 rfl).cell 0
  have b1 : w2.cell? ⟨w.heap.size, 1, none⟩ = some (.int .i64 arg) := (hon2.blkAt 0 rfl).cell 1
  have b2 : w2.cell? ⟨w.heap.size, 2, none⟩ = some (.int .i64 lit) := (hon2.blkAt 0 rfl).cell 2
  have b3 : w2.cell? ⟨w.heap.size, 3, none⟩ = some (.int .i64 cells) := (hon2.blkAt 0 rfl).cell 3
  replace hctl := Lib.hid (hctl.out _ _ _ hon2)
  clear hon2 hon1
  go_wp2_with fail
  refine hctl.out.mono ?_
  rintro e w3 ⟨he, hon3⟩
  have hon4 := Lib.hid hon3.tail.tail
  clear hon3
  by_cases hf : f = 0
  · have he2 : tryE f = .returned (.tuple #[]) := by unfold tryE; rw [if_pos hf]
    rw [he2] at he
    subst he
    replace he2 := Lib.hid he2
    clear hf
    go_wp2
    go_end0
    exact ⟨he2.out.symm, hon4.out⟩
  · have he2 : tryE f = .panicked [flt f] := by unfold tryE; rw [if_neg hf]
    rw [he2] at he
    subst he
    replace he2 := Lib.hid he2
    clear hf
    go_wp2
    exact ⟨rfl, he2.out.symm, hon4.out⟩
/-- a call on all but the first, of some answers -/
theorem On.callTailR {P : Program} {f : FuncId} {args : Array Value} {w w' : World} {F : Nat → Prop} {B : Asr} {L : List Asr} {R : Ending → List Asr → Prop} (h : On F w (AllA (B :: L)) w') (hc : ∀ F', (AllA L).holds w' F' → Calls P f args w' (fun e w2 => ∃ L', R e L' ∧ On F' w' (AllA L') w2)) :
    Calls P f args w' (fun e w2 => ∃ L', R e L' ∧ On F w (AllA (B :: L')) w2) := by
  obtain ⟨F', ⟨F1, F2, h1, h2, hd, hF⟩, hk, hF'⟩ := h
  refine (hc F2 h2).mono ?_
  rintro e w2 ⟨L', hR, F3, h3, hk3, hF3⟩
  refine ⟨L', hR, fun k => F1 k ∨ F3 k, ⟨F1, F3, B.kept h1 hk3 (fun k a b => hd k a b), h3, fun k a b => ?_, fun _ => Iff.rfl⟩, hk.trans' hk3 (fun k h => hF' k ((hF k).2 (.inr h))), ?_⟩
  · rcases hF3 k b with c | c
    · exact hd k a c
    · have := B.lt h1 a; omega
  · rintro k (h | h)
    · exact hF' k ((hF k).2 (.inl h))
    · rcases hF3 k h with c | c
      · exact hF' k ((hF k).2 (.inr c))
      · exact .inr (Nat.le_trans hk.size c)
/-- what a part that reckons owes: it answers these cells -/
def GivesOk (f : FuncId) (pre : Nat → Array Value) (i : Inst) (l : Mt → List Int) : Prop :=
  ∀ (c : Vc) (g : Nat) (x : Rn) (src : Value) (s : Mt) (ba : Nat) (w : World) (F : Nat → Prop), s.Ok → Asked i x s →
    (AllA (BlkA ba 3 (intsC (s.args (Code.wants i.op).1.toNat)) :: vL c g x src s)).holds w F →
    Calls Tryz.prog f (pre g ++ #[.int .i64 i.op, .slice (some ⟨ba, 0, none⟩) (Code.wants i.op).1.toNat (Code.wants i.op).1.toNat]) w (Gives (l s) (vL c g x src s) F w)
set_option maxHeartbeats 2000000 in
theorem does_moved (i : Inst) (l : Mt → List Int) (hop : 20 < i.op) (hop2 : i.op ≤ 30) (hq : GivesOk 116 (fun g => #[.pointer (some ⟨g, 0, none⟩)]) i l)
    (hlen : ∀ x s, s.Ok → Asked i x s → (l s).length ≤ s.pd.rm - (s.d - (Code.wants i.op).1.toNat) ∧ ∀ v ∈ l s, V64 v) : DoesOk i (fun x s => laysR (Code.wants i.op).1.toNat (l s) x s) := by
  intro c g x src s w F hs hx hv1 hv2 hask hb
  obtain ⟨op, arg, lit, cells⟩ := i
  simp only at hop hop2
  show Calls _ _ #[_, .agg #[.int .i64 op, .int .i64 arg, .int .i64 lit, .int .i64 cells]] _ _
  have hon := (On.refl hb).box #[.int .i64 op, .int .i64 arg, .int .i64 lit, .int .i64 cells] 178
  have hw := wants_le op
  have htk := hask.tk
  have hwa := fun w => v_wants op w
  obtain ⟨n, hn⟩ : ∃ n : Nat, (Code.wants op).1 = (n : Int) := ⟨(Code.wants op).1.toNat, by omega⟩
  have hn2 : (Code.wants op).1.toNat = n := by omega
  have hn8 : n ≤ 8 := by omega
  rw [hn] at hwa htk
  have hnd : n ≤ s.d := by omega
  obtain ⟨hlen, hl⟩ := hlen x s hs hask
  simp only [hn2] at hlen ⊢
  generalize (Code.wants op).2 = ly at *
  have hargs := fun w1 (h1 : On F w (AllA (BlkA w.heap.size 178 #[.int .i64 op, .int .i64 arg, .int .i64 lit, .int .i64 cells] :: vL c g x src s)) w1) => h1.callTail fun F' hb' _ _ => v_args' hb' hs n hn8
  have hmov : ∀ w1 w2 ba, On F w (AllA (BlkA w1 178 #[.int .i64 op, .int .i64 arg, .int .i64 lit, .int .i64 cells] :: BlkA ba 3 (intsC (s.args n)) :: vL c g x src s)) w2 →
      Calls Tryz.prog 116 #[.pointer (some ⟨g, 0, none⟩), .int .i64 op, .slice (some ⟨ba, 0, none⟩) n n] w2 (fun e w3 => ∃ L', (∃ A cap B, e = .returned (.slice A (l s).length cap) ∧ Carries B A (l s) ∧ L' = B :: vL c g x src s) ∧ On F w (AllA (BlkA w1 178 #[.int .i64 op, .int .i64 arg, .int .i64 lit, .int .i64 cells] :: L')) w3) := by
    intro w1 w2 ba h
    refine h.callTailR fun F' hb' => ?_
    have h1 := hq c g x src s ba w2 F' hs hask
    simp only [hn2] at h1
    refine (h1 hb').mono ?_
    rintro e w3 ⟨A, cap, B, he, hB, hon⟩
    exact ⟨_, ⟨A, cap, B, he, hB, rfl⟩, hon⟩
  have hlay : ∀ w1 w2 A cap B, Carries B A (l s) → On F w (AllA (BlkA w1 178 #[.int .i64 op, .int .i64 arg, .int .i64 lit, .int .i64 cells] :: B :: vL c g x src s)) w2 →
      Calls Tryz.prog 115 #[.pointer (some ⟨g, 0, none⟩), .int .i64 (n : Int), .slice A (l s).length cap] w2 (Got (.returned (.tuple #[])) (AllA (BlkA w1 178 #[.int .i64 op, .int .i64 arg, .int .i64 lit, .int .i64 cells] :: B :: vL c g x src (s.lays n (l s)).2)) F w) := by
    intro w1 w2 A cap B hB h
    exact h.callTail fun F' hb' _ _ => v_lays_of (On.refl hb') hs n hnd (l s) hl A cap hB hlen
  have hf : (s.lays n (l s)).1 = 0 := lays_f hlen
  show Calls _ _ _ _ (Got (tryE (s.lays n (l s)).1) (VA c g x src (s.lays n (l s)).2) F w)
  rw [hf]
  show Calls _ _ _ _ (Got (.returned (.tuple #[])) _ F w)
  have t20 : decide (op ≤ 20) = false := decide_eq_false (by omega)
  have t30 : decide (op ≤ 30) = true := decide_eq_true (by omega)
  generalize (s.lays n (l s)).2 = s' at *
  generalize l s = ls at *
  replace hwa := Lib.hid hwa
  replace hargs := Lib.hid hargs
  replace hmov := Lib.hid hmov
  replace hlay := Lib.hid hlay
  replace hon := Lib.hid hon
  clear hb hq hs hx hask hw hn hn2 hv1 hv2 hop hop2 htk hlen hf
  go_enter Tryz.func83, Tryz.ntmps83
  go_wp2_with fail
  refine (hwa.out _).mono ?_
  rintro e w1 ⟨rfl, hb1⟩
  have hon1 := hon.out.below hb1
  replace hargs := Lib.hid (hargs.out _ hon1)
  clear hb1
  go_wp2_with fail
  refine hargs.out.mono ?_
  rintro e w2 ⟨rfl, hon2⟩
  have b0 : w2.cell? ⟨w.heap.size, 0, none⟩ = some (.int .i64 op) := (hon2.blkAt 0 rfl).cell 0
  replace hmov := Lib.hid (hmov.out _ _ _ hon2)
  clear hon2 hon1
  go_wp2_with fail
  refine hmov.out.mono ?_
  rintro e w3 ⟨L', ⟨A, cap, B, rfl, hB, rfl⟩, hon3⟩
  replace hlay := Lib.hid (hlay.out _ _ A cap B hB hon3)
  clear hon3
  replace hB := Lib.hid hB
  go_wp2_with fail
  refine hlay.out.mono ?_
  rintro e w4 ⟨rfl, hon4⟩
  replace hon4 := Lib.hid hon4.tail.tail
  go_wp2
  go_end0
  exact ⟨rfl, hon4.out⟩
set_option maxHeartbeats 2000000 in
theorem does_reckoned (i : Inst) (l : Mt → List Int) (hop : 30 < i.op) (hop2 : i.op ≤ 64) (hq : GivesOk 117 (fun g => #[]) i l)
    (hlen : ∀ x s, s.Ok → Asked i x s → (l s).length ≤ s.pd.rm - (s.d - (Code.wants i.op).1.toNat) ∧ ∀ v ∈ l s, V64 v) : DoesOk i (fun x s => laysR (Code.wants i.op).1.toNat (l s) x s) := by
  intro c g x src s w F hs hx hv1 hv2 hask hb
  obtain ⟨op, arg, lit, cells⟩ := i
  simp only at hop hop2
  show Calls _ _ #[_, .agg #[.int .i64 op, .int .i64 arg, .int .i64 lit, .int .i64 cells]] _ _
  have hon := (On.refl hb).box #[.int .i64 op, .int .i64 arg, .int .i64 lit, .int .i64 cells] 178
  have hw := wants_le op
  have htk := hask.tk
  have hwa := fun w => v_wants op w
  obtain ⟨n, hn⟩ : ∃ n : Nat, (Code.wants op).1 = (n : Int) := ⟨(Code.wants op).1.toNat, by omega⟩
  have hn2 : (Code.wants op).1.toNat = n := by omega
  have hn8 : n ≤ 8 := by omega
  rw [hn] at hwa htk
  have hnd : n ≤ s.d := by omega
  obtain ⟨hlen, hl⟩ := hlen x s hs hask
  simp only [hn2] at hlen ⊢
  generalize (Code.wants op).2 = ly at *
  have hargs := fun w1 (h1 : On F w (AllA (BlkA w.heap.size 178 #[.int .i64 op, .int .i64 arg, .int .i64 lit, .int .i64 cells] :: vL c g x src s)) w1) => h1.callTail fun F' hb' _ _ => v_args' hb' hs n hn8
  have hmov : ∀ w1 w2 ba, On F w (AllA (BlkA w1 178 #[.int .i64 op, .int .i64 arg, .int .i64 lit, .int .i64 cells] :: BlkA ba 3 (intsC (s.args n)) :: vL c g x src s)) w2 →
      Calls Tryz.prog 117 #[.int .i64 op, .slice (some ⟨ba, 0, none⟩) n n] w2 (fun e w3 => ∃ L', (∃ A cap B, e = .returned (.slice A (l s).length cap) ∧ Carries B A (l s) ∧ L' = B :: vL c g x src s) ∧ On F w (AllA (BlkA w1 178 #[.int .i64 op, .int .i64 arg, .int .i64 lit, .int .i64 cells] :: L')) w3) := by
    intro w1 w2 ba h
    refine h.callTailR fun F' hb' => ?_
    have h1 := hq c g x src s ba w2 F' hs hask
    simp only [hn2] at h1
    refine (h1 hb').mono ?_
    rintro e w3 ⟨A, cap, B, he, hB, hon⟩
    exact ⟨_, ⟨A, cap, B, he, hB, rfl⟩, hon⟩
  have hlay : ∀ w1 w2 A cap B, Carries B A (l s) → On F w (AllA (BlkA w1 178 #[.int .i64 op, .int .i64 arg, .int .i64 lit, .int .i64 cells] :: B :: vL c g x src s)) w2 →
      Calls Tryz.prog 115 #[.pointer (some ⟨g, 0, none⟩), .int .i64 (n : Int), .slice A (l s).length cap] w2 (Got (.returned (.tuple #[])) (AllA (BlkA w1 178 #[.int .i64 op, .int .i64 arg, .int .i64 lit, .int .i64 cells] :: B :: vL c g x src (s.lays n (l s)).2)) F w) := by
    intro w1 w2 A cap B hB h
    exact h.callTail fun F' hb' _ _ => v_lays_of (On.refl hb') hs n hnd (l s) hl A cap hB hlen
  have hf : (s.lays n (l s)).1 = 0 := lays_f hlen
  show Calls _ _ _ _ (Got (tryE (s.lays n (l s)).1) (VA c g x src (s.lays n (l s)).2) F w)
  rw [hf]
  show Calls _ _ _ _ (Got (.returned (.tuple #[])) _ F w)
  have t20 : decide (op ≤ 20) = false := decide_eq_false (by omega)
  have t30 : decide (op ≤ 30) = false := decide_eq_false (by omega)
  have t64 : decide (op ≤ 64) = true := decide_eq_true (by omega)
  generalize (s.lays n (l s)).2 = s' at *
  generalize l s = ls at *
  replace hwa := Lib.hid hwa
  replace hargs := Lib.hid hargs
  replace hmov := Lib.hid hmov
  replace hlay := Lib.hid hlay
  replace hon := Lib.hid hon
  clear hb hq hs hx hask hw hn hn2 hv1 hv2 hop hop2 htk hlen hf
  go_enter Tryz.func83, Tryz.ntmps83
  go_wp2_with fail
  refine (hwa.out _).mono ?_
  rintro e w1 ⟨rfl, hb1⟩
  have hon1 := hon.out.below hb1
  replace hargs := Lib.hid (hargs.out _ hon1)
  clear hb1
  go_wp2_with fail
  refine hargs.out.mono ?_
  rintro e w2 ⟨rfl, hon2⟩
  have b0 : w2.cell? ⟨w.heap.size, 0, none⟩ = some (.int .i64 op) := (hon2.blkAt 0 rfl).cell 0
  replace hmov := Lib.hid (hmov.out _ _ _ hon2)
  clear hon2 hon1
  go_wp2_with fail
  refine hmov.out.mono ?_
  rintro e w3 ⟨L', ⟨A, cap, B, rfl, hB, rfl⟩, hon3⟩
  replace hlay := Lib.hid (hlay.out _ _ A cap B hB hon3)
  clear hon3
  replace hB := Lib.hid hB
  go_wp2_with fail
  refine hlay.out.mono ?_
  rintro e w4 ⟨rfl, hon4⟩
  replace hon4 := Lib.hid hon4.tail.tail
  go_wp2
  go_end0
  exact ⟨rfl, hon4.out⟩
end Vm
end Go.Proofs.YtjhdpmimccpcdaaGreatDoor
/- Chapter 11: operations that move cells about, or reckon. Conditions: all was asked. -/
namespace Go.Proofs.YtjhdpmimccpcdaaGreatDoor
set_option linter.unusedVariables false
set_option maxRecDepth 100000
open Go.RowKit Go.Lib Go.Deep
namespace Vm
/-- the j-th of the cells that an instruction takes -/
def ar (s : Mt) (n j : Nat) : Int := (s.args n).getD j 0
theorem args_len (s : Mt) (n : Nat) : (s.args n).length = n := by simp [Mt.args]
theorem args_get (s : Mt) (n j : Nat) (hj : j < n) : (s.args n)[j]? = some (ar s n j) := by
  unfold ar
  rw [List.getD_eq_getElem?_getD, List.getElem?_eq_getElem (by rw [args_len]; exact hj)]
  rfl
theorem row_get {w : World} {ba n j : Nat} {s : Mt} (h : Blk w ba 3 (intsC (s.args n))) (hj : j < n) : w.cell? ⟨ba, j, none⟩ = some (.int .i64 (ar s n j)) := by
  rw [h.cell]
  simp [intsC, args_get s n j hj]
/-- two cells -/
theorem g_pair (op arg lit cells : Int) (h4 : (op == 34) = false) (h5 : (op == 35) = false) (h6 : (op == 36) = false) (h7 : (op == 37) = false) (h8 : (op == 38) = false) (h53 : (op == 53) = false) (h54 : (op == 54) = false) (h55 : (op == 55) = false) (h56 : (op == 56) = false) (h57 : (op == 57) = false)
    (hw : (Code.wants op).1 = 2) (v : Int → Int → Int) (hp : ∀ x y w, Calls Tryz.prog 156 #[.int .i64 op, .int .i64 x, .int .i64 y] w (Same (.int .i64 (v x y)) w)) :
    GivesOk 117 (fun _ => #[]) ⟨op, arg, lit, cells⟩ (fun s => [v (ar s 2 0) (ar s 2 1)]) := by
  intro c g x src s ba w F hs hask hb
  have hw2 : (Code.wants op).1.toNat = 2 := by omega
  simp only [hw2] at hb ⊢
  have hon := On.refl hb
  have hrow := hon.blkAt 0 rfl
  have a0 := row_get hrow (j := 0) (by omega)
  have a1 := row_get hrow (j := 1) (by omega)
  generalize ar s 2 0 = X at *
  generalize ar s 2 1 = Y at *
  have hp1 := fun w => hp X Y w
  generalize v X Y = V at *
  have hbx := fun w1 (h : On F w (AllA (BlkA ba 3 (intsC (s.args 2)) :: vL c g x src s)) w1) => h.tail.box #[.int .i64 V] 3
  replace hbx := Lib.hid hbx
  replace hp1 := Lib.hid hp1
  replace hon := Lib.hid hon
  clear hb hrow hp hw hw2 hask hs
  show Calls _ _ #[.int .i64 op, .slice (some ⟨ba, 0, none⟩) 2 2] _ _
  go_enter Tryz.func117, Tryz.ntmps117
  go_wp2_with fail
  go_region_held (fun w' => w'.cell? ⟨ba, 0, none⟩ = some (.int .i64 X) ∧ w'.cell? ⟨ba, 1, none⟩ = some (.int .i64 Y)) (go_keep)
    ((go_at_call 156; refine (hp1.out _).mono ?_; rintro e w5 ⟨rfl, rfl⟩))
  go_wp2
  all_goals go_ret
  all_goals exact ⟨some ⟨w.heap.size, 0, none⟩, 1, BlkA w.heap.size 3 (intsC [V]), rfl, carries_row _ _, (hbx.out w hon.out).drew⟩
/-- one cell -/
theorem g_alone (op arg lit cells : Int) (h4 : (op == 34) = false) (h5 : (op == 35) = false) (h6 : (op == 36) = false) (h7 : (op == 37) = false) (h8 : (op == 38) = false) (h53 : (op == 53) = false) (h54 : (op == 54) = false) (h55 : (op == 55) = false) (h56 : (op == 56) = false) (h57 : (op == 57) = false)
    (hw : (Code.wants op).1 = 1) (v : Int → Int) (hp : ∀ x w, Calls Tryz.prog 155 #[.int .i64 op, .int .i64 x] w (Same (.int .i64 (v x)) w)) :
    GivesOk 117 (fun _ => #[]) ⟨op, arg, lit, cells⟩ (fun s => [v (ar s 1 0)]) := by
  intro c g x src s ba w F hs hask hb
  have hw2 : (Code.wants op).1.toNat = 1 := by omega
  simp only [hw2] at hb ⊢
  have hon := On.refl hb
  have hrow := hon.blkAt 0 rfl
  have a0 := row_get hrow (j := 0) (by omega)
  generalize ar s 1 0 = X at *
  have hp1 := fun w => hp X w
  generalize v X = V at *
  have hbx := fun w1 (h : On F w (AllA (BlkA ba 3 (intsC (s.args 1)) :: vL c g x src s)) w1) => h.tail.box #[.int .i64 V] 3
  replace hbx := Lib.hid hbx
  replace hp1 := Lib.hid hp1
  replace hon := Lib.hid hon
  clear hb hrow hp hw hw2 hask hs
  show Calls _ _ #[.int .i64 op, .slice (some ⟨ba, 0, none⟩) 1 1] _ _
  go_enter Tryz.func117, Tryz.ntmps117
  go_wp2_with fail
  refine (hp1.out _).mono ?_
  rintro e w5 ⟨rfl, rfl⟩
  go_wp2
  all_goals go_ret
  all_goals exact ⟨some ⟨w5.heap.size, 0, none⟩, 1, BlkA w5.heap.size 3 (intsC [V]), rfl, carries_row _ _, hbx.out w5 hon.out⟩
theorem pair_add (x y : Int) (w : World) : Calls Tryz.prog 156 #[.int .i64 31, .int .i64 x, .int .i64 y] w (Same (.int .i64 (wrap64 (x + y))) w) := by
  go_enter Tryz.func156, Tryz.ntmps156
  go_wp2
  go_ret
  exact ⟨rfl, rfl⟩
theorem pair_sub (x y : Int) (w : World) : Calls Tryz.prog 156 #[.int .i64 32, .int .i64 x, .int .i64 y] w (Same (.int .i64 (wrap64 (x - y))) w) := by
  go_enter Tryz.func156, Tryz.ntmps156
  go_wp2
  go_ret
  exact ⟨rfl, rfl⟩
theorem pair_mul (x y : Int) (w : World) : Calls Tryz.prog 156 #[.int .i64 33, .int .i64 x, .int .i64 y] w (Same (.int .i64 (wrap64 (x * y))) w) := by
  go_enter Tryz.func156, Tryz.ntmps156
  go_wp2
  go_ret
  exact ⟨rfl, rfl⟩
theorem alone_neg (x : Int) (w : World) : Calls Tryz.prog 155 #[.int .i64 39, .int .i64 x] w (Same (.int .i64 (wrap64 (-x))) w) := by
  go_enter Tryz.func155, Tryz.ntmps155
  go_wp2
  go_ret
  exact ⟨rfl, rfl⟩
theorem alone_inc (x : Int) (w : World) : Calls Tryz.prog 155 #[.int .i64 43, .int .i64 x] w (Same (.int .i64 (wrap64 (x + 1))) w) := by
  go_enter Tryz.func155, Tryz.ntmps155
  go_wp2
  go_ret
  exact ⟨rfl, rfl⟩
theorem alone_dec (x : Int) (w : World) : Calls Tryz.prog 155 #[.int .i64 44, .int .i64 x] w (Same (.int .i64 (wrap64 (x - 1))) w) := by
  go_enter Tryz.func155, Tryz.ntmps155
  go_wp2
  go_ret
  exact ⟨rfl, rfl⟩
/-! ### moved -/
theorem m_dup (arg lit cells : Int) : GivesOk 116 (fun g => #[.pointer (some ⟨g, 0, none⟩)]) ⟨21, arg, lit, cells⟩ (fun s => [ar s 1 0, ar s 1 0]) := by
  intro c g x src s ba w F hs hask hb
  have hw2 : (Code.wants 21).1.toNat = 1 := by decide
  simp only [hw2] at hb ⊢
  have hon := On.refl hb
  have hrow := hon.blkAt 0 rfl
  have a0 := row_get hrow (j := 0) (by omega)
  generalize ar s 1 0 = X at *
  have hbx := hon.tail.box #[.int .i64 X, .int .i64 X] 3
  replace hbx := Lib.hid hbx
  clear hb hrow hw2 hask hs hon
  show Calls _ _ #[.pointer (some ⟨g, 0, none⟩), .int .i64 21, .slice (some ⟨ba, 0, none⟩) 1 1] _ _
  go_enter Tryz.func116, Tryz.ntmps116
  go_wp2_with fail
  go_region
  all_goals go_wp2
  all_goals go_ret
  all_goals exact ⟨some ⟨w.heap.size, 0, none⟩, 2, BlkA w.heap.size 3 (intsC [X, X]), rfl, carries_row _ _, hbx.out.drew⟩
theorem m_drop (arg lit cells : Int) : GivesOk 116 (fun g => #[.pointer (some ⟨g, 0, none⟩)]) ⟨22, arg, lit, cells⟩ (fun s => []) := by
  intro c g x src s ba w F hs hask hb
  have hw2 : (Code.wants 22).1.toNat = 1 := by decide
  simp only [hw2] at hb ⊢
  have hon := On.refl hb
  replace hon := Lib.hid hon
  clear hb hw2 hask hs
  show Calls _ _ #[.pointer (some ⟨g, 0, none⟩), .int .i64 22, .slice (some ⟨ba, 0, none⟩) 1 1] _ _
  go_enter Tryz.func116, Tryz.ntmps116
  go_wp2
  go_ret
  exact ⟨none, 0, _, rfl, carries_nil _, hon.out⟩
theorem m_swap (arg lit cells : Int) : GivesOk 116 (fun g => #[.pointer (some ⟨g, 0, none⟩)]) ⟨23, arg, lit, cells⟩ (fun s => [ar s 2 1, ar s 2 0]) := by
  intro c g x src s ba w F hs hask hb
  have hw2 : (Code.wants 23).1.toNat = 2 := by decide
  simp only [hw2] at hb ⊢
  have hon := On.refl hb
  have hrow := hon.blkAt 0 rfl
  have a0 := row_get hrow (j := 0) (by omega)
  have a1 := row_get hrow (j := 1) (by omega)
  generalize ar s 2 0 = X at *
  generalize ar s 2 1 = Y at *
  have hbx := hon.tail.box #[.int .i64 Y, .int .i64 X] 3
  replace hbx := Lib.hid hbx
  clear hb hrow hw2 hask hs hon
  show Calls _ _ #[.pointer (some ⟨g, 0, none⟩), .int .i64 23, .slice (some ⟨ba, 0, none⟩) 2 2] _ _
  go_enter Tryz.func116, Tryz.ntmps116
  go_wp2_with fail
  go_region
  all_goals go_wp2
  all_goals go_ret
  all_goals exact ⟨some ⟨w.heap.size, 0, none⟩, 2, BlkA w.heap.size 3 (intsC [Y, X]), rfl, carries_row _ _, hbx.out.drew⟩
theorem m_over (arg lit cells : Int) : GivesOk 116 (fun g => #[.pointer (some ⟨g, 0, none⟩)]) ⟨24, arg, lit, cells⟩ (fun s => [ar s 2 0, ar s 2 1, ar s 2 0]) := by
  intro c g x src s ba w F hs hask hb
  have hw2 : (Code.wants 24).1.toNat = 2 := by decide
  simp only [hw2] at hb ⊢
  have hon := On.refl hb
  have hrow := hon.blkAt 0 rfl
  have a0 := row_get hrow (j := 0) (by omega)
  have a1 := row_get hrow (j := 1) (by omega)
  generalize ar s 2 0 = X at *
  generalize ar s 2 1 = Y at *
  have hbx := hon.tail.box #[.int .i64 X, .int .i64 Y, .int .i64 X] 3
  replace hbx := Lib.hid hbx
  clear hb hrow hw2 hask hs hon
  show Calls _ _ #[.pointer (some ⟨g, 0, none⟩), .int .i64 24, .slice (some ⟨ba, 0, none⟩) 2 2] _ _
  go_enter Tryz.func116, Tryz.ntmps116
  go_wp2_with fail
  go_region
  all_goals go_wp2
  all_goals go_ret
  all_goals exact ⟨some ⟨w.heap.size, 0, none⟩, 3, BlkA w.heap.size 3 (intsC [X, Y, X]), rfl, carries_row _ _, hbx.out.drew⟩
end Vm
end Go.Proofs.YtjhdpmimccpcdaaGreatDoor
/- Chapter 4: the document's stack: a new one; a cell pushed. Conditions: as written. -/
namespace Go.Proofs.YtjhdpmimccpcdaaGreatDoor
set_option linter.unusedVariables false
set_option maxRecDepth 100000
open Go.RowKit Go.Lib Go.Deep
namespace Vm
def rstkC (gr n d : Nat) (un ov : Int) : Array Value := #[.slice (some ⟨gr, 0, none⟩) n n, .int .i64 (d : Int), .int .i64 un, .int .i64 ov]
/-- the document's stack: the struct, the row of its cells -/
def rstkL (g gr d : Nat) (un ov : Int) (all : List Int) : List Asr := [BlkA g 200 (rstkC gr all.length d un ov), BlkA gr 3 (intsC all)]
theorem made0i (n : Nat) : madeCells #[Value.int .i64 0] n = intsC (List.replicate n 0) := by
  unfold intsC
  apply Array.ext'
  simp [madeCells, Nat.mod_one]
  apply List.ext_getElem <;> simp
theorem ints_set (all : List Int) (d : Nat) (v : Int) : (intsC all).setIfInBounds d (.int .i64 v) = intsC (all.set d v) := by
  unfold intsC
  apply Array.ext'
  simp [List.map_set]
theorem intsC_get {w : World} {gr : Nat} {all : List Int} (h : Blk w gr 3 (intsC all)) (d : Nat) (hd : d < all.length) : w.cell? ⟨gr, d, none⟩ = some (.int .i64 (all.getD d 0)) := by
  rw [h.cell d]
  simp [intsC, hd]
section
variable {w w1 : World} {F : Nat → Prop} {g gr d : Nat} {un ov : Int} {all : List Int}
set_option maxHeartbeats 1000000 in
theorem rs_push (h : On F w (AllA (rstkL g gr d un ov all)) w1) (hd : d < all.length) (hn : all.length ≤ 512) (rb : Nat) (v : Int) (hv : w1.cell? ⟨rb, 0, none⟩ = some (.int .i64 v)) :
    Calls Tryz.prog 74 #[.pointer (some ⟨g, 0, none⟩), .slice (some ⟨rb, 0, none⟩) 1 1] w1 (Got (.returned (.int .i64 0)) (AllA (rstkL g gr (d + 1) un ov (all.set d v))) F w) := by
  have hfin := fun W (h : On F w (AllA (rstkL g gr d un ov all)) W) => (by
    have h1 := h.setAt 1 rfl d (.int .i64 v)
    rw [ints_set] at h1
    have h2 := On.setAt 0 (g := g) (t := 200) (cs := rstkC gr all.length d un ov) h1.drew rfl 1 (.int .i64 ((d : Int) + 1))
    have e : (rstkC gr all.length d un ov).setIfInBounds 1 (.int .i64 ((d : Int) + 1)) = rstkC gr (all.set d v).length (d + 1) un ov := by rw [List.length_set]; rfl
    rw [e] at h2
    exact h2 : On F w (AllA (rstkL g gr (d + 1) un ov (all.set d v))) (((W.setCell ⟨gr, d, none⟩ (.int .i64 v)).drew).setCell ⟨g, 1, none⟩ (.int .i64 ((d : Int) + 1))))
  have hcs := fun W (h : On F w (AllA (rstkL g gr d un ov all)) W) => (by
    have hg : Blk W g 200 (rstkC gr all.length d un ov) := h.blkAt 0 rfl
    have hr : Blk W gr 3 (intsC all) := h.blkAt 1 rfl
    exact ⟨hg.cell 0, hg.cell 1, hg.frozen 1, intsC_get hr d hd, hr.frozen d, hg.ne_ hr (by decide)⟩ :
      W.cell? ⟨g, 0, none⟩ = some (.slice (some ⟨gr, 0, none⟩) all.length all.length) ∧ W.cell? ⟨g, 1, none⟩ = some (.int .i64 (d : Int)) ∧ W.frozen? ⟨g, 1, none⟩ = false ∧ W.cell? ⟨gr, d, none⟩ = some (.int .i64 (all.getD d 0)) ∧ W.frozen? ⟨gr, d, none⟩ = false ∧ g ≠ gr)
  obtain ⟨c0, c1, f1, cr, fr, hne⟩ := hcs _ h
  generalize all.getD d 0 = old at *
  generalize all.length = n at *
  replace hfin := Lib.hid hfin
  replace hcs := Lib.hid hcs
  replace h := Lib.hid h
  go_enter Tryz.func74, Tryz.ntmps74
  go_wp2
  go_quiet (fail)
  have h2 := h.out.drewN nq
  have hv2 : (w1.drewN nq).cell? ⟨rb, 0, none⟩ = some (.int .i64 v) := hv
  obtain ⟨w2, hw2⟩ : ∃ w2, w1.drewN nq = w2 := ⟨_, rfl⟩
  rw [hw2] at h2 hv2 ⊢
  clear hw2 h hv c0 c1 f1 cr fr hne
  obtain ⟨c0, c1, f1, cr, fr, hne⟩ := hcs.out _ h2
  have hfin2 := Lib.hid (hfin.out _ h2)
  replace h2 := Lib.hid h2
  clear hfin hcs
  go_wp2
  go_loopg [5] 1 (fun k t wr => (k = 1 ∧ t = .int .i64 0 ∧ wr = w2) ∨ (k = 0 ∧ t = .int .i64 1 ∧ On F w (AllA (rstkL g gr (d + 1) un ov (all.set d v))) wr))
  case atStart => exact .inl ⟨rfl, rfl, rfl⟩
  case round =>
    rcases hrel with ⟨hk, rfl, rfl⟩ | ⟨hk, rfl, h⟩
    · replace hk := Lib.hid hk
      go_wp2
      go_region
      go_wp2
      go_roundg 0
      case measure => rw [hk.out]; omega
      case rel => exact .inr ⟨rfl, rfl, hfin2.out⟩
    · replace h := Lib.hid h
      replace hk := Lib.hid hk
      go_wp2
      go_ret
      exact ⟨rfl, h.out⟩
/-- a new one, in the region Data or Return -/
theorem rs_new (rg : Int) (n : Nat) (hn : n ≤ 512) (un ov : Int) (hrg : (rg = 4 ∧ un = 1 ∧ ov = 2) ∨ (rg = 5 ∧ un = 3 ∧ ov = 4)) (w : World) :
    Calls Tryz.prog 68 #[.int .i64 rg, .int .i64 ((8 * n : Nat) : Int)] w (PostE (fun e B => ∃ g gr, e = .returned (.tuple #[.pointer (some ⟨g, 0, none⟩), .bool true]) ∧ B = AllA (rstkL g gr 0 un ov (List.replicate n 0))) Nob w) := by
  have hmk := run_make_row' (P := Tryz.prog) 25 3 (.int .i64 0) 8 Tryz.underlying25 (by kernel_rfl) rfl .i64 .i64 n (by omega) (by omega) w
  rw [made0i] at hmk
  have hq : ((8 * n : Nat) : Int).tdiv 8 = (n : Int) := by rw [Int.tdiv_eq_ediv_of_nonneg (by omega)]; omega
  have hq2 : ((8 * n : Nat) : Int) / 8 = (n : Int) := by omega
  have hon := ((On.refl (A := AllA []) (F := Nob) (w := w) (fun _ h => h)).box (intsC (List.replicate n 0)) 3)
  have hlen : (List.replicate n (0 : Int)).length = n := by simp
  have hfin := fun W (h : On Nob w (AllA [BlkA (w.heap.size + 1) 200 (rstkC w.heap.size n 0 un ov), BlkA w.heap.size 3 (intsC (List.replicate n 0))]) W) => (by
    unfold rstkL
    rw [hlen]
    exact h : On Nob w (AllA (rstkL (w.heap.size + 1) w.heap.size 0 un ov (List.replicate n 0))) W)
  have hn8 : ((8 * n : Nat) : Int) = 8 * (n : Int) := by omega
  have hsz : (w.alloc (.cells (intsC (List.replicate n 0)) 3)).heap.size = w.heap.size + 1 := by simp
  have hbx := hon.box (rstkC w.heap.size n 0 un ov) 200
  rw [hsz] at hbx
  unfold rstkC at hbx hfin
  have hfin2 := hfin _ hbx
  generalize intsC (List.replicate n 0) = row at *
  rw [hn8]
  rw [hn8] at hq2 hq
  replace hon := Lib.hid hon
  replace hfin := Lib.hid hfin
  replace hfin2 := Lib.hid hfin2
  replace hn8 := Lib.hid hn8
  clear hlen hbx
  rcases hrg with ⟨rfl, rfl, rfl⟩ | ⟨rfl, rfl, rfl⟩
  · go_enter Tryz.func68, Tryz.ntmps68
    go_wp2
    go_ret2
    exact ⟨_, ⟨_, _, rfl, rfl⟩, hfin2.out⟩
  · go_enter Tryz.func68, Tryz.ntmps68
    go_wp2
    go_ret2
    exact ⟨_, ⟨_, _, rfl, rfl⟩, hfin2.out⟩
end
end Vm
end Go.Proofs.YtjhdpmimccpcdaaGreatDoor
