/- Chapter 11: a run, from instruction to instruction. Conditions: as written. -/
import Derived.Test.YtjhdpmimccpcdaaGreatDoorT30
import Derived.Recover
import Derived.Deep.DeepCutAuto
import Derived.ScopeJumps
import Derived.WalkMore
import Derived.Test.YtjhdpmimccpcdaaGreatDoorT19
namespace Go.Proofs.YtjhdpmimccpcdaaGreatDoor
set_option linter.unusedVariables false
set_option maxRecDepth 100000
open Go.RowKit Go.Lib Go.Deep
namespace Vm
/-! ### the deferred part -/
theorem assert_fault (f : Int) (w : World) : (Instr.typeAssert (.iface 52 (.int .i64 f)) 20 52 true).run Tryz.prog w = .ok (.tuple #[.int .i64 f, .bool true]) w := by
  simp [Instr.typeAssert, go_sem, run_underlying Tryz.underlying52]
theorem catch_panicking (p : Addr) (v : Value) (f : Int) (w : World) (hc : w.cell? p = some v) (hz : w.frozen? p = false) :
    CallsD Tryz.prog 79 #[.pointer (some p)] (.panicking [flt f]) w fun e u' w' =>
      e = .returned (.tuple #[]) ∧ u' = .panicking [{ v := .iface 52 (.int .i64 f), recovered := true }] ∧ w' = w.setCell p (.int .i64 f) := by
  have hta := assert_fault f w
  refine callsD_of_wpS Tryz.func79 rfl fun c₀ cs hu => ?_
  apply wpS_seq
  apply wpS_region
  simp [wpOpsS, go_sem, recoverD, hu, flt, Tryz.ntmps79, Exit.thenS]
  refine wpS_of_wp ?_
  simp only [Array.replicate_succ, Array.replicate_zero, List.push_toArray, List.append_toArray, List.nil_append, List.cons_append, List.setIfInBounds_toArray, List.set_cons_zero, List.set_cons_succ]
  go_wp2
  cases c₀
  simp_all [bodyPostS, results, Tryz.results79]
theorem catch_idle (p : Addr) (w : World) :
    CallsD Tryz.prog 79 #[.pointer (some p)] .returning w fun e u' w' => e = .returned (.tuple #[]) ∧ u' = .returning ∧ w' = w := by
  refine callsD_of_wpS Tryz.func79 rfl fun c₀ cs hu => ?_
  apply wpS_seq
  apply wpS_region
  simp [wpOpsS, go_sem, recoverD, hu, Tryz.ntmps79, Exit.thenS]
  refine wpS_of_wp ?_
  simp only [Array.replicate_succ, Array.replicate_zero, List.push_toArray, List.append_toArray, List.nil_append, List.cons_append, List.setIfInBounds_toArray, List.set_cons_zero, List.set_cons_succ]
  go_wp2
  cases c₀
  simp_all [bodyPostS, results, Tryz.results79]
theorem equalIn_nilFunc (d : Nat) (w : World) : (Op.equalIn (d + 1) 105 .nilFunc .nilFunc).run Tryz.prog w = .ok true w := by
  simp [Op.equalIn, run_underlying Tryz.underlying105, go_sem]
theorem equalIn_func (d : Nat) (w : World) (f : Fn) (a b : Array Value) : (Op.equalIn (d + 1) 105 (.func f a b) .nilFunc).run Tryz.prog w = .ok false w := by
  simp [Op.equalIn, run_underlying Tryz.underlying105, go_sem]
theorem neq_nilFunc (w : World) : (binOp .neq 105 .nilFunc .nilFunc).run Tryz.prog w = .ok (.bool false) w := by
  simp only [binOp]
  simp [go_sem, Op.equal, show Op.maxDepth = 9999 + 1 from rfl, equalIn_nilFunc]
theorem neq_func (w : World) (f : Fn) (a b : Array Value) : (binOp .neq 105 (.func f a b) .nilFunc).run Tryz.prog w = .ok (.bool true) w := by
  simp only [binOp]
  simp [go_sem, Op.equal, show Op.maxDepth = 9999 + 1 from rfl, equalIn_func]
/-! ### play -/
theorem first_of_two {p : Prop} (h : p) : p := h
/-- Q, but False at a panic: for a region that draws its order in a function that defers -/
def NoPan (Q : Exit → Act → World → Prop) : Exit → Act → World → Prop
  | .panic _, _, _ => False
  | e, a, w => Q e a w
theorem NoPan.normal {Q : Exit → Act → World → Prop} {a : Act} {w : World} (h : Q .normal a w) : NoPan Q .normal a w := h
theorem wp_region_noPan {P : Program} {id : Nat} {ops : Array Oper} {b : Bool} {Q : Exit → Act → World → Prop} {a : Act} {w : World} (h : (Code.region id ops b).wp P (NoPan Q) a w) : (Code.region id ops b).wp P Q a w :=
  wp_mono h fun e a w h => by cases e <;> first | exact h | exact (h : False).elim
section
variable {P : Program} {a : Act} {w : World} {Q : Exit → Act → World → Prop}
/-- a scope in which the run jumps back to one label: what holds at each jump bears a number -/
theorem wp_scope_ghost {c rest : Code} (l : Nat) (I : Nat → Act → World → Prop) (hf : findLabel c l = some (Code.skip.seq rest))
    (pass : ∀ n a w, I n a w → rest.wp P (Exit.jump l (fun a' w' => ∃ n', n' < n ∧ I n' a' w') Q) a w)
    (first : (∀ n a w, I n a w → rest.wp P (Exit.jump l (fun a w => ∃ n, I n a w) Q) a w) → c.wp P (Exit.jump l (fun a w => ∃ n, I n a w) Q) a w) : (Code.scope c).wp P Q a w := by
  refine wp_scope_jumps l (fun a w => ∃ n, I n a w) (fun a w => leastOf (fun n => I n a w)) hf (first fun n a w h => wp_mono (pass n a w h) ?_) ?_
  · intro e a' w' hq
    cases e with
    | goto l' => exact ⟨hq.1, let ⟨n', _, h⟩ := hq.2; ⟨n', h⟩⟩
    | normal => exact hq
    | exit id => exact hq
    | ret => exact hq
    | panic ch => exact hq
    | outgrown => exact hq
  · intro a w h
    refine wp_mono (wp_seq (wp_skip (pass _ a w (leastOf_spec h).1))) ?_
    intro e a' w' hq
    cases e with
    | goto l' =>
      obtain ⟨hl, n', hlt, hI⟩ := hq
      exact ⟨hl, ⟨n', hI⟩, Nat.lt_of_le_of_lt ((leastOf_spec ⟨n', hI⟩).2 n' hI) hlt⟩
    | normal => exact hq
    | exit id => exact hq
    | ret => exact hq
    | panic ch => exact hq
    | outgrown => exact hq
end
section
variable {w w' : World} {F : Nat → Prop} {c : Vc} {g : Nat} {x : Rn} {src : Value} {s : Mt}
/-- cells laid on the return stack, of a row that lies beside -/
theorem v_pushR_under (m : Nat) {L : List Asr} (hm : m ≤ L.length) (hL : L.drop m = vL c g x src s) (h : On F w (AllA L) w') (hs : s.Ok) (l : List Int) (hl : ∀ v ∈ l, V64 v)
    (j : Nat) (hj : j < m) (rb : Nat) (hrow : L[j]? = some (BlkA rb 3 (intsC l))) (hroom : l.length ≤ s.pr.rm - s.r) :
    Calls Tryz.prog 73 #[.pointer (some ⟨c.gR, 0, none⟩), .slice (some ⟨rb, 0, none⟩) l.length l.length] w' (Got (.returned (.int .i64 0)) (AllA (L.take m ++ vL c g x src (s.pushR l))) F w) := by
  refine h.callDrop m hm fun F' hb hdis _ => ?_
  rw [hL] at hb
  obtain ⟨F3, hB, hfar⟩ := hdis j _ hj hrow
  obtain ⟨h1, h2⟩ := carries_row rb l _ _ hB
  exact v_pushR (On.refl hb) hs l hl (some ⟨rb, 0, none⟩) l.length h1 (fun a ha => ⟨fun hk => hfar _ (h2 a ha) hk, by
    obtain rfl : a = ⟨rb, 0, none⟩ := by injection ha with ha; exact ha.symm
    exact hB.1.lt⟩) hroom
/-- what is known of the told steps: nobody is told, or it is a method on the law's pair -/
def TellOk (c : Vc) (tells : Bool) : Prop :=
  (tells = false ∧ c.tell = .nilFunc) ∨
  (tells = true ∧ ∃ gb, c.tell = .func (.func 49) #[.pointer (some ⟨gb, 0, none⟩)] #[] ∧
    ∀ (l : List Stp) (p : Stp) (w : World) (F : Nat → Prop), l.length < 1000000000 → (c.tl l).holds w F → Calls Tryz.prog 49 #[.pointer (some ⟨gb, 0, none⟩), .agg #[.int .i64 p.at_, .int .i64 p.op, .int .i64 p.dep, .int .i64 p.top, .int .i64 p.fuel]] w (Got (.returned (.tuple #[])) (c.tl (l ++ [p])) F w))
def plL (c : Vc) (g fb : Nat) (i : Inst) (f : Int) (x : Rn) (src : Value) (s : Mt) : List Asr := BlkA (fb + 1) 178 i.c :: BlkA fb 52 #[.int .i64 f] :: vL c g x src s
/-- at the loop's label -/
def PlayI (w : World) (F : Nat → Prop) (c : Vc) (g fb : Nat) (xt : Int) (src : Value) (q : Rs) (tells : Bool) (n : Nat) (a : Act) (wr : World) : Prop :=
  ∃ u : Nat → Value, a = { tmps := #[.pointer (some ⟨g, 0, none⟩), .int .i64 xt, u 2, u 3, .pointer (some ⟨fb, 0, none⟩), .pointer (some ⟨fb + 1, 0, none⟩), u 6, u 7, u 8, u 9, u 10, u 11, u 12, u 13, u 14, u 15, u 16, u 17, u 18, u 19, u 20, u 21, u 22, u 23, u 24, u 25, u 26, u 27, u 28, u 29, u 30, u 31, u 32, u 33, u 34, u 35, u 36, u 37, u 38, u 39, u 40, u 41, u 42, u 43, u 44, u 45, u 46, u 47, u 48, u 49, u 50, u 51, u 52, u 53, u 54, u 55, u 56, u 57, u 58, u 59, u 60, u 61, u 62, u 63, u 64, u 65, u 66, u 67, u 68, u 69, u 70, u 71, u 72, u 73, u 74, u 75, u 76, u 77, u 78, u 79, u 80, u 81, u 82, u 83, u 84, u 85, u 86, u 87, u 88, u 89, u 90, u 91, u 92, u 93, u 94, u 95, u 96, u 97, u 98, u 99, u 100, u 101, u 102, u 103, u 104, u 105, u 106, u 107, u 108, u 109, u 110, u 111, u 112, u 113, u 114, u 115, u 116, u 117, u 118, u 119, u 120, u 121, u 122, u 123, u 124, u 125, u 126, u 127, u 128, u 129, u 130, u 131], defers := [{ target := .fn (.func 79) #[.pointer (some ⟨fb, 0, none⟩)], args := #[] }] } ∧
    ∃ (i : Inst) (f : Int) (x : Rn) (s : Mt), On F w (AllA (plL c g fb i f x src s)) wr ∧ s.Ok ∧ x.Ok ∧ s.tells = tells ∧ goesS n x s = some q ∧ s.seen.length + n ≤ 1000000000
theorem PlayI.mk {w : World} {F : Nat → Prop} {c : Vc} {g fb : Nat} {xt : Int} {src : Value} {q : Rs} {tells : Bool} {n : Nat} {tm : Array Value} {wr : World} (u : Nat → Value) (hu : u = fun k => tm.toList.getD k undef) (h : tm = #[.pointer (some ⟨g, 0, none⟩), .int .i64 xt, u 2, u 3, .pointer (some ⟨fb, 0, none⟩), .pointer (some ⟨fb + 1, 0, none⟩), u 6, u 7, u 8, u 9, u 10, u 11, u 12, u 13, u 14, u 15, u 16, u 17, u 18, u 19, u 20, u 21, u 22, u 23, u 24, u 25, u 26, u 27, u 28, u 29, u 30, u 31, u 32, u 33, u 34, u 35, u 36, u 37, u 38, u 39, u 40, u 41, u 42, u 43, u 44, u 45, u 46, u 47, u 48, u 49, u 50, u 51, u 52, u 53, u 54, u 55, u 56, u 57, u 58, u 59, u 60, u 61, u 62, u 63, u 64, u 65, u 66, u 67, u 68, u 69, u 70, u 71, u 72, u 73, u 74, u 75, u 76, u 77, u 78, u 79, u 80, u 81, u 82, u 83, u 84, u 85, u 86, u 87, u 88, u 89, u 90, u 91, u 92, u 93, u 94, u 95, u 96, u 97, u 98, u 99, u 100, u 101, u 102, u 103, u 104, u 105, u 106, u 107, u 108, u 109, u 110, u 111, u 112, u 113, u 114, u 115, u 116, u 117, u 118, u 119, u 120, u 121, u 122, u 123, u 124, u 125, u 126, u 127, u 128, u 129, u 130, u 131]) (i : Inst) (f : Int) (x : Rn) (s : Mt) (h1 : On F w (AllA (plL c g fb i f x src s)) wr) (h2 : s.Ok) (h3 : x.Ok) (h4 : s.tells = tells) (h5 : goesS n x s = some q) (h6 : s.seen.length + n ≤ 1000000000) :
    PlayI w F c g fb xt src q tells n { tmps := tm, defers := [{ target := .fn (.func 79) #[.pointer (some ⟨fb, 0, none⟩)], args := #[] }] } wr := ⟨u, by rw [← h], i, f, x, s, h1, h2, h3, h4, h5, h6⟩
/-- a run's end at its door, nothing thrown -/
theorem door_ret (fb : Nat) (f : Int) (w wr : World) (F : Nat → Prop) (c : Vc) (g : Nat) (x : Rn) (src : Value) (s : Mt) (i : Inst) (h : On F w (AllA (plL c g fb i f x src s)) wr) (tm : Array Value) (h4 : tm.getD 4 undef = .pointer (some ⟨fb, 0, none⟩)) :
    bodyPostD Tryz.prog Tryz.f55 (Got (.returned (.int .i64 f)) (VA c g x src s) F w) Exit.ret { tmps := tm, defers := [{ target := .fn (.func 79) #[.pointer (some ⟨fb, 0, none⟩)], args := #[] }] } wr := by
  refine leaves_cons (f := 79) (args := #[.pointer (some ⟨fb, 0, none⟩)]) (by simp) (by simp [go_sem]) ?_
  refine (catch_idle ⟨fb, 0, none⟩ wr).mono ?_
  rintro e u' w'' ⟨rfl, rfl, rfl⟩
  have c0 : w''.cell? ⟨fb, 0, none⟩ = some (.int .i64 f) := (h.blkAt 1 rfl).cell 0
  have h4' : tm[4]?.getD undef = .pointer (some ⟨fb, 0, none⟩) := by simpa using h4
  refine ⟨.int .i64 f, ?_, rfl, h.tail.tail⟩
  simp [results, Tryz.results55, go_sem, h4', c0]
/-- .. something thrown -/
theorem door_panic (fb : Nat) (f f0 : Int) (w wr : World) (F : Nat → Prop) (c : Vc) (g : Nat) (x : Rn) (src : Value) (s : Mt) (i : Inst) (h : On F w (AllA (plL c g fb i f0 x src s)) wr) (tm : Array Value) (h4 : tm.getD 4 undef = .pointer (some ⟨fb, 0, none⟩)) :
    bodyPostD Tryz.prog Tryz.f55 (Got (.returned (.int .i64 f)) (VA c g x src s) F w) (Exit.panic [flt f]) { tmps := tm, defers := [{ target := .fn (.func 79) #[.pointer (some ⟨fb, 0, none⟩)], args := #[] }] } wr := by
  refine leaves_cons (f := 79) (args := #[.pointer (some ⟨fb, 0, none⟩)]) (by simp) (by simp [go_sem]) ?_
  have hb := h.blkAt 1 rfl
  refine (catch_panicking ⟨fb, 0, none⟩ (.int .i64 f0) f wr (hb.cell 0) (hb.frozen 0)).mono ?_
  rintro e u' w'' ⟨rfl, rfl, rfl⟩
  have h2 := h.setAt 1 rfl 0 (.int .i64 f)
  have c0 : (wr.setCell ⟨fb, 0, none⟩ (.int .i64 f)).cell? ⟨fb, 0, none⟩ = some (.int .i64 f) := (h2.blkAt 1 rfl).cell 0
  have h4' : tm[4]?.getD undef = .pointer (some ⟨fb, 0, none⟩) := by simpa using h4
  refine ⟨.int .i64 f, ?_, rfl, h2.tail.tail⟩
  simp [results, Tryz.results55, go_sem, h4', c0]
set_option maxHeartbeats 8000000 in
theorem v_play (hb : (VA c g x src s).holds w F) (hs : s.Ok) (hx : x.Ok) (xt : Int) (hxt : V64 xt) (q : Rs) (hq : goesS (x.left.toNat + 1) { x with pc := xt } (s.pushR [0]) = some q) (hroom : 1 ≤ s.pr.rm - s.r) (htell : TellOk c s.tells) (hsn : s.seen.length + x.left.toNat < 1000000000) :
    Calls Tryz.prog 55 #[.pointer (some ⟨g, 0, none⟩), .int .i64 xt] w (Got (.returned (.int .i64 q.f)) (VA c g q.x src q.s) F w) := by
  have hon := (((On.refl hb).box #[.int .i64 0] 52).box #[.int .i64 0, .int .i64 0, .int .i64 0, .int .i64 0] 178).box #[.int .i64 0] 3
  have hz : (w.alloc (.cells #[.int .i64 0] 52)).heap.size = w.heap.size + 1 := by simp
  have hz2 : ((w.alloc (.cells #[.int .i64 0] 52)).alloc (.cells #[.int .i64 0, .int .i64 0, .int .i64 0, .int .i64 0] 178)).heap.size = w.heap.size + 2 := by simp
  rw [hz, hz2] at hon
  have r0 := (On.refl hb).r0
  have m6 := (On.refl hb).m6
  have hlt := (On.refl hb).rlt
  have hmlt := (On.refl hb).mlt
  have hpush := v_pushR_under (c := c) (g := g) (x := x) (src := src) (s := s) 3 (by simp) rfl hon hs [0] (fun v hv => by rw [List.mem_singleton.1 hv]; unfold V64; omega) 0 (by omega) (w.heap.size + 2) rfl hroom
  have hmf : ∀ (fn : Fn) (first cap : Array Value) (w : World), (Instr.makeFunc fn first cap).run Tryz.prog w = .ok (.func fn first cap) w := fun _ _ _ _ => rfl
  replace hpush := Lib.hid hpush
  replace hon := Lib.hid hon
  replace hq := Lib.hid hq
  replace htell := Lib.hid htell
  replace hsn := Lib.hid hsn
  clear hb hz hz2
  go_enter_defers Tryz.func55, Tryz.ntmps55
  go_wp2_with fail
  refine wp_scope_ghost 0 (PlayI w F c g w.heap.size xt src q s.tells) rfl ?pass ?first
  case first =>
    intro hpass
    replace hpass := Lib.hid hpass
    go_wp2_with fail
    refine hpush.out.mono ?_
    rintro e w1 ⟨rfl, hon1⟩
    have hon1 := hon1.tail
    have f3 := hon1.tail.tail.rf 3
    have c3 := hon1.tail.tail.r3
    have hset := hon1.setAt 2 rfl 3 (.int .i64 xt)
    replace hset := Lib.hid hset
    replace hon1 := Lib.hid hon1
    go_wp2_with fail
    refine (try_ok _).mono ?_
    rintro e w2 ⟨rfl, rfl⟩
    go_wp2_with fail
    go_step3
    rename_i hK
    refine hK _ _ ?_
    exact hpass.out (x.left.toNat + 1) _ _ (PlayI.mk _ rfl rfl Inst.none 0 { x with pc := xt } (s.pushR [0]) hset.out (pushR_ok hs [0] hroom) ⟨hx.base, hx.base2, hx.next, hxt, hx.left, hx.left2⟩ rfl hq.out (by have h := hsn.out; show s.seen.length + (x.left.toNat + 1) ≤ _; omega))
  case pass =>
    intro n a wr hI
    obtain ⟨u, ha, i0, f0, x1, s1, hon1, hs1, hx1, ht1, hq1, hn1⟩ := hI
    subst ha
    clear hpush hq hon r0 m6 hlt hmlt hsn
    replace hn1 := Lib.hid hn1
    cases n with
    | zero => cases hq1
    | succ n =>
      have q00 := hon1.tail.tail.r0
      have q2 := hon1.tail.tail.r2
      have q3 := hon1.tail.tail.r3
      have q1 := hon1.tail.tail.r1
      have qm0 := hon1.tail.tail.m0
      have fr := hon1.tail.tail.rf
      have ff := (hon1.blkAt 1 rfl).frozen 0
      unfold goesS at hq1
      by_cases hl : x1.left = 0
      · have hst : stepS x1 s1 = some ⟨13, x1, s1⟩ := by unfold stepS; rw [if_pos hl]
        rw [hst] at hq1
        have hq2 : q = ⟨13, x1, s1⟩ := by
          have h := hq1
          simp at h
          exact h.symm
        subst hq2
        have e1 : (x1.left == 0) = true := by simpa using hl
        have hset := hon1.setAt 1 rfl 0 (.int .i64 13)
        have qf : wr.cell? ⟨w.heap.size, 0, none⟩ = some (.int .i64 f0) := (hon1.blkAt 1 rfl).cell 0
        replace hset := Lib.hid hset
        replace hon1 := Lib.hid hon1
        clear hl hq1 hst hs1 hx1 ht1 hs hx hxt hroom
        go_wp2_with fail
        exact door_ret w.heap.size 13 w _ F c g x1 src s1 i0 hset.out _ rfl
      · have e1 : (x1.left == 0) = false := by simpa using hl
        have e0 := Lib.hid e1
        have hl0 := hx1.left
        have hl2 := hx1.left2
        have hst : stepS x1 s1 = if (s1.S.fetch x1.mode x1.pc).2 ≠ 0 then some ⟨(s1.S.fetch x1.mode x1.pc).2, { x1 with left := x1.left - 1 }, s1⟩
          else
            let i := (s1.S.fetch x1.mode x1.pc).1
            let x2 := { x1 with left := x1.left - 1, next := wrap64 (x1.pc + 8 * i.cells) }
            if asks i x2 s1 ≠ 0 then some ⟨asks i x2 s1, x2, s1⟩
            else (parts i).map fun q => if (q x2 s1).f ≠ 0 then q x2 s1 else ⟨0, { (q x2 s1).x with pc := (q x2 s1).x.next }, (q x2 s1).s.told (q x2 s1).x i.op⟩ := by unfold stepS; rw [if_neg hl]
        rw [hst] at hq1
        clear hst
        have hon2 : On F w (AllA (plL c g w.heap.size i0 f0 { x1 with left := x1.left - 1 } src s1)) (wr.setCell ⟨g, 2, none⟩ (.int .i64 (x1.left - 1))) := hon1.setAt 2 rfl 2 (.int .i64 (x1.left - 1))
        have hfe := fun w1 (h1 : On F w (AllA (plL c g w.heap.size i0 f0 { x1 with left := x1.left - 1 } src s1)) w1) => h1.callAtG 4 rfl (fun F' ha => got_of_at ha fun w0 L h => fetch_walk h x1.mode x1.pc)
        have hv := fetch_v64 s1.S x1.mode x1.pc
        obtain ⟨I, hI⟩ : ∃ I, s1.S.fetch x1.mode x1.pc = I := ⟨_, rfl⟩
        rw [hI] at hfe hq1 hv
        obtain ⟨i, f⟩ := I
        simp only [Inst.v] at hfe hq1 hv
        clear hI
        replace hfe := Lib.hid hfe
        replace hq1 := Lib.hid hq1
        replace hon1 := Lib.hid hon1
        replace hon2 := Lib.hid hon2
        replace hv := Lib.hid hv
        clear hl
        go_wp2_with fail
        generalize wr.setCell ⟨g, 2, none⟩ (.int .i64 (x1.left - 1)) = wr2 at *
        have p0 := hon2.out.tail.tail.r0
        have p1 := hon2.out.tail.tail.r1
        have p3 := hon2.out.tail.tail.r3
        have pm := hon2.out.tail.tail.m0
        have n1 := hon2.out.neAt 0 2 (by decide) rfl rfl
        have n2 := hon2.out.neAt 1 2 (by decide) rfl rfl
        have n3 := hon2.out.neAt 0 3 (by decide) rfl rfl
        have n4 := hon2.out.neAt 1 3 (by decide) rfl rfl
        have n5 := hon2.out.neAt 0 1 (by decide) rfl rfl
        replace hfe := Lib.hid (hfe.out wr2.drew hon2.out.drew)
        clear q00 q2 q3 q1 qm0 fr ff hon1 e1
        refine wp_region_noPan ?_
        go_region_held (fun w' => w'.cell? ⟨g, 0, none⟩ = some (.pointer (some ⟨c.gM, 0, none⟩)) ∧ w'.cell? ⟨c.gM, 0, none⟩ = some (.pointer (some ⟨c.gI, 0, none⟩)) ∧ w'.cell? ⟨g, 1, none⟩ = some (.int .i64 x1.mode) ∧ w'.cell? ⟨g, 3, none⟩ = some (.int .i64 x1.pc)) (go_keep)
          ((go_at_call 81; refine hfe.out.mono ?_; rintro e w3 ⟨rfl, hon3⟩; have z0 := hon3.tail.tail.r0; have z1 := hon3.tail.tail.r1; have z3 := hon3.tail.tail.r3; have zm := hon3.tail.tail.m0; have y0 : w3.cell? ⟨w.heap.size + 1, 0, none⟩ = some (.int .i64 i0.op) := (hon3.blkAt 0 rfl).cell 0; have y1 : w3.cell? ⟨w.heap.size + 1, 1, none⟩ = some (.int .i64 i0.arg) := (hon3.blkAt 0 rfl).cell 1; have y2 : w3.cell? ⟨w.heap.size + 1, 2, none⟩ = some (.int .i64 i0.lit) := (hon3.blkAt 0 rfl).cell 2; have y3 : w3.cell? ⟨w.heap.size + 1, 3, none⟩ = some (.int .i64 i0.cells) := (hon3.blkAt 0 rfl).cell 3; have yf : w3.cell? ⟨w.heap.size, 0, none⟩ = some (.int .i64 f0) := (hon3.blkAt 1 rfl).cell 0; have ff := (hon3.blkAt 1 rfl).frozen 0; have fi0 := (hon3.blkAt 0 rfl).frozen 0; have fi1 := (hon3.blkAt 0 rfl).frozen 1; have fi2 := (hon3.blkAt 0 rfl).frozen 2; have fi3 := (hon3.blkAt 0 rfl).frozen 3; replace hon3 := Lib.hid hon3))
        refine NoPan.normal ?_
        have hon4 : On F w (AllA (plL c g w.heap.size i f { x1 with left := x1.left - 1 } src s1)) _ := ((((hon3.out.setAt 0 rfl 0 (.int .i64 i.op)).setAt 0 rfl 1 (.int .i64 i.arg)).setAt 0 rfl 2 (.int .i64 i.lit)).setAt 0 rfl 3 (.int .i64 i.cells)).setAt 1 rfl 0 (.int .i64 f)
        replace hon4 := Lib.hid hon4
        clear z0 z1 z3 zm y0 y1 y2 y3 yf ff fi0 fi1 fi2 fi3 hon3 p0 p1 p3 pm hon2 hfe
        generalize (((((w3.setCell ⟨w.heap.size + 1, 0, none⟩ (.int .i64 i.op)).setCell ⟨w.heap.size + 1, 1, none⟩ (.int .i64 i.arg)).setCell ⟨w.heap.size + 1, 2, none⟩ (.int .i64 i.lit)).setCell ⟨w.heap.size + 1, 3, none⟩ (.int .i64 i.cells)).setCell ⟨w.heap.size, 0, none⟩ (.int .i64 f)) = w4 at *
        have qf : w4.cell? ⟨w.heap.size, 0, none⟩ = some (.int .i64 f) := (hon4.out.blkAt 1 rfl).cell 0
        by_cases hf : f = 0
        rotate_left
        · have hq2 : q = ⟨f, { x1 with left := x1.left - 1 }, s1⟩ := by
            have h := hq1.out
            rw [if_pos hf] at h
            simp only at h
            rw [if_pos hf] at h
            exact (Option.some.inj h).symm
          subst hq2
          have htr := fun w => try_no f hf w
          replace htr := Lib.hid htr
          clear hf hq1
          go_wp2_with fail
          refine (htr.out _).mono ?_
          rintro e w5 ⟨rfl, rfl⟩
          exact door_panic w.heap.size f f w _ F c g _ src s1 i hon4.out _ rfl
        subst hf
        have q0 := hon4.out.tail.tail.r0
        have q3 := hon4.out.tail.tail.r3
        have q4 := hon4.out.tail.tail.r4
        have qf4 := hon4.out.tail.tail.rf 4
        have b3 : w4.cell? ⟨w.heap.size + 1, 3, none⟩ = some (.int .i64 i.cells) := (hon4.out.blkAt 0 rfl).cell 3
        have k3 : ∀ v, (w4.setCell ⟨g, 4, none⟩ v).drew.cell? ⟨g, 3, none⟩ = some (.int .i64 x1.pc) := fun v => ((hon4.out.setAt 2 rfl 4 v).drew.blkAt 2 rfl).cell 3
        have kb : ∀ v, (w4.setCell ⟨g, 4, none⟩ v).drew.cell? ⟨w.heap.size + 1, 3, none⟩ = some (.int .i64 i.cells) := fun v => ((hon4.out.setAt 2 rfl 4 v).drew.blkAt 0 rfl).cell 3
        go_wp2_with fail
        refine (try_ok _).mono ?_
        rintro e w5 ⟨rfl, rfl⟩
        go_wp2_with fail
        refine wp_region_noPan ?_
        go_region_held (fun w' => w'.cell? ⟨g, 3, none⟩ = some (.int .i64 x1.pc) ∧ w'.cell? ⟨w.heap.size + 1, 3, none⟩ = some (.int .i64 i.cells)) (go_keep) (fail)
        refine NoPan.normal ?_
        have hnw : IntKind.i64.wrap (x1.pc + IntKind.i64.wrap (8 * i.cells)) = wrap64 (x1.pc + 8 * i.cells) := by
          have h := hv.out.2.2
          rw [IntWalk.i64_in (8 * i.cells) h, IntKind.wrap_i64]
          unfold wrap64
          omega
        rw [hnw]
        clear k3 kb hnw q0 q3 q4 qf4 b3 qf n1 n2 n3 n4 n5
        have hon5 : On F w (AllA (plL c g w.heap.size i 0 { x1 with left := x1.left - 1, next := wrap64 (x1.pc + 8 * i.cells) } src s1)) _ := (hon4.out.setAt 2 rfl 4 (.int .i64 (wrap64 (x1.pc + 8 * i.cells)))).drew
        have hx2 : ({ x1 with left := x1.left - 1, next := wrap64 (x1.pc + 8 * i.cells) } : Rn).Ok := by
          have hne : x1.left ≠ 0 := by simpa using e0.out
          have h1 : 0 ≤ x1.left - 1 := by omega
          have h2 : x1.left - 1 ≤ 1000000 := by omega
          exact ⟨hx1.base, hx1.base2, wrap_v64 _, hx1.pc, h1, h2⟩
        replace hon5 := Lib.hid hon5
        have hq2 := hq1.out
        rw [if_neg (by simp)] at hq2
        try simp only at hq2
        have hmode : ({ x1 with left := x1.left - 1, next := wrap64 (x1.pc + 8 * i.cells) } : Rn).left = x1.left - 1 := rfl
        generalize ({ x1 with left := x1.left - 1, next := wrap64 (x1.pc + 8 * i.cells) } : Rn) = x2 at *
        clear hq1 hon4
        generalize (w5.setCell ⟨g, 4, none⟩ (.int .i64 (wrap64 (x1.pc + 8 * i.cells)))).drew = w6 at *
        have b0 : w6.cell? ⟨w.heap.size + 1, 0, none⟩ = some (.int .i64 i.op) := (hon5.out.blkAt 0 rfl).cell 0
        have b1 : w6.cell? ⟨w.heap.size + 1, 1, none⟩ = some (.int .i64 i.arg) := (hon5.out.blkAt 0 rfl).cell 1
        have b2 : w6.cell? ⟨w.heap.size + 1, 2, none⟩ = some (.int .i64 i.lit) := (hon5.out.blkAt 0 rfl).cell 2
        have b3 : w6.cell? ⟨w.heap.size + 1, 3, none⟩ = some (.int .i64 i.cells) := (hon5.out.blkAt 0 rfl).cell 3
        have hak : Calls Tryz.prog 82 #[.pointer (some ⟨g, 0, none⟩), .agg #[.int .i64 i.op, .int .i64 i.arg, .int .i64 i.lit, .int .i64 i.cells]] w6 (Got (tryE (asks i x2 s1)) (AllA (plL c g w.heap.size i 0 x2 src s1)) F w) :=
          hon5.out.callDrop 2 (by simp [plL]) fun F' hb' _ _ => v_asks hb' hs1 hx2 i
        by_cases hA : asks i x2 s1 = 0
        rotate_left
        · obtain ⟨A, hAe⟩ : ∃ A, asks i x2 s1 = A := ⟨_, rfl⟩
          rw [hAe] at hA hak hq2
          rw [if_pos hA] at hq2
          simp only at hq2
          rw [if_pos hA] at hq2
          obtain rfl := Option.some.inj hq2
          clear hq2 hAe
          have e2 : tryE A = .panicked [flt A] := by unfold tryE; rw [if_neg hA]
          rw [e2] at hak
          clear hA e2
          replace hak := Lib.hid hak
          go_wp2_with fail
          refine hak.out.mono ?_
          rintro e w7 ⟨rfl, hon6⟩
          exact door_panic w.heap.size A 0 w _ F c g _ src s1 i hon6 _ rfl
        rw [hA] at hak
        rw [if_neg (by simp [hA])] at hq2
        have hask := Asked.of hA
        rcases hp : parts i with _ | Q
        · rw [hp] at hq2
          cases hq2
        rw [hp] at hq2
        obtain ⟨hdo, hke⟩ := parts_ok i Q hp
        obtain ⟨hs3, hx3, ht3, hlf3, hsn3⟩ := hke x2 s1 hs1 hx2 hv.out.1 hv.out.2.1 hask
        have hdoes : ∀ w1, On F w (AllA (plL c g w.heap.size i 0 x2 src s1)) w1 → Calls Tryz.prog 83 #[.pointer (some ⟨g, 0, none⟩), .agg #[.int .i64 i.op, .int .i64 i.arg, .int .i64 i.lit, .int .i64 i.cells]] w1 (Got (tryE (Q x2 s1).f) (AllA (plL c g w.heap.size i 0 (Q x2 s1).x src (Q x2 s1).s)) F w) :=
          fun w1 h1 => h1.callDrop 2 (by simp [plL]) fun F' hb' _ _ => hdo c g x2 src s1 w1 F' hs1 hx2 hv.out.1 hv.out.2.1 hask hb'
        simp only [Option.map_some] at hq2
        generalize Q x2 s1 = R at *
        obtain ⟨rf, x3, s3⟩ := R
        simp only at hq2 hs3 hx3 ht3 hlf3 hsn3 hdoes
        have hak' : Calls Tryz.prog 82 #[.pointer (some ⟨g, 0, none⟩), .agg #[.int .i64 i.op, .int .i64 i.arg, .int .i64 i.lit, .int .i64 i.cells]] w6 (Got (.returned (.tuple #[])) (AllA (plL c g w.heap.size i 0 x2 src s1)) F w) := hak
        clear hak hA hask hke hdo hp
        replace hak := Lib.hid hak'
        replace hdoes := Lib.hid hdoes
        replace hq2 := Lib.hid hq2
        clear hak'
        go_wp2_with fail
        refine hak.out.mono ?_
        rintro e w7 ⟨rfl, hon6⟩
        have d0 : w7.cell? ⟨w.heap.size + 1, 0, none⟩ = some (.int .i64 i.op) := (hon6.blkAt 0 rfl).cell 0
        have d1 : w7.cell? ⟨w.heap.size + 1, 1, none⟩ = some (.int .i64 i.arg) := (hon6.blkAt 0 rfl).cell 1
        have d2 : w7.cell? ⟨w.heap.size + 1, 2, none⟩ = some (.int .i64 i.lit) := (hon6.blkAt 0 rfl).cell 2
        have d3 : w7.cell? ⟨w.heap.size + 1, 3, none⟩ = some (.int .i64 i.cells) := (hon6.blkAt 0 rfl).cell 3
        replace hdoes := Lib.hid (hdoes.out _ hon6)
        clear hon6 b0 b1 b2 b3
        by_cases hrf : rf = 0
        rotate_left
        · have hq3 := hq2.out
          rw [if_pos hrf] at hq3
          simp only at hq3
          rw [if_pos hrf] at hq3
          obtain rfl := Option.some.inj hq3
          have e2 : tryE rf = .panicked [flt rf] := by unfold tryE; rw [if_neg hrf]
          rw [e2] at hdoes
          clear hrf e2 hq3 hq2
          go_wp2_with fail
          refine hdoes.out.mono ?_
          rintro e w8 ⟨rfl, hon7⟩
          exact door_panic w.heap.size rf 0 w _ F c g _ src s3 i hon7 _ rfl
        subst hrf
        have hdoes' : Calls Tryz.prog 83 #[.pointer (some ⟨g, 0, none⟩), .agg #[.int .i64 i.op, .int .i64 i.arg, .int .i64 i.lit, .int .i64 i.cells]] w7 (Got (.returned (.tuple #[])) (AllA (plL c g w.heap.size i 0 x3 src s3)) F w) := hdoes.out
        replace hdoes' := Lib.hid hdoes'
        clear hdoes
        go_wp2_with fail
        refine hdoes'.out.mono ?_
        rintro e w8 ⟨rfl, hon7⟩
        have c0 := hon7.tail.tail.r0
        have c7 := hon7.tail.tail.m7
        have hq3 := hq2.out
        clear hdoes' hak d0 d1 d2 d3 hq2 hon5
        obtain ⟨s4, hs4⟩ : ∃ s4, s3.told x3 i.op = s4 := ⟨_, rfl⟩
        simp only [ne_eq, not_true_eq_false, if_false, hs4] at hq3
        have hs4ok : s4.Ok := by rw [← hs4]; exact told_ok hs3 x3 i.op
        have ht4 : s4.tells = s.tells := by rw [← hs4]; unfold Mt.told; split <;> (show s3.tells = s.tells; rw [ht3, ht1])
        have ht3' : s3.tells = s.tells := by rw [ht3, ht1]
        have hn3 : s3.seen.length < 1000000000 := by have h := hn1.out; rw [hsn3]; omega
        have hn4 : s4.seen.length + n ≤ 1000000000 := by
          have h := hn1.out
          rw [← hs4]
          unfold Mt.told
          split
          · show (s3.seen ++ [_]).length + n ≤ _
            rw [List.length_append, List.length_singleton, hsn3]
            omega
          · rw [hsn3]; omega
        replace hn3 := Lib.hid hn3
        replace hn4 := Lib.hid hn4
        clear hsn3
        replace hq3 := Lib.hid hq3
        replace hs4 := Lib.hid hs4
        replace hon7 := Lib.hid hon7
        replace ht3 := Lib.hid ht3
        replace ht1 := Lib.hid ht1
        replace ht4 := Lib.hid ht4
        replace ht3' := Lib.hid ht3'
        replace hmode := Lib.hid hmode
        replace hlf3 := Lib.hid hlf3
        rcases htell.out with ⟨htf, htn⟩ | ⟨htf, gb, htn, htc⟩
        · have e4 : s4 = s3 := by
            rw [← hs4.out]
            unfold Mt.told
            rw [if_neg (by rw [ht3'.out, htf]; simp)]
          subst e4
          rw [htn] at c7
          replace htn := Lib.hid htn
          replace htf := Lib.hid htf
          have hnn := neq_nilFunc w8
          have g4 := hon7.out.tail.tail.r4
          have g3 := hon7.out.tail.tail.r3
          have gf3 := hon7.out.tail.tail.rf 3
          have hset : On F w (AllA (plL c g w.heap.size i 0 { x3 with pc := x3.next } src s4)) (w8.setCell ⟨g, 3, none⟩ (.int .i64 x3.next)) := hon7.out.setAt 2 rfl 3 (.int .i64 x3.next)
          have h5 := hset.tail.tail.r5
          have hf0 := (hset.blkAt 1 rfl).cell 0
          have hff := (hset.blkAt 1 rfl).frozen 0
          have hst : On F w (AllA (plL c g w.heap.size i 0 { x3 with pc := x3.next } src s4)) ((w8.setCell ⟨g, 3, none⟩ (.int .i64 x3.next)).setCell ⟨w.heap.size, 0, none⟩ (.int .i64 0)) := hset.setAt 1 rfl 0 (.int .i64 0)
          have hx4 : ({ x3 with pc := x3.next } : Rn).Ok := ⟨hx3.base, hx3.base2, hx3.next, hx3.next, hx3.left, hx3.left2⟩
          replace hset := Lib.hid hset
          replace hst := Lib.hid hst
          replace hon7 := Lib.hid hon7
          rcases hov : x3.over with _ | _
          · have hq4 : goesS n { x3 with pc := x3.next } s4 = some q := by
              have h := hq3.out
              rw [if_neg (by rw [hov]; simp)] at h
              exact h
            rw [hov] at h5
            replace hq4 := Lib.hid hq4
            replace hov := Lib.hid hov
            go_wp2_with fail
            go_step3
            refine ⟨rfl, n, by omega, ?_⟩
            exact PlayI.mk _ rfl rfl i 0 _ s4 hset.out hs4ok hx4 ht4.out hq4.out hn4.out
          · have hq4 : (⟨0, { x3 with pc := x3.next }, s4⟩ : Rs) = q := by
              have h := hq3.out
              rw [if_pos hov] at h
              exact Option.some.inj h
            rw [hov] at h5
            subst hq4
            replace hov := Lib.hid hov
            go_wp2_with fail
            exact door_ret w.heap.size 0 w _ F c g _ src s4 i hst.out _ rfl
        · have e4 : s4 = { s3 with seen := s3.seen ++ [⟨x3.pc, i.op, s3.d, s3.top 0, x3.left⟩] } := by
            rw [← hs4.out]
            unfold Mt.told
            rw [if_pos (by rw [ht3'.out, htf])]
          rw [htn] at c7
          have hnn := neq_func w8 (.func 49) #[.pointer (some ⟨gb, 0, none⟩)] #[]
          replace htn := Lib.hid htn
          replace htf := Lib.hid htf
          replace htc := Lib.hid htc
          replace e4 := Lib.hid e4
          have g3 := hon7.out.tail.tail.r3
          have g2 := hon7.out.tail.tail.r2
          have b0 : w8.cell? ⟨w.heap.size + 1, 0, none⟩ = some (.int .i64 i.op) := (hon7.out.blkAt 0 rfl).cell 0
          have m5 := hon7.out.tail.tail.m5
          have l1 := hon7.out.tail.tail.rlt
          have l2 := hon7.out.tail.tail.mlt
          have l3 := (hon7.out.blkAt 0 rfl).lt
          have hsd := hon7.out.tail.tail.sd
          replace hsd := Lib.hid hsd
          go_wp2_with fail
          go_upto_region 14 with fail
          go_cut [6] from 80 to 98 (fun a wx => a = .pointer (some ⟨w8.heap.size, 0, none⟩) ∧ On F w (AllA (BlkA w8.heap.size 60 #[.int .i64 x3.pc, .int .i64 i.op, .int .i64 s3.d, .int .i64 0, .int .i64 x3.left] :: plL c g w.heap.size i 0 x3 src s3)) wx)
          case first =>
            have hbx := (hon7.out.box #[.int .i64 x3.pc, .int .i64 i.op, .int .i64 s3.d, .int .i64 0, .int .i64 x3.left] 60).drew
            replace hbx := Lib.hid hbx
            refine wp_region_noPan ?_
            go_region_held (fun w' => w'.cell? ⟨g, 0, none⟩ = some (.pointer (some ⟨c.gM, 0, none⟩)) ∧ w'.cell? ⟨c.gM, 5, none⟩ = some (.pointer (some ⟨c.gD, 0, none⟩)) ∧ w'.cell? ⟨g, 3, none⟩ = some (.int .i64 x3.pc) ∧ w'.cell? ⟨g, 2, none⟩ = some (.int .i64 x3.left) ∧ w'.cell? ⟨w.heap.size + 1, 0, none⟩ = some (.int .i64 i.op)) (go_keep)
              ((go_at_call 17; refine (k_depth (first_of_two (p := Blk _ c.gD 113 (stkC c.gI s3.pd s3.d)) (by first | exact hsd.out.drew | exact (hsd.out.alloc _).drew))).mono ?_; rintro e w9 ⟨rfl, rfl⟩))
            all_goals refine NoPan.normal ?_
            all_goals go_wp2_with fail
            all_goals go_meet
            all_goals exact ⟨rfl, hbx.out⟩
          case rest =>
            obtain ⟨rfl, honc⟩ := hcut
            clear hnn g3 g2 b0 m5 l1 l2 l3 hsd
            have r0 := honc.tail.tail.tail.r0
            have m5 := honc.tail.tail.tail.m5
            obtain ⟨gb', him⟩ := honc.tail.tail.tail.im
            have hpk := k_peek honc.tail.tail.tail.sd him hs3.pd hs3.dle 0
            unfold peekV at hpk
            have etop : stopv s3.S s3.pd.fr s3.d 0 = s3.top 0 := rfl
            rw [etop] at hpk
            generalize (if hasB s3.d 0 = true then 0 else s3.pd.un) = pf at *
            clear him etop
            replace hpk := Lib.hid hpk
            replace honc := Lib.hid honc
            go_wp2_with fail
            refine hpk.out.mono ?_
            rintro e wp ⟨rfl, hbl⟩
            have hon9 := honc.out.below hbl
            have y3 : wp.cell? ⟨w8.heap.size, 3, none⟩ = some (.int .i64 0) := (hon9.blkAt 0 rfl).cell 3
            have f3 := (hon9.blkAt 0 rfl).frozen 3
            have hst3 : On F w (AllA (BlkA w8.heap.size 60 #[.int .i64 x3.pc, .int .i64 i.op, .int .i64 s3.d, .int .i64 (s3.top 0), .int .i64 x3.left] :: plL c g w.heap.size i 0 x3 src s3)) (wp.setCell ⟨w8.heap.size, 3, none⟩ (.int .i64 (s3.top 0))) := hon9.setAt 0 rfl 3 (.int .i64 (s3.top 0))
            have v0 := hst3.tail.tail.tail.r0
            have v7 := hst3.tail.tail.tail.m7
            rw [htn.out] at v7
            have x0 : (wp.setCell ⟨w8.heap.size, 3, none⟩ (.int .i64 (s3.top 0))).cell? ⟨w8.heap.size, 0, none⟩ = some (.int .i64 x3.pc) := (hst3.blkAt 0 rfl).cell 0
            have x1c : (wp.setCell ⟨w8.heap.size, 3, none⟩ (.int .i64 (s3.top 0))).cell? ⟨w8.heap.size, 1, none⟩ = some (.int .i64 i.op) := (hst3.blkAt 0 rfl).cell 1
            have x2c : (wp.setCell ⟨w8.heap.size, 3, none⟩ (.int .i64 (s3.top 0))).cell? ⟨w8.heap.size, 2, none⟩ = some (.int .i64 s3.d) := (hst3.blkAt 0 rfl).cell 2
            have x3c : (wp.setCell ⟨w8.heap.size, 3, none⟩ (.int .i64 (s3.top 0))).cell? ⟨w8.heap.size, 3, none⟩ = some (.int .i64 (s3.top 0)) := (hst3.blkAt 0 rfl).cell 3
            have x4c : (wp.setCell ⟨w8.heap.size, 3, none⟩ (.int .i64 (s3.top 0))).cell? ⟨w8.heap.size, 4, none⟩ = some (.int .i64 x3.left) := (hst3.blkAt 0 rfl).cell 4
            have htl : Calls Tryz.prog 49 #[.pointer (some ⟨gb, 0, none⟩), .agg #[.int .i64 x3.pc, .int .i64 i.op, .int .i64 s3.d, .int .i64 (s3.top 0), .int .i64 x3.left]] (wp.setCell ⟨w8.heap.size, 3, none⟩ (.int .i64 (s3.top 0))).drew
                (Got (.returned (.tuple #[])) (AllA (BlkA w8.heap.size 60 #[.int .i64 x3.pc, .int .i64 i.op, .int .i64 s3.d, .int .i64 (s3.top 0), .int .i64 x3.left] :: plL c g w.heap.size i 0 x3 src s4)) F w) := by
              rw [e4.out]
              exact hst3.drew.callAtG 11 rfl (fun F' ha => htc.out s3.seen ⟨x3.pc, i.op, s3.d, s3.top 0, x3.left⟩ _ F' hn3.out ha)
            generalize s3.top 0 = tp at hpk hst3 htl x0 x1c x2c x3c x4c v0 v7 ⊢
            replace htl := Lib.hid htl
            replace hst3 := Lib.hid hst3
            replace hon9 := Lib.hid hon9
            clear hbl
            go_wp2_with fail
            generalize wp.setCell ⟨w8.heap.size, 3, none⟩ (.int .i64 tp) = wq at *
            refine wp_region_noPan ?_
            go_region_held (fun w' => w'.cell? ⟨g, 0, none⟩ = some (.pointer (some ⟨c.gM, 0, none⟩)) ∧ w'.cell? ⟨c.gM, 7, none⟩ = some (.func (.func 49) #[.pointer (some ⟨gb, 0, none⟩)] #[]) ∧ w'.cell? ⟨w8.heap.size, 0, none⟩ = some (.int .i64 x3.pc) ∧ w'.cell? ⟨w8.heap.size, 1, none⟩ = some (.int .i64 i.op) ∧ w'.cell? ⟨w8.heap.size, 2, none⟩ = some (.int .i64 s3.d) ∧ w'.cell? ⟨w8.heap.size, 3, none⟩ = some (.int .i64 tp) ∧ w'.cell? ⟨w8.heap.size, 4, none⟩ = some (.int .i64 x3.left)) (go_keep)
              ((go_at_call 49; refine htl.out.mono ?_; rintro e w9 ⟨rfl, honz⟩; have s0 := honz.tail.tail.tail.r0; have s7 := honz.tail.tail.tail.m7; rw [htn.out] at s7; have o0 : w9.cell? ⟨w8.heap.size, 0, none⟩ = some (.int .i64 x3.pc) := (honz.blkAt 0 rfl).cell 0; have o1 : w9.cell? ⟨w8.heap.size, 1, none⟩ = some (.int .i64 i.op) := (honz.blkAt 0 rfl).cell 1; have o2 : w9.cell? ⟨w8.heap.size, 2, none⟩ = some (.int .i64 s3.d) := (honz.blkAt 0 rfl).cell 2; have o3 : w9.cell? ⟨w8.heap.size, 3, none⟩ = some (.int .i64 tp) := (honz.blkAt 0 rfl).cell 3; have o4 : w9.cell? ⟨w8.heap.size, 4, none⟩ = some (.int .i64 x3.left) := (honz.blkAt 0 rfl).cell 4; replace honz := Lib.hid honz))
            refine NoPan.normal ?_
            have hon8 : On F w (AllA (plL c g w.heap.size i 0 x3 src s4)) w9 := honz.out.tail
            replace hon8 := Lib.hid hon8
            clear s0 s7 o0 o1 o2 o3 o4 v0 v7 x0 x1c x2c x3c x4c y3 f3
            have g4 := hon8.out.tail.tail.r4
            have g3 := hon8.out.tail.tail.r3
            have gf3 := hon8.out.tail.tail.rf 3
            have hset : On F w (AllA (plL c g w.heap.size i 0 { x3 with pc := x3.next } src s4)) (w9.setCell ⟨g, 3, none⟩ (.int .i64 x3.next)) := hon8.out.setAt 2 rfl 3 (.int .i64 x3.next)
            have h5 := hset.tail.tail.r5
            have hf0 := (hset.blkAt 1 rfl).cell 0
            have hff := (hset.blkAt 1 rfl).frozen 0
            have hst : On F w (AllA (plL c g w.heap.size i 0 { x3 with pc := x3.next } src s4)) ((w9.setCell ⟨g, 3, none⟩ (.int .i64 x3.next)).setCell ⟨w.heap.size, 0, none⟩ (.int .i64 0)) := hset.setAt 1 rfl 0 (.int .i64 0)
            have hx4 : ({ x3 with pc := x3.next } : Rn).Ok := ⟨hx3.base, hx3.base2, hx3.next, hx3.next, hx3.left, hx3.left2⟩
            replace hset := Lib.hid hset
            replace hst := Lib.hid hst
            replace hon8 := Lib.hid hon8
            rcases hov : x3.over with _ | _
            · have hq4 : goesS n { x3 with pc := x3.next } s4 = some q := by
                have h := hq3.out
                rw [if_neg (by rw [hov]; simp)] at h
                exact h
              rw [hov] at h5
              replace hq4 := Lib.hid hq4
              replace hov := Lib.hid hov
              go_wp2_with fail
              go_step3
              refine ⟨rfl, n, by omega, ?_⟩
              exact PlayI.mk _ rfl rfl i 0 _ s4 hset.out hs4ok hx4 ht4.out hq4.out hn4.out
            · have hq4 : (⟨0, { x3 with pc := x3.next }, s4⟩ : Rs) = q := by
                have h := hq3.out
                rw [if_pos hov] at h
                exact Option.some.inj h
              rw [hov] at h5
              subst hq4
              replace hov := Lib.hid hov
              go_wp2_with fail
              exact door_ret w.heap.size 0 w _ F c g _ src s4 i hst.out _ rfl
end
end Vm
end Go.Proofs.YtjhdpmimccpcdaaGreatDoor
/- Chapter 11: a machine's Run. Conditions: as written. -/
namespace Go.Proofs.YtjhdpmimccpcdaaGreatDoor
set_option linter.unusedVariables false
set_option maxRecDepth 100000
open Go.RowKit Go.Lib Go.Deep
namespace Vm
def clip (fuel : Int) : Int := max 0 (min fuel 1000000)
def Rn.start (mode fuel : Int) : Rn := ⟨mode, clip fuel, 0, 0, false, false, 0⟩
theorem start_ok (mode fuel : Int) : (Rn.start mode fuel).Ok := by
  have h : 0 ≤ clip fuel ∧ clip fuel ≤ 1000000 := by unfold clip; omega
  exact ⟨by show (0 : Int) ≤ 0; omega, by show (0 : Int) ≤ 512; omega, by show V64 0; unfold V64; omega, by show V64 0; unfold V64; omega, h.1, h.2⟩
/-- all stays well -/
theorem goesS_ok : ∀ (n : Nat) (x : Rn) (s : Mt) (q : Rs), s.Ok → x.Ok → goesS n x s = some q → q.s.Ok ∧ (0 ≤ q.x.left ∧ q.x.left ≤ x.left) ∧ q.s.tells = s.tells
  | 0, _, _, _, _, _, h => by cases h
  | n + 1, x, s, q, hs, hx, h => by
    unfold goesS at h
    have h1 := hx.left
    have h2 := hx.left2
    have hst : ∀ r, stepS x s = some r → r.s.Ok ∧ (0 ≤ r.x.left ∧ r.x.left ≤ x.left) ∧ r.s.tells = s.tells ∧ (r.f = 0 → r.x.Ok) := by
      intro r hr
      unfold stepS at hr
      by_cases hl : x.left = 0
      · rw [if_pos hl] at hr
        obtain rfl := Option.some.inj hr
        exact ⟨hs, ⟨h1, Int.le_refl _⟩, rfl, fun h => by cases h⟩
      rw [if_neg hl] at hr
      by_cases hf : (s.S.fetch x.mode x.pc).2 ≠ 0
      · rw [if_pos hf] at hr
        obtain rfl := Option.some.inj hr
        exact ⟨hs, ⟨by show 0 ≤ x.left - 1; omega, by show x.left - 1 ≤ x.left; omega⟩, rfl, fun h => absurd h hf⟩
      rw [if_neg hf] at hr
      have hx2 : ({ x with left := x.left - 1, next := wrap64 (x.pc + 8 * (s.S.fetch x.mode x.pc).1.cells) } : Rn).Ok :=
        ⟨hx.base, hx.base2, wrap_v64 _, hx.pc, by show 0 ≤ x.left - 1; omega, by show x.left - 1 ≤ 1000000; omega⟩
      simp only at hr
      have hfv := fetch_v64 s.S x.mode x.pc
      generalize (s.S.fetch x.mode x.pc).1 = i at *
      have hl2 : ({ x with left := x.left - 1, next := wrap64 (x.pc + 8 * i.cells) } : Rn).left = x.left - 1 := rfl
      generalize ({ x with left := x.left - 1, next := wrap64 (x.pc + 8 * i.cells) } : Rn) = x2 at *
      by_cases ha : asks i x2 s ≠ 0
      · rw [if_pos ha] at hr
        obtain rfl := Option.some.inj hr
        exact ⟨hs, ⟨by show 0 ≤ x2.left; omega, by show x2.left ≤ x.left; omega⟩, rfl, fun h => absurd h ha⟩
      rw [if_neg ha] at hr
      rcases hp : parts i with _ | Q
      · rw [hp] at hr; cases hr
      rw [hp] at hr
      obtain ⟨_, hke⟩ := parts_ok i Q hp
      obtain ⟨hs3, hx3, ht3, hl3, _⟩ := hke x2 s hs hx2 hfv.1 hfv.2.1 (Asked.of (by simpa using ha))
      simp only [Option.map_some] at hr
      generalize Q x2 s = R at *
      by_cases hR : R.f ≠ 0
      · rw [if_pos hR] at hr
        obtain rfl := Option.some.inj hr
        exact ⟨hs3, ⟨by omega, by omega⟩, ht3, fun h => absurd h hR⟩
      rw [if_neg hR] at hr
      obtain rfl := Option.some.inj hr
      refine ⟨told_ok hs3 _ _, ⟨by show 0 ≤ R.x.left; omega, by show R.x.left ≤ x.left; omega⟩, ?_, fun _ => ⟨hx3.base, hx3.base2, hx3.next, hx3.next, hx3.left, hx3.left2⟩⟩
      show (R.s.told R.x i.op).tells = s.tells
      unfold Mt.told
      split <;> exact ht3
    rcases hr : stepS x s with _ | r
    · rw [hr] at h; cases h
    rw [hr] at h
    obtain ⟨a1, a2, a3, a4⟩ := hst r hr
    simp only at h
    by_cases hf : r.f ≠ 0
    · rw [if_pos hf] at h
      obtain rfl := Option.some.inj h
      exact ⟨a1, a2, a3⟩
    rw [if_neg hf] at h
    by_cases ho : r.x.over = true
    · rw [if_pos ho] at h
      obtain rfl := Option.some.inj h
      exact ⟨a1, a2, a3⟩
    rw [if_neg ho] at h
    obtain ⟨c1, c2, c3⟩ := goesS_ok n r.x r.s q a1 (a4 (by simpa using hf)) h
    exact ⟨c1, ⟨c2.1, by omega⟩, c3.trans a3⟩
section
variable {w w' : World} {F : Nat → Prop} {c : Vc} {s : Mt}
set_option maxHeartbeats 1000000 in
theorem v_run (hb : (AllA (mL c s)).holds w F) (hs : s.Ok) (htell : TellOk c s.tells) (mode xt fuel : Int) (hxt : V64 xt) (sp : Option Addr) (hroom : 1 ≤ s.pr.rm - s.r) (hsn : s.seen.length ≤ 900000000) (q : Rs)
    (hq : goesS ((clip fuel).toNat + 1) { Rn.start mode fuel with pc := xt } (s.pushR [0]) = some q) :
    Calls Tryz.prog 20 #[.pointer (some ⟨c.gM, 0, none⟩), .int .i64 mode, .int .i64 xt, .int .i64 fuel, .pointer sp] w (Got (.returned (.tuple #[.int .i64 q.f, .int .i64 (clip fuel - q.x.left)])) (AllA (mL c q.s)) F w) := by
  have hon := (On.refl hb).box (runC c (Rn.start mode fuel) (.pointer sp)) 121
  have hok : (Rn.start mode fuel).Ok := start_ok mode fuel
  have hq' : goesS ((Rn.start mode fuel).left.toNat + 1) { Rn.start mode fuel with pc := xt } (s.pushR [0]) = some q := hq
  have hbd := (goesS_ok _ { Rn.start mode fuel with pc := xt } _ _ (pushR_ok hs [0] hroom) ⟨hok.base, hok.base2, hok.next, hxt, hok.left, hok.left2⟩ hq).2.1
  have hcl : 0 ≤ clip fuel ∧ clip fuel ≤ 1000000 := by unfold clip; omega
  have hbd2 : q.x.left ≤ clip fuel := hbd.2
  have hbd1 := hbd.1
  have hpl := On.callG (A := AllA (RunA c w.heap.size (Rn.start mode fuel) (.pointer sp) :: mL c s)) hon (fun F' hb' => v_play (c := c) (g := w.heap.size) (x := Rn.start mode fuel) (src := (.pointer sp)) (s := s) hb' hs hok xt hxt q hq' hroom htell (by have h2 := hok.left2; omega))
  have hr : runC c (Rn.start mode fuel) (.pointer sp) = #[.pointer (some ⟨c.gM, 0, none⟩), .int .i64 mode, .int .i64 (clip fuel), .int .i64 0, .int .i64 0, .bool false, .bool false, .int .i64 0, .pointer sp] := rfl
  rw [hr] at hpl
  have hmm : max 0 (min fuel 1000000) = clip fuel := rfl
  replace hpl := Lib.hid hpl
  clear hb hon hbd hq hq' hr hok hs htell
  generalize clip fuel = L at *
  go_enter Tryz.func20, Tryz.ntmps20
  go_wp2_with fail
  refine hpl.out.mono ?_
  rintro e w1 ⟨rfl, h⟩
  have c2 : w1.cell? ⟨w.heap.size, 2, none⟩ = some (.int .i64 q.x.left) := (h.blkAt 0 rfl).cell 2
  replace h := Lib.hid h
  go_wp2_with fail
  go_quiet (fail)
  go_wp2
  go_ret2
  exact ⟨rfl, h.out.tail.drewN _⟩
end
end Vm
end Go.Proofs.YtjhdpmimccpcdaaGreatDoor
