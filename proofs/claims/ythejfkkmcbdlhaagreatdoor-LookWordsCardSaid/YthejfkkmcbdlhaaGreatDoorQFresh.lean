/- Chapter 19: fresh: a reader of a text is made, and reads. Conditions: the text is no longer than a source may be; the kernel's words are in order. -/
import Derived.Test.YthejfkkmcbdlhaaGreatDoorQRead
import Derived.Carry
import Derived.Test.YthejfkkmcbdlhaaGreatDoorQKern
import Derived.Test.YthejfkkmcbdlhaaGreatDoorQLaid
import Derived.Test.YthejfkkmcbdlhaaGreatDoorQSpec
import Derived.Test.YthejfkkmcbdlhaaGreatDoorQShelf
namespace Go.Proofs.YthejfkkmcbdlhaaGreatDoor
set_option linter.unusedVariables false
set_option maxRecDepth 100000
open Go.RowKit Go.Lib
namespace Look
section
variable {P : Program} {f : FuncId} {args : Array Value} {w w' : World} {F : Nat → Prop} {A A' : Asr} {L : List Asr} {R : Value → Asr → Prop}
/-- a call that makes an object -/
theorem On.makeA (h : On F w (AllA L) w') (hc : Calls P f args w' (Post R Nob w')) : Calls P f args w' (fun e w'' => ∃ v A', R v A' ∧ e = .returned v ∧ On F w (AllA (A' :: L)) w'') := by
  obtain ⟨F', h1, hk, hF⟩ := h
  refine hc.mono ?_
  rintro e w2 ⟨v, A', F3, hR, he, h3, hk3, hF3⟩
  refine ⟨v, A', hR, he, fun k => F3 k ∨ F' k, ⟨F3, F', h3, h1.kept hk3 (fun _ _ h => h), fun k a b => ?_, fun k => Iff.rfl⟩, hk.trans' hk3 (fun _ h => h.elim), ?_⟩
  · rcases hF3 k a with c | c
    · exact c
    · have := h1.lt b; omega
  · rintro k (a | a)
    · rcases hF3 k a with c | c
      · exact c.elim
      · exact .inr (Nat.le_trans hk.size c)
    · exact hF k a
/-- an object that takes no place -/
theorem On.addA (h : On F w (AllA L) w') (hA : A.holds w' (fun _ => False)) : On F w (AllA (A :: L)) w' :=
  h.mono fun F' h1 => ⟨fun _ => False, F', hA, h1, fun _ h _ => h, fun k => ⟨.inr, fun h => h.elim (fun h => h.elim) id⟩⟩
theorem On.turnA (h : On F w (AllA (A :: L)) w') (hA : ∀ F', A.holds w' F' → A'.holds w' F') : On F w (AllA (A' :: L)) w' :=
  h.stepA fun F' h1 => On.refl (hA F' h1)
theorem rd_order {w w' : World} {F : Nat → Prop} {b mw ms ml s t k ro op : Asr} (h : On F w (AllA [b, mw, ms, ml, s, t, k]) w') (hro : ro.holds w' (fun _ => False)) (hop : op.holds w' (fun _ => False)) : On F w (AllA [b, s, ro, ml, ms, mw, op, t, k]) w' := by
  have h1 := On.pushA (A := op) (L2 := [t, k]) [b, mw, ms, ml, s] (On.addA h hop)
  have h2 := On.swapA (On.pullA (A := s) (L2 := [op, t, k]) [b, mw, ms, ml] h1)
  have h3 := On.pushA (A := ml) (L2 := [mw, ms, op, t, k]) [b, s] (On.pullA (A := ml) (L2 := [op, t, k]) [b, s, mw, ms] h2)
  have h4 := On.pushA (A := ms) (L2 := [mw, op, t, k]) [b, s, ml] (On.pullA (A := ms) (L2 := [op, t, k]) [b, s, ml, mw] h3)
  exact On.pushA (A := ro) (L2 := [ml, ms, mw, op, t, k]) [b, s] (On.addA h4 hro)
end
theorem latF_nil : latF [] = fun _ => none := by funext k; cases k <;> rfl
theorem wildF_nil : wildF [] = fun _ => none := by
  funext k
  unfold wildF
  split
  · simp [List.getD]
  · rfl
theorem spk_nil {w : World} {F : Nat → Prop} {b : Nat} (h : (MapG 9 intE b 0 (fun _ => none)).holds w F) : (SpkA b []).holds w F := by
  refine ⟨fun _ => none, h, fun k => ?_⟩
  cases k <;> simp
theorem row_nil (w : World) : (RowK 34 5 (.slice none 0 0) 0 (effsC [])).holds w (fun _ => False) := ⟨World.ownsRow_nil w 0 _ 5, fun k => by simp [Value.ownBlock]⟩
set_option maxHeartbeats 4000000 in
theorem fresh_walk (E : Env) (hE : EnvOk E) (kk : Option Nat) (T : ByteArray) (hT : T.size ≤ 60000) (bt : Nat) (w : World) (F : Nat → Prop) (hb : All [TabA bt E.tab, KerA kk E] w F) :
    Calls Tryz.prog 22 #[.string T, .map (some bt), ptrV kk] w (Post (fun u B => ∃ g, u = .tuple #[.pointer (some ⟨g, 0, none⟩), .int .i64 0] ∧ B = RdA g E kk T (readAll E T.data.toList rd0) bt) F w) := by
  have hon : On F w (AllA [TabA bt E.tab, KerA kk E]) w := On.refl (A := AllA _) hb
  have hnw := fun w => new_walk T hT w
  have hmm := @run_makeMap Tryz.prog
  have hrd := fun g w1 F' hb' => read_walk g E hE kk T hT rd0 bt (RdB.zero _) w1 F' hb'
  obtain ⟨R, hR⟩ : ∃ R, readAll E T.data.toList rd0 = R := ⟨_, rfl⟩
  rw [hR]
  simp only [hR] at hrd
  clear hb hR
  replace hon := Lib.hid hon
  replace hnw := Lib.hid hnw
  replace hrd := Lib.hid hrd
  go_enter Tryz.func22, Tryz.ntmps22
  go_wp2_with fail
  refine (hon.out.makeA (hnw.out _)).mono ?_
  rintro e w1 ⟨v, A', ⟨gs, rfl, rfl⟩, rfl, hon1⟩
  replace hon1 := Lib.hid hon1
  have hz1 : (w1.alloc (.map #[] 0)).heap.size = w1.heap.size + 1 := by simp
  have hz2 : ((w1.alloc (.map #[] 0)).alloc (.map #[] 0)).heap.size = w1.heap.size + 1 + 1 := by simp
  have hz3 : (((w1.alloc (.map #[] 0)).alloc (.map #[] 0)).alloc (.map #[] 0)).heap.size = w1.heap.size + 1 + 1 + 1 := by simp
  have hm1 := On.mapA hon1.out 9 intE
  have hm2 := On.mapA hm1 9 intE
  have hm3 := On.mapA hm2 3 intE
  have hbr := On.boxA hm3 (rdC kk rd0 bt gs (.slice none 0 0) w1.heap.size (w1.heap.size + 1) (w1.heap.size + 1 + 1) (.pointer none)) 46
  rw [hz1, hz2, hz3] at hbr
  have hsp := On.pushA (L2 := [MapG 9 intE w1.heap.size 0 (fun _ => none), SrcA gs T 0, TabA bt E.tab, KerA kk E]) [BlkA (w1.heap.size + 1 + 1 + 1) 46 (rdC kk rd0 bt gs (.slice none 0 0) w1.heap.size (w1.heap.size + 1) (w1.heap.size + 1 + 1) (.pointer none)), MapG 3 intE (w1.heap.size + 1 + 1) 0 (fun _ => none)] ((On.pullA (A := MapG 9 intE (w1.heap.size + 1) 0 (fun _ => none)) (L2 := [MapG 9 intE w1.heap.size 0 (fun _ => none), SrcA gs T 0, TabA bt E.tab, KerA kk E]) [BlkA (w1.heap.size + 1 + 1 + 1) 46 (rdC kk rd0 bt gs (.slice none 0 0) w1.heap.size (w1.heap.size + 1) (w1.heap.size + 1 + 1) (.pointer none)), MapG 3 intE (w1.heap.size + 1 + 1) 0 (fun _ => none)] hbr).turnA (A' := SpkA (w1.heap.size + 1) []) (fun F' h => spk_nil h))
  have hall := rd_order hsp (row_nil _) (op := OpenA (.pointer none) none) ⟨rfl, fun _ h => h⟩
  have hrdA : On F w (AllA (rdL (w1.heap.size + 1 + 1 + 1) E kk T rd0 bt gs (.slice none 0 0) w1.heap.size (w1.heap.size + 1) (w1.heap.size + 1 + 1) (.pointer none))) ((((w1.alloc (.map #[] 0)).alloc (.map #[] 0)).alloc (.map #[] 0)).alloc (.cells (rdC kk rd0 bt gs (.slice none 0 0) w1.heap.size (w1.heap.size + 1) (w1.heap.size + 1 + 1) (.pointer none)) 46)) := by
    unfold rdL
    have e1 : latF rd0.list = fun _ => none := latF_nil
    have e2 : wildF rd0.wild = fun _ => none := wildF_nil
    rw [e1, e2]
    exact hall
  have hfin := RdA.close hrdA
  clear hm1 hm2 hm3 hbr hsp hall hrdA hz1 hz2 hz3
  unfold rdC at hfin
  replace hfin := Lib.hid hfin
  rcases kk with _ | gk
  all_goals
    simp only [ptrV, Option.map] at *
    go_wp2_with fail
    refine (hfin.out.call fun F' hb' => hrd.out _ _ F' hb').mono ?_
    rintro e w5 ⟨v, A', ⟨rfl, rfl⟩, rfl, hon9⟩
    replace hon9 := Lib.hid hon9
    go_wp2_with fail
    go_ret2
    exact hon9.out.post ⟨_, rfl, rfl⟩
set_option maxHeartbeats 4000000 in
theorem fresh_long (kv : Value) (hkv : ∃ gk, kv = ptrV gk) (T : ByteArray) (hT : 60000 < T.size) (bt : Nat) (w : World) :
    Calls Tryz.prog 22 #[.string T, .map (some bt), kv] w (Same (.tuple #[.pointer none, .int .i64 2]) w) := by
  have hnw := fun w => new_long T hT w
  replace hnw := Lib.hid hnw
  obtain ⟨gk, rfl⟩ := hkv
  rcases gk with _ | gk
  all_goals
    simp only [ptrV, Option.map]
    go_enter Tryz.func22, Tryz.ntmps22
    go_wp2_with fail
    refine (hnw.out _).mono ?_
    rintro e w1 ⟨rfl, rfl⟩
    go_wp2_with fail
    go_ret2
    exact ⟨rfl, rfl⟩
end Look
end Go.Proofs.YthejfkkmcbdlhaaGreatDoor
/- Chapter 19: the kernel's operations and their names. Condition: the program's table of names lies as its initialiser lays it. -/
namespace Go.Proofs.YthejfkkmcbdlhaaGreatDoor
set_option linter.unusedVariables false
set_option maxRecDepth 100000
open Go.RowKit Go.Lib
namespace Look
def RowI (v : Value) (l : List Int) : Asr := RowK 3 1 v l.length (endsC l)
def opsL (j : Nat) : List (Nat × List UInt8) := ((List.range j).map fun i => (i + 1, Code.names.getD i [])).filter fun p => p.2.head? != some 40
theorem opsL_all : opsL 106 = ops := rfl
theorem opsL_succ (j : Nat) : opsL (j + 1) = opsL j ++ (if (Code.names.getD j []).head? = some 40 then [] else [(j + 1, Code.names.getD j [])]) := by
  unfold opsL
  rw [List.range_succ, List.map_append, List.filter_append]
  congr 1
  by_cases h : (Code.names.getD j []).head? = some 40
  · rw [if_pos h]
    simpa using h
  · rw [if_neg h]
    simpa using h
theorem opsL_len : ∀ j, (opsL j).length ≤ j
  | 0 => by simp [opsL]
  | j + 1 => by
    rw [opsL_succ, List.length_append]
    have := opsL_len j
    split <;> simp <;> omega
theorem prefix_one (s : List UInt8) (b : UInt8) : Lib.hasPrefix s [b] = (s.head? == some b) := by
  cases s with
  | nil => simp [Lib.hasPrefix]
  | cons x s =>
    show (b == x && true) = (x == b)
    rw [Bool.and_true, Bool.eq_iff_iff, beq_iff_eq, beq_iff_eq]
    exact ⟨fun h => h.symm, fun h => h.symm⟩
theorem name_list (i : Nat) : Code.name i = ⟨(Code.names.getD i []).toArray⟩ := rfl
theorem names_kept {w w' : World} (h : NamesAt w) (hk : Kept Nob w w') : NamesAt w' := fun i hi => (hk.below0.cell (World.block_lt_of_cell? w _ (h i hi))).trans (h i hi)
theorem names_len : ∀ i : Fin 106, (Code.names.getD i.val []).length ≤ 100 := by decide +kernel
set_option maxHeartbeats 4000000 in
theorem ops_walk (w : World) (hN : NamesAt w) : Calls Tryz.prog 57 #[] w (Post (fun u B => ∃ v1 v2, u = .tuple #[v1, v2] ∧ B = AllA [RowS v1 (ops.map (·.2)), RowI v2 (ops.map fun p => (p.1 : Int))]) Nob w) := by
  have hname := fun i hi w1 (h : Kept Nob w w1) => name_in i hi w1 (names_kept hN h)
  have hpre := fun (s : List UInt8) w => Tryz.strings_HasPrefix ⟨s.toArray⟩ ⟨#[40]⟩ w
  have hstart : On Nob w (AllA [RowS (.slice none 0 0) [], RowI (.slice none 0 0) []]) w := On.addA (On.addA (L := []) ⟨Nob, fun _ h => h, Kept.refl Nob w, fun _ h => h.elim⟩ (A := RowI (.slice none 0 0) []) ⟨World.ownsRow_nil w 0 _ 1, fun k => by simp [Value.ownBlock]⟩) (A := RowS (.slice none 0 0) []) ⟨World.ownsRow_nil w 0 _ 1, fun k => by simp [Value.ownBlock]⟩
  obtain ⟨i0, hi, hz0, hz1, hz2⟩ := info_parts info_str
  obtain ⟨j0, ji, jz0, jz1, jz2⟩ := info_parts info_int
  replace hi := Lib.hid hi
  replace hz0 := Lib.hid hz0
  replace hz1 := Lib.hid hz1
  replace hz2 := Lib.hid hz2
  replace ji := Lib.hid ji
  replace jz0 := Lib.hid jz0
  replace jz1 := Lib.hid jz1
  replace jz2 := Lib.hid jz2
  replace hname := Lib.hid hname
  replace hpre := Lib.hid hpre
  replace hstart := Lib.hid hstart
  clear hN
  go_enter Tryz.func57, Tryz.ntmps57
  go_wp2
  go_loopw [2, 3, 4] (fun a b i wr => ∃ j : Nat, j ≤ 106 ∧ i = .int .i64 ((j : Int) + 1) ∧ On Nob w (AllA [RowS a ((opsL j).map (·.2)), RowI b ((opsL j).map fun p => (p.1 : Int))]) wr) (fun _ _ i _ => 107 - (RowKit.intOf i).toNat)
  case atStart => exact ⟨0, by omega, rfl, hstart.out⟩
  case round =>
    obtain ⟨j, hj, rfl, hon⟩ := hrel
    by_cases hlt : j < 106
    · have hkw : Kept Nob w wr := by obtain ⟨F', _, hk, _⟩ := hon; exact hk
      have hnm := hname.out j hlt wr hkw
      rw [name_list] at hnm
      have hsucc := opsL_succ j
      obtain ⟨nm, hnmq⟩ : ∃ nm, Code.names.getD j [] = nm := ⟨_, rfl⟩
      rw [hnmq] at hnm hsucc
      have hpr := hpre.out nm
      rw [prefix_one] at hpr
      have hlen := opsL_len j
      clear hkw
      replace hsucc := Lib.hid hsucc
      replace hon := Lib.hid hon
      replace hlen := Lib.hid hlen
      by_cases h40 : nm.head? = some 40
      · have e : (nm.head? == some 40) = true := by rw [h40]; rfl
        rw [e] at hpr
        replace hpr := Lib.hid hpr
        replace hnm := Lib.hid hnm
        go_wp2_with fail
        refine hnm.out.mono ?_
        rintro e w1 ⟨rfl, rfl⟩
        go_wp2_with fail
        refine (hpr.out _).mono ?_
        rintro e w1 ⟨rfl, rfl⟩
        go_wp2_with fail
        go_roundw
        case rel => exact ⟨j + 1, by omega, by go_num, by rw [hsucc.out, if_pos h40, List.append_nil]; exact hon.out⟩
        case measure => simp [RowKit.intOf]; omega
      · have e : (nm.head? == some 40) = false := by rw [beq_eq_false_iff_ne]; exact h40
        rw [e] at hpr
        replace hpr := Lib.hid hpr
        replace hnm := Lib.hid hnm
        replace h40 := Lib.hid h40
        go_wp2_with fail
        refine hnm.out.mono ?_
        rintro e w1 ⟨rfl, rfl⟩
        go_wp2_with fail
        refine (hpr.out _).mono ?_
        rintro e w1 ⟨rfl, rfl⟩
        obtain ⟨_, hr1⟩ := hon.out.firstA
        obtain ⟨_, hr2⟩ := hon.out.swapA.firstA
        have hn1 : ((opsL j).map (·.2)).length + 1 ≤ maxLen ∧ (((opsL j).map (·.2)).length + 1) * 16 ≤ 140737488355328 := by have := hlen.out; rw [List.length_map]; unfold maxLen; omega
        have hn2 : ((opsL j).map fun p => (p.1 : Int)).length + 1 ≤ maxLen ∧ (((opsL j).map fun p => (p.1 : Int)).length + 1) * 8 ≤ 140737488355328 := by have := hlen.out; rw [List.length_map]; unfold maxLen; omega
        replace hr1 := Lib.hid hr1
        replace hr2 := Lib.hid hr2
        replace hn1 := Lib.hid hn1
        replace hn2 := Lib.hid hn2
        generalize hL1 : (opsL j).map (·.2) = L1 at *
        generalize hL2 : ((opsL j).map fun p => (p.1 : Int)) = L2 at *
        replace hL1 := Lib.hid hL1
        replace hL2 := Lib.hid hL2
        go_wp2_with (first
          | (at_builtin; refine wpList_append_lies _ rfl (.tmp 15) (.tmp 17) 23 rfl 0 9 i0 (.string ⟨#[]⟩) 1 16 Tryz.underlying23 hi.out hz0.out hz1.out hz2.out rfl (by omega) u2 L1.length (strsC L1) rfl (hr1.out.1.alloc _) ⟨w1.heap.size, 0, none⟩ 1 1 [.string ⟨nm.toArray⟩] rfl rfl (str_news (Blk.new w1 _ _)) (str_one _) (by omega) hn1.out.1 hn1.out.2 (by omega) _ rfl ?_; intro sg cap w5 hG hgrow hat hlt1; have hon5 := hon.out.stepA (A' := RowK 9 1 (.slice (some ⟨sg, 0, none⟩) (L1.length + 1) cap) (L1.length + 1) (strsC L1 ++ [.string ⟨nm.toArray⟩])) (w'' := w5) (fun F' h' => RowK.grew h' ((Kept.refl Nob w1).alloc _) hgrow hG (grew_at hat)); obtain ⟨_, hr3⟩ := hon5.swapA.firstA; clear hG hgrow hat hlt1; replace hon5 := Lib.hid hon5; replace hr3 := Lib.hid hr3)
          | (at_builtin; refine wpList_append_lies _ rfl (.tmp 19) (.tmp 21) 103 rfl 0 3 j0 (.int .i64 0) 1 8 Tryz.underlying103 ji.out jz0.out jz1.out jz2.out rfl (by omega) u3 L2.length (endsC L2) rfl (hr3.out.1.alloc _) ⟨w5.heap.size, 0, none⟩ 1 1 [.int .i64 ((j : Int) + 1)] rfl rfl (int_news (Blk.new w5 _ _)) (int_one _) (by omega) hn2.out.1 hn2.out.2 (by omega) _ rfl ?_; intro sg2 cap2 w6 hG2 hgrow2 hat2 hlt2; have hon6 := hon5.out.swapA.stepA (A' := RowK 3 1 (.slice (some ⟨sg2, 0, none⟩) (L2.length + 1) cap2) (L2.length + 1) (endsC L2 ++ [.int .i64 ((j : Int) + 1)])) (w'' := w6) (fun F' h' => RowK.grew h' ((Kept.refl Nob w5).alloc _) hgrow2 hG2 (grew_at hat2)); clear hG2 hgrow2 hat2 hlt2; replace hon6 := Lib.hid hon6))
        go_roundw
        case rel =>
          refine ⟨j + 1, by omega, by go_num, ?_⟩
          rw [hsucc.out, if_neg h40.out]
          have q1 : (opsL j ++ [(j + 1, nm)]).map (·.2) = L1 ++ [nm] := by rw [List.map_append, hL1.out]; rfl
          have q2 : ((opsL j ++ [(j + 1, nm)]).map fun p => (p.1 : Int)) = L2 ++ [((j : Int) + 1)] := by rw [List.map_append, hL2.out]; simp
          rw [q1, q2]
          have h := hon6.out.swapA
          unfold RowS RowI
          have q3 : (L1 ++ [nm]).length = L1.length + 1 := by simp
          have q4 : (L2 ++ [((j : Int) + 1)]).length = L2.length + 1 := by simp
          have q5 : strsC (L1 ++ [nm]) = strsC L1 ++ [.string ⟨nm.toArray⟩] := by simp [strsC]
          have q6 : endsC (L2 ++ [((j : Int) + 1)]) = endsC L2 ++ [.int .i64 ((j : Int) + 1)] := by simp [endsC]
          rw [q3, q4, q5, q6]
          exact h
        case measure => simp [RowKit.intOf]; omega
    · obtain rfl : j = 106 := by omega
      replace hon := Lib.hid hon
      go_wp2_with fail
      go_ret2
      exact (hon.out.mono (A' := AllA [RowS u2 (ops.map (·.2)), RowI u3 (ops.map fun p => (p.1 : Int))]) fun _ h => h).post ⟨_, _, rfl, rfl⟩
end Look
end Go.Proofs.YthejfkkmcbdlhaaGreatDoor
/- Chapter 19: the kernel's primitives and its source. Conditions: the program's tables lie as their initialisers lay them. -/
namespace Go.Proofs.YthejfkkmcbdlhaaGreatDoor
set_option linter.unusedVariables false
set_option maxRecDepth 100000
open Go.RowKit Go.Lib
namespace Look
def specText : List UInt8 := [58, 32, 59, 32, 73, 77, 77, 69, 68, 73, 65, 84, 69, 32, 91, 32, 93, 32, 76, 73, 84, 69, 82, 65, 76, 32, 39, 32, 91, 39, 93, 32, 67, 72, 65, 82, 32, 91, 67, 72, 65, 82, 93, 32, 82, 69, 67, 85, 82, 83, 69, 32, 68, 79, 69, 83, 62, 32, 86, 65, 82, 73, 65, 66, 76, 69, 32, 67, 79, 78, 83, 84, 65, 78, 84, 32, 40, 32, 92, 32, 83, 34, 32, 46, 34, 32, 73, 70, 32, 69, 76, 83, 69, 32, 84, 72, 69, 78, 32, 66, 69, 71, 73, 78, 32, 65, 71, 65, 73, 78, 32, 85, 78, 84, 73, 76, 32, 87, 72, 73, 76, 69, 32, 82, 69, 80, 69, 65, 84, 32, 68, 79, 32, 63, 68, 79, 32, 76, 79, 79, 80, 32, 43, 76, 79, 79, 80, 32, 76, 69, 65, 86, 69, 32, 67, 65, 83, 69, 32, 79, 70, 32, 69, 78, 68, 79, 70, 32, 69, 78, 68, 67, 65, 83, 69, 32, 69, 88, 73, 84]
theorem spec_fields : Lib.fields specText = specials := by decide +kernel
theorem spec_ascii : ∀ b ∈ specText, b.toNat < 128 := by decide +kernel
theorem specials_len : specials.length = 36 := by decide +kernel
def prims : List (List UInt8) := ops.map (·.2) ++ specials
set_option maxHeartbeats 4000000 in
theorem prims_walk (w : World) (hN : NamesAt w) (hT : ∀ w', Kept Nob w w' → Lib.TabIs Tryz.prog w' "strings.asciiSpace" .u8 Lib.asciiSpaceTab) : Calls Tryz.prog 31 #[] w (Post (fun u B => ∃ v, u = v ∧ B = RowS v prims) Nob w) := by
  have hop := ops_walk w hN
  have hfd := fun w1 (h : Kept Nob w w1) => Tryz.strings_Fields ⟨specText.toArray⟩ w1 (by decide +kernel) (fun j b hb => spec_ascii b (List.mem_of_getElem? hb)) (hT w1 h)
  have hft : (⟨specText.toArray⟩ : ByteArray).data.toList = specText := rfl
  rw [hft] at hfd
  simp only [spec_fields, specials_len] at hfd
  unfold specText at hfd
  obtain ⟨i0, hi, hz0, hz1, hz2⟩ := info_parts info_str
  have hon0 : On Nob w (AllA []) w := ⟨Nob, fun _ h => h, Kept.refl Nob w, fun _ h => h.elim⟩
  replace hi := Lib.hid hi
  replace hz0 := Lib.hid hz0
  replace hz1 := Lib.hid hz1
  replace hz2 := Lib.hid hz2
  replace hop := Lib.hid hop
  replace hfd := Lib.hid hfd
  replace hon0 := Lib.hid hon0
  clear hN hT hft
  go_enter Tryz.func31, Tryz.ntmps31
  go_wp2_with fail
  refine (hon0.out.makeA hop.out).mono ?_
  rintro e w1 ⟨v, A', ⟨v1, v2, rfl, rfl⟩, rfl, hon1⟩
  replace hon1 := Lib.hid hon1.headA
  go_wp2_with fail
  have hkw : Kept Nob w w1 := by obtain ⟨F', _, hk, _⟩ := hon1.out; exact hk
  refine (hfd.out w1 hkw).mono ?_
  rintro e w2 ⟨rfl, rfl⟩
  clear hkw
  obtain ⟨C, hC⟩ : ∃ C, strsC specials = C := ⟨_, rfl⟩
  have hC0 : (specials.map fun l => Value.string ⟨l.toArray⟩) = C := hC
  rw [hC0]
  have hC1 : C.length = 36 * 1 := by rw [← hC]; unfold strsC; rw [List.length_map, specials_len]
  have hC2 : ∀ u ∈ C, u.oneCell' = true := by rw [← hC]; exact strs_one _
  obtain ⟨L, hL⟩ : ∃ L, ops.map (·.2) = L := ⟨_, rfl⟩
  have hLl : L.length ≤ 106 := by rw [← hL, List.length_map, ← opsL_all]; exact opsL_len 106
  obtain ⟨R, hR⟩ : ∃ R, prims = R := ⟨_, rfl⟩
  have hR2 : R = L ++ specials := by rw [← hR, ← hL]; rfl
  rw [hL] at hon1
  clear hC0 hL
  have hn1 : L.length + 36 ≤ maxLen ∧ (L.length + 36) * 16 ≤ 140737488355328 := by unfold maxLen; omega
  obtain ⟨_, hr1⟩ := hon1.out.firstA
  replace hn1 := Lib.hid hn1
  replace hr1 := Lib.hid hr1
  replace hC := Lib.hid hC
  replace hC1 := Lib.hid hC1
  replace hC2 := Lib.hid hC2
  replace hR2 := Lib.hid hR2
  replace hR := Lib.hid hR
  have hnews : ∀ j u, C[j]? = some u → (w1.alloc (.cells C.toArray 9)).cell? ((⟨w1.heap.size, 0, none⟩ : Addr).add j) = some u := fun j u hu => World.news_of_block (Blk.new w1 _ _) j u (by simpa using hu)
  replace hnews := Lib.hid hnews
  go_wp2_with (at_builtin; refine wpList_append_lies _ rfl (.tmp 7) (.tmp 8) 23 rfl 0 9 i0 (.string ⟨#[]⟩) 1 16 Tryz.underlying23 hi.out hz0.out hz1.out hz2.out rfl (by omega) v1 L.length (strsC L) rfl (hr1.out.1.alloc _) ⟨w1.heap.size, 0, none⟩ 36 36 C rfl hC1.out hnews.out hC2.out (by omega) hn1.out.1 hn1.out.2 (by omega) _ rfl ?_; intro sg cap w5 hG hgrow hat hlt1; have hon5 := hon1.out.stepA (A' := RowK 9 1 (.slice (some ⟨sg, 0, none⟩) (L.length + 36) cap) (L.length + 36) (strsC L ++ C)) (w'' := w5) (fun F' h' => RowK.grew h' ((Kept.refl Nob w1).alloc _) hgrow hG (grew_at hat)); clear hG hgrow hat hlt1; replace hon5 := Lib.hid hon5)
  go_ret
  have q1 : RowS (.slice (some ⟨sg, 0, none⟩) (L.length + 36) cap) prims = RowK 9 1 (.slice (some ⟨sg, 0, none⟩) (L.length + 36) cap) (L.length + 36) (strsC L ++ C) := by
    unfold RowS
    rw [hR.out, hR2.out, List.length_append, specials_len]
    have : strsC (L ++ specials) = strsC L ++ C := by rw [← hC.out]; simp [strsC]
    rw [this]
  exact (q1 ▸ hon5.out.headA).post ⟨_, rfl, rfl⟩
end Look
end Go.Proofs.YthejfkkmcbdlhaaGreatDoor
/- Chapter 19: the kernel's source. No condition. -/
namespace Go.Proofs.YthejfkkmcbdlhaaGreatDoor
set_option linter.unusedVariables false
set_option maxRecDepth 100000
open Go.RowKit Go.Lib
namespace Look
set_option maxHeartbeats 2000000 in
theorem source_walk (w : World) : Calls Tryz.prog 23 #[] w (Same (.string ⟨source.toArray⟩) w) := by
  unfold source
  go_enter Tryz.func23, Tryz.ntmps23
  go_wp2
  go_ret
  exact ⟨rfl, rfl⟩
theorem kern_read : readAll env0 source rd0 = kern := by
  show read env0 source (source.length - 0 + 1) rd0 = read env0 source 1000 rd0
  exact read_stable env0 source _ _ rd0 (by simp [rd0]) (by show source.length - 0 < _; omega) (by show source.length - 0 < 1000; decide +kernel)
end Look
end Go.Proofs.YthejfkkmcbdlhaaGreatDoor
/- Chapter 19: the kernel's words are in order. No condition. -/
namespace Go.Proofs.YthejfkkmcbdlhaaGreatDoor
set_option linter.unusedVariables false
open Go.RowKit Go.Lib
namespace Look
theorem tab_ok : ∀ p ∈ tab, (p.2.kind = 1 ∧ 1 ≤ p.2.n ∧ p.2.n ≤ 106 ∨ p.2.kind = 2 ∧ p.2.n ≤ 1000) ∧ p.2.name.length ≤ 100000 := by decide +kernel
theorem kern_ok : ∀ e ∈ kern.list, e.needs < 32 ∧ e.name.length ≤ 100000 := by decide +kernel
theorem kern_len : kern.list.length ≤ 100000 := by decide +kernel
theorem lookup_mem {α : Type} : ∀ (l : List (List UInt8 × α)) (k : List UInt8) (w : α), l.lookup k = some w → ∃ k', (k', w) ∈ l
  | [], _, _, h => by simp at h
  | (k0, w0) :: l, k, w, h => by
    rw [List.lookup_cons] at h
    split at h
    · cases h; exact ⟨k0, by simp⟩
    · obtain ⟨k', hk⟩ := lookup_mem l k w h
      exact ⟨k', List.mem_cons_of_mem _ hk⟩
theorem tab_look (k : List UInt8) (w : W) (h : tab.lookup k = some w) : (w.kind = 1 ∧ 1 ≤ w.n ∧ w.n ≤ 106 ∨ w.kind = 2 ∧ w.n ≤ 1000) ∧ w.name.length ≤ 100000 := by
  obtain ⟨k', hk⟩ := lookup_mem _ _ _ h
  exact tab_ok _ hk
theorem env0_ok : EnvOk env0 where
  kl := by
    intro e h
    have h2 : e ∈ ([] : List Eff) := h
    cases h2
  klen := by
    show ([] : List Eff).length ≤ 100000
    rw [List.length_nil]
    exact Nat.zero_le _
  tab := tab_look
end Look
end Go.Proofs.YthejfkkmcbdlhaaGreatDoor
