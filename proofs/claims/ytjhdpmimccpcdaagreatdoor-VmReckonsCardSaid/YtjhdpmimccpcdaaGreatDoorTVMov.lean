/- Chapter 11: the other operations that move cells about. Conditions: all was asked. -/
import Derived.Test.YtjhdpmimccpcdaaGreatDoorT18
import Derived.Deep.AppendLies
import Derived.Deep.RegionLaw
namespace Go.Proofs.YtjhdpmimccpcdaaGreatDoor
set_option linter.unusedVariables false
set_option maxRecDepth 100000
open Go.RowKit Go.Lib Go.Deep
namespace Vm
section
variable {P : Program} (w : World)
/-- append onto a full row: the new row, cell by cell -/
theorem wp_append_grow {o : Oper} {a : Act} {K : Act → World → Prop} {Q : Exit → Act → World → Prop} (s x : Operand) (t : TypeId)
    (ho : o.op = .call { callee := .builtin .append, args := #[s, x], argTypes := #[t, t] })
    (e : TypeId) (i : TypeInfo) (z : Value) (ht : P.underlying t = some (.slice e)) (hi : P.info? e = some i) (hz : i.zero = some z)
    (b : Addr) (sLen sCap : Nat) (olds : List Value) (hs : a.eval s = .slice (some b) sLen sCap) (hlo : olds.length = sLen * i.size) (holds : ∀ j v, olds[j]? = some v → w.cell? (b.add j) = some v)
    (ad : Addr) (n c : Nat) (news : List Value) (hx : a.eval x = .slice (some ad) n c) (hl : news.length = n * i.size) (hnews : ∀ j v, news[j]? = some v → w.cell? (ad.add j) = some v)
    (hg : sCap < sLen + n) (h63 : ((sLen + n : Nat) : Int) ≤ 9223372036854775807) (hfit : Builtin.nextslicecap (sLen + n) sCap * i.bytes ≤ 281474976710656)
    (h : ∀ cap zs, K (a.put o.dst (.slice (some ⟨w.heap.size, 0, none⟩) (sLen + n) cap)) (w.drew.alloc (.cells (olds.toArray ++ news.toArray ++ zs) e))) : o.wp P a w K Q := by
  have hr := run_append_grow (P := P) (w := w) t o.type e i z ht hi hz b sLen sCap olds hlo holds ad n c news hl hnews hg h63 hfit
  unfold Oper.wp execOp
  simp only [ho, resolve, invoke, builtin, Sem.run_bind, Sem.run_pure, Result.andThen_ok, List.map_toArray, List.map_cons, List.map_nil, hs, hx, hr]
  exact h _ _
/-- .. at the list of a plain region's operations -/
theorem wpList_append_grow {ops : Array Oper} {rest : List Oper} {o : Oper} {a : Act} {Q : Exit → Act → World → Prop} (hgd : o.guard = none) (s x : Operand) (t : TypeId)
    (ho : o.op = .call { callee := .builtin .append, args := #[s, x], argTypes := #[t, t] })
    (e : TypeId) (i : TypeInfo) (z : Value) (ht : P.underlying t = some (.slice e)) (hi : P.info? e = some i) (hz : i.zero = some z)
    (b : Addr) (sLen sCap : Nat) (olds : List Value) (hs : a.eval s = .slice (some b) sLen sCap) (hlo : olds.length = sLen * i.size) (holds : ∀ j v, olds[j]? = some v → w.cell? (b.add j) = some v)
    (ad : Addr) (n c : Nat) (news : List Value) (hx : a.eval x = .slice (some ad) n c) (hl : news.length = n * i.size) (hnews : ∀ j v, news[j]? = some v → w.cell? (ad.add j) = some v)
    (hg : sCap < sLen + n) (h63 : ((sLen + n : Nat) : Int) ≤ 9223372036854775807) (hfit : Builtin.nextslicecap (sLen + n) sCap * i.bytes ≤ 281474976710656)
    (h : ∀ cap zs, wpList P ops Q rest (a.put o.dst (.slice (some ⟨w.heap.size, 0, none⟩) (sLen + n) cap)) (w.drew.alloc (.cells (olds.toArray ++ news.toArray ++ zs) e))) : wpList P ops Q (o :: rest) a w :=
  wpList_plain hgd fun _ hK => wp_append_grow w s x t ho e i z ht hi hz b sLen sCap olds hs hlo holds ad n c news hx hl hnews hg h63 hfit fun cap zs => hK _ _ (h cap zs)
/-- .. at a step of a region that draws -/
theorem step_append_grow {ops : Array Oper} {o : Oper} {a : Act} {K : Act → World → Prop} {Q : Exit → Act → World → Prop} {E : Prop} (hgd : o.guard = none) (s x : Operand) (t : TypeId)
    (ho : o.op = .call { callee := .builtin .append, args := #[s, x], argTypes := #[t, t] })
    (e : TypeId) (i : TypeInfo) (z : Value) (ht : P.underlying t = some (.slice e)) (hi : P.info? e = some i) (hz : i.zero = some z)
    (b : Addr) (sLen sCap : Nat) (olds : List Value) (hs : a.eval s = .slice (some b) sLen sCap) (hlo : olds.length = sLen * i.size) (holds : ∀ j v, olds[j]? = some v → w.cell? (b.add j) = some v)
    (ad : Addr) (n c : Nat) (news : List Value) (hx : a.eval x = .slice (some ad) n c) (hl : news.length = n * i.size) (hnews : ∀ j v, news[j]? = some v → w.cell? (ad.add j) = some v)
    (hg : sCap < sLen + n) (h63 : ((sLen + n : Nat) : Int) ≤ 9223372036854775807) (hfit : Builtin.nextslicecap (sLen + n) sCap * i.bytes ≤ 281474976710656)
    (h : ∀ cap zs, K (a.put o.dst (.slice (some ⟨w.heap.size, 0, none⟩) (sLen + n) cap)) (w.drew.alloc (.cells (olds.toArray ++ news.toArray ++ zs) e))) :
    if Region.wanted o (yielded ops a.tmps) = true then Oper.wp P o a w K Q else E := by
  have hw : Region.wanted o (yielded ops a.tmps) = true := by simp [Region.wanted, hgd]
  rw [if_pos hw]
  exact wp_append_grow w s x t ho e i z ht hi hz b sLen sCap olds hs hlo holds ad n c news hx hl hnews hg h63 hfit h
end
theorem at_add (b j k : Nat) : ((⟨b, j, none⟩ : Addr).add k) = ⟨b, j + k, none⟩ := by cases k <;> simp [Addr.add]
theorem carries_pre (rb : Nat) (t : TypeId) (cs : Array Value) (l : List Int) (hc : ∀ (k : Nat) (v : Int), l[k]? = some v → cs[k]? = some (Value.int .i64 v)) : Carries (BlkA rb t cs) (some ⟨rb, 0, none⟩) l := by
  intro w F hB
  refine ⟨?_, ?_⟩
  · intro k v hk
    refine ⟨_, rfl, ?_⟩
    have h1 := hB.1.cell k
    have h2 : ((⟨rb, 0, none⟩ : Addr).add k) = ⟨rb, k, none⟩ := by simp [Addr.add]; intro h; exact h.symm
    rw [h2, h1]
    exact hc k v hk
  · intro a ha
    obtain rfl : a = ⟨rb, 0, none⟩ := by injection ha with ha; exact ha.symm
    exact (hB.2 rb).2 rfl
theorem carries_app (rb : Nat) (t : TypeId) (l : List Int) (zs : Array Value) : Carries (BlkA rb t (intsC l ++ zs)) (some ⟨rb, 0, none⟩) l := carries_pre _ _ _ _ fun k v hk => by
  have hlt : k < l.length := (List.getElem?_eq_some_iff.1 hk).1
  rw [Array.getElem?_append_left (by simp [intsC]; exact hlt)]
  simp [intsC, hk]
theorem carries_from (rb : Nat) (t : TypeId) (cs : Array Value) (j : Nat) (l : List Int) (hc : ∀ (k : Nat) (v : Int), l[k]? = some v → cs[j + k]? = some (Value.int .i64 v)) : Carries (BlkA rb t cs) (some ⟨rb, j, none⟩) l := by
  intro w F hB
  refine ⟨?_, ?_⟩
  · intro k v hk
    refine ⟨_, rfl, ?_⟩
    have h1 := hB.1.cell (j + k)
    have h2 := at_add rb j k
    rw [h2, h1]
    exact hc k v hk
  · intro a ha
    obtain rfl : a = ⟨rb, j, none⟩ := by injection ha with ha; exact ha.symm
    exact (hB.2 rb).2 rfl
theorem args1 (s : Mt) : s.args 1 = [ar s 1 0] := rfl
theorem args2' (s : Mt) : s.args 2 = [ar s 2 0, ar s 2 1] := rfl
theorem m_tuck (arg lit cells : Int) : GivesOk 116 (fun g => #[.pointer (some ⟨g, 0, none⟩)]) ⟨28, arg, lit, cells⟩ (fun s => [ar s 2 1, ar s 2 0, ar s 2 1]) := by
  intro c g x src s ba w F hs hask hb
  have hw2 : (Code.wants 28).1.toNat = 2 := by decide
  simp only [hw2] at hb ⊢
  have hon := On.refl hb
  have hrow := hon.blkAt 0 rfl
  have a0 := row_get hrow (j := 0) (by omega)
  have a1 := row_get hrow (j := 1) (by omega)
  generalize ar s 2 0 = X at *
  generalize ar s 2 1 = Y at *
  have hbx := hon.tail.box #[.int .i64 Y, .int .i64 X, .int .i64 Y] 3
  replace hbx := Lib.hid hbx
  clear hb hrow hw2 hask hs hon
  show Calls _ _ #[.pointer (some ⟨g, 0, none⟩), .int .i64 28, .slice (some ⟨ba, 0, none⟩) 2 2] _ _
  go_enter Tryz.func116, Tryz.ntmps116
  go_wp2_with fail
  go_region
  all_goals go_wp2
  all_goals go_ret
  all_goals exact ⟨some ⟨w.heap.size, 0, none⟩, 3, BlkA w.heap.size 3 (intsC [Y, X, Y]), rfl, carries_row _ _, hbx.out.drew⟩
/-- the row itself but for its first cell -/
theorem m_nip (arg lit cells : Int) : GivesOk 116 (fun g => #[.pointer (some ⟨g, 0, none⟩)]) ⟨27, arg, lit, cells⟩ (fun s => [ar s 2 1]) := by
  intro c g x src s ba w F hs hask hb
  have hw2 : (Code.wants 27).1.toNat = 2 := by decide
  simp only [hw2] at hb ⊢
  have hon := On.refl hb
  have hcar : Carries (BlkA ba 3 (intsC (s.args 2))) (some ⟨ba, 1, none⟩) [ar s 2 1] := carries_from _ _ _ 1 _ fun k v hk => by
    rw [args2']
    rcases k with _ | k
    · simp at hk
      subst hk
      rfl
    · simp at hk
  generalize intsC (s.args 2) = ac at *
  generalize ar s 2 1 = Y at *
  replace hon := Lib.hid hon
  replace hcar := Lib.hid hcar
  clear hb hw2 hask hs
  show Calls _ _ #[.pointer (some ⟨g, 0, none⟩), .int .i64 27, .slice (some ⟨ba, 0, none⟩) 2 2] _ _
  go_enter Tryz.func116, Tryz.ntmps116
  go_wp2
  go_ret
  exact ⟨some ⟨ba, 1, none⟩, 1, BlkA ba 3 ac, rfl, hcar.out, hon.out⟩
theorem info_int : (Tryz.prog.info? 3).map (fun i => (i.zero, i.size, i.bytes)) = some (some (.int .i64 0), 1, 8) := by kernel_rfl
set_option maxHeartbeats 2000000 in
theorem m_rot (arg lit cells : Int) : GivesOk 116 (fun g => #[.pointer (some ⟨g, 0, none⟩)]) ⟨25, arg, lit, cells⟩ (fun s => [ar s 3 1, ar s 3 2, ar s 3 0]) := by
  intro c g x src s ba w F hs hask hb
  have hw2 : (Code.wants 25).1.toNat = 3 := by decide
  simp only [hw2] at hb ⊢
  have hon := On.refl hb
  have hrow := hon.blkAt 0 rfl
  have a0 := row_get hrow (j := 0) (by omega)
  have a1 := row_get hrow (j := 1) (by omega)
  have a2 := row_get hrow (j := 2) (by omega)
  have hlt := hrow.lt
  obtain ⟨i0, hi0, hz0, hz1, hz2⟩ := info_parts info_int
  generalize ar s 3 0 = X at *
  generalize ar s 3 1 = Y at *
  generalize ar s 3 2 = Z at *
  generalize intsC (s.args 3) = ac at *
  replace hon := Lib.hid hon
  replace hi0 := Lib.hid hi0
  replace hz0 := Lib.hid hz0
  replace hz1 := Lib.hid hz1
  replace hz2 := Lib.hid hz2
  have b1 := Lib.hid a1
  have b2 := Lib.hid a2
  clear hb hrow hw2 hask hs
  show Calls _ _ #[.pointer (some ⟨g, 0, none⟩), .int .i64 25, .slice (some ⟨ba, 0, none⟩) 3 3] _ _
  go_enter Tryz.func116, Tryz.ntmps116
  go_wp2_with fail
  go_region_law ((refine step_append_grow _ rfl (.tmp 41) (.tmp 45) 25 rfl 3 i0 (.int .i64 0) ?_ ?_ ?_ ⟨ba, 1, none⟩ 2 2 [.int .i64 Y, .int .i64 Z] ?_ ?_ ?_ ⟨w.heap.size, 0, none⟩ 1 1 [.int .i64 X] ?_ ?_ ?_ ?_ ?_ ?_ ?_; exact Tryz.underlying25; exact hi0.out; exact hz0.out; rfl; rw [hz1.out]; rfl; intro j v hj; rw [at_add]; (rcases j with _ | _ | j); (simp at hj; subst hj; simp [World.cell?_alloc_some, b1.out]); (simp at hj; subst hj; simp [World.cell?_alloc_some, b2.out]); (simp at hj); rfl; rw [hz1.out]; rfl; intro j v hj; rw [at_add]; (rcases j with _ | j); (simp at hj; subst hj; simp); (simp at hj); decide; decide; rw [hz2.out]; decide; intro cap zs))
  all_goals go_wp2
  all_goals go_ret
  have h9 := (hon.out.box #[.int .i64 X] 3).box (#[.int .i64 Y, .int .i64 Z, .int .i64 X] ++ zs) 3
  simp only [World.size_alloc] at h9
  exact ⟨some ⟨w.heap.size + 1, 0, none⟩, cap, BlkA (w.heap.size + 1) 3 (intsC [Y, Z, X] ++ zs), rfl, carries_app _ _ [Y, Z, X] zs, ((h9.drop 1 rfl).drop 1 rfl).drew.drew⟩
/-- ?DUP: another cell of it, if it is not 0 -/
def qdupL (x : Int) : List Int := if x = 0 then [x] else [x, x]
set_option maxHeartbeats 2000000 in
theorem m_qdup (arg lit cells : Int) : GivesOk 116 (fun g => #[.pointer (some ⟨g, 0, none⟩)]) ⟨26, arg, lit, cells⟩ (fun s => qdupL (ar s 1 0)) := by
  intro c g x src s ba w F hs hask hb
  have hw2 : (Code.wants 26).1.toNat = 1 := by decide
  simp only [hw2] at hb ⊢
  have hon := On.refl hb
  have hrow := hon.blkAt 0 rfl
  have a0 := row_get hrow (j := 0) (by omega)
  have hlt := hrow.lt
  obtain ⟨i0, hi0, hz0, hz1, hz2⟩ := info_parts info_int
  have hcar : Carries (BlkA ba 3 (intsC (s.args 1))) (some ⟨ba, 0, none⟩) [ar s 1 0] := by
    have h := carries_row ba (s.args 1)
    rw [args1] at h
    rw [args1]
    exact h
  generalize ar s 1 0 = X at *
  generalize intsC (s.args 1) = ac at *
  replace hon := Lib.hid hon
  replace hi0 := Lib.hid hi0
  replace hz0 := Lib.hid hz0
  replace hz1 := Lib.hid hz1
  replace hz2 := Lib.hid hz2
  replace hcar := Lib.hid hcar
  have b0 := Lib.hid a0
  clear hb hrow hw2 hask hs
  show Calls _ _ #[.pointer (some ⟨g, 0, none⟩), .int .i64 26, .slice (some ⟨ba, 0, none⟩) 1 1] _ _
  by_cases hX : X = 0
  · have e : qdupL X = [X] := if_pos hX
    have t1 : (X != 0) = false := by simpa using hX
    rw [e]
    clear e
    replace hX := Lib.hid hX
    go_enter Tryz.func116, Tryz.ntmps116
    go_wp2
    go_ret
    exact ⟨some ⟨ba, 0, none⟩, 1, BlkA ba 3 ac, rfl, hcar.out, hon.out⟩
  · have e : qdupL X = [X, X] := if_neg hX
    have t1 : (X != 0) = true := by simpa using hX
    rw [e]
    clear e
    replace hX := Lib.hid hX
    go_enter Tryz.func116, Tryz.ntmps116
    go_wp2_with (at_builtin; refine wpList_append_grow _ rfl (.tmp 53) (.tmp 57) 25 rfl 3 i0 (.int .i64 0) ?_ ?_ ?_ ⟨ba, 0, none⟩ 1 1 [.int .i64 X] ?_ ?_ ?_ ⟨w.heap.size, 0, none⟩ 1 1 [.int .i64 X] ?_ ?_ ?_ ?_ ?_ ?_ ?_; exact Tryz.underlying25; exact hi0.out; exact hz0.out; rfl; rw [hz1.out]; rfl; intro j v hj; rw [at_add]; (rcases j with _ | j); (simp at hj; subst hj; simp [World.cell?_alloc_some, b0.out]); (simp at hj); rfl; rw [hz1.out]; rfl; intro j v hj; rw [at_add]; (rcases j with _ | j); (simp at hj; subst hj; simp); (simp at hj); decide; decide; rw [hz2.out]; decide; intro cap zs)
    all_goals go_ret
    have h9 := (hon.out.box #[.int .i64 X] 3).box (#[.int .i64 X, .int .i64 X] ++ zs) 3
    simp only [World.size_alloc] at h9
    exact ⟨some ⟨w.heap.size + 1, 0, none⟩, cap, BlkA (w.heap.size + 1) 3 (intsC [X, X] ++ zs), rfl, carries_app _ _ [X, X] zs, ((h9.drop 1 rfl).drop 1 rfl).drew⟩
end Vm
end Go.Proofs.YtjhdpmimccpcdaaGreatDoor
