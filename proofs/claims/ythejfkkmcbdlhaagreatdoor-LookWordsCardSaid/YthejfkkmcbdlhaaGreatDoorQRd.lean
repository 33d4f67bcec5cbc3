/- Chapter 19: the reader as an object in memory: its struct, its source, its list, its maps, what is open, the kernel's table and words. Plain lemmas. -/
import Derived.Test.YthejfkkmcbdlhaaGreatDoorQMap
import Derived.Test.YthejfkkmcbdlhaaGreatDoorQDefb
namespace Go.Proofs.YthejfkkmcbdlhaaGreatDoor
set_option linter.unusedVariables false
open Go.RowKit Go.Lib
open Go.Maps (Keyed)
namespace Look
theorem strK : Keyed Tryz.prog 9 := Go.Maps.string_keyed Tryz.underlying9
theorem intK : Keyed Tryz.prog 3 := Go.Maps.int_keyed Tryz.underlying3
def intE : Value → Option (Dt × List MemPlace)
  | .int .i64 x => some (.lit (.int .i64 x), [])
  | _ => none
def wordC (w : W) : List Value := [.int .i64 (w.kind : Int), .int .i64 (w.n : Int), .string ⟨w.name.toArray⟩]
def wordV (w : W) : Value := .agg (wordC w).toArray
/-- how a word reads -/
def wordD (k n : Int) (s : List UInt8) : Dt := .agg [.lit (.int .i64 k), .lit (.int .i64 n), .lit (.string s)]
def wordL : List Value → Option (Dt × List MemPlace)
  | [.int .i64 k, .int .i64 n, .string s] => some (wordD k n s.data.toList, [])
  | _ => none
def wordE : Value → Option (Dt × List MemPlace)
  | .agg cs => wordL cs.toList
  | _ => none
theorem wordE_inv {v : Value} {k n : Int} {s : List UInt8} {ps : List MemPlace} (h : wordE v = some (wordD k n s, ps)) : v = .agg #[.int .i64 k, .int .i64 n, .string ⟨s.toArray⟩] := by
  unfold wordE at h
  split at h
  · next cs =>
    unfold wordL at h
    split at h
    · next k' n' s' hcs =>
      simp [wordD] at h
      obtain ⟨⟨rfl, rfl, rfl⟩, _⟩ := h
      have : cs = cs.toList.toArray := by simp
      rw [this, hcs]
    · cases h
  · cases h
theorem wordE_mk (w : W) : wordE (wordV w) = some (wordD w.kind w.n w.name, []) := rfl
theorem intE_inv {v : Value} {x : Int} {ps : List MemPlace} (h : intE v = some (.lit (.int .i64 x), ps)) : v = .int .i64 x := by
  unfold intE at h
  split at h
  · simp at h; rw [h.1]
  · cases h
theorem intE_any {v : Value} {d : Dt} {ps : List MemPlace} (h : intE v = some (d, ps)) : ∃ x, v = .int .i64 x := by
  unfold intE at h
  split at h
  · exact ⟨_, rfl⟩
  · cases h
theorem zeroInt (w : World) : (zeroValue 3).run Tryz.prog w = .ok (.int .i64 0) w := by kernel_rfl
theorem zeroWord (w : World) : (zeroValue 70).run Tryz.prog w = .ok (.agg #[.int .i64 0, .int .i64 0, .string ⟨#[]⟩]) w := by kernel_rfl
def latF (l : List Eff) : Lit → Option Dt
  | .string k => (latest l k).map fun i => .lit (.int .i64 (i : Int))
  | _ => none
def wildF (ws : List Bool) : Lit → Option Dt
  | .int .i64 i => if 0 ≤ i ∧ ws.getD i.toNat false = true then some (.lit (.int .i64 1)) else none
  | _ => none
def tabF (tab : List (List UInt8 × W)) : Lit → Option Dt
  | .string k => (tab.lookup k).map fun w => wordD w.kind w.n w.name
  | _ => none
def effsC (l : List Eff) : List Value := l.flatMap effC
theorem effsC_len (l : List Eff) : (effsC l).length = l.length * 5 := by
  induction l with
  | nil => rfl
  | cons o l ih => unfold effsC at ih ⊢; rw [List.flatMap_cons, List.length_append, ih]; simp [effC]; omega
/-- the words that were spoken of: the keys alone -/
def SpkA (b : Nat) (names : List (List UInt8)) : Asr where
  holds w F := ∃ f, (MapG 9 intE b names.length f).holds w F ∧ ∀ k, (f k).isSome = match k with | .string l => decide (l ∈ names) | _ => false
  lt := by rintro w F k ⟨f, h, _⟩ hk; exact (MapG _ _ b _ f).lt h hk
  kept := by rintro w w' F T ⟨f, h, h2⟩ hk hT; exact ⟨f, (MapG _ _ b _ f).kept h hk hT, h2⟩
def TabA (b : Nat) (tab : List (List UInt8 × W)) : Asr where
  holds w F := ∃ n, (MapG 9 wordE b n (tabF tab)).holds w F
  lt := by rintro w F k ⟨n, h⟩ hk; exact (MapG _ _ b n _).lt h hk
  kept := by rintro w w' F T ⟨n, h⟩ hk hT; exact ⟨n, (MapG _ _ b n _).kept h hk hT⟩
/-- what is open -/
def OpenA (v : Value) (o : Option Def) : Asr where
  holds w F := match o with
    | none => v = .pointer none ∧ ∀ k, ¬ F k
    | some d => ∃ gd, v = .pointer (some ⟨gd, 0, none⟩) ∧ (DefA gd d).holds w F
  lt := by
    intro w F k h hk
    rcases o with _ | d
    · exact (h.2 k hk).elim
    · obtain ⟨gd, _, h⟩ := h; exact (DefA gd d).lt h hk
  kept := by
    intro w w' F T h hk hT
    rcases o with _ | d
    · exact h
    · obtain ⟨gd, h1, h⟩ := h; exact ⟨gd, h1, (DefA gd d).kept h hk hT⟩
def ptrV (g : Option Nat) : Value := .pointer (g.map fun g => ⟨g, 0, none⟩)
/-- the kernel's reader, as far as it is read -/
def kerL (gk : Nat) (E : Env) (v0 v3 v4 v5 v6 v7 v9 vl : Value) (bl bw : Nat) : List Asr :=
  [BlkA gk 46 #[v0, vl, .map (some bl), v3, v4, v5, v6, v7, .map (some bw), v9], RowK 34 5 vl E.klist.length (effsC E.klist), MapG 9 intE bl E.klist.length (latF E.klist), MapG 3 intE bw E.kwild.length (wildF E.kwild)]
def KerA (kk : Option Nat) (E : Env) : Asr where
  holds w F := match kk with
    | none => E.klist = [] ∧ E.kwild = [] ∧ ∀ k, ¬ F k
    | some gk => ∃ v0 v3 v4 v5 v6 v7 v9 vl bl bw, All (kerL gk E v0 v3 v4 v5 v6 v7 v9 vl bl bw) w F
  lt := by
    intro w F k h hk
    rcases kk with _ | gk
    · exact (h.2.2 k hk).elim
    · obtain ⟨v0, v3, v4, v5, v6, v7, v9, vl, bl, bw, h⟩ := h; exact All.lt h hk
  kept := by
    intro w w' F T h hk hT
    rcases kk with _ | gk
    · exact h
    · obtain ⟨v0, v3, v4, v5, v6, v7, v9, vl, bl, bw, h⟩ := h
      exact ⟨v0, v3, v4, v5, v6, v7, v9, vl, bl, bw, h.kept hk hT⟩
def rdC (kk : Option Nat) (r : Rd) (bt gs : Nat) (vl : Value) (bl bsp bw : Nat) (vo : Value) : Array Value :=
  #[.pointer (some ⟨gs, 0, none⟩), vl, .map (some bl), .map (some bsp), .bool r.loose, .int .i64 (r.needs : Int), .map (some bt), ptrV kk, .map (some bw), vo]
def rdL (g : Nat) (E : Env) (kk : Option Nat) (T : ByteArray) (r : Rd) (bt gs : Nat) (vl : Value) (bl bsp bw : Nat) (vo : Value) : List Asr :=
  [BlkA g 46 (rdC kk r bt gs vl bl bsp bw vo), SrcA gs T r.at_, RowK 34 5 vl r.list.length (effsC r.list), MapG 9 intE bl r.list.length (latF r.list), SpkA bsp r.spoken, MapG 3 intE bw r.wild.length (wildF r.wild), OpenA vo r.open_, TabA bt E.tab, KerA kk E]
/-- THE READER -/
def RdA (g : Nat) (E : Env) (kk : Option Nat) (T : ByteArray) (r : Rd) (bt : Nat) : Asr where
  holds w F := ∃ gs vl bl bsp bw vo, All (rdL g E kk T r bt gs vl bl bsp bw vo) w F
  lt := by rintro w F k ⟨gs, vl, bl, bsp, bw, vo, h⟩ hk; exact All.lt h hk
  kept := by rintro w w' F T' ⟨gs, vl, bl, bsp, bw, vo, h⟩ hk hT; exact ⟨gs, vl, bl, bsp, bw, vo, h.kept hk hT⟩
theorem RdA.open_ {g : Nat} {E : Env} {kk : Option Nat} {T : ByteArray} {r : Rd} {bt : Nat} {w : World} {F : Nat → Prop} (h : (RdA g E kk T r bt).holds w F) : ∃ gs vl bl bsp bw vo, On F w (AllA (rdL g E kk T r bt gs vl bl bsp bw vo)) w := by
  obtain ⟨gs, vl, bl, bsp, bw, vo, h⟩ := h
  exact ⟨gs, vl, bl, bsp, bw, vo, On.refl (A := AllA _) h⟩
theorem RdA.close {g : Nat} {E : Env} {kk : Option Nat} {T : ByteArray} {r : Rd} {bt : Nat} {w w' : World} {F : Nat → Prop} {gs : Nat} {vl : Value} {bl bsp bw : Nat} {vo : Value} (h : On F w (AllA (rdL g E kk T r bt gs vl bl bsp bw vo)) w') : On F w (RdA g E kk T r bt) w' :=
  h.mono fun F' h => ⟨gs, vl, bl, bsp, bw, vo, h⟩
/-- a cell of an element of the list -/
theorem effsC_at : ∀ (l : List Eff) (i j : Nat) (hi : i < l.length) (hj : j < 5), (effsC l)[i * 5 + j]? = (effC (l[i]))[j]?
  | [], _, _, h, _ => by simp at h
  | o :: l, 0, j, _, hj => by
    unfold effsC
    rw [List.flatMap_cons, List.getElem?_append_left (by simp [effC]; omega)]
    simp
  | o :: l, i + 1, j, h, hj => by
    have ih := effsC_at l i j (by simpa using h) hj
    unfold effsC at ih ⊢
    rw [List.flatMap_cons, List.getElem?_append_right (by simp [effC]; omega), show (effC o).length = 5 from rfl, show (i + 1) * 5 + j - 5 = i * 5 + j by omega, ih]
    simp
theorem effs_cell {w : World} {e : TypeId} {l : List Eff} {sg n cap : Nat} (h : w.ownsRow 0 e 5 (.slice (some ⟨sg, 0, none⟩) n cap) l.length (effsC l)) (i j : Nat) (hi : i < l.length) (hj : j < 5) : w.cell? ⟨sg, i * 5 + j, none⟩ = (effC (l[i]))[j]? := by
  have he := effsC_at l i j hi hj
  have hl : j < (effC l[i]).length := hj
  rw [List.getElem?_eq_getElem hl] at he ⊢
  have := h.cells (g := sg) rfl (i * 5 + j) _ he
  rw [← this]
  unfold Addr.add
  split <;> simp_all
theorem effs_form {w : World} {e : TypeId} {l : List Eff} {v : Value} (h : w.ownsRow 0 e 5 v l.length (effsC l)) {i : Nat} (hi : i < l.length) : ∃ sg cap, v = .slice (some ⟨sg, 0, none⟩) l.length cap ∧ (l.length : Int) ≤ 9223372036854775807 := by
  obtain ⟨n, hn⟩ : ∃ n, l.length = n + 1 := ⟨l.length - 1, by omega⟩
  rw [hn] at h ⊢
  obtain ⟨sg, cap, h1, h2, h3⟩ := stack_form h
  exact ⟨sg, cap, h1, by unfold maxLen at h3; omega⟩
end Look
end Go.Proofs.YthejfkkmcbdlhaaGreatDoor
/- Chapter 19: the reader's questions: effect, capability, needed. Condition: the word's number lies in its list. -/
namespace Go.Proofs.YthejfkkmcbdlhaaGreatDoor
set_option linter.unusedVariables false
set_option maxRecDepth 100000
open Go.RowKit Go.Lib
namespace Look
/-- a word's number lies in its list -/
structure WOk (E : Env) (kk : Option Nat) (l : List Eff) (w : W) : Prop where
  own : w.kind = 4 → w.n < l.length
  ker : w.kind = 3 → w.n < E.klist.length
  op : w.kind = 1 → 1 ≤ w.n ∧ w.n ≤ 106
  small : w.n ≤ 1000000
  five : w.kind ≤ 5
/-- the kernel's reader among the facts -/
theorem ker_facts {w : World} {F : Nat → Prop} {kk : Option Nat} {E : Env} (h : (KerA kk E).holds w F) {n : Nat} (hn : n < E.klist.length) : ∃ gk v0 v3 v4 v5 v6 v7 v9 vl bl bw, kk = some gk ∧ On F w (AllA (kerL gk E v0 v3 v4 v5 v6 v7 v9 vl bl bw)) w := by
  rcases kk with _ | gk
  · obtain ⟨h1, _, _⟩ := h
    rw [h1] at hn
    simp at hn
  · obtain ⟨v0, v3, v4, v5, v6, v7, v9, vl, bl, bw, h⟩ := h
    exact ⟨gk, v0, v3, v4, v5, v6, v7, v9, vl, bl, bw, rfl, On.refl (A := AllA _) h⟩
set_option maxHeartbeats 2000000 in
theorem effect_ker (g : Nat) (E : Env) (kk : Option Nat) (T : ByteArray) (r : Rd) (bt : Nat) (wd : W) (hk : wd.kind = 3) (hn : wd.n < E.klist.length) (w : World) (F : Nat → Prop) (hb : (RdA g E kk T r bt).holds w F) :
    Calls Tryz.prog 98 #[.pointer (some ⟨g, 0, none⟩), wordV wd] w (Post (fun u B => u = effV (effect E r.list wd) ∧ B = RdA g E kk T r bt) F w) := by
  have hon0 := On.refl hb
  have he : effect E r.list wd = E.klist[wd.n] := by unfold effect; rw [if_pos hk]; simp [List.getD, hn]
  rw [he]
  obtain ⟨gs, vl, bl, bsp, bw, vo, hon⟩ := RdA.open_ hb
  obtain ⟨_, hB⟩ := hon.mem (A := BlkA g 46 (rdC kk r bt gs vl bl bsp bw vo)) (by simp [rdL])
  obtain ⟨FK, hK⟩ := hon.mem (A := KerA kk E) (by simp [rdL])
  obtain ⟨gk, v0, v3, v4, v5, v6, v7, v9, vkl, kbl, kbw, rfl, honk⟩ := ker_facts hK hn
  obtain ⟨_, hBk⟩ := honk.mem (A := BlkA gk 46 #[v0, vkl, .map (some kbl), v3, v4, v5, v6, v7, .map (some kbw), v9]) (by simp [kerL])
  obtain ⟨_, hRk⟩ := honk.mem (A := RowK 34 5 vkl E.klist.length (effsC E.klist)) (by simp [kerL])
  obtain ⟨sg, cap, rfl, hbd⟩ := effs_form hRk.1 hn
  have c7 := hB.1.cell 7
  have k1 := hBk.1.cell 1
  simp [rdC, ptrV] at c7 k1
  have e0 := effs_cell hRk.1 wd.n 0 hn (by omega)
  have e1 := effs_cell hRk.1 wd.n 1 hn (by omega)
  have e2 := effs_cell hRk.1 wd.n 2 hn (by omega)
  have e3 := effs_cell hRk.1 wd.n 3 hn (by omega)
  have e4 := effs_cell hRk.1 wd.n 4 hn (by omega)
  have l1 := hB.1.lt
  have l2 := hBk.1.lt
  have l3 := (hRk.1.lt sg rfl).2
  generalize E.klist[wd.n] = ef at *
  simp [effC] at e0 e1 e2 e3 e4
  clear hb he hon hB FK hK honk hBk hRk
  obtain ⟨kd, n, nm⟩ := wd
  obtain ⟨fn, fi, fo, fk, fd⟩ := ef
  simp only at hk hn e0 e1 e2 e3 e4
  subst hk
  have hnb : (n : Int) < 9223372036854775807 := by omega
  obtain ⟨N, hN⟩ : ∃ N, E.klist.length = N := ⟨_, rfl⟩
  rw [hN] at hn hbd k1
  clear hN
  unfold wordV wordC effV effC
  replace hon0 := Lib.hid hon0
  go_enter Tryz.func98, Tryz.ntmps98
  go_wp2_with fail
  go_region
  go_wp2_with fail
  refine bodyPost_ret (v := .agg #[.string ⟨fn.toArray⟩, .int .i64 fi, .int .i64 fo, .bool fk, .int .i64 (fd : Int)]) (by simp [results, Tryz.results98, go_sem]) rfl ?_
  exact (((hon0.out.alloc _).alloc _).drew).post ⟨rfl, rfl⟩
set_option maxHeartbeats 2000000 in
theorem effect_own (g : Nat) (E : Env) (kk : Option Nat) (T : ByteArray) (r : Rd) (bt : Nat) (wd : W) (hk : wd.kind = 4) (hn : wd.n < r.list.length) (w : World) (F : Nat → Prop) (hb : (RdA g E kk T r bt).holds w F) :
    Calls Tryz.prog 98 #[.pointer (some ⟨g, 0, none⟩), wordV wd] w (Post (fun u B => u = effV (effect E r.list wd) ∧ B = RdA g E kk T r bt) F w) := by
  have hon0 := On.refl hb
  have he : effect E r.list wd = r.list[wd.n] := by unfold effect; rw [if_neg (by omega)]; simp [List.getD, hn]
  rw [he]
  obtain ⟨gs, vl, bl, bsp, bw, vo, hon⟩ := RdA.open_ hb
  obtain ⟨_, hB⟩ := hon.mem (A := BlkA g 46 (rdC kk r bt gs vl bl bsp bw vo)) (by simp [rdL])
  obtain ⟨_, hR⟩ := hon.mem (A := RowK 34 5 vl r.list.length (effsC r.list)) (by simp [rdL])
  obtain ⟨sg, cap, rfl, hbd⟩ := effs_form hR.1 hn
  have c1 := hB.1.cell 1
  simp [rdC, ptrV] at c1
  have e0 := effs_cell hR.1 wd.n 0 hn (by omega)
  have e1 := effs_cell hR.1 wd.n 1 hn (by omega)
  have e2 := effs_cell hR.1 wd.n 2 hn (by omega)
  have e3 := effs_cell hR.1 wd.n 3 hn (by omega)
  have e4 := effs_cell hR.1 wd.n 4 hn (by omega)
  have l1 := hB.1.lt
  have l3 := (hR.1.lt sg rfl).2
  generalize r.list[wd.n] = ef at *
  simp [effC] at e0 e1 e2 e3 e4
  clear hb he hon hB hR
  obtain ⟨kd, n, nm⟩ := wd
  obtain ⟨fn, fi, fo, fk, fd⟩ := ef
  simp only at hk hn e0 e1 e2 e3 e4
  subst hk
  have hnb : (n : Int) < 9223372036854775807 := by omega
  obtain ⟨N, hN⟩ : ∃ N, r.list.length = N := ⟨_, rfl⟩
  rw [hN] at hn hbd c1
  clear hN
  unfold wordV wordC effV effC
  replace hon0 := Lib.hid hon0
  go_enter Tryz.func98, Tryz.ntmps98
  go_wp2_with fail
  go_region
  go_wp2_with fail
  refine bodyPost_ret (v := .agg #[.string ⟨fn.toArray⟩, .int .i64 fi, .int .i64 fo, .bool fk, .int .i64 (fd : Int)]) (by simp [results, Tryz.results98, go_sem]) rfl ?_
  exact (((hon0.out.alloc _).alloc _).drew).post ⟨rfl, rfl⟩
/-- capabilities -/
theorem field_needs (a : List UInt8) (x y : Int) (k : Bool) (e0 : Int) (w : World) : (Instr.field 34 (.agg #[.string ⟨a.toArray⟩, .int .i64 x, .int .i64 y, .bool k, .int .i64 e0]) 4).run Tryz.prog w = .ok (.int .i64 e0) w := by kernel_rfl
theorem cap_lit (op : Nat) (h : op = 78 ∨ op = 79 ∨ op = 80 ∨ op = 81 ∨ op = 82 ∨ op = 83 ∨ op = 84 ∨ op = 87 ∨ op = 88 ∨ op = 89 ∨ op = 90 ∨ op = 91 ∨ op = 92 ∨ op = 93 ∨ op = 100 ∨ op = 101 ∨ op = 102 ∨ op = 103 ∨ op = 104) (w : World) : Calls Tryz.prog 99 #[.int .i64 (op : Int)] w (Same (.int .i64 (cap op : Int)) w) := by
  rcases h with rfl | rfl | rfl | rfl | rfl | rfl | rfl | rfl | rfl | rfl | rfl | rfl | rfl | rfl | rfl | rfl | rfl | rfl | rfl
  all_goals
    go_enter Tryz.func99, Tryz.ntmps99
    go_wp2
    go_ret
    exact ⟨rfl, rfl⟩
theorem cap_else (op : Nat) (h : ¬ (op = 78 ∨ op = 79 ∨ op = 80 ∨ op = 81 ∨ op = 82 ∨ op = 83 ∨ op = 84 ∨ op = 87 ∨ op = 88 ∨ op = 89 ∨ op = 90 ∨ op = 91 ∨ op = 92 ∨ op = 93 ∨ op = 100 ∨ op = 101 ∨ op = 102 ∨ op = 103 ∨ op = 104)) (w : World) : Calls Tryz.prog 99 #[.int .i64 (op : Int)] w (Same (.int .i64 (cap op : Int)) w) := by
  have h0 : cap op = 0 := by unfold cap; rw [if_neg (by omega), if_neg (by omega), if_neg (by omega), if_neg (by omega), if_neg (by omega)]
  rw [h0]
  obtain ⟨x, hx⟩ : ∃ x : Int, (op : Int) = x := ⟨_, rfl⟩
  have q78 : (x == 78) = false := by rw [beq_eq_false_iff_ne]; omega
  have q79 : (x == 79) = false := by rw [beq_eq_false_iff_ne]; omega
  have q80 : (x == 80) = false := by rw [beq_eq_false_iff_ne]; omega
  have q81 : (x == 81) = false := by rw [beq_eq_false_iff_ne]; omega
  have q82 : (x == 82) = false := by rw [beq_eq_false_iff_ne]; omega
  have q83 : (x == 83) = false := by rw [beq_eq_false_iff_ne]; omega
  have q84 : (x == 84) = false := by rw [beq_eq_false_iff_ne]; omega
  have q87 : (x == 87) = false := by rw [beq_eq_false_iff_ne]; omega
  have q88 : (x == 88) = false := by rw [beq_eq_false_iff_ne]; omega
  have q89 : (x == 89) = false := by rw [beq_eq_false_iff_ne]; omega
  have q90 : (x == 90) = false := by rw [beq_eq_false_iff_ne]; omega
  have q91 : (x == 91) = false := by rw [beq_eq_false_iff_ne]; omega
  have q92 : (x == 92) = false := by rw [beq_eq_false_iff_ne]; omega
  have q93 : (x == 93) = false := by rw [beq_eq_false_iff_ne]; omega
  have q100 : (x == 100) = false := by rw [beq_eq_false_iff_ne]; omega
  have q101 : (x == 101) = false := by rw [beq_eq_false_iff_ne]; omega
  have q102 : (x == 102) = false := by rw [beq_eq_false_iff_ne]; omega
  have q103 : (x == 103) = false := by rw [beq_eq_false_iff_ne]; omega
  have q104 : (x == 104) = false := by rw [beq_eq_false_iff_ne]; omega
  rw [hx]
  clear h h0 hx
  go_enter Tryz.func99, Tryz.ntmps99
  go_wp2
  go_ret
  exact ⟨rfl, rfl⟩
theorem cap_walk (op : Nat) (w : World) : Calls Tryz.prog 99 #[.int .i64 (op : Int)] w (Same (.int .i64 (cap op : Int)) w) := by
  by_cases h : op = 78 ∨ op = 79 ∨ op = 80 ∨ op = 81 ∨ op = 82 ∨ op = 83 ∨ op = 84 ∨ op = 87 ∨ op = 88 ∨ op = 89 ∨ op = 90 ∨ op = 91 ∨ op = 92 ∨ op = 93 ∨ op = 100 ∨ op = 101 ∨ op = 102 ∨ op = 103 ∨ op = 104
  · exact cap_lit op h w
  · exact cap_else op h w
theorem cap_le (op : Nat) : cap op ≤ 31 := by
  unfold cap
  repeat' split
  all_goals omega
set_option maxHeartbeats 2000000 in
theorem needed_walk (g : Nat) (E : Env) (kk : Option Nat) (T : ByteArray) (r : Rd) (bt : Nat) (wd : W) (hw : WOk E kk r.list wd) (w : World) (F : Nat → Prop) (hb : (RdA g E kk T r bt).holds w F) :
    Calls Tryz.prog 63 #[.pointer (some ⟨g, 0, none⟩), wordV wd] w (Post (fun u B => u = .int .i64 (needed E r.list wd : Int) ∧ B = RdA g E kk T r bt) F w) := by
  have hon := On.refl hb
  have h5 := hw.five
  obtain ⟨kd, n, nm⟩ := wd
  simp only at h5
  have hcases : kd = 4 ∨ kd = 3 ∨ kd = 1 ∨ kd = 2 ∧ n = 18 ∨ kd = 2 ∧ n ≠ 18 ∨ kd = 0 ∨ kd = 5 := by omega
  have hef : kd = 4 ∨ kd = 3 → ∀ w1 F', (RdA g E kk T r bt).holds w1 F' → Calls Tryz.prog 98 #[.pointer (some ⟨g, 0, none⟩), wordV ⟨kd, n, nm⟩] w1 (Post (fun u B => u = effV (effect E r.list ⟨kd, n, nm⟩) ∧ B = RdA g E kk T r bt) F' w1) := by
    intro h w1 F' hb'
    rcases h with h | h
    · exact effect_own g E kk T r bt _ h (hw.own h) w1 F' hb'
    · exact effect_ker g E kk T r bt _ h (hw.ker h) w1 F' hb'
  clear hb
  rcases hcases with rfl | rfl | rfl | ⟨rfl, rfl⟩ | ⟨rfl, hne⟩ | rfl | rfl
  · replace hef := hef (.inl rfl)
    have e1 : needed E r.list ⟨4, n, nm⟩ = (effect E r.list ⟨4, n, nm⟩).needs := rfl
    rw [e1]
    generalize effect E r.list ⟨4, n, nm⟩ = ef at *
    obtain ⟨fn, fi, fo, fk, fd⟩ := ef
    clear hw
    unfold wordV wordC at *
    replace hon := Lib.hid hon
    replace hef := Lib.hid hef
    have hfl := field_needs fn fi fo fk (fd : Int)
    go_enter Tryz.func63, Tryz.ntmps63
    go_wp2_with fail
    refine ((hon.out.alloc _).call fun F' hb' => hef.out _ F' hb').mono ?_
    rintro e w1 ⟨v, A', ⟨rfl, rfl⟩, rfl, hon1⟩
    unfold effV effC
    replace hon1 := Lib.hid hon1
    go_wp2_with fail
    go_ret
    exact hon1.out.post ⟨rfl, rfl⟩
  · replace hef := hef (.inr rfl)
    have e1 : needed E r.list ⟨3, n, nm⟩ = (effect E r.list ⟨3, n, nm⟩).needs := rfl
    rw [e1]
    generalize effect E r.list ⟨3, n, nm⟩ = ef at *
    obtain ⟨fn, fi, fo, fk, fd⟩ := ef
    clear hw
    unfold wordV wordC at *
    replace hon := Lib.hid hon
    replace hef := Lib.hid hef
    have hfl := field_needs fn fi fo fk (fd : Int)
    go_enter Tryz.func63, Tryz.ntmps63
    go_wp2_with fail
    refine ((hon.out.alloc _).call fun F' hb' => hef.out _ F' hb').mono ?_
    rintro e w1 ⟨v, A', ⟨rfl, rfl⟩, rfl, hon1⟩
    unfold effV effC
    replace hon1 := Lib.hid hon1
    go_wp2_with fail
    go_ret
    exact hon1.out.post ⟨rfl, rfl⟩
  · have e1 : needed E r.list ⟨1, n, nm⟩ = cap n := rfl
    rw [e1]
    have hc := cap_walk n
    clear hw hef
    unfold wordV wordC at *
    replace hon := Lib.hid hon
    replace hc := Lib.hid hc
    go_enter Tryz.func63, Tryz.ntmps63
    go_wp2_with fail
    refine (hc.out _).mono ?_
    rintro e w1 ⟨rfl, rfl⟩
    go_wp2_with fail
    go_ret
    exact (hon.out.alloc _).post ⟨rfl, rfl⟩
  · clear hw hef
    unfold wordV wordC at *
    replace hon := Lib.hid hon
    go_enter Tryz.func63, Tryz.ntmps63
    go_wp2_with fail
    go_ret
    exact (hon.out.alloc _).post ⟨rfl, rfl⟩
  · have e1 : needed E r.list ⟨2, n, nm⟩ = 0 := by unfold needed; simp [hne]
    rw [e1]
    clear hw hef e1
    obtain ⟨x, hx⟩ : ∃ x : Int, (n : Int) = x := ⟨_, rfl⟩
    have q : (x == 18) = false := by rw [beq_eq_false_iff_ne]; omega
    unfold wordV wordC at *
    rw [hx]
    clear hx hne
    replace hon := Lib.hid hon
    go_enter Tryz.func63, Tryz.ntmps63
    go_wp2_with fail
    go_ret
    exact (hon.out.alloc _).post ⟨rfl, rfl⟩
  · clear hw hef
    unfold wordV wordC at *
    replace hon := Lib.hid hon
    go_enter Tryz.func63, Tryz.ntmps63
    go_wp2_with fail
    go_ret
    exact (hon.out.alloc _).post ⟨rfl, rfl⟩
  · clear hw hef
    unfold wordV wordC at *
    replace hon := Lib.hid hon
    go_enter Tryz.func63, Tryz.ntmps63
    go_wp2_with fail
    go_ret
    exact (hon.out.alloc _).post ⟨rfl, rfl⟩
end Look
end Go.Proofs.YthejfkkmcbdlhaaGreatDoor
/- Chapter 19: effect and needed turn nothing that was there. -/
namespace Go.Proofs.YthejfkkmcbdlhaaGreatDoor
set_option linter.unusedVariables false
set_option maxRecDepth 100000
open Go.RowKit Go.Lib
namespace Look
set_option maxHeartbeats 2000000 in
theorem effK (g : Nat) (E : Env) (kk : Option Nat) (T : ByteArray) (r : Rd) (bt : Nat) (wd : W) (hk : wd.kind = 3) (hn : wd.n < E.klist.length) (w : World) (F : Nat → Prop) (hb : (RdA g E kk T r bt).holds w F) :
    Calls Tryz.prog 98 #[.pointer (some ⟨g, 0, none⟩), wordV wd] w (Fresh' (effV (effect E r.list wd)) w) := by
  have he : effect E r.list wd = E.klist[wd.n] := by unfold effect; rw [if_pos hk]; simp [List.getD, hn]
  rw [he]
  obtain ⟨gs, vl, bl, bsp, bw, vo, hon⟩ := RdA.open_ hb
  obtain ⟨_, hB⟩ := hon.mem (A := BlkA g 46 (rdC kk r bt gs vl bl bsp bw vo)) (by simp [rdL])
  obtain ⟨FK, hK⟩ := hon.mem (A := KerA kk E) (by simp [rdL])
  obtain ⟨gk, v0, v3, v4, v5, v6, v7, v9, vkl, kbl, kbw, rfl, honk⟩ := ker_facts hK hn
  obtain ⟨_, hBk⟩ := honk.mem (A := BlkA gk 46 #[v0, vkl, .map (some kbl), v3, v4, v5, v6, v7, .map (some kbw), v9]) (by simp [kerL])
  obtain ⟨_, hRk⟩ := honk.mem (A := RowK 34 5 vkl E.klist.length (effsC E.klist)) (by simp [kerL])
  obtain ⟨sg, cap, rfl, hbd⟩ := effs_form hRk.1 hn
  have c7 := hB.1.cell 7
  have k1 := hBk.1.cell 1
  simp [rdC, ptrV] at c7 k1
  have e0 := effs_cell hRk.1 wd.n 0 hn (by omega)
  have e1 := effs_cell hRk.1 wd.n 1 hn (by omega)
  have e2 := effs_cell hRk.1 wd.n 2 hn (by omega)
  have e3 := effs_cell hRk.1 wd.n 3 hn (by omega)
  have e4 := effs_cell hRk.1 wd.n 4 hn (by omega)
  have l1 := hB.1.lt
  have l2 := hBk.1.lt
  have l3 := (hRk.1.lt sg rfl).2
  generalize E.klist[wd.n] = ef at *
  simp [effC] at e0 e1 e2 e3 e4
  clear hb he hon hB FK hK honk hBk hRk
  obtain ⟨kd, n, nm⟩ := wd
  obtain ⟨fn, fi, fo, fk, fd⟩ := ef
  simp only at hk hn e0 e1 e2 e3 e4
  subst hk
  have hnb : (n : Int) < 9223372036854775807 := by omega
  obtain ⟨N, hN⟩ : ∃ N, E.klist.length = N := ⟨_, rfl⟩
  rw [hN] at hn hbd k1
  clear hN
  unfold wordV wordC effV effC
  go_enter Tryz.func98, Tryz.ntmps98
  go_wp2_with fail
  go_region
  go_wp2_with fail
  refine bodyPost_ret (v := .agg #[.string ⟨fn.toArray⟩, .int .i64 fi, .int .i64 fo, .bool fk, .int .i64 (fd : Int)]) (by simp [results, Tryz.results98, go_sem]) rfl ?_
  exact ⟨rfl, (((Kept.refl Nob w).alloc _).alloc _).drew⟩
set_option maxHeartbeats 2000000 in
theorem effO (g : Nat) (E : Env) (kk : Option Nat) (T : ByteArray) (r : Rd) (bt : Nat) (wd : W) (hk : wd.kind = 4) (hn : wd.n < r.list.length) (w : World) (F : Nat → Prop) (hb : (RdA g E kk T r bt).holds w F) :
    Calls Tryz.prog 98 #[.pointer (some ⟨g, 0, none⟩), wordV wd] w (Fresh' (effV (effect E r.list wd)) w) := by
  have he : effect E r.list wd = r.list[wd.n] := by unfold effect; rw [if_neg (by omega)]; simp [List.getD, hn]
  rw [he]
  obtain ⟨gs, vl, bl, bsp, bw, vo, hon⟩ := RdA.open_ hb
  obtain ⟨_, hB⟩ := hon.mem (A := BlkA g 46 (rdC kk r bt gs vl bl bsp bw vo)) (by simp [rdL])
  obtain ⟨_, hR⟩ := hon.mem (A := RowK 34 5 vl r.list.length (effsC r.list)) (by simp [rdL])
  obtain ⟨sg, cap, rfl, hbd⟩ := effs_form hR.1 hn
  have c1 := hB.1.cell 1
  simp [rdC, ptrV] at c1
  have e0 := effs_cell hR.1 wd.n 0 hn (by omega)
  have e1 := effs_cell hR.1 wd.n 1 hn (by omega)
  have e2 := effs_cell hR.1 wd.n 2 hn (by omega)
  have e3 := effs_cell hR.1 wd.n 3 hn (by omega)
  have e4 := effs_cell hR.1 wd.n 4 hn (by omega)
  have l1 := hB.1.lt
  have l3 := (hR.1.lt sg rfl).2
  generalize r.list[wd.n] = ef at *
  simp [effC] at e0 e1 e2 e3 e4
  clear hb he hon hB hR
  obtain ⟨kd, n, nm⟩ := wd
  obtain ⟨fn, fi, fo, fk, fd⟩ := ef
  simp only at hk hn e0 e1 e2 e3 e4
  subst hk
  have hnb : (n : Int) < 9223372036854775807 := by omega
  obtain ⟨N, hN⟩ : ∃ N, r.list.length = N := ⟨_, rfl⟩
  rw [hN] at hn hbd c1
  clear hN
  unfold wordV wordC effV effC
  go_enter Tryz.func98, Tryz.ntmps98
  go_wp2_with fail
  go_region
  go_wp2_with fail
  refine bodyPost_ret (v := .agg #[.string ⟨fn.toArray⟩, .int .i64 fi, .int .i64 fo, .bool fk, .int .i64 (fd : Int)]) (by simp [results, Tryz.results98, go_sem]) rfl ?_
  exact ⟨rfl, (((Kept.refl Nob w).alloc _).alloc _).drew⟩
set_option maxHeartbeats 2000000 in
theorem needF (g : Nat) (E : Env) (kk : Option Nat) (T : ByteArray) (r : Rd) (bt : Nat) (wd : W) (hw : WOk E kk r.list wd) (w : World) (F : Nat → Prop) (hb : (RdA g E kk T r bt).holds w F) :
    Calls Tryz.prog 63 #[.pointer (some ⟨g, 0, none⟩), wordV wd] w (Fresh' (.int .i64 (needed E r.list wd : Int)) w) := by
  have h5 := hw.five
  obtain ⟨kd, n, nm⟩ := wd
  simp only at h5
  have hcases : kd = 4 ∨ kd = 3 ∨ kd = 1 ∨ kd = 2 ∧ n = 18 ∨ kd = 2 ∧ n ≠ 18 ∨ kd = 0 ∨ kd = 5 := by omega
  have hef : kd = 4 ∨ kd = 3 → ∀ w1, Kept Nob w w1 → Calls Tryz.prog 98 #[.pointer (some ⟨g, 0, none⟩), wordV ⟨kd, n, nm⟩] w1 (Fresh' (effV (effect E r.list ⟨kd, n, nm⟩)) w1) := by
    intro h w1 hk1
    have hb' := (RdA g E kk T r bt).kept hb hk1 (fun _ _ h => h)
    rcases h with h | h
    · exact effO g E kk T r bt _ h (hw.own h) w1 F hb'
    · exact effK g E kk T r bt _ h (hw.ker h) w1 F hb'
  clear hb
  rcases hcases with rfl | rfl | rfl | ⟨rfl, rfl⟩ | ⟨rfl, hne⟩ | rfl | rfl
  · replace hef := hef (.inl rfl)
    have e1 : needed E r.list ⟨4, n, nm⟩ = (effect E r.list ⟨4, n, nm⟩).needs := rfl
    rw [e1]
    generalize effect E r.list ⟨4, n, nm⟩ = ef at *
    obtain ⟨fn, fi, fo, fk, fd⟩ := ef
    clear hw
    unfold wordV wordC at *
    replace hef := Lib.hid hef
    have hfl := field_needs fn fi fo fk (fd : Int)
    go_enter Tryz.func63, Tryz.ntmps63
    go_wp2_with fail
    refine (hef.out _ ((Kept.refl Nob w).alloc _)).mono ?_
    rintro e w1 ⟨rfl, hon1⟩
    unfold effV effC
    replace hon1 := Lib.hid hon1
    go_wp2_with fail
    go_ret
    exact ⟨rfl, ((Kept.refl Nob w).alloc _).trans hon1.out⟩
  · replace hef := hef (.inr rfl)
    have e1 : needed E r.list ⟨3, n, nm⟩ = (effect E r.list ⟨3, n, nm⟩).needs := rfl
    rw [e1]
    generalize effect E r.list ⟨3, n, nm⟩ = ef at *
    obtain ⟨fn, fi, fo, fk, fd⟩ := ef
    clear hw
    unfold wordV wordC at *
    replace hef := Lib.hid hef
    have hfl := field_needs fn fi fo fk (fd : Int)
    go_enter Tryz.func63, Tryz.ntmps63
    go_wp2_with fail
    refine (hef.out _ ((Kept.refl Nob w).alloc _)).mono ?_
    rintro e w1 ⟨rfl, hon1⟩
    unfold effV effC
    replace hon1 := Lib.hid hon1
    go_wp2_with fail
    go_ret
    exact ⟨rfl, ((Kept.refl Nob w).alloc _).trans hon1.out⟩
  · have e1 : needed E r.list ⟨1, n, nm⟩ = cap n := rfl
    rw [e1]
    have hc := cap_walk n
    clear hw hef
    unfold wordV wordC at *
    replace hc := Lib.hid hc
    go_enter Tryz.func63, Tryz.ntmps63
    go_wp2_with fail
    refine (hc.out _).mono ?_
    rintro e w1 ⟨rfl, rfl⟩
    go_wp2_with fail
    go_ret
    exact ⟨rfl, (Kept.refl Nob w).alloc _⟩
  · clear hw hef
    unfold wordV wordC at *
    go_enter Tryz.func63, Tryz.ntmps63
    go_wp2_with fail
    go_ret
    exact ⟨rfl, (Kept.refl Nob w).alloc _⟩
  · have e1 : needed E r.list ⟨2, n, nm⟩ = 0 := by unfold needed; simp [hne]
    rw [e1]
    clear hw hef e1
    obtain ⟨x, hx⟩ : ∃ x : Int, (n : Int) = x := ⟨_, rfl⟩
    have q : (x == 18) = false := by rw [beq_eq_false_iff_ne]; omega
    unfold wordV wordC at *
    rw [hx]
    clear hx hne
    go_enter Tryz.func63, Tryz.ntmps63
    go_wp2_with fail
    go_ret
    exact ⟨rfl, (Kept.refl Nob w).alloc _⟩
  · clear hw hef
    unfold wordV wordC at *
    go_enter Tryz.func63, Tryz.ntmps63
    go_wp2_with fail
    go_ret
    exact ⟨rfl, (Kept.refl Nob w).alloc _⟩
  · clear hw hef
    unfold wordV wordC at *
    go_enter Tryz.func63, Tryz.ntmps63
    go_wp2_with fail
    go_ret
    exact ⟨rfl, (Kept.refl Nob w).alloc _⟩
end Look
end Go.Proofs.YthejfkkmcbdlhaaGreatDoor
/- Chapter 19: what a word is. -/
namespace Go.Proofs.YthejfkkmcbdlhaaGreatDoor
set_option linter.unusedVariables false
set_option maxRecDepth 100000
open Go.RowKit Go.Lib
namespace Look
theorem lowS_len (l : List UInt8) : (lowS l).length = l.length := by unfold lowS; simp
theorem keyS (s : ByteArray) (hs : s.size ≤ 100000) : keyOf Tryz.prog 9 (.string ⟨(lowS s.data.toList).toArray⟩) = some (.string (lowS s.data.toList)) := by
  have hz : (⟨(lowS s.data.toList).toArray⟩ : ByteArray).size ≤ maxLen := by
    show (lowS s.data.toList).toArray.size ≤ maxLen
    rw [List.size_toArray, lowS_len, Array.length_toList]
    have : s.data.size = s.size := rfl
    unfold maxLen
    omega
  exact WideMaps.keyOf_string_mk Tryz.underlying9 hz
set_option maxHeartbeats 2000000 in
theorem what_own (g : Nat) (E : Env) (kk : Option Nat) (T : ByteArray) (r : Rd) (bt : Nat) (s : ByteArray) (hs : s.size ≤ 100000) (i : Nat) (hi : latest r.list (lowS s.data.toList) = some i) (w : World) (F : Nat → Prop) (hb : (RdA g E kk T r bt).holds w F) :
    Calls Tryz.prog 61 #[.pointer (some ⟨g, 0, none⟩), .string s] w (Post (fun u B => u = wordV ⟨4, i, []⟩ ∧ B = RdA g E kk T r bt) F w) := by
  obtain ⟨gs, vl, bl, bsp, bw, vo, hon⟩ := RdA.open_ hb
  have hon0 := hon.boxA #[.int .i64 0, .int .i64 0, .string ⟨#[]⟩] 70
  obtain ⟨_, hB⟩ := hon0.mem (A := BlkA g 46 (rdC kk r bt gs vl bl bsp bw vo)) (by simp [rdL])
  have c2 := hB.1.cell 2
  simp [rdC] at c2
  have hsm := fun w => small_walk s (by omega) w
  have hkey : keyOf Tryz.prog 9 (.string ⟨(lowS s.data.toList).toArray⟩) = some (.string (lowS s.data.toList)) := keyS s hs
  have hlk : ∀ w2, On F w (AllA (BlkA w.heap.size 70 #[.int .i64 0, .int .i64 0, .string ⟨#[]⟩] :: rdL g E kk T r bt gs vl bl bsp bw vo)) w2 → (Instr.lookup 41 (.map (some bl)) (.string ⟨(lowS s.data.toList).toArray⟩) true).run Tryz.prog w2 = .ok (.tuple #[.int .i64 (i : Int), .bool true]) w2 := by
    intro w2 h2
    obtain ⟨_, hM⟩ := h2.mem (A := MapG 9 intE bl r.list.length (latF r.list)) (by simp [rdL])
    obtain ⟨v, ps, h3, h4⟩ := MapG.look hM strK Tryz.underlying41 (zeroInt w2) (zd := .lit (.int .i64 0)) rfl hkey
    have hf : latF r.list (.string (lowS s.data.toList)) = some (.lit (.int .i64 (i : Int))) := by simp [latF, hi]
    rw [hf] at h3 h4
    rw [intE_inv h4] at h3
    exact h3
  clear hb hB hi hkey hon
  replace hon0 := Lib.hid hon0
  replace hsm := Lib.hid hsm
  replace hlk := Lib.hid hlk
  go_enter Tryz.func61, Tryz.ntmps61
  go_wp2_with fail
  go_region_with ((go_at_call 33; refine (hsm.out _).mono ?_; rintro e w2 ⟨rfl, hbel⟩; have hon2 := (hon0.out.drew).keptNob (Kept.ofBelow0 hbel); obtain ⟨_, hB2⟩ := hon2.mem (A := BlkA g 46 (rdC kk r bt gs vl bl bsp bw vo)) (by simp [rdL]); have c2b := hB2.1.cell 2; have hlk2 := hlk.out w2 hon2; simp [rdC] at c2b; clear hB2 hbel; replace hon2 := Lib.hid hon2))
  all_goals
    have hbx := hon2.out.blkA
    have b0 := hbx.cell 0
    have b1 := hbx.cell 1
    have b2 := hbx.cell 2
    have g0 := hbx.frozen 0
    have g1 := hbx.frozen 1
    have g2 := hbx.frozen 2
    simp at b0 b1 b2
    clear hbx c2 c2b hlk2
    have hon3 := ((hon2.out.setA 0 (.int .i64 4)).setA 1 (.int .i64 (i : Int))).setA 2 (.string ⟨#[]⟩)
    replace hon3 := Lib.hid hon3
    go_wp2_with fail
    have hr := hon3.out.blkA
    have r0 := hr.cell 0
    have r1 := hr.cell 1
    have r2 := hr.cell 2
    simp at r0 r1 r2
    refine bodyPost_ret (v := .agg #[.int .i64 4, .int .i64 (i : Int), .string ⟨#[]⟩]) (by simp [results, Tryz.results61, go_sem, r0, r1, r2]) rfl ?_
    exact (RdA.close hon3.out.tailA).post ⟨rfl, rfl⟩
-- printed from here
def rdL0 (g : Nat) (E : Env) (kk : Option Nat) (T : ByteArray) (r : Rd) (bt gs : Nat) (vl : Value) (bl bsp bw : Nat) (vo : Value) : List Asr :=
  [BlkA g 46 (rdC kk r bt gs vl bl bsp bw vo), SrcA gs T r.at_, RowK 34 5 vl r.list.length (effsC r.list), MapG 9 intE bl r.list.length (latF r.list), SpkA bsp r.spoken, MapG 3 intE bw r.wild.length (wildF r.wild), OpenA vo r.open_, TabA bt E.tab]
theorem All.last {w : World} {A : Asr} : ∀ {L : List Asr} {F : Nat → Prop}, All (L ++ [A]) w F → ∃ F2, A.holds w F2 ∧ ∀ L2, All L2 w F2 → All (L ++ L2) w F
  | [], F, h => by
    obtain ⟨F1, F2, h1, h2, hd, hF⟩ := h
    refine ⟨F1, h1, fun L2 h => All.congrF h fun k => ?_⟩
    rw [hF]
    exact ⟨fun h => h.elim id (fun h => (h2 k h).elim), .inl⟩
  | B :: L, F, h => by
    obtain ⟨F1, F2, h1, h2, hd, hF⟩ := h
    obtain ⟨F3, h3, h4⟩ := All.last h2
    exact ⟨F3, h3, fun L2 h => ⟨F1, F2, h1, h4 L2 h, hd, hF⟩⟩
theorem All.lastBack {w : World} {A : Asr} {L2 : List Asr} (hA : ∀ F, All L2 w F → A.holds w F) : ∀ {L : List Asr} {F : Nat → Prop}, All (L ++ L2) w F → All (L ++ [A]) w F
  | [], F, h => All.one (hA F h)
  | B :: L, F, h => by
    obtain ⟨F1, F2, h1, h2, hd, hF⟩ := h
    exact ⟨F1, F2, h1, All.lastBack hA h2, hd, hF⟩
theorem RdA.open2 {g gk : Nat} {E : Env} {T : ByteArray} {r : Rd} {bt : Nat} {w : World} {F : Nat → Prop} (h : (RdA g E (some gk) T r bt).holds w F) : ∃ gs vl bl bsp bw vo v0 v3 v4 v5 v6 v7 v9 vkl kbl kbw, On F w (AllA (rdL0 g E (some gk) T r bt gs vl bl bsp bw vo ++ kerL gk E v0 v3 v4 v5 v6 v7 v9 vkl kbl kbw)) w := by
  obtain ⟨gs, vl, bl, bsp, bw, vo, h⟩ := h
  obtain ⟨F2, h1, h2⟩ := All.last (L := rdL0 g E (some gk) T r bt gs vl bl bsp bw vo) h
  obtain ⟨v0, v3, v4, v5, v6, v7, v9, vkl, kbl, kbw, h3⟩ := h1
  exact ⟨gs, vl, bl, bsp, bw, vo, v0, v3, v4, v5, v6, v7, v9, vkl, kbl, kbw, On.refl (A := AllA _) (h2 _ h3)⟩
theorem RdA.close2 {g gk : Nat} {E : Env} {T : ByteArray} {r : Rd} {bt : Nat} {w w' : World} {F : Nat → Prop} {gs : Nat} {vl : Value} {bl bsp bw : Nat} {vo v0 v3 v4 v5 v6 v7 v9 vkl : Value} {kbl kbw : Nat} (h : On F w (AllA (rdL0 g E (some gk) T r bt gs vl bl bsp bw vo ++ kerL gk E v0 v3 v4 v5 v6 v7 v9 vkl kbl kbw)) w') : On F w (RdA g E (some gk) T r bt) w' :=
  h.mono fun F' h => ⟨gs, vl, bl, bsp, bw, vo, All.lastBack (A := KerA (some gk) E) (fun F2 h2 => ⟨v0, v3, v4, v5, v6, v7, v9, vkl, kbl, kbw, h2⟩) h⟩
end Look
end Go.Proofs.YthejfkkmcbdlhaaGreatDoor
