/- Chapter 11: the law's pair of machines in memory; a step is told. Conditions: as written. -/
import Derived.Test.YtjhdpmimccpcdaaGreatDoorTVMk1
import Derived.Test.YtjhdpmimccpcdaaGreatDoorT22
import Derived.Test.YtjhdpmimccpcdaaGreatDoorT00
namespace Go.Proofs.YtjhdpmimccpcdaaGreatDoor
set_option linter.unusedVariables false
set_option maxRecDepth 100000
open Go.RowKit Go.Lib Go.Deep
namespace Vm
/-- where the pair's parts lie -/
structure Bc where
  gB : Nat
  gI : Nat
  gK : Nat
  gS : Nat
  gT : Nat
  gP : Nat
  gM : Nat
  gW : Nat
def bothC (b : Bc) (v : Value) : Array Value := #[.pointer (some ⟨b.gI, 0, none⟩), .pointer (some ⟨b.gK, 0, none⟩), .pointer (some ⟨b.gS, 0, none⟩), .pointer (some ⟨b.gT, 0, none⟩), .pointer (some ⟨b.gP, 0, none⟩), .pointer (some ⟨b.gM, 0, none⟩), .pointer (some ⟨b.gW, 0, none⟩), v]
def stepC (p : Stp) : List Value := [.int .i64 p.at_, .int .i64 p.op, .int .i64 p.dep, .int .i64 p.top, .int .i64 p.fuel]
def stepsC (l : List Stp) : List Value := l.flatMap stepC
theorem stepsC_snoc (l : List Stp) (p : Stp) : stepsC (l ++ [p]) = stepsC l ++ stepC p := by simp [stepsC]
theorem step_one (p : Stp) : ∀ u ∈ stepC p, u.oneCell' = true := by
  intro u hu
  unfold stepC at hu
  simp only [List.mem_cons, List.mem_nil_iff, or_false] at hu
  rcases hu with rfl | rfl | rfl | rfl | rfl <;> rfl
theorem info_step : (Tryz.prog.info? 60).map (fun i => (i.zero, i.size, i.bytes)) = some (some (.agg #[.int .i64 0, .int .i64 0, .int .i64 0, .int .i64 0, .int .i64 0]), 5, 40) := by kernel_rfl
def bothL (b : Bc) (l : List Stp) (v : Value) : List Asr := [BlkA b.gB 39 (bothC b v), RowK 60 5 v l.length (stepsC l)]
/-- the pair, and the steps that were told -/
def BothA (b : Bc) (l : List Stp) : Asr where
  holds w F := ∃ v, All (bothL b l v) w F
  lt h hk := let ⟨_, h⟩ := h; All.lt h hk
  kept h hk hT := let ⟨v, h⟩ := h; ⟨v, h.kept hk hT⟩
theorem step_news {w : World} {B : Nat} {t : TypeId} {a1 a2 a3 a4 a5 : Int} (hb : Blk w B t #[.int .i64 a1, .int .i64 a2, .int .i64 a3, .int .i64 a4, .int .i64 a5]) : ∀ j u, [Value.int .i64 a1, .int .i64 a2, .int .i64 a3, .int .i64 a4, .int .i64 a5][j]? = some u → w.cell? ((⟨B, 0, none⟩ : Addr).add j) = some u :=
  fun j u hu => World.news_of_block hb j u hu
set_option maxHeartbeats 1000000 in
theorem both_tell (b : Bc) (l : List Stp) (p : Stp) (w : World) (F : Nat → Prop) (hl : l.length < 1000000000) (hb : (BothA b l).holds w F) :
    Calls Tryz.prog 49 #[.pointer (some ⟨b.gB, 0, none⟩), .agg #[.int .i64 p.at_, .int .i64 p.op, .int .i64 p.dep, .int .i64 p.top, .int .i64 p.fuel]] w (Got (.returned (.tuple #[])) (BothA b (l ++ [p])) F w) := by
  obtain ⟨v, hb⟩ := hb
  have hon : On F w (AllA (bothL b l v)) w := On.refl hb
  have hbl : Blk w b.gB 39 (bothC b v) := hon.blkAt 0 rfl
  have c7 : w.cell? ⟨b.gB, 7, none⟩ = some v := hbl.cell 7
  obtain ⟨F1, hR⟩ := hon.at_ 1 rfl
  have hown := hR.1
  obtain ⟨i0, hi0, hz0, hz1, hz2⟩ := info_parts info_step
  have hlt := hbl.lt
  have hone := step_one p
  have hsn := stepsC_snoc l p
  have hlen1 : (l ++ [p]).length = l.length + 1 := by simp
  have hnl : l.length + 1 ≤ maxLen ∧ (l.length + 1) * 40 ≤ 140737488355328 := by unfold maxLen; omega
  have hfin := fun (w2 w3 : World) (sg cap : Nat) (hon : On F w (AllA (bothL b l v)) w2) (hG : w3.ownsRow 0 60 5 (.slice (some ⟨sg, 0, none⟩) (l.length + 1) cap) (l.length + 1) (stepsC l ++ stepC p)) (hgrow : w2.grownBy w3 v.ownBlock) (hat : v.ownBlock = some sg ∨ sg = w2.heap.size) => (by
    have h1 := hon.growAt 1 rfl hG hgrow (grew_at hat)
    have h2 := h1.setAt 0 rfl 7 (.slice (some ⟨sg, 0, none⟩) (l.length + 1) cap)
    rw [← hsn, ← hlen1] at h2
    have h3 : On F w (AllA (bothL b (l ++ [p]) (.slice (some ⟨sg, 0, none⟩) (l ++ [p]).length cap))) (w3.setCell ⟨b.gB, 7, none⟩ (.slice (some ⟨sg, 0, none⟩) (l ++ [p]).length cap)) := h2
    rw [hlen1] at h3
    exact h3.mono fun F' ha => ⟨_, ha⟩ : On F w (BothA b (l ++ [p])) (w3.setCell ⟨b.gB, 7, none⟩ (.slice (some ⟨sg, 0, none⟩) (l.length + 1) cap)))
  have hne : v.ownBlock ≠ some b.gB := fun e => by
    obtain ⟨F1, F2, h1, h2, hd⟩ := hon.apart 0 1 (by decide) rfl rfl
    exact hd b.gB ((h1.2 _).2 rfl) ((h2.2 _).2 e)
  obtain ⟨at_, op, dep, top, fuel⟩ := p
  have hc7 := fun w2 (h : On F w (AllA (bothL b l v)) w2) => (show Blk w2 b.gB 39 (bothC b v) from h.blkAt 0 rfl)
  have hone' : ∀ u ∈ [Value.int .i64 at_, .int .i64 op, .int .i64 dep, .int .i64 top, .int .i64 fuel], u.oneCell' = true := hone
  replace hon := Lib.hid hon
  replace hown := Lib.hid hown
  replace hi0 := Lib.hid hi0
  replace hz0 := Lib.hid hz0
  replace hz1 := Lib.hid hz1
  replace hz2 := Lib.hid hz2
  replace hone' := Lib.hid hone'
  replace hnl := Lib.hid hnl
  replace hfin := Lib.hid hfin
  replace hc7 := Lib.hid hc7
  replace hbl := Lib.hid hbl
  replace hne := Lib.hid hne
  clear hb hsn hlen1 hone hR
  show Calls Tryz.prog 49 #[.pointer (some ⟨b.gB, 0, none⟩), .agg #[.int .i64 at_, .int .i64 op, .int .i64 dep, .int .i64 top, .int .i64 fuel]] w _
  go_enter Tryz.func49, Tryz.ntmps49
  go_wp2_with fail
  go_region_law ((refine step_append_lies _ rfl (.tmp 8) (.tmp 10) 37 rfl 0 60 i0 (.agg #[.int .i64 0, .int .i64 0, .int .i64 0, .int .i64 0, .int .i64 0]) 5 40 ?_ ?_ ?_ ?_ ?_ ?_ ?_ v l.length (stepsC l) ?_ ?_ ⟨w.heap.size + 1, 0, none⟩ 1 1 [.int .i64 at_, .int .i64 op, .int .i64 dep, .int .i64 top, .int .i64 fuel] ?_ ?_ ?_ ?_ ?_ ?_ ?_ ?_ (w.heap.size + 1 + 1) ?_ ?_; exact Tryz.underlying37; exact hi0.out; exact hz0.out; exact hz1.out; exact hz2.out; rfl; omega; rfl; exact ownsRow_drew ((hown.out.alloc _).alloc _); rfl; rfl; refine step_news (t := 60) ?_; refine Blk.drew (Blk.new' ?_); simp; exact hone'.out; omega; exact hnl.out.1; exact hnl.out.2; omega; simp; intro sg cap w3 hG hgrow hat hlt3; have hB1 := Blk.grown ((hbl.out.alloc _).alloc _).drew hgrow (fun e => hne.out e.symm); have c7b := hB1.cell 7; have f7b := hB1.frozen 7; simp [bothC] at c7b))
  all_goals
    have hd := hfin.out _ w3 sg cap ((hon.out.alloc _).alloc _).drew hG hgrow (by
      rcases hat with h | h
      · exact .inl h
      · exact .inr (by rw [h]; simp))
    go_end0
    exact ⟨rfl, hd⟩
end Vm
end Go.Proofs.YtjhdpmimccpcdaaGreatDoor
/- Chapter 11: a new machine. Conditions: as written. -/
namespace Go.Proofs.YtjhdpmimccpcdaaGreatDoor
set_option linter.unusedVariables false
set_option maxRecDepth 100000
open Go.RowKit Go.Lib Go.Deep
namespace Vm
def ptrsC (l : List Nat) : List Value := l.map fun g => .pointer (some ⟨g, 0, none⟩)
def newC (gI gS gT gP : Nat) (ws d r : Value) : Array Value := #[.pointer (some ⟨gI, 0, none⟩), .pointer (some ⟨gS, 0, none⟩), ws, .pointer (some ⟨gT, 0, none⟩), .pointer (some ⟨gP, 0, none⟩), d, r, .nilFunc, .int .i64 0, .int .i64 0, .int .i64 0]
def RowP (v : Value) (l : List Nat) : Asr := RowK 32 1 v l.length (ptrsC l)
theorem info_dp : (Tryz.prog.info? 32).map (fun i => (i.zero, i.size, i.bytes)) = some (some (.pointer none), 1, 8) := by kernel_rfl
theorem ptr_news {w : World} {B : Nat} {t : TypeId} {g : Nat} (hb : Blk w B t #[.pointer (some ⟨g, 0, none⟩)]) : ∀ j u, [Value.pointer (some ⟨g, 0, none⟩)][j]? = some u → w.cell? ((⟨B, 0, none⟩ : Addr).add j) = some u := fun j u hu => World.news_of_block hb j u hu
theorem ptr_one (g : Nat) : ∀ u ∈ [Value.pointer (some (⟨g, 0, none⟩ : Addr))], u.oneCell' = true := fun u hu => by rw [List.mem_singleton.1 hu]; rfl
section
variable {w : World} {F : Nat → Prop}
/-- the words' row: some pointers, and none behind them (bad), or the end -/
def WordsAt (w : World) (rb n : Nat) (ds : List Nat) (bad : Bool) : Prop :=
  (∀ j g, ds[j]? = some g → w.cell? ⟨rb, j, none⟩ = some (.pointer (some ⟨g, 0, none⟩))) ∧ (if bad then ds.length < n ∧ w.cell? ⟨rb, ds.length, none⟩ = some (.pointer none) else ds.length = n)
def MadeVm (gI gS gT gP : Nat) (pd pr : Pl) (ds : List Nat) (e : Ending) (B : Asr) : Prop :=
  ∃ gM gD gR ws, e = .returned (.tuple #[.pointer (some ⟨gM, 0, none⟩), .int .i64 0]) ∧ B = AllA [BlkA gM 107 (newC gI gS gT gP ws (.pointer (some ⟨gD, 0, none⟩)) (.pointer (some ⟨gR, 0, none⟩))), StkA gI gD pd 0, StkA gI gR pr 0, RowP ws ds]
theorem newC_ws (gI gS gT gP : Nat) (ws d r v : Value) : (newC gI gS gT gP ws d r).setIfInBounds 2 v = newC gI gS gT gP v d r := rfl
theorem newC_d (gI gS gT gP : Nat) (ws d r v : Value) : (newC gI gS gT gP ws d r).setIfInBounds 5 v = newC gI gS gT gP ws v r := rfl
/-- at the head of the loop: j words have been taken over -/
def VmI (w : World) (gM gI gS gT gP : Nat) (ds : List Nat) (j : Nat) (wr : World) : Prop :=
  ∃ v, On Nob w (AllA [BlkA gM 107 (newC gI gS gT gP v (.pointer none) (.pointer none)), RowP v (ds.take j)]) wr
set_option maxHeartbeats 2000000 in
theorem vm_new {gI gb gS gT gP rb n cap : Nat} {S : Img} {ds : List Nat} (hi : IRep w gI gb S) (hd : S.d ≤ 4096) (hr : S.r ≤ 4096) (hn : n ≤ 1000) (bad : Bool) (hw : WordsAt w rb n ds bad) :
    Calls Tryz.prog 13 #[.pointer (some ⟨gI, 0, none⟩), .pointer (some ⟨gS, 0, none⟩), .slice (some ⟨rb, 0, none⟩) n cap, .pointer (some ⟨gT, 0, none⟩), .pointer (some ⟨gP, 0, none⟩)] w
      (fun e w' => if bad then e = .returned (.tuple #[.pointer none, .int .i64 1]) ∧ Below w.heap.size w w' else PostE (MadeVm gI gS gT gP (pdOf S) (prOf S) ds) Nob w e w') := by
  have hbx := (On.refl (A := AllA []) (F := Nob) (w := w) (fun _ h => h)).addNew (A := RowP (.slice none 0 0) []) (F2 := Nob) ⟨World.ownsRow_nil _ _ _ _, fun k => ⟨fun h => h.elim, fun h => by cases h⟩⟩ (Kept.refl _ _) (fun _ h => h.elim)
  have hbm := hbx.box (newC gI gS gT gP (.slice none 0 0) (.pointer none) (.pointer none)) 107
  have h0 : VmI w w.heap.size gI gS gT gP ds 0 _ := ⟨_, hbm⟩
  unfold newC at h0
  obtain ⟨i0, hi0, hz0, hz1, hz2⟩ := info_parts info_dp
  have hwl : ds.length ≤ n := by
    have := hw.2
    cases bad
    · simp at this; omega
    · simp at this; omega
  replace h0 := Lib.hid h0
  replace hi := Lib.hid hi
  replace hw := Lib.hid hw
  replace hi0 := Lib.hid hi0
  replace hz0 := Lib.hid hz0
  replace hz1 := Lib.hid hz1
  replace hz2 := Lib.hid hz2
  replace hd := Lib.hid hd
  replace hr := Lib.hid hr
  clear hbx hbm
  go_enter Tryz.func13, Tryz.ntmps13
  go_wp2_with fail
  go_loopg [37] (n + 1) (fun k t wr => ∃ j : Nat, j + k = n + 1 ∧ j ≤ ds.length ∧ t = .int .i64 (j : Int) ∧ VmI w w.heap.size gI gS gT gP ds j wr)
  case atStart => exact ⟨0, by omega, by omega, rfl, h0.out⟩
  case round =>
    obtain ⟨j, hj, hjd, rfl, v, hon⟩ := hrel
    by_cases hlt : j < ds.length
    · obtain ⟨g, hg⟩ : ∃ g, ds[j]? = some g := ⟨ds[j], by simp [hlt]⟩
      have cj := hon.cellOut (hw.out.1 j g hg) (fun h => h)
      have hm : Blk wr w.heap.size 107 (newC gI gS gT gP v (.pointer none) (.pointer none)) := hon.blkAt 0 rfl
      have c2 : wr.cell? ⟨w.heap.size, 2, none⟩ = some v := hm.cell 2
      have hml := hm.lt
      have honA := hon.alloc (.cells #[.pointer (some ⟨g, 0, none⟩)] 32)
      obtain ⟨F1, hR⟩ := honA.at_ 1 rfl
      have hown := hR.1
      have hlj : (ds.take j).length = j := by rw [List.length_take]; omega
      have hsn : ptrsC (ds.take (j + 1)) = ptrsC (ds.take j) ++ [.pointer (some ⟨g, 0, none⟩)] := by
        rw [List.take_add_one, hg]
        simp [ptrsC]
      have hlj1 : (ds.take (j + 1)).length = j + 1 := by rw [List.length_take]; omega
      have hfin := fun (w3 : World) (sg cap : Nat) (hG : w3.ownsRow 0 32 1 (.slice (some ⟨sg, 0, none⟩) (j + 1) cap) (j + 1) (ptrsC (ds.take j) ++ [.pointer (some ⟨g, 0, none⟩)])) (hgrow : (wr.alloc (.cells #[.pointer (some ⟨g, 0, none⟩)] 32)).grownBy w3 v.ownBlock) (hat : v.ownBlock = some sg ∨ sg = wr.heap.size + 1) => (by
        have h1 := honA.growAt 1 rfl hG hgrow (grew_at (by simpa using hat))
        have h2 : On Nob w (AllA [BlkA w.heap.size 107 (newC gI gS gT gP v (.pointer none) (.pointer none)), RowP (.slice (some ⟨sg, 0, none⟩) (j + 1) cap) (ds.take (j + 1))]) w3 := by
          unfold RowP
          rw [hsn, hlj1]
          exact h1
        exact h2 : On Nob w (AllA [BlkA w.heap.size 107 (newC gI gS gT gP v (.pointer none) (.pointer none)), RowP (.slice (some ⟨sg, 0, none⟩) (j + 1) cap) (ds.take (j + 1))]) w3)
      rw [hlj] at hown
      have hnl : j + 1 ≤ maxLen ∧ (j + 1) * 8 ≤ 140737488355328 := by unfold maxLen; omega
      have hcap : w.heap.size < wr.heap.size := hml
      replace hon := Lib.hid hon
      replace honA := Lib.hid honA
      replace hown := Lib.hid hown
      replace hfin := Lib.hid hfin
      replace hnl := Lib.hid hnl
      replace hm := Lib.hid hm
      replace hsn := Lib.hid hsn
      replace hlj := Lib.hid hlj
      replace hlj1 := Lib.hid hlj1
      clear hR
      go_wp2_with (at_builtin; refine wpList_append_lies _ rfl (.tmp 47) (.tmp 49) 40 rfl 0 32 i0 (.pointer none) 1 8 Tryz.underlying40 hi0.out hz0.out hz1.out hz2.out rfl (by omega) v j (ptrsC (ds.take j)) (by rfl) hown.out ⟨wr.heap.size, 0, none⟩ 1 1 [.pointer (some ⟨g, 0, none⟩)] (by rfl) rfl (ptr_news (t := 32) (Blk.new _ _ _)) (ptr_one g) (by omega) hnl.out.1 hnl.out.2 (Nat.zero_le _) (wr.heap.size + 1) (by simp) ?_; intro sg cap w3 hG hgrow hat hlt3; have h3 := hfin.out w3 sg cap hG hgrow hat; have d2 : w3.cell? ⟨w.heap.size, 2, none⟩ = some v := (h3.blkAt 0 rfl).cell 2; have f2 := (h3.blkAt 0 rfl).frozen 2; have h4 := h3.setAt 0 rfl 2 (.slice (some ⟨sg, 0, none⟩) (j + 1) cap); rw [newC_ws] at h4; replace h3 := Lib.hid h3; replace h4 := Lib.hid h4; replace hG := Lib.hid hG; replace hgrow := Lib.hid hgrow)
      go_roundg (gk - 1)
      case measure => omega
      case rel => exact ⟨j + 1, by omega, by omega, by go_num, _, h4.out⟩
    · have hjj : j = ds.length := by omega
      have h2 := hw.out.2
      cases bad with
      | true =>
        simp only [if_true] at h2
        have cj := hon.cellOut h2.2 (fun h => h)
        rw [← hjj] at cj
        have hjn : j < n := by omega
        have hout := Lib.hid hon.outB
        replace hon := Lib.hid hon
        replace hjj := Lib.hid hjj
        clear h2
        go_wp2
        go_ret2
        exact ⟨rfl, hout.out⟩
      | false =>
        simp only [Bool.false_eq_true, if_false] at h2
        have hjn : j = n := by omega
        have hds : ds.take j = ds := List.take_of_length_le (by omega)
        rw [hds] at hon
        have hib : ∀ W, Below w.heap.size w W → IRep W gI gb S := fun W hb => ⟨hi.out.blk.below hb hi.out.blk.lt, hi.out.row.below hb hi.out.row.lt, hi.out.ok⟩
        have hs4 := Lib.hid (hon.make (n_stackD (hib _ hon.outB) hd.out))
        replace hib := Lib.hid hib
        replace hon := Lib.hid hon
        replace hds := Lib.hid hds
        subst hjn
        have hdj : decide ((j : Int) < (j : Int)) = false := by simp
        clear h2
        go_wp2_with fail
        refine hs4.out.mono ?_
        rintro e w2 ⟨B, ⟨gD, rfl, rfl⟩, hon2⟩
        have c5 : w2.cell? ⟨w.heap.size, 5, none⟩ = some (.pointer none) := (hon2.blkAt 1 rfl).cell 5
        have f5 := (hon2.blkAt 1 rfl).frozen 5
        have hon3 := hon2.setAt 1 rfl 5 (.pointer (some ⟨gD, 0, none⟩))
        rw [newC_d] at hon3
        have hs5 := Lib.hid (hon3.make (n_stackR (hib.out _ hon3.outB) hr.out))
        replace hon2 := Lib.hid hon2
        replace hon3 := Lib.hid hon3
        clear hs4
        go_wp2_with fail
        refine hs5.out.mono ?_
        rintro e w4 ⟨B, ⟨gR, rfl, rfl⟩, hon4⟩
        have c6 : w4.cell? ⟨w.heap.size, 6, none⟩ = some (.pointer none) := (hon4.blkAt 2 rfl).cell 6
        have f6 := (hon4.blkAt 2 rfl).frozen 6
        have hon5 := hon4.setAt 2 rfl 6 (.pointer (some ⟨gR, 0, none⟩))
        have hon6 : On Nob w (AllA [StkA gI gR (prOf S) 0, StkA gI gD (pdOf S) 0, BlkA w.heap.size 107 (newC gI gS gT gP v (.pointer (some ⟨gD, 0, none⟩)) (.pointer (some ⟨gR, 0, none⟩))), RowP v ds]) _ := hon5
        have hon7 := Lib.hid ((hon6.front 1 rfl).front 2 rfl)
        replace hon4 := Lib.hid hon4
        clear hs5 hon5 hon6
        go_wp2
        go_ret2
        exact ⟨_, ⟨w.heap.size, gD, gR, v, rfl, rfl⟩, hon7.out⟩
end
end Vm
end Go.Proofs.YtjhdpmimccpcdaaGreatDoor
