/- Chapter 7: the operation of a name, as the program finds it and as the document does. Conditions: the text is shorter than 2^45 bytes; the tables lie as their initialisers lay them. -/
import Derived.Test.YtanpbphgmnjdeaaDoorCode6
import Derived.Test.YtanpbphgmnjdeaaDoorCode3
namespace Go.Proofs.YtanpbphgmnjdeaaDoor
set_option linter.unusedVariables false
open Go.RowKit Go.Lib

/-- the tables that the program reads: the names, unicode/utf8's -/
def Tabs (w : World) : Prop := NamesAt w ∧ Lib.Utf8Tabs 4 5 w
theorem Tabs.of_cells {w w' : World} (h : Tabs w) (hc : ∀ (p : Addr) v, w.cell? p = some v → w'.cell? p = some v) : Tabs w' :=
  ⟨fun i hi => hc _ _ (h.1 i hi), fun c h1 => hc _ _ (h.2.1 c h1), fun i h1 => ⟨hc _ _ (h.2.2 i h1).1, hc _ _ (h.2.2 i h1).2⟩⟩
theorem Tabs.below {w w' : World} (h : Tabs w) (hb : Below w.heap.size w w') : Tabs w' :=
  h.of_cells fun p v hp => (hb.cell (World.block_lt_of_cell? w p hp)).trans hp
theorem Tabs.drew {w : World} (h : Tabs w) : Tabs w.drew := h

def Code.hit (s : ByteArray) (i : Nat) : Bool := decide (Code.large (Code.name i) = Code.large s)
def Code.Past (s : ByteArray) (j : Nat) : Prop := ∀ i, i < j → Code.hit s i = false
def Code.numberN (s : ByteArray) : Nat := (((List.range 106).find? (Code.hit s)).map (· + 1)).getD 0
theorem Code.number_hit {s : ByteArray} {j : Nat} (hj : j < 106) (hp : Code.Past s j) (h : Code.hit s j = true) : Code.numberN s = j + 1 := by
  have : (List.range 106).find? (Code.hit s) = some j := by
    rw [List.find?_range_eq_some]
    refine ⟨h, by simpa using hj, fun i hi => by simp [hp i hi]⟩
  simp [Code.numberN, this]
theorem Code.number_none {s : ByteArray} (hp : Code.Past s 106) : Code.numberN s = 0 := by
  have : (List.range 106).find? (Code.hit s) = none := by
    rw [List.find?_eq_none]
    intro i hi
    simp [hp i (by simpa using hi)]
  simp [Code.numberN, this]
theorem Code.past_succ {s : ByteArray} {j : Nat} (hp : Code.Past s j) (h : Code.hit s j = false) : Code.Past s (j + 1) := by
  intro i hi
  rcases Nat.lt_succ_iff_lt_or_eq.1 hi with h1 | rfl
  · exact hp i h1
  · exact h
theorem Code.name_small : ∀ i : Fin 106, (Code.name i.val).size < 100 := by decide +kernel
theorem Code.name_low : ∀ i : Fin 106, ∀ b ∈ (Code.large (Code.name i.val)).data.toList, b.toNat < 128 := by decide +kernel
theorem ba_ext {a b : ByteArray} (h : a.data.toList = b.data.toList) : a = b := by
  cases a; cases b; simp at h; simp [h]
theorem toList_eq_beq (a b : ByteArray) : (a.toList == b.toList) = decide (a.data.toList = b.data.toList) := by
  rw [Bool.eq_iff_iff, beq_iff_eq, decide_eq_true_eq, Lib.toList_data, Lib.toList_data]
/-- rune by rune or byte by byte: a name is found by both alike -/
theorem Code.upper_hit (s : ByteArray) (i : Nat) (hi : i < 106) :
    (Lib.mapD Code.up (Code.name i).data.toList == Lib.mapD Code.up s.data.toList) = Code.hit s i := by
  have hl := Code.name_low ⟨i, hi⟩
  have h1 : Lib.mapD Code.up (Code.name i).data.toList = (Code.large (Code.name i)).data.toList := (mapD_upper _ _ _ (Nat.le_refl _) hl).2 rfl
  have h2 := mapD_upper _ s.data.toList _ (Nat.le_refl _) hl
  rw [Code.hit, Bool.eq_iff_iff, beq_iff_eq, decide_eq_true_eq, h1]
  constructor
  · intro h
    have := h2.1 h.symm
    exact ba_ext this.symm
  · intro h
    exact (h2.2 (by rw [h]; rfl)).symm
theorem Code.large_hit (s : ByteArray) (i : Nat) : ((Code.large (Code.name i)).toList == (Code.large s).toList) = Code.hit s i := by
  rw [toList_eq_beq, Code.hit, Bool.eq_iff_iff, decide_eq_true_eq, decide_eq_true_eq]
  exact ⟨fun h => ba_ext h, fun h => by rw [h]⟩

set_option maxHeartbeats 400000 in
theorem number_walk (s : ByteArray) (hs : s.size < 35184372088832) (w : World) (hT : Tabs w) : Calls Tryd.prog 24 #[.string s] w fun e w' => e = .returned (.int .i64 (Code.numberN s)) ∧ Below w.heap.size w w' := by
  have hs := Lib.hid hs
  have hT := Lib.hid hT
  go_enter Tryd.func24, Tryd.ntmps24
  go_wp2
  go_loopw [4] (fun i wr => ∃ j : Nat, j ≤ 106 ∧ i = .int .i64 j ∧ Code.Past s j ∧ Below w.heap.size w wr) (fun i _ => 106 - (RowKit.intOf i).toNat)
  case atStart => exact ⟨0, by omega, rfl, fun _ h => by omega, Below.refl _ _⟩
  case round =>
    obtain ⟨j, hj, rfl, hp, hbl⟩ := hrel
    have hp := Lib.hid hp
    have hTr := Lib.hid (hT.out.below hbl)
    have hbl := Lib.hid hbl
    by_cases hlt : j < 106
    · have hn : (Code.name j).size < 35184372088832 := by have := Code.name_small ⟨j, hlt⟩; simp only at this; omega
      have hn := Lib.hid hn
      have hcell := hTr.out.1 j hlt
      have hhit := Code.upper_hit s j hlt
      cases hx : Code.hit s j
      all_goals
        rw [hx] at hhit
        have hx := Lib.hid hx
        have hhit := Lib.hid hhit
        go_wp2_with fail
        refine (upper_walk (Code.name j) hn.out wr hTr.out.2).mono ?_
        rintro e w1 ⟨rfl, h1⟩
        have hT1 := Lib.hid (hTr.out.below h1)
        have h1 := Lib.hid h1
        clear hcell
        go_wp2_with fail
        refine (upper_walk s hs.out w1 hT1.out.2).mono ?_
        rintro e w2 ⟨rfl, h2⟩
        have h2 := Lib.hid (h1.out.trans (h2.mono h1.out.size))
        have hhit := hhit.out
        go_wp2
        first
          | (go_roundw
             case rel => exact ⟨j + 1, by omega, by go_num, Code.past_succ hp.out hx.out, hbl.out.trans (h2.out.mono hbl.out.size)⟩
             case measure => simp [RowKit.intOf]; omega)
          | (go_ret
             exact ⟨by rw [Code.number_hit hlt hp.out hx.out]; rfl, hbl.out.trans (h2.out.mono hbl.out.size)⟩)
    · obtain rfl : j = 106 := by omega
      go_wp2
      go_ret
      exact ⟨by rw [Code.number_none hp.out]; rfl, hbl.out⟩

set_option maxHeartbeats 400000 in
theorem Number_walk (s : ByteArray) (hs : s.size < 35184372088832) (w : World) : Calls Tryd.prog 25 #[.string s] w fun e w' => e = .returned (.int .i64 (Code.numberN s)) ∧ Below w.heap.size w w' := by
  have hs := Lib.hid hs
  go_enter Tryd.func25, Tryd.ntmps25
  go_wp2_with fail
  refine (Table_walk w).mono ?_
  rintro e w1 ⟨rfl, hw1⟩
  have hblk : Blk w1 w.heap.size 9 Code.tableCells := by rw [hw1]; exact Blk.new _ _ _
  have hb1 : Below w.heap.size w w1 := by rw [hw1]; exact (Below.refl _ _).alloc (Nat.le_refl _) _
  have hz1 : w.heap.size < w1.heap.size := by rw [hw1]; simp
  have hz1 := Lib.hid hz1
  have hblk := Lib.hid hblk
  have hb1 := Lib.hid hb1
  clear hw1
  go_wp2
  go_loopw [4] (fun i wr => ∃ j : Nat, j ≤ 106 ∧ i = .int .i64 (j + 1 : Nat) ∧ Code.Past s j ∧ Below w1.heap.size w1 wr) (fun i _ => 107 - (RowKit.intOf i).toNat)
  case atStart => exact ⟨0, by omega, rfl, fun _ h => by omega, Below.refl _ _⟩
  case round =>
    obtain ⟨j, hj, rfl, hp, hbl⟩ := hrel
    have hp := Lib.hid hp
    have hBr := Lib.hid (hblk.out.below hbl hz1.out)
    have hbl := Lib.hid hbl
    have e1 : ((j + 1 : Nat) : Int) = (j : Int) + 1 := by omega
    rw [e1]
    clear e1
    by_cases hlt : j < 106
    · have hn : (Code.name j).size < 35184372088832 := by have := Code.name_small ⟨j, hlt⟩; simp only at this; omega
      have hn := Lib.hid hn
      have hcell : wr.cell? ⟨w.heap.size, j + 1, none⟩ = some (.string (Code.name j)) := by rw [hBr.out.cell, Code.tableCells_at j hlt]
      have hhit := Code.large_hit s j
      cases hx : Code.hit s j
      all_goals
        rw [hx] at hhit
        have hx := Lib.hid hx
        have hhit := Lib.hid hhit
        go_wp2_with fail
        refine (large_walk (Code.name j) hn.out wr).mono ?_
        rintro e w2 ⟨rfl, h1⟩
        have h1 := Lib.hid h1
        clear hcell
        go_wp2_with fail
        refine (large_walk s hs.out w2).mono ?_
        rintro e w3 ⟨rfl, h2⟩
        have h2 := Lib.hid (h1.out.trans (h2.mono h1.out.size))
        have hhit := hhit.out
        go_wp2
        first
          | (go_roundw
             case rel => exact ⟨j + 1, by omega, by go_num, Code.past_succ hp.out hx.out, hbl.out.trans (h2.out.mono hbl.out.size)⟩
             case measure => simp [RowKit.intOf]; omega)
          | (go_ret
             exact ⟨by rw [Code.number_hit hlt hp.out hx.out]; rfl, hb1.out.trans ((hbl.out.trans (h2.out.mono hbl.out.size)).mono hb1.out.size)⟩)
    · obtain rfl : j = 106 := by omega
      go_wp2
      go_ret
      exact ⟨by rw [Code.number_none hp.out]; rfl, hb1.out.trans (hbl.out.mono hb1.out.size)⟩
end Go.Proofs.YtanpbphgmnjdeaaDoor
