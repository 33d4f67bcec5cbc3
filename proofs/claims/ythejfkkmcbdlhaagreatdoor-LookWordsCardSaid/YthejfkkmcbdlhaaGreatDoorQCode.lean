/- Plain laws of capital letters: rune by rune (strings.Map) and byte by byte say the same of texts in ASCII. No condition. -/
import Derived.Test.YthejfkkmcbdlhaaGreatDoorQMem
import Derived.Lib.MapLaws
import Derived.Lib.TrimAscii
import Derived.Lib.TrimUEq
import Derived.Test.YthejfkkmcbdlhaaGreatDoorQScan
import Derived.Test.YthejfkkmcbdlhaaGreatDoorQShelf
import Derived.Test.YthejfkkmcbdlhaaGreatDoorQRow
import Derived.Test.YthejfkkmcbdlhaaGreatDoorQLaid
namespace Go.Proofs.YthejfkkmcbdlhaaGreatDoor
set_option linter.unusedVariables false
open Go.Lib
def Code.up (x : Int) : Int := if 97 ≤ x ∧ x ≤ 122 then x - 32 else x
def Code.upB (c : UInt8) : UInt8 := if 97 ≤ c.toNat ∧ c.toNat ≤ 122 then c - 32 else c
theorem Code.upB_nat (c : UInt8) : ((Code.upB c).toNat : Int) = Code.up c.toNat := by
  unfold Code.upB Code.up
  have h256 : c.toNat < 256 := c.toNat_lt
  by_cases h : 97 ≤ c.toNat ∧ c.toNat ≤ 122
  · rw [if_pos h, if_pos (by omega), UInt8.toNat_sub_of_le _ _ (by rw [UInt8.le_iff_toNat_le]; show 32 ≤ c.toNat; omega)]
    show ((c.toNat - 32 : Nat) : Int) = _
    omega
  · rw [if_neg h, if_neg (by omega)]
theorem decodeN_big (n b0 b1 b2 b3 : Nat) (h : 128 ≤ b0) : 128 ≤ (decodeN n b0 b1 b2 b3).1 := by
  unfold decodeN
  rw [if_neg (by omega)]
  repeat' split
  all_goals (simp; try omega)
theorem encodeRuneZ_head (r : Int) (h : 128 ≤ r) : ∃ x l, encodeRuneZ r = x :: l ∧ 192 ≤ x ∧ x ≤ 255 := by
  unfold encodeRuneZ
  rw [if_neg (by omega)]
  split
  · exact ⟨_, _, rfl, by omega, by omega⟩
  · split
    · exact ⟨_, _, rfl, by omega, by omega⟩
    · split
      · exact ⟨_, _, rfl, by omega, by omega⟩
      · exact ⟨_, _, rfl, by omega, by omega⟩
theorem encodeRune_head (r : Int) (h : 128 ≤ r) : ∃ x l, encodeRune r = x :: l ∧ 192 ≤ x.toNat := by
  obtain ⟨x, l, h1, h2, h3⟩ := encodeRuneZ_head r h
  refine ⟨x.toNat.toUInt8, _, by unfold encodeRune; rw [h1]; rfl, ?_⟩
  rw [Nat.toUInt8, UInt8.toNat_ofNat']
  omega
theorem mapD_upper : ∀ (n : Nat) (l T : List UInt8), l.length ≤ n → (∀ b ∈ T, b.toNat < 128) → (mapD Code.up l = T ↔ l.map Code.upB = T)
  | 0, l, T, hl, hT => by
    obtain rfl : l = [] := List.eq_nil_of_length_eq_zero (by omega)
    simp [mapD_nil]
  | n + 1, [], T, hl, hT => by simp [mapD_nil]
  | n + 1, b :: t, T, hl, hT => by
    rw [mapD_step _ _ (by simp)]
    by_cases hb : b.toNat < 128
    · rw [decodeL_ascii b t hb]
      have h0 : 0 ≤ Code.up (b.toNat : Int) := by unfold Code.up; split <;> omega
      have h1 : Code.up (b.toNat : Int) ≤ 127 := by unfold Code.up; split <;> omega
      have he : encodeRune (Code.up (b.toNat : Int)) = [Code.upB b] := by
        unfold encodeRune
        rw [encodeRuneZ_one h0 h1, ← Code.upB_nat]
        simp
      simp only [if_pos h0, he, List.drop_succ_cons, List.drop_zero, List.map_cons, List.cons_append, List.nil_append]
      cases T with
      | nil => simp
      | cons c T =>
        have := mapD_upper n t T (by simpa using hl) (fun x hx => hT x (by simp [hx]))
        simp only [List.cons.injEq]
        rw [this]
    · have hr : 128 ≤ (decodeL (b :: t)).1 := by
        rw [decodeL_N]
        exact decodeN_big _ _ _ _ _ (by simp; omega)
      have hu : Code.up ((decodeL (b :: t)).1 : Int) = ((decodeL (b :: t)).1 : Int) := by
        unfold Code.up
        by_cases h : 97 ≤ ((decodeL (b :: t)).1 : Int) ∧ ((decodeL (b :: t)).1 : Int) ≤ 122
        · omega
        · rw [if_neg h]
      rw [hu, if_pos (by omega)]
      obtain ⟨x, l', h1, h2⟩ := encodeRune_head ((decodeL (b :: t)).1 : Int) (by omega)
      have hbb : Code.upB b = b := by unfold Code.upB; rw [if_neg (by omega)]
      rw [h1]
      constructor
      · rintro rfl
        have := hT x (by simp)
        omega
      · intro h
        rw [← h] at hT
        have := hT b (by simp [hbb])
        omega
end Go.Proofs.YthejfkkmcbdlhaaGreatDoor
/- Chapter 7: capital letters, as the program makes them (strings.Map). Conditions: the text is shorter than 2^45 bytes (the shelf's bound), the two tables of unicode/utf8 lie as their initialisers lay them. -/
namespace Go.Proofs.YthejfkkmcbdlhaaGreatDoor
set_option linter.unusedVariables false
open Go.RowKit Go.Lib

theorem up_walk (x : Nat) (hx : x ≤ 1114111) (w : World) : Calls Tryz.prog 91 #[.int .i32 (x : Int)] w (Same (.int .i32 (Code.up (x : Int))) w) := by
  by_cases h : 97 ≤ (x : Int) ∧ (x : Int) ≤ 122
  · have hr : Code.up (x : Int) = (x : Int) - 32 := if_pos h
    have hm : (x : Int) - 97 + 65 = (x : Int) - 32 := by omega
    rw [hr, ← hm]
    clear hr hm
    go_enter Tryz.func91, Tryz.ntmps91
    go_wp2
    all_goals go_ret
    all_goals exact ⟨rfl, rfl⟩
  · have hr : Code.up (x : Int) = (x : Int) := if_neg h
    rw [hr]
    clear hr
    go_enter Tryz.func91, Tryz.ntmps91
    go_wp2
    all_goals go_ret
    all_goals exact ⟨rfl, rfl⟩
theorem upper_walk (s : ByteArray) (hs : s.size < 35184372088832) (w : World) (hT : Lib.Utf8Tabs 4 5 w) :
    Calls Tryz.prog 59 #[.string s] w fun e w' => e = .returned (.string ⟨(Lib.mapD Code.up s.data.toList).toArray⟩) ∧ Below w.heap.size w w' := by
  have hM := Tryz.strings_Map_runes 91 #[] (enters_of Tryz.func91 (by kernel_rfl) rfl) Code.up s w hs (fun W x hx _ => (up_walk x hx W).mono fun e w' h => ⟨h.1, 0, h.2⟩) (fun x hx => by unfold Code.up; split <;> omega) hT
  have hM := Lib.hid hM
  go_enter Tryz.func59, Tryz.ntmps59
  go_wp2_with fail
  refine hM.out.mono ?_
  rintro e w1 ⟨rfl, hb⟩
  have hb := Lib.hid hb
  go_wp2
  go_ret
  exact ⟨rfl, hb.out⟩
end Go.Proofs.YthejfkkmcbdlhaaGreatDoor
/- Chapter 7: capital letters, as the document makes them. Conditions: the text is shorter than 2^45 bytes. -/
namespace Go.Proofs.YthejfkkmcbdlhaaGreatDoor
set_option linter.unusedVariables false
open Go.RowKit Go.Lib

def Code.large (s : ByteArray) : ByteArray := ⟨(s.data.toList.map Code.upB).toArray⟩
theorem take_map_snoc (s : ByteArray) (f : UInt8 → UInt8) (j : Nat) (hj : j < s.size) : (s.data.toList.take (j + 1)).map f = (s.data.toList.take j).map f ++ [f (s.data.toList.getD j 0)] := by
  have h : j < s.data.toList.length := by rw [← Lib.size_eq]; exact hj
  rw [List.take_succ_eq_append_getElem h, List.map_append, List.getD_eq_getElem?_getD, List.getElem?_eq_getElem h]
  rfl

/-- what has been made of the first j bytes -/
def Code.pre (s : ByteArray) (j : Nat) : List UInt8 := (s.data.toList.take j).map Code.upB
theorem Code.pre_len (s : ByteArray) (j : Nat) : (Code.pre s j).length ≤ j := by unfold Code.pre; simp; omega
theorem Code.pre_all (s : ByteArray) (j : Nat) (h : ¬ j < s.size) : (⟨(Code.pre s j).toArray⟩ : ByteArray) = Code.large s := by
  unfold Code.pre Code.large
  rw [List.take_of_length_le (by rw [← Lib.size_eq]; omega)]

set_option maxRecDepth 100000 in
theorem large_walk (s : ByteArray) (hs : s.size < 35184372088832) (w : World) : Calls Tryz.prog 107 #[.string s] w fun e w' => e = .returned (.string (Code.large s)) ∧ Below w.heap.size w w' := by
  obtain ⟨iu, hiu, hux⟩ := Option.map_eq_some_iff.1 (show (Tryz.prog.info? 5).map (fun i => (i.zero, i.size, i.bytes)) = some (some (.int .u8 0), 1, 1) by kernel_rfl)
  simp only [Prod.mk.injEq] at hux
  obtain ⟨hz0, hz1, hz2⟩ := hux
  have hiu := Lib.hid hiu
  have hz0 := Lib.hid hz0
  have hz1 := Lib.hid hz1
  have hz2 := Lib.hid hz2
  go_enter Tryz.func107, Tryz.ntmps107
  go_wp2
  go_loopw [3, 4] (fun b i wr => ∃ j : Nat, j ≤ s.size ∧ i = .int .i64 j ∧ Own w.heap.size wr 5 b (Code.pre s j) ∧ Below w.heap.size w wr) (fun _ i _ => s.size - (RowKit.intOf i).toNat)
  case atStart => exact ⟨0, Nat.zero_le _, rfl, Own.nil _ _ _, Below.refl _ _⟩
  case round =>
    obtain ⟨j, hj, rfl, hown, hbl⟩ := hrel
    have hbs : w.heap.size ≤ wr.heap.size := hbl.size
    have hown := Lib.hid hown
    have hbl := Lib.hid hbl
    by_cases hlt : j < s.size
    · have hget := fun w => idx_str s j hlt w
      have htk : Code.pre s (j + 1) = Code.pre s j ++ [Code.upB (s.data.toList.getD j 0)] := take_map_snoc s Code.upB j hlt
      have htk := Lib.hid htk
      have hln := Code.pre_len s j
      have hup := Code.upB_nat (s.data.toList.getD j 0)
      obtain ⟨c, hc⟩ : ∃ c, s.data.toList.getD j 0 = c := ⟨_, rfl⟩
      rw [hc] at hget htk hup
      have hc := Lib.hid hc
      have h256 : (c.toNat : Int) < 256 := by have := c.toNat_lt; omega
      unfold Code.up at hup
      by_cases h : 97 ≤ (c.toNat : Int) ∧ (c.toNat : Int) ≤ 122
      all_goals
        first | rw [if_pos h] at hup | rw [if_neg h] at hup
        have hup := Lib.hid hup
        go_wp2_with (refine wpList_append_byte rfl (.tmp 23) (.tmp 25) 108 rfl w.heap.size 5 iu Tryz.underlying108 hiu.out hz0.out hz1.out hz2.out _ _ rfl _ hown.out _ (Code.upB c) ?_ rfl ?_ ?_ ?_)
        all_goals first
          | (rw [hup.out]; done)
          | omega
          | exact hbs
          | (intro v' w' h1 h2
             have h1 := Lib.hid h1
             have h2 := Lib.hid h2
             go_wp2
             go_roundw
             case rel => exact ⟨j + 1, by omega, by go_num, by rw [htk.out]; exact h1.out, hbl.out.trans h2.out⟩
             case measure => simp [RowKit.intOf]; omega)
    · have hcv : (convert 108 9 u3).run Tryz.prog wr = .ok (.string ⟨(Code.pre s j).toArray⟩) wr := hown.out.buf.to_string 108 9 Tryz.underlying108 Tryz.underlying5 Tryz.underlying9
      rw [Code.pre_all s j hlt] at hcv
      go_wp2
      go_ret
      exact ⟨rfl, hbl.out⟩
end Go.Proofs.YthejfkkmcbdlhaaGreatDoor
/- Chapter 7: the operation of a name, as the program finds it and as the document does. Conditions: the text is shorter than 2^45 bytes; the tables lie as their initialisers lay them. -/
namespace Go.Proofs.YthejfkkmcbdlhaaGreatDoor
set_option linter.unusedVariables false
open Go.RowKit Go.Lib

/-- the tables that the program reads: the names, unicode/utf8's -/
def Tabs (w : World) : Prop := NamesAt w ∧ Lib.Utf8Tabs 4 5 w
theorem Tabs.of_cells {w w' : World} (h : Tabs w) (hc : ∀ (p : Addr) v, w.cell? p = some v → w'.cell? p = some v) : Tabs w' :=
  ⟨fun i hi => hc _ _ (h.1 i hi), fun c h1 => hc _ _ (h.2.1 c h1), fun i h1 => ⟨hc _ _ (h.2.2 i h1).1, hc _ _ (h.2.2 i h1).2⟩⟩
theorem Tabs.below {w w' : World} (h : Tabs w) (hb : Below w.heap.size w w') : Tabs w' :=
  h.of_cells fun p v hp => (hb.cell (World.block_lt_of_cell? w p hp)).trans hp
theorem Tabs.drew {w : World} (h : Tabs w) : Tabs w.drew := h

def Code.hit (s : ByteArray) (i : Nat) : Bool := decide (Code.large (Code.name i) = Code.large s)
def Code.Past (s : ByteArray) (j : Nat) : Prop := ∀ i, i < j → Code.hit s i = false
def Code.numberN (s : ByteArray) : Nat := (((List.range 106).find? (Code.hit s)).map (· + 1)).getD 0
theorem Code.number_hit {s : ByteArray} {j : Nat} (hj : j < 106) (hp : Code.Past s j) (h : Code.hit s j = true) : Code.numberN s = j + 1 := by
  have : (List.range 106).find? (Code.hit s) = some j := by
    rw [List.find?_range_eq_some]
    refine ⟨h, by simpa using hj, fun i hi => by simp [hp i hi]⟩
  simp [Code.numberN, this]
theorem Code.number_none {s : ByteArray} (hp : Code.Past s 106) : Code.numberN s = 0 := by
  have : (List.range 106).find? (Code.hit s) = none := by
    rw [List.find?_eq_none]
    intro i hi
    simp [hp i (by simpa using hi)]
  simp [Code.numberN, this]
theorem Code.past_succ {s : ByteArray} {j : Nat} (hp : Code.Past s j) (h : Code.hit s j = false) : Code.Past s (j + 1) := by
  intro i hi
  rcases Nat.lt_succ_iff_lt_or_eq.1 hi with h1 | rfl
  · exact hp i h1
  · exact h
theorem Code.name_small : ∀ i : Fin 106, (Code.name i.val).size < 100 := by decide +kernel
theorem Code.name_low : ∀ i : Fin 106, ∀ b ∈ (Code.large (Code.name i.val)).data.toList, b.toNat < 128 := by decide +kernel
theorem ba_ext {a b : ByteArray} (h : a.data.toList = b.data.toList) : a = b := by
  cases a; cases b; simp at h; simp [h]
theorem toList_eq_beq (a b : ByteArray) : (a.toList == b.toList) = decide (a.data.toList = b.data.toList) := by
  rw [Bool.eq_iff_iff, beq_iff_eq, decide_eq_true_eq, Lib.toList_data, Lib.toList_data]
/-- rune by rune or byte by byte: a name is found by both alike -/
theorem Code.upper_hit (s : ByteArray) (i : Nat) (hi : i < 106) :
    (Lib.mapD Code.up (Code.name i).data.toList == Lib.mapD Code.up s.data.toList) = Code.hit s i := by
  have hl := Code.name_low ⟨i, hi⟩
  have h1 : Lib.mapD Code.up (Code.name i).data.toList = (Code.large (Code.name i)).data.toList := (mapD_upper _ _ _ (Nat.le_refl _) hl).2 rfl
  have h2 := mapD_upper _ s.data.toList _ (Nat.le_refl _) hl
  rw [Code.hit, Bool.eq_iff_iff, beq_iff_eq, decide_eq_true_eq, h1]
  constructor
  · intro h
    have := h2.1 h.symm
    exact ba_ext this.symm
  · intro h
    exact (h2.2 (by rw [h]; rfl)).symm
theorem Code.large_hit (s : ByteArray) (i : Nat) : ((Code.large (Code.name i)).toList == (Code.large s).toList) = Code.hit s i := by
  rw [toList_eq_beq, Code.hit, Bool.eq_iff_iff, decide_eq_true_eq, decide_eq_true_eq]
  exact ⟨fun h => ba_ext h, fun h => by rw [h]⟩

set_option maxHeartbeats 400000 in
theorem number_walk (s : ByteArray) (hs : s.size < 35184372088832) (w : World) (hT : Tabs w) : Calls Tryz.prog 32 #[.string s] w fun e w' => e = .returned (.int .i64 (Code.numberN s)) ∧ Below w.heap.size w w' := by
  have hs := Lib.hid hs
  have hT := Lib.hid hT
  go_enter Tryz.func32, Tryz.ntmps32
  go_wp2
  go_loopw [4] (fun i wr => ∃ j : Nat, j ≤ 106 ∧ i = .int .i64 j ∧ Code.Past s j ∧ Below w.heap.size w wr) (fun i _ => 106 - (RowKit.intOf i).toNat)
  case atStart => exact ⟨0, by omega, rfl, fun _ h => by omega, Below.refl _ _⟩
  case round =>
    obtain ⟨j, hj, rfl, hp, hbl⟩ := hrel
    have hp := Lib.hid hp
    have hTr := Lib.hid (hT.out.below hbl)
    have hbl := Lib.hid hbl
    by_cases hlt : j < 106
    · have hn : (Code.name j).size < 35184372088832 := by have := Code.name_small ⟨j, hlt⟩; simp only at this; omega
      have hn := Lib.hid hn
      have hcell := hTr.out.1 j hlt
      have hhit := Code.upper_hit s j hlt
      cases hx : Code.hit s j
      all_goals
        rw [hx] at hhit
        have hx := Lib.hid hx
        have hhit := Lib.hid hhit
        go_wp2_with fail
        refine (upper_walk (Code.name j) hn.out wr hTr.out.2).mono ?_
        rintro e w1 ⟨rfl, h1⟩
        have hT1 := Lib.hid (hTr.out.below h1)
        have h1 := Lib.hid h1
        clear hcell
        go_wp2_with fail
        refine (upper_walk s hs.out w1 hT1.out.2).mono ?_
        rintro e w2 ⟨rfl, h2⟩
        have h2 := Lib.hid (h1.out.trans (h2.mono h1.out.size))
        have hhit := hhit.out
        go_wp2
        first
          | (go_roundw
             case rel => exact ⟨j + 1, by omega, by go_num, Code.past_succ hp.out hx.out, hbl.out.trans (h2.out.mono hbl.out.size)⟩
             case measure => simp [RowKit.intOf]; omega)
          | (go_ret
             exact ⟨by rw [Code.number_hit hlt hp.out hx.out]; rfl, hbl.out.trans (h2.out.mono hbl.out.size)⟩)
    · obtain rfl : j = 106 := by omega
      go_wp2
      go_ret
      exact ⟨by rw [Code.number_none hp.out]; rfl, hbl.out⟩

set_option maxHeartbeats 400000 in
theorem Number_walk (s : ByteArray) (hs : s.size < 35184372088832) (w : World) : Calls Tryz.prog 75 #[.string s] w fun e w' => e = .returned (.int .i64 (Code.numberN s)) ∧ Below w.heap.size w w' := by
  have hs := Lib.hid hs
  go_enter Tryz.func75, Tryz.ntmps75
  go_wp2_with fail
  refine (Table_walk w).mono ?_
  rintro e w1 ⟨rfl, hw1⟩
  have hblk : Blk w1 w.heap.size 9 Code.tableCells := by rw [hw1]; exact Blk.new _ _ _
  have hb1 : Below w.heap.size w w1 := by rw [hw1]; exact (Below.refl _ _).alloc (Nat.le_refl _) _
  have hz1 : w.heap.size < w1.heap.size := by rw [hw1]; simp
  have hz1 := Lib.hid hz1
  have hblk := Lib.hid hblk
  have hb1 := Lib.hid hb1
  clear hw1
  go_wp2
  go_loopw [4] (fun i wr => ∃ j : Nat, j ≤ 106 ∧ i = .int .i64 (j + 1 : Nat) ∧ Code.Past s j ∧ Below w1.heap.size w1 wr) (fun i _ => 107 - (RowKit.intOf i).toNat)
  case atStart => exact ⟨0, by omega, rfl, fun _ h => by omega, Below.refl _ _⟩
  case round =>
    obtain ⟨j, hj, rfl, hp, hbl⟩ := hrel
    have hp := Lib.hid hp
    have hBr := Lib.hid (hblk.out.below hbl hz1.out)
    have hbl := Lib.hid hbl
    have e1 : ((j + 1 : Nat) : Int) = (j : Int) + 1 := by omega
    rw [e1]
    clear e1
    by_cases hlt : j < 106
    · have hn : (Code.name j).size < 35184372088832 := by have := Code.name_small ⟨j, hlt⟩; simp only at this; omega
      have hn := Lib.hid hn
      have hcell : wr.cell? ⟨w.heap.size, j + 1, none⟩ = some (.string (Code.name j)) := by rw [hBr.out.cell, Code.tableCells_at j hlt]
      have hhit := Code.large_hit s j
      cases hx : Code.hit s j
      all_goals
        rw [hx] at hhit
        have hx := Lib.hid hx
        have hhit := Lib.hid hhit
        go_wp2_with fail
        refine (large_walk (Code.name j) hn.out wr).mono ?_
        rintro e w2 ⟨rfl, h1⟩
        have h1 := Lib.hid h1
        clear hcell
        go_wp2_with fail
        refine (large_walk s hs.out w2).mono ?_
        rintro e w3 ⟨rfl, h2⟩
        have h2 := Lib.hid (h1.out.trans (h2.mono h1.out.size))
        have hhit := hhit.out
        go_wp2
        first
          | (go_roundw
             case rel => exact ⟨j + 1, by omega, by go_num, Code.past_succ hp.out hx.out, hbl.out.trans (h2.out.mono hbl.out.size)⟩
             case measure => simp [RowKit.intOf]; omega)
          | (go_ret
             exact ⟨by rw [Code.number_hit hlt hp.out hx.out]; rfl, hb1.out.trans ((hbl.out.trans (h2.out.mono hbl.out.size)).mono hb1.out.size)⟩)
    · obtain rfl : j = 106 := by omega
      go_wp2
      go_ret
      exact ⟨by rw [Code.number_none hp.out]; rfl, hb1.out.trans (hbl.out.mono hb1.out.size)⟩
def Look.numP (s : List UInt8) : Nat := Code.numberN ⟨s.toArray⟩
end Go.Proofs.YthejfkkmcbdlhaaGreatDoor
