/- The program's package caps: what each of its functions does to a table that lies in memory. Conditions: the table's numbers are in their bounds (Tab.Ok). -/
import Derived.Test.YtjhdpmimccpcdaaGreatDoorQ00
import Derived.Test.YtjhdpmimccpcdaaGreatDoorQCapsSpec
import Derived.Test.YtjhdpmimccpcdaaGreatDoorQShelf
namespace Go.Proofs.YtjhdpmimccpcdaaGreatDoor
set_option linter.unusedVariables false
open Go.RowKit Go.Lib

theorem Tryz.infoU8 : (Tryz.prog.info? 5).map (fun i => (i.zero, i.size, i.bytes)) = some (some (.int .u8 0), 1, 1) := by kernel_rfl

/-- the table of the program -/
structure CRep (w : World) (g : Nat) (S : Caps.Tab) (F : Nat → Prop) : Prop where
  ok : S.Ok
  rep : ∃ o l vo vl, Blk w g 128 #[.int .i64 S.pupil, .string S.inp, .iface 161 (.pointer (some ⟨o, 0, none⟩)), .iface 164 (.pointer (some ⟨l, 0, none⟩)), .int .i64 S.points, .bool S.said] ∧
    Blk w o 163 #[vo, .int .i64 S.room] ∧ Blk w l 166 #[vl, .int .i64 S.room] ∧
    Buf w 5 vo S.out.data.toList ∧ Buf w 5 vl S.log.data.toList ∧ (∀ k, vo.ownBlock = some k → vl.ownBlock = some k → False) ∧
    (∀ k, F k ↔ (k = g ∨ k = o ∨ k = l ∨ vo.ownBlock = some k ∨ vl.ownBlock = some k))

theorem CRep.lt {w : World} {g : Nat} {S : Caps.Tab} {F : Nat → Prop} (h : CRep w g S F) {k : Nat} (hk : F k) : k < w.heap.size := by
  obtain ⟨o, l, vo, vl, h1, h2, h3, h4, h5, _, hF⟩ := h.rep
  rcases (hF k).1 hk with rfl | rfl | rfl | h | h
  · exact h1.lt
  · exact h2.lt
  · exact h3.lt
  · exact h4.lt h
  · exact h5.lt h
theorem CRep.kept {w w' : World} {g : Nat} {S : Caps.Tab} {F T : Nat → Prop} (h : CRep w g S F) (hk : Kept T w w') (hT : ∀ k, F k → ¬ T k) : CRep w' g S F := by
  obtain ⟨o, l, vo, vl, h1, h2, h3, h4, h5, h6, hF⟩ := h.rep
  exact ⟨h.ok, o, l, vo, vl, h1.kept hk (hT _ ((hF _).2 (.inl rfl))), h2.kept hk (hT _ ((hF _).2 (.inr (.inl rfl)))), h3.kept hk (hT _ ((hF _).2 (.inr (.inr (.inl rfl))))),
    h4.kept hk (fun k hv => hT _ ((hF _).2 (.inr (.inr (.inr (.inl hv)))))), h5.kept hk (fun k hv => hT _ ((hF _).2 (.inr (.inr (.inr (.inr hv)))))), h6, hF⟩
theorem CRep.drewN {w : World} {g : Nat} {S : Caps.Tab} {F : Nat → Prop} (h : CRep w g S F) (n : Nat) : CRep (w.drewN n) g S F :=
  h.kept (T := Nob) ((Kept.refl _ w).drewN n) (fun _ _ h => h)

/-- behind a call that changes one table: the answer, the table as it is then, and where it lies -/
def CPost (v : Value) (g : Nat) (S' : Caps.Tab) (F : Nat → Prop) (w : World) (e : Ending) (w' : World) : Prop :=
  e = .returned v ∧ ∃ F', CRep w' g S' F' ∧ Kept F w w' ∧ ∀ k, F' k → F k ∨ w.heap.size ≤ k
def Draws (v : Value) (w : World) (e : Ending) (w' : World) : Prop := e = .returned v ∧ ∃ n, w' = w.drewN n

theorem and_bit (p c : Int) (h : 0 ≤ p ∧ p ≤ 31) (hc : c = 1 ∨ c = 2 ∨ c = 4 ∨ c = 8 ∨ c = 16) : (bits .and .i64 p c != 0) = (p / c % 2 == 1) := by
  obtain ⟨n, rfl⟩ := Int.eq_ofNat_of_zero_le h.1
  have hn : n < 32 := by omega
  have key : ∀ k : Fin 32, (bits .and .i64 (k.val : Int) 1 != 0) = ((k.val : Int) / 1 % 2 == 1) ∧ (bits .and .i64 (k.val : Int) 2 != 0) = ((k.val : Int) / 2 % 2 == 1) ∧
      (bits .and .i64 (k.val : Int) 4 != 0) = ((k.val : Int) / 4 % 2 == 1) ∧ (bits .and .i64 (k.val : Int) 8 != 0) = ((k.val : Int) / 8 % 2 == 1) ∧ (bits .and .i64 (k.val : Int) 16 != 0) = ((k.val : Int) / 16 % 2 == 1) := by decide +kernel
  have := key ⟨n, hn⟩
  rcases hc with rfl | rfl | rfl | rfl | rfl
  · exact this.1
  · exact this.2.1
  · exact this.2.2.1
  · exact this.2.2.2.1
  · exact this.2.2.2.2

set_option maxHeartbeats 400000 in
theorem has_no (g : Nat) (p m c : Int) (w : World) (hc : ¬ (c = 1 ∨ c = 2 ∨ c = 4 ∨ c = 8 ∨ c = 16)) :
    Calls Tryz.prog 112 #[.pointer (some ⟨g, 0, none⟩), .int .i64 m, .int .i64 c] w (Same (.bool (Caps.has p m c)) w) := by
  have e : Caps.has p m c = false := by simp [Caps.has, Caps.isCap]; omega
  rw [e]
  have a1 : (c == 1) = false := by simp; omega
  have a2 : (c == 2) = false := by simp; omega
  have a4 : (c == 4) = false := by simp; omega
  have a8 : (c == 8) = false := by simp; omega
  have a16 : (c == 16) = false := by simp; omega
  go_enter Tryz.func112, Tryz.ntmps112
  go_wp2
  go_ret
  exact ⟨rfl, rfl⟩

set_option maxHeartbeats 1000000 in
theorem has_yes (g : Nat) (p m c : Int) (w : World) (hc : c = 1 ∨ c = 2 ∨ c = 4 ∨ c = 8 ∨ c = 16) (hp : 0 ≤ p ∧ p ≤ 31) (hw : w.cell? ⟨g, 0, none⟩ = some (.int .i64 p)) :
    Calls Tryz.prog 112 #[.pointer (some ⟨g, 0, none⟩), .int .i64 m, .int .i64 c] w (Same (.bool (Caps.has p m c)) w) := by
  have hb := and_bit p c hp hc
  by_cases m1 : m = 1
  · subst m1
    have e : Caps.has p 1 c = (bits .and .i64 p c != 0) := by rw [hb]; simp [Caps.has, Caps.isCap]; omega
    rw [e]
    clear e hb
    rcases hc with rfl | rfl | rfl | rfl | rfl
    all_goals
      go_enter Tryz.func112, Tryz.ntmps112
      go_wp2
      go_ret
      exact ⟨rfl, rfl⟩
  · have e : Caps.has p m c = (m == 0 || m == 2) := by
      have : (m == 1) = false := by simpa using m1
      simp [Caps.has, Caps.isCap, this]; omega
    rw [e]
    clear e hb
    have m1' : (m == 1) = false := by simpa using m1
    by_cases m0 : m = 0
    · subst m0
      rcases hc with rfl | rfl | rfl | rfl | rfl
      all_goals
        go_enter Tryz.func112, Tryz.ntmps112
        go_wp2
        go_ret
        exact ⟨rfl, rfl⟩
    · have m0' : (m == 0) = false := by simpa using m0
      by_cases m2 : m = 2
      · subst m2
        rcases hc with rfl | rfl | rfl | rfl | rfl
        all_goals
          go_enter Tryz.func112, Tryz.ntmps112
          go_wp2
          go_ret
          exact ⟨rfl, rfl⟩
      · have m2' : (m == 2) = false := by simpa using m2
        rcases hc with rfl | rfl | rfl | rfl | rfl
        all_goals
          go_enter Tryz.func112, Tryz.ntmps112
          go_wp2
          go_ret
          exact ⟨by rw [m0', m2']; rfl, rfl⟩

theorem CRep.has {w : World} {g : Nat} {S : Caps.Tab} {F : Nat → Prop} (h : CRep w g S F) (m c : Int) :
    Calls Tryz.prog 112 #[.pointer (some ⟨g, 0, none⟩), .int .i64 m, .int .i64 c] w (Same (.bool (Caps.has S.pupil m c)) w) := by
  by_cases hc : c = 1 ∨ c = 2 ∨ c = 4 ∨ c = 8 ∨ c = 16
  · obtain ⟨o, l, vo, vl, h1, _⟩ := h.rep
    exact has_yes g S.pupil m c w hc ⟨h.ok.p0, h.ok.p1⟩ (by simpa using h1.cell 0)
  · exact has_no g S.pupil m c w hc

/-- New -/
def NewPost (p r : Int) (s : ByteArray) (w : World) (e : Ending) (w' : World) : Prop :=
  if Caps.newErr p r s = 0 then ∃ g F, e = .returned (.tuple #[.pointer (some ⟨g, 0, none⟩), .int .i64 0]) ∧ CRep w' g (Caps.made p r s) F ∧ Kept Nob w w' ∧ ∀ k, F k → w.heap.size ≤ k
  else e = .returned (.tuple #[.pointer none, .int .i64 (Caps.newErr p r s)]) ∧ w' = w

set_option maxHeartbeats 400000 in
theorem caps_new (p r : Int) (s : ByteArray) (w : World) : Calls Tryz.prog 35 #[.int .i64 p, .int .i64 r, .string s] w (NewPost p r s w) := by
  by_cases hbad : p < 0 ∨ 31 < p ∨ r < 0 ∨ 65536 < r
  · have e1 : Caps.newErr p r s = 1 := by unfold Caps.newErr; rw [if_pos hbad]
    have fin : NewPost p r s w (.returned (.tuple #[.pointer none, .int .i64 1])) w := by
      unfold NewPost; rw [e1]; simp
    have Fin := Lib.hid fin
    clear fin
    clear e1
    go_enter Tryz.func35, Tryz.ntmps35
    go_wp2
    all_goals first | (go_ret2; exact Fin.out) | (exfalso; omega)
  · by_cases hl : 4096 < s.size
    · have e1 : Caps.newErr p r s = 2 := by unfold Caps.newErr; rw [if_neg hbad, if_pos hl]
      have fin : NewPost p r s w (.returned (.tuple #[.pointer none, .int .i64 2])) w := by
        unfold NewPost; rw [e1]; simp
      have Fin := Lib.hid fin
      clear fin e1
      have q1 : 0 ≤ p := by omega
      have q2 : p ≤ 31 := by omega
      have q3 : 0 ≤ r := by omega
      have q4 : r ≤ 65536 := by omega
      clear hbad
      go_enter Tryz.func35, Tryz.ntmps35
      go_wp2
      all_goals first | (go_ret2; exact Fin.out) | (exfalso; omega)
    · have e1 : Caps.newErr p r s = 0 := by unfold Caps.newErr; rw [if_neg hbad, if_neg hl]
      have hok := Caps.made_ok e1
      have E1 := Lib.hid e1
      clear e1
      have q1 : 0 ≤ p := by omega
      have q2 : p ≤ 31 := by omega
      have q3 : 0 ≤ r := by omega
      have q4 : r ≤ 65536 := by omega
      have q5 : s.size ≤ 4096 := by omega
      clear hbad hl
      go_enter Tryz.func35, Tryz.ntmps35
      go_wp2
      go_ret2
      unfold NewPost
      rw [if_pos E1.out]
      refine ⟨_, fun k => k = w.heap.size + 1 + 1 ∨ k = w.heap.size ∨ k = w.heap.size + 1, rfl, ⟨hok, w.heap.size, w.heap.size + 1, .slice none 0 0, .slice none 0 0, ?_, ?_, ?_, ?_, ?_, ?_, ?_⟩, ?_, ?_⟩
      · exact Blk.new' (by simp)
      · exact (((Blk.new w _ _).alloc _).alloc _)
      · exact ((Blk.new' (by simp)).alloc _)
      · exact Buf.nil _ _
      · exact Buf.nil _ _
      · intro k hk; cases hk
      · intro k; simp [Value.ownBlock]
      · exact (((Kept.refl _ w).alloc _).alloc _).alloc _
      · intro k hk; omega
end Go.Proofs.YtjhdpmimccpcdaaGreatDoor
/- The program's package caps, the functions that write and read a table's output. Conditions: the table lies in memory as CRep says; a string that is handed in is no longer than a string may be. -/
namespace Go.Proofs.YtjhdpmimccpcdaaGreatDoor
set_option linter.unusedVariables false
set_option maxRecDepth 100000
open Go.RowKit Go.Lib

def PutPost (b tb : Nat) (v : Value) (room : Int) (bs : List UInt8) (s : ByteArray) (n m : Nat) (w : World) (e : Ending) (w' : World) : Prop :=
  ∃ v', e = .returned (.int .i64 m) ∧ Blk w' b tb #[v', .int .i64 room] ∧ Buf w' 5 v' (bs ++ s.data.toList.take n) ∧
    Kept (fun k => k = b ∨ v.ownBlock = some k) w w' ∧ (∀ k, v'.ownBlock = some k → v.ownBlock = some k ∨ w.heap.size ≤ k)

set_option maxHeartbeats 800000 in
theorem put_any (b tb : Nat) (v : Value) (room : Int) (bs : List UInt8) (s : ByteArray) (w : World) (hb : Blk w b tb #[v, .int .i64 room]) (hv : Buf w 5 v bs) (htb : 5 ≠ tb)
    (hr : (bs.length : Int) ≤ room ∧ room ≤ 65536) :
    Calls Tryz.prog 392 #[.pointer (some ⟨b, 0, none⟩), .string s] w (PutPost b tb v room bs s (min s.size (room.toNat - bs.length)) (min s.size (room.toNat - bs.length)) w) := by
  obtain ⟨i0, hi, hz0, hz1, hz2⟩ := info_parts Tryz.infoU8
  obtain ⟨A, cap, rfl, hcap⟩ := hv.form'
  obtain ⟨n, hrn⟩ : ∃ n : Nat, room - (bs.length : Int) = n := ⟨(room - bs.length).toNat, by omega⟩
  have c0 := hb.cell 0
  have c1 := hb.cell 1
  have f0 := hb.frozen 0
  simp at c0 c1
  have e0 : min s.size (room.toNat - bs.length) = min s.size n := by congr 1; omega
  rw [e0]
  clear e0
  by_cases hn : n < s.size
  · rw [Nat.min_eq_right (by omega)]
    have hle : n ≤ s.size := by omega
    have hmin : min (s.size : Int) (n : Int) = n := by omega
    have hex : (s.extract 0 n).data.toList = s.data.toList.take n := by simp
    have hln : (bs ++ s.data.toList.take n).length = bs.length + n := by simp; omega
    have Hex := Lib.hid hex
    have Hln := Lib.hid hln
    have hsz : bs.length + (s.extract 0 n).size ≤ 140737488355328 := by simp; omega
    clear hex hln
    go_enter Tryz.func392, Tryz.ntmps392
    go_wp2
    go_quiet (fail)
    go_wp2
    go_region_law ((refine step_append_buf rfl (.tmp 23) (.tmp 26) 123 9 rfl 5 i0 Tryz.underlying123 Tryz.underlying9 hi hz0 hz1 hz2 _ bs rfl hv _ rfl hsz ?_; rw [Hex.out]; intro v' w1 hb1 hg hat; obtain ⟨A1, cap1, rfl, _⟩ := hb1.form'; rw [Hln.out] at hb1 hat ⊢; have B1 := Blk.grown (hb.drewN (nq + 1)) hg (fun e => hv.ne_blk hb htb e.symm); have c0' := B1.cell 0; have f0' := B1.frozen 0; simp at c0'))
    go_wp2
    go_ret
    refine ⟨_, rfl, B1.set_ 0 _, hb1.setCell (hb1.ne_blk B1 htb) _, ?_, ?_⟩
    · exact (((Kept.refl _ w).drewN (nq + 1)).grown hg (fun k hk => .inl (.inr hk))).setCell (.inl (.inl rfl)) _
    · intro k hk
      rcases hat with h | h
      · exact .inl (h.symm.trans hk)
      · exact .inr (Nat.le_of_eq (Option.some.inj (h.symm.trans hk)))
  · rw [Nat.min_eq_left (by omega)]
    have hmin : min (s.size : Int) (n : Int) = s.size := by omega
    have hex : s.data.toList = s.data.toList.take s.size := by rw [List.take_of_length_le (by simp)]
    have hln : (bs ++ s.data.toList.take s.size).length = bs.length + s.size := by simp
    have Hex := Lib.hid hex
    have Hln := Lib.hid hln
    have hsz : bs.length + s.size ≤ 140737488355328 := by omega
    clear hex hln
    go_enter Tryz.func392, Tryz.ntmps392
    go_wp2
    go_quiet (fail)
    go_wp2
    go_region_law ((refine step_append_buf rfl (.tmp 23) (.tmp 26) 123 9 rfl 5 i0 Tryz.underlying123 Tryz.underlying9 hi hz0 hz1 hz2 _ bs rfl hv _ rfl hsz ?_; rw [Hex.out]; intro v' w1 hb1 hg hat; obtain ⟨A1, cap1, rfl, _⟩ := hb1.form'; rw [Hln.out] at hb1 hat ⊢; have B1 := Blk.grown (hb.drewN (nq + 1)) hg (fun e => hv.ne_blk hb htb e.symm); have c0' := B1.cell 0; have f0' := B1.frozen 0; simp at c0'))
    go_wp2
    go_ret
    refine ⟨_, rfl, B1.set_ 0 _, hb1.setCell (hb1.ne_blk B1 htb) _, ?_, ?_⟩
    · exact (((Kept.refl _ w).drewN (nq + 1)).grown hg (fun k hk => .inl (.inr hk))).setCell (.inl (.inl rfl)) _
    · intro k hk
      rcases hat with h | h
      · exact .inl (h.symm.trans hk)
      · exact .inr (Nat.le_of_eq (Option.some.inj (h.symm.trans hk)))

theorem PutPost.lossy {b tb : Nat} {v : Value} {room : Int} {bs : List UInt8} {s : ByteArray} {n m m' : Nat} {w w' : World} {e : Ending} (h : PutPost b tb v room bs s n m w e w') :
    PutPost b tb v room bs s n m' w (.returned (.int .i64 m')) w' := by
  obtain ⟨v', _, h2⟩ := h
  exact ⟨v', rfl, h2⟩

set_option maxHeartbeats 400000 in
theorem lossy_put (b tb : Nat) (v : Value) (room : Int) (bs : List UInt8) (s : ByteArray) (w : World) (hb : Blk w b tb #[v, .int .i64 room]) (hv : Buf w 5 v bs) (htb : 5 ≠ tb)
    (hr : (bs.length : Int) ≤ room ∧ room ≤ 65536) (hs : s.size ≤ maxLen) :
    Calls Tryz.prog 394 #[.pointer (some ⟨b, 0, none⟩), .string s] w (PutPost b tb v room bs s (min s.size (room.toNat - bs.length)) s.size w) := by
  have hs' := hs
  unfold maxLen at hs'
  go_enter Tryz.func394, Tryz.ntmps394
  go_wp2_with fail
  refine (put_any b tb v room bs s w hb hv htb hr).mono ?_
  rintro e w' hp
  have he : ∃ n, e = .returned n := by obtain ⟨_, h, _⟩ := hp; exact ⟨_, h⟩
  obtain ⟨n, rfl⟩ := he
  have hp' : PutPost b tb v room bs s (min s.size (room.toNat - bs.length)) s.size w _ w' := hp.lossy
  have Hp := Lib.hid hp'
  clear hp'
  clear hp
  go_wp2
  go_ret
  exact Hp.out

set_option maxHeartbeats 400000 in
theorem text_any (b tb : Nat) (v : Value) (room : Int) (bs : List UInt8) (w : World) (hb : Blk w b tb #[v, .int .i64 room]) (hv : Buf w 5 v bs) :
    Calls Tryz.prog 393 #[.pointer (some ⟨b, 0, none⟩)] w (Same (.string ⟨bs.toArray⟩) w) := by
  obtain ⟨A, cap, rfl, hcap⟩ := hv.form'
  have c0 := hb.cell 0
  simp at c0
  have hc := hv.to_string (P := Tryz.prog) 123 9 Tryz.underlying123 Tryz.underlying5 Tryz.underlying9
  go_enter Tryz.func393, Tryz.ntmps393
  go_wp2
  go_ret
  exact ⟨rfl, rfl⟩
end Go.Proofs.YtjhdpmimccpcdaaGreatDoor
/- The program's package caps: the methods of its table. Conditions: the table lies in memory as CRep says; a string that is handed in is no longer than a string may be. -/
namespace Go.Proofs.YtjhdpmimccpcdaaGreatDoor
set_option linter.unusedVariables false
set_option maxRecDepth 100000
open Go.RowKit Go.Lib

theorem meth_bput (a : Addr) (w : World) : (method 532 161 (.pointer (some a)) "proctor/caps.put").run Tryz.prog w = .ok (392, .pointer (some a)) w := by kernel_rfl
theorem meth_lput (a : Addr) (w : World) : (method 532 164 (.pointer (some a)) "proctor/caps.put").run Tryz.prog w = .ok (394, .pointer (some a)) w := by kernel_rfl
theorem meth_btext (a : Addr) (w : World) : (method 532 161 (.pointer (some a)) "proctor/caps.text").run Tryz.prog w = .ok (393, .pointer (some a)) w := by kernel_rfl
theorem meth_ltext (g : Nat) (w : World) : (method 532 164 (.pointer (some ⟨g, 0, none⟩)) "proctor/caps.text").run Tryz.prog w = .ok (393, .pointer (some ⟨g, 0, none⟩)) w := by kernel_rfl

theorem mk_toList (s : ByteArray) : (⟨s.data.toList.toArray⟩ : ByteArray) = s := by cases s; rfl

section
variable {w : World} {g : Nat} {S : Caps.Tab} {F : Nat → Prop}

set_option maxHeartbeats 400000 in
theorem CRep.output (h : CRep w g S F) : Calls Tryz.prog 23 #[.pointer (some ⟨g, 0, none⟩)] w (Same (.string S.out) w) := by
  obtain ⟨o, l, vo, vl, h1, h2, h3, h4, h5, h6, hF⟩ := h.rep
  have c2 := h1.cell 2
  simp at c2
  have hm := meth_btext ⟨o, 0, none⟩
  go_enter Tryz.func23, Tryz.ntmps23
  go_wp2_with fail
  refine (text_any o 163 vo S.room S.out.data.toList w h2 h4).mono ?_
  rintro e w' ⟨rfl, rfl⟩
  rw [mk_toList]
  go_wp2
  go_ret
  exact ⟨rfl, rfl⟩

set_option maxHeartbeats 400000 in
theorem CRep.points (h : CRep w g S F) : Calls Tryz.prog 24 #[.pointer (some ⟨g, 0, none⟩)] w (Draws (.tuple #[.int .i64 S.points, .bool S.said]) w) := by
  obtain ⟨o, l, vo, vl, h1, h2, h3, h4, h5, h6, hF⟩ := h.rep
  have c4 := h1.cell 4
  have c5 := h1.cell 5
  simp at c4 c5
  go_enter Tryz.func24, Tryz.ntmps24
  go_wp2
  go_quiet (fail)
  go_wp2
  go_ret2
  exact ⟨rfl, _, rfl⟩

/-- the table behind a change of its own cells alone -/
theorem CRep.change (h : CRep w g S F) {w' : World} {S' : Caps.Tab} (hok : S'.Ok) (hp : S'.room = S.room) (ho : S'.out = S.out) (hl : S'.log = S.log)
    (hk : Kept (fun k => k = g) w w') (hb : ∀ o l : Nat, Blk w g 128 #[.int .i64 S.pupil, .string S.inp, .iface 161 (.pointer (some ⟨o, 0, none⟩)), .iface 164 (.pointer (some ⟨l, 0, none⟩)), .int .i64 S.points, .bool S.said] →
      Blk w' g 128 #[.int .i64 S'.pupil, .string S'.inp, .iface 161 (.pointer (some ⟨o, 0, none⟩)), .iface 164 (.pointer (some ⟨l, 0, none⟩)), .int .i64 S'.points, .bool S'.said]) : CRep w' g S' F := by
  obtain ⟨o, l, vo, vl, h1, h2, h3, h4, h5, h6, hF⟩ := h.rep
  refine ⟨hok, o, l, vo, vl, hb o l h1, ?_, ?_, ?_, ?_, h6, hF⟩
  · rw [hp]; exact h2.kept hk (Blk.ne_ h2 h1 (by decide))
  · rw [hp]; exact h3.kept hk (Blk.ne_ h3 h1 (by decide))
  · rw [ho]; exact h4.kept hk (fun k hv e => h4.ne_blk h1 (by decide) (by rw [hv, e]))
  · rw [hl]; exact h5.kept hk (fun k hv e => h5.ne_blk h1 (by decide) (by rw [hv, e]))
theorem CRep.gin (h : CRep w g S F) : F g := by
  obtain ⟨o, l, vo, vl, h1, h2, h3, h4, h5, h6, hF⟩ := h.rep
  exact (hF g).2 (.inl rfl)

set_option maxHeartbeats 400000 in
theorem CRep.say (h : CRep w g S F) (m p : Int) : Calls Tryz.prog 173 #[.pointer (some ⟨g, 0, none⟩), .int .i64 m, .int .i64 p] w (CPost (.int .i64 (Caps.sayE S m p)) g (Caps.sayS S m p) F w) := by
  have hh := h.has m 8
  have hok := Caps.say_ok h.ok m p
  by_cases hc : Caps.has S.pupil m 8 = true
  · rw [hc] at hh
    by_cases hp : p < 0 ∨ 100 < p
    · have e1 : Caps.sayE S m p = 19 := by simp [Caps.sayE, hc, hp]
      have e2 : Caps.sayS S m p = S := by unfold Caps.sayS; rw [if_neg (by omega)]
      rw [e1, e2]
      have H := Lib.hid h
      clear e1 e2 hok hc h
      go_enter Tryz.func173, Tryz.ntmps173
      go_wp2_with fail
      refine hh.mono ?_
      rintro e w' ⟨rfl, rfl⟩
      clear hh
      go_wp2
      all_goals first | (go_ret; exact ⟨rfl, F, H.out, Kept.refl _ _, fun k hk => .inl hk⟩) | (exfalso; omega)
    · have e1 : Caps.sayE S m p = 0 := by simp [Caps.sayE, hc, hp]
      have e2 : Caps.sayS S m p = { S with points := p, said := true } := by unfold Caps.sayS; rw [if_pos ⟨hc, by omega, by omega⟩]
      rw [e2] at hok
      rw [e1, e2]
      obtain ⟨o, l, vo, vl, h1, h2, h3, h4, h5, h6, hF⟩ := h.rep
      have c4 := h1.cell 4
      have c5 := h1.cell 5
      have f4 := h1.frozen 4
      have f5 := h1.frozen 5
      simp at c4 c5
      have H := Lib.hid h
      have q1 : 0 ≤ p := by omega
      have q2 : p ≤ 100 := by omega
      clear e1 e2 hc h hF h6 hp
      go_enter Tryz.func173, Tryz.ntmps173
      go_wp2_with fail
      refine hh.mono ?_
      rintro e w' ⟨rfl, rfl⟩
      clear hh
      go_wp2
      go_ret
      refine ⟨rfl, F, H.out.change hok rfl rfl rfl ?_ ?_, ?_, fun k hk => .inl hk⟩
      · refine Kept.setCell (Kept.setCell (Kept.refl _ _) ?_ _) ?_ _ <;> exact .inl rfl
      · intro o l hb
        exact ((hb.set_ 4 _).set_ 5 _)
      · refine Kept.setCell (Kept.setCell (Kept.refl _ _) ?_ _) ?_ _ <;> exact .inl H.out.gin
  · have hc' : Caps.has S.pupil m 8 = false := by simpa using hc
    rw [hc'] at hh
    have e1 : Caps.sayE S m p = 11 := by simp [Caps.sayE, hc']
    have e2 : Caps.sayS S m p = S := by simp [Caps.sayS, hc']
    rw [e1, e2]
    have H := Lib.hid h
    clear e1 e2 hc hc' h hok
    go_enter Tryz.func173, Tryz.ntmps173
    go_wp2_with fail
    refine hh.mono ?_
    rintro e w' ⟨rfl, rfl⟩
    clear hh
    go_wp2
    go_ret
    exact ⟨rfl, F, H.out, Kept.refl _ _, fun k hk => .inl hk⟩
end
end Go.Proofs.YtjhdpmimccpcdaaGreatDoor
/- The program's package caps: its table's Type, Emit, Key and Accept. Conditions: the table lies in memory as CRep says; a string that is handed in is no longer than a string may be. -/
namespace Go.Proofs.YtjhdpmimccpcdaaGreatDoor
set_option linter.unusedVariables false
set_option maxRecDepth 100000
open Go.RowKit Go.Lib

section
variable {w : World} {g : Nat} {S : Caps.Tab} {F : Nat → Prop}

theorem fit_list (r : Int) (was s : ByteArray) : (Caps.behind r was s).data.toList = was.data.toList ++ s.data.toList.take (Caps.fit r was s) := by
  unfold Caps.behind
  simp

/-- after a put into the table's output -/
theorem put_out (s : ByteArray) {w' : World} {o l m : Nat} {vo vl : Value} {e : Ending}
    (h1 : Blk w g 128 #[.int .i64 S.pupil, .string S.inp, .iface 161 (.pointer (some ⟨o, 0, none⟩)), .iface 164 (.pointer (some ⟨l, 0, none⟩)), .int .i64 S.points, .bool S.said])
    (h2 : Blk w o 163 #[vo, .int .i64 S.room]) (h3 : Blk w l 166 #[vl, .int .i64 S.room]) (h4 : Buf w 5 vo S.out.data.toList) (h5 : Buf w 5 vl S.log.data.toList)
    (h6 : ∀ k, vo.ownBlock = some k → vl.ownBlock = some k → False) (hF : ∀ k, F k ↔ (k = g ∨ k = o ∨ k = l ∨ vo.ownBlock = some k ∨ vl.ownBlock = some k))
    (hok : ({ S with out := Caps.behind S.room S.out s } : Caps.Tab).Ok)
    (hp : PutPost o 163 vo S.room S.out.data.toList s (Caps.fit S.room S.out s) m w e w') :
    e = .returned (.int .i64 m) ∧ ∃ F', CRep w' g { S with out := Caps.behind S.room S.out s } F' ∧ Kept F w w' ∧ ∀ k, F' k → F k ∨ w.heap.size ≤ k := by
  obtain ⟨v', he, b2, b4, hk, hv⟩ := hp
  have hgo : g ≠ o := Blk.ne_ h1 h2 (by decide)
  have hlo : l ≠ o := Blk.ne_ h3 h2 (by decide)
  refine ⟨he, fun k => k = g ∨ k = o ∨ k = l ∨ v'.ownBlock = some k ∨ vl.ownBlock = some k, ⟨hok, o, l, v', vl, ?_, b2, ?_, by rw [fit_list]; exact b4, ?_, ?_, fun k => Iff.rfl⟩, ?_, ?_⟩
  · exact h1.kept hk (by rintro (e | e); exact hgo e; exact h4.ne_blk h1 (by decide) e)
  · exact h3.kept hk (by rintro (e | e); exact hlo e; exact h4.ne_blk h3 (by decide) e)
  · exact h5.kept hk (by intro k hv; rintro (e | e); exact h5.ne_blk h2 (by decide) (by rw [hv, e]); exact h6 k e hv)
  · intro k a b
    rcases hv k a with c | c
    · exact h6 k c b
    · have := h5.lt b; omega
  · exact hk.mono (by intro k; rintro (e | e); exact (hF k).2 (.inr (.inl e)); exact (hF k).2 (.inr (.inr (.inr (.inl e)))))
  · intro k hk'
    rcases hk' with e | e | e | e | e
    · exact .inl ((hF k).2 (.inl e))
    · exact .inl ((hF k).2 (.inr (.inl e)))
    · exact .inl ((hF k).2 (.inr (.inr (.inl e))))
    · rcases hv k e with c | c
      · exact .inl ((hF k).2 (.inr (.inr (.inr (.inl c)))))
      · exact .inr c
    · exact .inl ((hF k).2 (.inr (.inr (.inr (.inr e)))))

theorem put_log (s : ByteArray) {w' : World} {o l m : Nat} {vo vl : Value} {e : Ending}
    (h1 : Blk w g 128 #[.int .i64 S.pupil, .string S.inp, .iface 161 (.pointer (some ⟨o, 0, none⟩)), .iface 164 (.pointer (some ⟨l, 0, none⟩)), .int .i64 S.points, .bool S.said])
    (h2 : Blk w o 163 #[vo, .int .i64 S.room]) (h3 : Blk w l 166 #[vl, .int .i64 S.room]) (h4 : Buf w 5 vo S.out.data.toList) (h5 : Buf w 5 vl S.log.data.toList)
    (h6 : ∀ k, vo.ownBlock = some k → vl.ownBlock = some k → False) (hF : ∀ k, F k ↔ (k = g ∨ k = o ∨ k = l ∨ vo.ownBlock = some k ∨ vl.ownBlock = some k))
    (hok : ({ S with log := Caps.behind S.room S.log s } : Caps.Tab).Ok)
    (hp : PutPost l 166 vl S.room S.log.data.toList s (Caps.fit S.room S.log s) m w e w') :
    e = .returned (.int .i64 m) ∧ ∃ F', CRep w' g { S with log := Caps.behind S.room S.log s } F' ∧ Kept F w w' ∧ ∀ k, F' k → F k ∨ w.heap.size ≤ k := by
  obtain ⟨v', he, b3, b5, hk, hv⟩ := hp
  have hgl : g ≠ l := Blk.ne_ h1 h3 (by decide)
  have hol : o ≠ l := Blk.ne_ h2 h3 (by decide)
  refine ⟨he, fun k => k = g ∨ k = o ∨ k = l ∨ vo.ownBlock = some k ∨ v'.ownBlock = some k, ⟨hok, o, l, vo, v', ?_, ?_, b3, ?_, by rw [fit_list]; exact b5, ?_, fun k => Iff.rfl⟩, ?_, ?_⟩
  · exact h1.kept hk (by rintro (e | e); exact hgl e; exact h5.ne_blk h1 (by decide) e)
  · exact h2.kept hk (by rintro (e | e); exact hol e; exact h5.ne_blk h2 (by decide) e)
  · exact h4.kept hk (by intro k hv; rintro (e | e); exact h4.ne_blk h3 (by decide) (by rw [hv, e]); exact h6 k hv e)
  · intro k a b
    rcases hv k b with c | c
    · exact h6 k a c
    · have := h4.lt a; omega
  · exact hk.mono (by intro k; rintro (e | e); exact (hF k).2 (.inr (.inr (.inl e))); exact (hF k).2 (.inr (.inr (.inr (.inr e)))))
  · intro k hk'
    rcases hk' with e | e | e | e | e
    · exact .inl ((hF k).2 (.inl e))
    · exact .inl ((hF k).2 (.inr (.inl e)))
    · exact .inl ((hF k).2 (.inr (.inr (.inl e))))
    · exact .inl ((hF k).2 (.inr (.inr (.inr (.inl e)))))
    · rcases hv k e with c | c
      · exact .inl ((hF k).2 (.inr (.inr (.inr (.inr c)))))
      · exact .inr c

set_option maxHeartbeats 1000000 in
theorem CRep.typ (h : CRep w g S F) (m : Int) (s : ByteArray) (hs : s.size ≤ maxLen) : Calls Tryz.prog 208 #[.pointer (some ⟨g, 0, none⟩), .int .i64 m, .string s] w (CPost (.int .i64 (Caps.typE S m s)) g (Caps.typS S m s) F w) := by
  have hh := h.has m 1
  have hok := Caps.typ_ok h.ok m s
  have hsl : s.size ≤ 9223372036854775807 := by unfold maxLen at hs; omega
  by_cases hc : Caps.has S.pupil m 1 = true
  · rw [hc] at hh
    obtain ⟨o, l, vo, vl, h1, h2, h3, h4, h5, h6, hF⟩ := h.rep
    have r1 := h.ok.r1
    have ro := h.ok.out
    have rl := h.ok.log
    have c2 := h1.cell 2
    have c3 := h1.cell 3
    simp at c2 c3
    by_cases hm : m = 1
    · subst hm
      have e2 : Caps.typS S 1 s = { S with out := Caps.behind S.room S.out s } := by simp [Caps.typS, hc]
      rw [e2] at hok ⊢
      have hmp := meth_bput ⟨o, 0, none⟩
      by_cases hf : (S.room - S.out.size : Int) < s.size
      · have e1 : Caps.typE S 1 s = 12 := by simp [Caps.typE, hc, hf]
        rw [e1]
        have hfit : min s.size (S.room.toNat - S.out.data.toList.length) = Caps.fit S.room S.out s := by rw [Caps.size_data]; rfl
        have hlt : Caps.fit S.room S.out s < s.size := by unfold Caps.fit; omega
        have hp0 := put_any o 163 vo S.room S.out.data.toList s w h2 h4 (by decide) ⟨by rw [Caps.size_data]; exact ro, r1⟩
        rw [hfit] at hp0
        have P0 := Lib.hid hp0
        have H := Lib.hid h
        have HH := Lib.hid hh
        clear hp0 e1 e2 hc hf hh h hfit
        go_enter Tryz.func208, Tryz.ntmps208
        go_wp2_with fail
        refine HH.out.mono ?_
        rintro e w' ⟨rfl, rfl⟩
        go_wp2_with fail
        refine P0.out.mono ?_
        rintro e w' hp
        obtain ⟨rfl, F', hr, hk, hF'⟩ := put_out s h1 h2 h3 h4 h5 h6 hF hok hp
        clear hp P0 h1 h2 h3 h4 h5 h6 hF
        have HF := Lib.hid hF'
        clear hF'
        go_wp2
        go_ret
        exact ⟨rfl, F', hr, hk, HF.out⟩
      · have e1 : Caps.typE S 1 s = 0 := by simp [Caps.typE, hc, hf]
        rw [e1]
        have hfit : min s.size (S.room.toNat - S.out.data.toList.length) = Caps.fit S.room S.out s := by rw [Caps.size_data]; rfl
        have hlt : s.size ≤ Caps.fit S.room S.out s := by unfold Caps.fit; omega
        have hp0 := put_any o 163 vo S.room S.out.data.toList s w h2 h4 (by decide) ⟨by rw [Caps.size_data]; exact ro, r1⟩
        rw [hfit] at hp0
        have P0 := Lib.hid hp0
        have H := Lib.hid h
        have HH := Lib.hid hh
        clear hp0 e1 e2 hc hf hh h hfit
        go_enter Tryz.func208, Tryz.ntmps208
        go_wp2_with fail
        refine HH.out.mono ?_
        rintro e w' ⟨rfl, rfl⟩
        go_wp2_with fail
        refine P0.out.mono ?_
        rintro e w' hp
        obtain ⟨rfl, F', hr, hk, hF'⟩ := put_out s h1 h2 h3 h4 h5 h6 hF hok hp
        clear hp P0 h1 h2 h3 h4 h5 h6 hF
        have HF := Lib.hid hF'
        clear hF'
        go_wp2
        go_ret
        exact ⟨rfl, F', hr, hk, HF.out⟩
    · have hm' : (m == 1) = false := by simpa using hm
      have e2 : Caps.typS S m s = { S with log := Caps.behind S.room S.log s } := by simp [Caps.typS, hc, hm]
      have e1 : Caps.typE S m s = 0 := by simp [Caps.typE, hc, hm]
      rw [e2] at hok ⊢
      rw [e1]
      have hmp := meth_lput ⟨l, 0, none⟩
      have hfit : min s.size (S.room.toNat - S.log.data.toList.length) = Caps.fit S.room S.log s := by rw [Caps.size_data]; rfl
      have hp0 := lossy_put l 166 vl S.room S.log.data.toList s w h3 h5 (by decide) ⟨by rw [Caps.size_data]; exact rl, r1⟩ hs
      rw [hfit] at hp0
      have P0 := Lib.hid hp0
      have H := Lib.hid h
      have HH := Lib.hid hh
      clear hp0 e1 e2 hc hh h hfit
      go_enter Tryz.func208, Tryz.ntmps208
      go_wp2_with fail
      refine HH.out.mono ?_
      rintro e w' ⟨rfl, rfl⟩
      go_wp2_with fail
      refine P0.out.mono ?_
      rintro e w' hp
      obtain ⟨rfl, F', hr, hk, hF'⟩ := put_log s h1 h2 h3 h4 h5 h6 hF hok hp
      clear hp P0 h1 h2 h3 h4 h5 h6 hF
      have HF := Lib.hid hF'
      clear hF'
      go_wp2
      go_ret
      exact ⟨rfl, F', hr, hk, HF.out⟩
  · have hc' : Caps.has S.pupil m 1 = false := by simpa using hc
    rw [hc'] at hh
    have e1 : Caps.typE S m s = 11 := by simp [Caps.typE, hc']
    have e2 : Caps.typS S m s = S := by simp [Caps.typS, hc']
    rw [e1, e2]
    have H := Lib.hid h
    have HH := Lib.hid hh
    clear e1 e2 hc hc' h hok hh
    go_enter Tryz.func208, Tryz.ntmps208
    go_wp2_with fail
    refine HH.out.mono ?_
    rintro e w' ⟨rfl, rfl⟩
    go_wp2
    go_ret
    exact ⟨rfl, F, H.out, Kept.refl _ _, fun k hk => .inl hk⟩
end
end Go.Proofs.YtjhdpmimccpcdaaGreatDoor
/- The program's package caps: its table's Emit, Key and Accept. Conditions: the table lies in memory as CRep says. -/
namespace Go.Proofs.YtjhdpmimccpcdaaGreatDoor
set_option linter.unusedVariables false
set_option maxRecDepth 100000
open Go.RowKit Go.Lib

section
variable {w : World} {g : Nat} {S : Caps.Tab} {F : Nat → Prop}

/-- one byte as a string -/
def byteStr (b : Int) : ByteArray := ⟨#[UInt8.ofNat b.toNat]⟩

set_option maxHeartbeats 400000 in
theorem CRep.key (h : CRep w g S F) (m : Int) : Calls Tryz.prog 165 #[.pointer (some ⟨g, 0, none⟩), .int .i64 m] w
    (CPost (.tuple #[.int .u8 (Caps.keyB S m), .int .i64 (Caps.keyE S m)]) g (Caps.keyS S m) F w) := by
  have hh := h.has m 2
  have hok := Caps.key_ok h.ok m
  by_cases hc : Caps.has S.pupil m 2 = true
  · rw [hc] at hh
    obtain ⟨o, l, vo, vl, h1, h2, h3, h4, h5, h6, hF⟩ := h.rep
    have c1 := h1.cell 1
    have f1 := h1.frozen 1
    simp at c1
    by_cases hz : S.inp.size = 0
    · have hd : S.inp.data.toList = [] := List.eq_nil_of_length_eq_zero (by rw [Caps.size_data]; exact hz)
      have e0 : Caps.keyB S m = 0 := by simp [Caps.keyB, hd]
      have e1 : Caps.keyE S m = 18 := by simp [Caps.keyE, hc, hz]
      have e2 : Caps.keyS S m = S := by
        unfold Caps.keyS; rw [if_pos hc]
        have : S.inp.extract 1 S.inp.size = S.inp := Caps.ext _ _ (by simp [hd])
        rw [this]
      rw [e0, e1, e2]
      have H := Lib.hid h
      have HH := Lib.hid hh
      have hs0 : S.inp.toList = [] := by rw [Lib.toList_data]; exact hd
      clear e0 e1 e2 hc hh h hok hF h6 hd hz
      go_enter Tryz.func165, Tryz.ntmps165
      go_wp2_with fail
      refine HH.out.mono ?_
      rintro e w' ⟨rfl, rfl⟩
      go_wp2
      go_ret2
      exact ⟨rfl, F, H.out, Kept.refl _ _, fun k hk => .inl hk⟩
    · obtain ⟨c, t, hd⟩ : ∃ c t, S.inp.data.toList = c :: t := by
        cases hh : S.inp.data.toList with
        | nil => exfalso; apply hz; rw [← Caps.size_data, hh]; rfl
        | cons c t => exact ⟨c, t, rfl⟩
      have e0 : Caps.keyB S m = c.toNat := by simp [Caps.keyB, hd, hc]
      have e1 : Caps.keyE S m = 0 := by simp [Caps.keyE, hc, hz]
      have e2 : Caps.keyS S m = { S with inp := S.inp.extract 1 S.inp.size } := by
        unfold Caps.keyS; rw [if_pos hc]
      rw [e2] at hok
      rw [e0, e1, e2]
      have H := Lib.hid h
      have HH := Lib.hid hh
      have hs0 : (S.inp.toList.isEmpty) = false := by rw [Lib.toList_data, hd]; rfl
      have hlt : 0 < S.inp.size := by omega
      have hc0 : S.inp[0] = c := by
        have : S.inp.data.toList[0]'(by rw [Caps.size_data]; exact hlt) = c := by simp [hd]
        show S.inp.data[0] = c
        simpa using this
      have hsz := h.ok.inp
      clear e0 e1 e2 hc hh h hF h6 hd hz
      go_enter Tryz.func165, Tryz.ntmps165
      go_wp2_with fail
      refine HH.out.mono ?_
      rintro e w' ⟨rfl, rfl⟩
      go_wp2
      go_ret2
      refine ⟨rfl, F, H.out.change hok rfl rfl rfl ?_ ?_, ?_, fun k hk => .inl hk⟩
      · refine Kept.setCell (Kept.refl _ _) ?_ _; exact .inl rfl
      · intro o l hb
        exact hb.set_ 1 _
      · refine Kept.setCell (Kept.refl _ _) ?_ _; exact .inl H.out.gin
  · have hc' : Caps.has S.pupil m 2 = false := by simpa using hc
    rw [hc'] at hh
    have e0 : Caps.keyB S m = 0 := by simp [Caps.keyB, hc']
    have e1 : Caps.keyE S m = 11 := by simp [Caps.keyE, hc']
    have e2 : Caps.keyS S m = S := by simp [Caps.keyS, hc']
    rw [e0, e1, e2]
    have H := Lib.hid h
    have HH := Lib.hid hh
    clear e0 e1 e2 hc hc' h hok hh
    go_enter Tryz.func165, Tryz.ntmps165
    go_wp2_with fail
    refine HH.out.mono ?_
    rintro e w' ⟨rfl, rfl⟩
    go_wp2
    go_ret2
    exact ⟨rfl, F, H.out, Kept.refl _ _, fun k hk => .inl hk⟩

theorem nl_index : ∀ (l : List UInt8), Lib.indexByte l 10 = if Caps.nl l l.length < l.length then (Caps.nl l l.length : Int) else -1
  | [] => by simp [Lib.indexByte, Caps.nl]
  | c :: l => by
    have ih := nl_index l
    have hle := Caps.nl_le l l.length
    simp only [Lib.indexByte, Caps.nl, List.length_cons, beq_iff_eq]
    by_cases hc : c = 10
    · simp [hc]
    · rw [if_neg hc, if_neg hc, ih]
      by_cases h : Caps.nl l l.length < l.length
      · have h2 : Caps.nl l l.length + 1 < l.length + 1 := by omega
        have h3 : ¬ ((Caps.nl l l.length : Int) = -1) := by omega
        simp only [if_pos h, if_pos h2, if_neg h3]
        omega
      · have h2 : ¬ (Caps.nl l l.length + 1 < l.length + 1) := by omega
        simp only [if_neg h, if_neg h2]
        simp
theorem nl_take : ∀ (l : List UInt8) (n : Nat), Caps.nl (l.take n) (l.take n).length = Caps.nl l n
  | [], n => by simp [Caps.nl]
  | c :: l, 0 => by simp [Caps.nl]
  | c :: l, n + 1 => by
    have ih := nl_take l n
    simp only [List.take_succ_cons, List.length_cons, Caps.nl]
    rw [ih]

def accV (S : Caps.Tab) (m n : Int) : Value := .tuple #[.string (Caps.accB S m n), .int .i64 (Caps.accE S m n)]

set_option maxHeartbeats 1000000 in
theorem CRep.accept (h : CRep w g S F) (m n : Int) : Calls Tryz.prog 209 #[.pointer (some ⟨g, 0, none⟩), .int .i64 m, .int .i64 n] w
    (CPost (accV S m n) g (Caps.accS S m n) F w) := by
  have hh := h.has m 2
  have hok := Caps.acc_ok h.ok m n
  by_cases hc : Caps.has S.pupil m 2 = true
  · rw [hc] at hh
    obtain ⟨o, l, vo, vl, h1, h2, h3, h4, h5, h6, hF⟩ := h.rep
    have c1 := h1.cell 1
    have f1 := h1.frozen 1
    simp at c1
    have hsz := h.ok.inp
    by_cases hn0 : n < 0
    · have e1 : accV S m n = .tuple #[.string ⟨#[]⟩, .int .i64 19] := by
        have : ¬ 0 < n := by omega
        simp [accV, Caps.accB, Caps.accE, hc, hn0, this]
      have e2 : Caps.accS S m n = S := by unfold Caps.accS; rw [if_neg (by omega)]
      rw [e1, e2]
      have H := Lib.hid h
      have HH := Lib.hid hh
      clear e1 e2 hc hh h hok hF h6
      go_enter Tryz.func209, Tryz.ntmps209
      go_wp2_with fail
      refine HH.out.mono ?_
      rintro e w' ⟨rfl, rfl⟩
      go_wp2
      go_ret2
      exact ⟨rfl, F, H.out, Kept.refl _ _, fun k hk => .inl hk⟩
    by_cases hn1 : n = 0
    · subst hn1
      have e1 : accV S m 0 = .tuple #[.string ⟨#[]⟩, .int .i64 0] := by simp [accV, Caps.accB, Caps.accE, hc]
      have e2 : Caps.accS S m 0 = S := by unfold Caps.accS; rw [if_neg (by omega)]
      rw [e1, e2]
      have H := Lib.hid h
      have HH := Lib.hid hh
      clear e1 e2 hc hh h hok hF h6
      go_enter Tryz.func209, Tryz.ntmps209
      go_wp2_with fail
      refine HH.out.mono ?_
      rintro e w' ⟨rfl, rfl⟩
      go_wp2
      go_ret2
      exact ⟨rfl, F, H.out, Kept.refl _ _, fun k hk => .inl hk⟩
    have hnp : 0 < n := by omega
    have hn1' : (n == 0) = false := by simpa using hn1
    by_cases hz : S.inp.size = 0
    · have hd : S.inp.data.toList = [] := List.eq_nil_of_length_eq_zero (by rw [Caps.size_data]; exact hz)
      have e1 : accV S m n = .tuple #[.string ⟨#[]⟩, .int .i64 18] := by
        have : S.inp.extract 0 (Caps.cut S.inp n) = ⟨#[]⟩ := Caps.ext _ _ (by simp [hd])
        simp [accV, Caps.accB, Caps.accE, hc, hn0, hnp, hz, hn1, this]
      have e2 : Caps.accS S m n = S := by
        unfold Caps.accS; rw [if_pos ⟨hc, hnp⟩]
        have : S.inp.extract (Caps.taken S.inp n) S.inp.size = S.inp := Caps.ext _ _ (by simp [hd])
        rw [this]
      rw [e1, e2]
      have H := Lib.hid h
      have HH := Lib.hid hh
      have hs0 : S.inp.toList = [] := by rw [Lib.toList_data]; exact hd
      clear e1 e2 hc hh h hok hF h6 hd hz
      go_enter Tryz.func209, Tryz.ntmps209
      go_wp2_with fail
      refine HH.out.mono ?_
      rintro e w' ⟨rfl, rfl⟩
      go_wp2
      go_ret2
      exact ⟨rfl, F, H.out, Kept.refl _ _, fun k hk => .inl hk⟩
    · have hs0 : (S.inp.toList.isEmpty) = false := by
        rw [Lib.toList_data]
        cases hd : S.inp.data.toList with
        | nil => exfalso; apply hz; rw [← Caps.size_data, hd]; rfl
        | cons c t => rfl
      obtain ⟨q, hq⟩ : ∃ q : Nat, min n (S.inp.size : Int) = q := ⟨(min n (S.inp.size : Int)).toNat, by omega⟩
      have hqs : q ≤ S.inp.size := by omega
      have hix : Lib.indexByte (S.inp.extract 0 q).data.toList 10 = if Caps.cut S.inp n < q then (Caps.cut S.inp n : Int) else -1 := by
        have e : (S.inp.extract 0 q).data.toList = S.inp.data.toList.take q := by simp
        rw [e, nl_index, nl_take]
        have hcut : Caps.nl S.inp.data.toList q = Caps.cut S.inp n := by
          unfold Caps.cut
          rw [← nl_take S.inp.data.toList n.toNat, ← nl_take S.inp.data.toList q]
          have : S.inp.data.toList.take q = S.inp.data.toList.take n.toNat := by
            rcases Nat.le_total n.toNat S.inp.size with h | h
            · rw [show q = n.toNat by omega]
            · rw [show q = S.inp.size by omega, List.take_of_length_le (by rw [Caps.size_data]; omega), List.take_of_length_le (by rw [Caps.size_data]; omega)]
          rw [this]
        rw [hcut]
        have : (S.inp.data.toList.take q).length = q := by rw [List.length_take, Caps.size_data]; omega
        rw [this]
      have e1 : accV S m n = .tuple #[.string (S.inp.extract 0 (Caps.cut S.inp n)), .int .i64 0] := by
        simp [accV, Caps.accB, Caps.accE, hc, hn0, hnp, hz, hn1]
      have e2 : Caps.accS S m n = { S with inp := S.inp.extract (Caps.taken S.inp n) S.inp.size } := by
        unfold Caps.accS; rw [if_pos ⟨hc, hnp⟩]
      rw [e2] at hok
      rw [e1, e2]
      have H := Lib.hid h
      have HH := Lib.hid hh
      have hcl := Caps.cut_le S.inp n
      by_cases hk : Caps.cut S.inp n < q
      · rw [if_pos hk] at hix
        have h0 : Caps.cut S.inp n < min n.toNat S.inp.size := by omega
        have et : Caps.taken S.inp n = Caps.cut S.inp n + 1 := by unfold Caps.taken; rw [if_pos h0]
        clear h0
        rw [et] at hok ⊢
        have HIX := Lib.hid hix
        clear e1 e2 hcl et
        generalize Caps.cut S.inp n = k at *
        have hxx : (S.inp.extract 0 q).extract 0 k = S.inp.extract 0 k := Caps.ext _ _ (by rw [Lib.extract_data, Lib.extract_data, Lib.extract_data]; simp only [List.drop_zero, Nat.sub_zero, List.take_take]; rw [Nat.min_eq_left (Nat.le_of_lt hk)])
        have q1 : 0 ≤ n := by omega
        have q2 : k + 1 ≤ S.inp.size := by omega
        have q3 : k ≤ (S.inp.extract 0 q).size := by simp; omega
        clear hc hh h hF h6 hix hn0 hn1 hz
        go_enter Tryz.func209, Tryz.ntmps209
        go_wp2_with fail
        refine HH.out.mono ?_
        rintro e w' ⟨rfl, rfl⟩
        go_wp2_with fail
        refine (Tryz.strings_IndexByte _ 10 _).mono ?_
        rintro e w' ⟨rfl, rfl⟩
        rw [show (10 : Int).toNat.toUInt8 = 10 from rfl, HIX.out]
        go_wp2
        go_ret2
        refine ⟨rfl, F, H.out.change hok rfl rfl rfl ?_ ?_, ?_, fun k hk => .inl hk⟩
        · refine Kept.setCell (Kept.refl _ _) ?_ _; exact .inl rfl
        · intro o l hb
          exact hb.set_ 1 _
        · refine Kept.setCell (Kept.refl _ _) ?_ _; exact .inl H.out.gin
      · rw [if_neg hk] at hix
        have h0 : ¬ Caps.cut S.inp n < min n.toNat S.inp.size := by omega
        have et : Caps.taken S.inp n = Caps.cut S.inp n := by unfold Caps.taken; rw [if_neg h0]
        clear h0
        have ek : Caps.cut S.inp n = q := by omega
        rw [et, ek] at hok ⊢
        have HIX := Lib.hid hix
        have q1 : 0 ≤ n := by omega
        clear e1 e2 hc hh h hF h6 hcl hix et ek hn0 hn1 hz hk
        go_enter Tryz.func209, Tryz.ntmps209
        go_wp2_with fail
        refine HH.out.mono ?_
        rintro e w' ⟨rfl, rfl⟩
        go_wp2_with fail
        refine (Tryz.strings_IndexByte _ 10 _).mono ?_
        rintro e w' ⟨rfl, rfl⟩
        rw [show (10 : Int).toNat.toUInt8 = 10 from rfl, HIX.out]
        go_wp2
        go_ret2
        refine ⟨rfl, F, H.out.change hok rfl rfl rfl ?_ ?_, ?_, fun k hk => .inl hk⟩
        · refine Kept.setCell (Kept.refl _ _) ?_ _; exact .inl rfl
        · intro o l hb
          exact hb.set_ 1 _
        · refine Kept.setCell (Kept.refl _ _) ?_ _; exact .inl H.out.gin
  · have hc' : Caps.has S.pupil m 2 = false := by simpa using hc
    rw [hc'] at hh
    have e1 : accV S m n = .tuple #[.string ⟨#[]⟩, .int .i64 11] := by simp [accV, Caps.accB, Caps.accE, hc']
    have e2 : Caps.accS S m n = S := by simp [Caps.accS, hc']
    rw [e1, e2]
    have H := Lib.hid h
    have HH := Lib.hid hh
    clear e1 e2 hc hc' h hok hh
    go_enter Tryz.func209, Tryz.ntmps209
    go_wp2_with fail
    refine HH.out.mono ?_
    rintro e w' ⟨rfl, rfl⟩
    go_wp2
    go_ret2
    exact ⟨rfl, F, H.out, Kept.refl _ _, fun k hk => .inl hk⟩
end
end Go.Proofs.YtjhdpmimccpcdaaGreatDoor
/- The reference's package proctorref9: what each of its functions does to a table that lies in memory. Conditions: the table's numbers are in their bounds (Tab.Ok). -/
namespace Go.Proofs.YtjhdpmimccpcdaaGreatDoor
set_option linter.unusedVariables false
open Go.RowKit Go.Lib

def rcells (S : Caps.Tab) : Array Value := #[.int .i64 S.pupil, .int .i64 S.room, .string S.inp, .string S.out, .string S.log, .int .i64 S.points, .bool S.said]
structure RRep (w : World) (g : Nat) (S : Caps.Tab) : Prop where
  ok : S.Ok
  blk : Blk w g 202 (rcells S)

theorem RRep.kept {w w' : World} {g : Nat} {S : Caps.Tab} {T : Nat → Prop} (h : RRep w g S) (hk : Kept T w w') (hT : ¬ T g) : RRep w' g S := ⟨h.ok, h.blk.kept hk hT⟩
theorem RRep.lt {w : World} {g : Nat} {S : Caps.Tab} (h : RRep w g S) : g < w.heap.size := h.blk.lt

def RPost (v : Value) (g : Nat) (S' : Caps.Tab) (w : World) (e : Ending) (w' : World) : Prop :=
  e = .returned v ∧ RRep w' g S' ∧ Kept (fun k => k = g) w w'

/-- the seven cells, each as the walk wants it -/
theorem RRep.cells {w : World} {g : Nat} {S : Caps.Tab} (h : RRep w g S) :
    w.cell? ⟨g, 0, none⟩ = some (.int .i64 S.pupil) ∧ w.cell? ⟨g, 1, none⟩ = some (.int .i64 S.room) ∧ w.cell? ⟨g, 2, none⟩ = some (.string S.inp) ∧ w.cell? ⟨g, 3, none⟩ = some (.string S.out) ∧
      w.cell? ⟨g, 4, none⟩ = some (.string S.log) ∧ w.cell? ⟨g, 5, none⟩ = some (.int .i64 S.points) ∧ w.cell? ⟨g, 6, none⟩ = some (.bool S.said) :=
  ⟨h.blk.cell 0, h.blk.cell 1, h.blk.cell 2, h.blk.cell 3, h.blk.cell 4, h.blk.cell 5, h.blk.cell 6⟩
theorem RRep.frozen {w : World} {g : Nat} {S : Caps.Tab} (h : RRep w g S) (i : Nat) : w.frozen? ⟨g, i, none⟩ = false := h.blk.frozen i

def RNewPost (p r : Int) (s : ByteArray) (w : World) (e : Ending) (w' : World) : Prop :=
  if Caps.newErr p r s = 0 then e = .returned (.tuple #[.pointer (some ⟨w.heap.size, 0, none⟩), .int .i64 0]) ∧ RRep w' w.heap.size (Caps.made p r s) ∧ Kept Nob w w'
  else e = .returned (.tuple #[.pointer none, .int .i64 (Caps.newErr p r s)]) ∧ w' = w

set_option maxHeartbeats 400000 in
theorem ref_new (p r : Int) (s : ByteArray) (w : World) : Calls Tryz.prog 69 #[.int .i64 p, .int .i64 r, .string s] w (RNewPost p r s w) := by
  by_cases hbad : p < 0 ∨ 31 < p ∨ r < 0 ∨ 65536 < r
  · have e1 : Caps.newErr p r s = 1 := by unfold Caps.newErr; rw [if_pos hbad]
    have fin : RNewPost p r s w (.returned (.tuple #[.pointer none, .int .i64 1])) w := by
      unfold RNewPost; rw [e1]; simp
    have Fin := Lib.hid fin
    clear fin
    clear e1
    go_enter Tryz.func69, Tryz.ntmps69
    go_wp2
    all_goals first | (go_ret2; exact Fin.out) | (exfalso; omega)
  · by_cases hl : 4096 < s.size
    · have e1 : Caps.newErr p r s = 2 := by unfold Caps.newErr; rw [if_neg hbad, if_pos hl]
      have fin : RNewPost p r s w (.returned (.tuple #[.pointer none, .int .i64 2])) w := by
        unfold RNewPost; rw [e1]; simp
      have Fin := Lib.hid fin
      clear fin e1
      have q1 : 0 ≤ p := by omega
      have q2 : p ≤ 31 := by omega
      have q3 : 0 ≤ r := by omega
      have q4 : r ≤ 65536 := by omega
      clear hbad
      go_enter Tryz.func69, Tryz.ntmps69
      go_wp2
      all_goals first | (go_ret2; exact Fin.out) | (exfalso; omega)
    · have e1 : Caps.newErr p r s = 0 := by unfold Caps.newErr; rw [if_neg hbad, if_neg hl]
      have hok := Caps.made_ok e1
      have E1 := Lib.hid e1
      clear e1
      have q1 : 0 ≤ p := by omega
      have q2 : p ≤ 31 := by omega
      have q3 : 0 ≤ r := by omega
      have q4 : r ≤ 65536 := by omega
      have q5 : s.size ≤ 4096 := by omega
      clear hbad hl
      go_enter Tryz.func69, Tryz.ntmps69
      go_wp2
      go_ret2
      unfold RNewPost
      rw [if_pos E1.out]
      exact ⟨rfl, ⟨hok, Blk.new' rfl⟩, (Kept.refl _ w).alloc _⟩

set_option maxHeartbeats 1000000 in
theorem refHas_no (g : Nat) (p m c : Int) (w : World) (hc : ¬ (c = 1 ∨ c = 2 ∨ c = 4 ∨ c = 8 ∨ c = 16)) :
    Calls Tryz.prog 230 #[.pointer (some ⟨g, 0, none⟩), .int .i64 m, .int .i64 c] w (Same (.bool (Caps.has p m c)) w) := by
  have e : Caps.has p m c = false := by simp [Caps.has, Caps.isCap]; omega
  rw [e]
  have a1 : (c == 1) = false := by simp; omega
  have a2 : (c == 2) = false := by simp; omega
  have a4 : (c == 4) = false := by simp; omega
  have a8 : (c == 8) = false := by simp; omega
  have a16 : (c == 16) = false := by simp; omega
  have b1 : (c != 1) = true := by simp; omega
  have b2 : (c != 2) = true := by simp; omega
  have b4 : (c != 4) = true := by simp; omega
  have b8 : (c != 8) = true := by simp; omega
  have b16 : (c != 16) = true := by simp; omega
  go_enter Tryz.func230, Tryz.ntmps230
  go_wp2
  go_ret
  exact ⟨rfl, rfl⟩

set_option maxHeartbeats 1000000 in
theorem refHas_yes (g : Nat) (p m c : Int) (w : World) (hc : c = 1 ∨ c = 2 ∨ c = 4 ∨ c = 8 ∨ c = 16) (hp : 0 ≤ p ∧ p ≤ 31) (hw : w.cell? ⟨g, 0, none⟩ = some (.int .i64 p)) :
    Calls Tryz.prog 230 #[.pointer (some ⟨g, 0, none⟩), .int .i64 m, .int .i64 c] w (Same (.bool (Caps.has p m c)) w) := by
  by_cases m1 : m = 1
  · subst m1
    have e : Caps.has p 1 c = (p / c % 2 == 1) := by simp [Caps.has, Caps.isCap]; omega
    rw [e]
    clear e
    rcases hc with rfl | rfl | rfl | rfl | rfl
    all_goals
      go_enter Tryz.func230, Tryz.ntmps230
      go_wp2
      go_ret
      exact ⟨by simp, rfl⟩
  · have e : Caps.has p m c = (m == 0 || m == 2) := by
      have : (m == 1) = false := by simpa using m1
      simp [Caps.has, Caps.isCap, this]; omega
    rw [e]
    clear e
    have m1' : (m == 1) = false := by simpa using m1
    by_cases m0 : m = 0
    · subst m0
      rcases hc with rfl | rfl | rfl | rfl | rfl
      all_goals
        go_enter Tryz.func230, Tryz.ntmps230
        go_wp2
        go_ret
        exact ⟨rfl, rfl⟩
    · have m0' : (m == 0) = false := by simpa using m0
      by_cases m2 : m = 2
      · subst m2
        rcases hc with rfl | rfl | rfl | rfl | rfl
        all_goals
          go_enter Tryz.func230, Tryz.ntmps230
          go_wp2
          go_ret
          exact ⟨rfl, rfl⟩
      · have m2' : (m == 2) = false := by simpa using m2
        rcases hc with rfl | rfl | rfl | rfl | rfl
        all_goals
          go_enter Tryz.func230, Tryz.ntmps230
          go_wp2
          go_ret
          exact ⟨by rw [m0', m2']; rfl, rfl⟩

section
variable {w : World} {g : Nat} {S : Caps.Tab}
theorem RRep.has (h : RRep w g S) (m c : Int) :
    Calls Tryz.prog 230 #[.pointer (some ⟨g, 0, none⟩), .int .i64 m, .int .i64 c] w (Same (.bool (Caps.has S.pupil m c)) w) := by
  by_cases hc : c = 1 ∨ c = 2 ∨ c = 4 ∨ c = 8 ∨ c = 16
  · exact refHas_yes g S.pupil m c w hc ⟨h.ok.p0, h.ok.p1⟩ h.cells.1
  · exact refHas_no g S.pupil m c w hc

set_option maxHeartbeats 400000 in
theorem RRep.behind (h : RRep w g S) (was s : ByteArray) (hw : (was.size : Int) ≤ S.room) (hs : s.size ≤ maxLen) :
    Calls Tryz.prog 358 #[.pointer (some ⟨g, 0, none⟩), .string was, .string s] w (Same (.string (Caps.behind S.room was s)) w) := by
  obtain ⟨-, c1, -⟩ := h.cells
  have r1 := h.ok.r1
  unfold maxLen at hs
  obtain ⟨n, hrn⟩ : ∃ n : Nat, S.room - (was.size : Int) = n := ⟨(S.room - was.size).toNat, by omega⟩
  have efit : Caps.fit S.room was s = min s.size n := by unfold Caps.fit; congr 1; omega
  unfold Caps.behind
  rw [efit]
  clear efit
  by_cases hn : s.size < n
  · rw [Nat.min_eq_left (by omega)]
    go_enter Tryz.func358, Tryz.ntmps358
    go_wp2
    go_ret
    exact ⟨by simp, rfl⟩
  · rw [Nat.min_eq_right (by omega)]
    have hle : n ≤ s.size := by omega
    go_enter Tryz.func358, Tryz.ntmps358
    go_wp2
    go_ret
    exact ⟨rfl, rfl⟩

set_option maxHeartbeats 400000 in
theorem RRep.say (h : RRep w g S) (m p : Int) : Calls Tryz.prog 292 #[.pointer (some ⟨g, 0, none⟩), .int .i64 m, .int .i64 p] w (RPost (.int .i64 (Caps.sayE S m p)) g (Caps.sayS S m p) w) := by
  have hh := h.has m 8
  have hok := Caps.say_ok h.ok m p
  by_cases hc : Caps.has S.pupil m 8 = true
  · rw [hc] at hh
    by_cases hp : p < 0 ∨ 100 < p
    · have e1 : Caps.sayE S m p = 19 := by simp [Caps.sayE, hc, hp]
      have e2 : Caps.sayS S m p = S := by unfold Caps.sayS; rw [if_neg (by omega)]
      rw [e1, e2]
      have H := Lib.hid h
      clear e1 e2 hok hc h
      go_enter Tryz.func292, Tryz.ntmps292
      go_wp2_with fail
      refine hh.mono ?_
      rintro e w' ⟨rfl, rfl⟩
      clear hh
      go_wp2
      all_goals first | (go_ret; exact ⟨rfl, H.out, Kept.refl _ _⟩) | (exfalso; omega)
    · have e1 : Caps.sayE S m p = 0 := by simp [Caps.sayE, hc, hp]
      have e2 : Caps.sayS S m p = { S with points := p, said := true } := by unfold Caps.sayS; rw [if_pos ⟨hc, by omega, by omega⟩]
      rw [e2] at hok
      rw [e1, e2]
      obtain ⟨-, -, -, -, -, c5, c6⟩ := h.cells
      have f5 := h.frozen 5
      have f6 := h.frozen 6
      have H := Lib.hid h
      have q1 : 0 ≤ p := by omega
      have q2 : p ≤ 100 := by omega
      clear e1 e2 hc h hp
      go_enter Tryz.func292, Tryz.ntmps292
      go_wp2_with fail
      refine hh.mono ?_
      rintro e w' ⟨rfl, rfl⟩
      clear hh
      go_wp2
      go_ret
      refine ⟨rfl, ⟨hok, (H.out.blk.set_ 5 _).set_ 6 _⟩, ?_⟩
      refine Kept.setCell (Kept.setCell (Kept.refl _ _) ?_ _) ?_ _ <;> exact .inl rfl
  · have hc' : Caps.has S.pupil m 8 = false := by simpa using hc
    rw [hc'] at hh
    have e1 : Caps.sayE S m p = 11 := by simp [Caps.sayE, hc']
    have e2 : Caps.sayS S m p = S := by simp [Caps.sayS, hc']
    rw [e1, e2]
    have H := Lib.hid h
    clear e1 e2 hc hc' h hok
    go_enter Tryz.func292, Tryz.ntmps292
    go_wp2_with fail
    refine hh.mono ?_
    rintro e w' ⟨rfl, rfl⟩
    clear hh
    go_wp2
    go_ret
    exact ⟨rfl, H.out, Kept.refl _ _⟩

set_option maxHeartbeats 400000 in
theorem RRep.key (h : RRep w g S) (m : Int) : Calls Tryz.prog 287 #[.pointer (some ⟨g, 0, none⟩), .int .i64 m] w
    (RPost (.tuple #[.int .u8 (Caps.keyB S m), .int .i64 (Caps.keyE S m)]) g (Caps.keyS S m) w) := by
  have hh := h.has m 2
  have hok := Caps.key_ok h.ok m
  by_cases hc : Caps.has S.pupil m 2 = true
  · rw [hc] at hh
    obtain ⟨-, -, c2, -⟩ := h.cells
    have f2 := h.frozen 2
    by_cases hz : S.inp.size = 0
    · have hd : S.inp.data.toList = [] := List.eq_nil_of_length_eq_zero (by rw [Caps.size_data]; exact hz)
      have e0 : Caps.keyB S m = 0 := by simp [Caps.keyB, hd]
      have e1 : Caps.keyE S m = 18 := by simp [Caps.keyE, hc, hz]
      have e2 : Caps.keyS S m = S := by
        unfold Caps.keyS; rw [if_pos hc]
        have : S.inp.extract 1 S.inp.size = S.inp := Caps.ext _ _ (by simp [hd])
        rw [this]
      rw [e0, e1, e2]
      have H := Lib.hid h
      have HH := Lib.hid hh
      have hs0 : S.inp.toList = [] := by rw [Lib.toList_data]; exact hd
      clear e0 e1 e2 hc hh h hok hd hz
      go_enter Tryz.func287, Tryz.ntmps287
      go_wp2_with fail
      refine HH.out.mono ?_
      rintro e w' ⟨rfl, rfl⟩
      go_wp2
      go_ret2
      exact ⟨rfl, H.out, Kept.refl _ _⟩
    · obtain ⟨c, t, hd⟩ : ∃ c t, S.inp.data.toList = c :: t := by
        cases hh : S.inp.data.toList with
        | nil => exfalso; apply hz; rw [← Caps.size_data, hh]; rfl
        | cons c t => exact ⟨c, t, rfl⟩
      have e0 : Caps.keyB S m = c.toNat := by simp [Caps.keyB, hd, hc]
      have e1 : Caps.keyE S m = 0 := by simp [Caps.keyE, hc, hz]
      have e2 : Caps.keyS S m = { S with inp := S.inp.extract 1 S.inp.size } := by
        unfold Caps.keyS; rw [if_pos hc]
      rw [e2] at hok
      rw [e0, e1, e2]
      have H := Lib.hid h
      have HH := Lib.hid hh
      have hs0 : (S.inp.toList.isEmpty) = false := by rw [Lib.toList_data, hd]; rfl
      have hlt : 0 < S.inp.size := by omega
      have hc0 : S.inp[0] = c := by
        have : S.inp.data.toList[0]'(by rw [Caps.size_data]; exact hlt) = c := by simp [hd]
        show S.inp.data[0] = c
        simpa using this
      have hsz := h.ok.inp
      clear e0 e1 e2 hc hh h hd hz
      go_enter Tryz.func287, Tryz.ntmps287
      go_wp2_with fail
      refine HH.out.mono ?_
      rintro e w' ⟨rfl, rfl⟩
      go_wp2
      go_ret2
      refine ⟨rfl, ⟨hok, H.out.blk.set_ 2 _⟩, ?_⟩
      refine Kept.setCell (Kept.refl _ _) ?_ _; exact .inl rfl
  · have hc' : Caps.has S.pupil m 2 = false := by simpa using hc
    rw [hc'] at hh
    have e0 : Caps.keyB S m = 0 := by simp [Caps.keyB, hc']
    have e1 : Caps.keyE S m = 11 := by simp [Caps.keyE, hc']
    have e2 : Caps.keyS S m = S := by simp [Caps.keyS, hc']
    rw [e0, e1, e2]
    have H := Lib.hid h
    have HH := Lib.hid hh
    clear e0 e1 e2 hc hc' h hok hh
    go_enter Tryz.func287, Tryz.ntmps287
    go_wp2_with fail
    refine HH.out.mono ?_
    rintro e w' ⟨rfl, rfl⟩
    go_wp2
    go_ret2
    exact ⟨rfl, H.out, Kept.refl _ _⟩
end
end Go.Proofs.YtjhdpmimccpcdaaGreatDoor
/- The reference's package proctorref9: its table's Type and Accept. Conditions: the table lies in memory as RRep says; a string that is handed in is no longer than a string may be. -/
namespace Go.Proofs.YtjhdpmimccpcdaaGreatDoor
set_option linter.unusedVariables false
open Go.RowKit Go.Lib

section
variable {w : World} {g : Nat} {S : Caps.Tab}
set_option maxHeartbeats 1000000 in
theorem RRep.typ (h : RRep w g S) (m : Int) (s : ByteArray) (hs : s.size ≤ maxLen) : Calls Tryz.prog 323 #[.pointer (some ⟨g, 0, none⟩), .int .i64 m, .string s] w (RPost (.int .i64 (Caps.typE S m s)) g (Caps.typS S m s) w) := by
  have hh := h.has m 1
  have hok := Caps.typ_ok h.ok m s
  have hsl : s.size ≤ 9223372036854775807 := by unfold maxLen at hs; omega
  by_cases hc : Caps.has S.pupil m 1 = true
  · rw [hc] at hh
    obtain ⟨-, c1, -, c3, c4, -⟩ := h.cells
    have f3 := h.frozen 3
    have f4 := h.frozen 4
    have r0 := h.ok.r0
    have r1 := h.ok.r1
    have ro := h.ok.out
    by_cases hm : m = 1
    · subst hm
      have e2 : Caps.typS S 1 s = { S with out := Caps.behind S.room S.out s } := by simp [Caps.typS, hc]
      rw [e2] at hok ⊢
      have hb := h.behind S.out s h.ok.out hs
      have HB := Lib.hid (fun q : Nat => (show RRep (w.drewN q) g S from h.kept (T := Nob) ((Kept.refl _ w).drewN q) (fun h => h)).behind S.out s h.ok.out hs)
      by_cases hf : (S.room - S.out.size : Int) < s.size
      · have hdd : decide ((s.size : Int) ≤ S.room - (S.out.size : Int)) = false := by simp; omega
        have e1 : Caps.typE S 1 s = 12 := by simp [Caps.typE, hc, hf]
        rw [e1]
        have H := Lib.hid h
        have HH := Lib.hid hh
        clear hb e1 e2 hc hh h
        go_enter Tryz.func323, Tryz.ntmps323
        go_wp2_with fail
        refine HH.out.mono ?_
        rintro e w' ⟨rfl, rfl⟩
        go_wp2_with fail
        go_quiet (fail)
        go_wp2_with fail
        refine (HB.out _).mono ?_
        rintro e w' ⟨rfl, rfl⟩
        go_wp2
        go_ret
        refine ⟨rfl, ⟨hok, (H.out.blk.drewN _).set_ 3 _⟩, ?_⟩
        refine Kept.setCell ((Kept.refl _ _).drewN _) ?_ _; exact .inl rfl
      · have hdd : decide ((s.size : Int) ≤ S.room - (S.out.size : Int)) = true := by simp; omega
        have e1 : Caps.typE S 1 s = 0 := by simp [Caps.typE, hc, hf]
        rw [e1]
        have H := Lib.hid h
        have HH := Lib.hid hh
        clear hb e1 e2 hc hh h
        go_enter Tryz.func323, Tryz.ntmps323
        go_wp2_with fail
        refine HH.out.mono ?_
        rintro e w' ⟨rfl, rfl⟩
        go_wp2_with fail
        go_quiet (fail)
        go_wp2_with fail
        refine (HB.out _).mono ?_
        rintro e w' ⟨rfl, rfl⟩
        go_wp2
        go_ret
        refine ⟨rfl, ⟨hok, (H.out.blk.drewN _).set_ 3 _⟩, ?_⟩
        refine Kept.setCell ((Kept.refl _ _).drewN _) ?_ _; exact .inl rfl
    · have hm' : (m == 1) = false := by simpa using hm
      have hm2 : (m != 1) = true := by simpa using hm
      have e2 : Caps.typS S m s = { S with log := Caps.behind S.room S.log s } := by simp [Caps.typS, hc, hm]
      have e1 : Caps.typE S m s = 0 := by simp [Caps.typE, hc, hm]
      rw [e2] at hok ⊢
      rw [e1]
      have HB := Lib.hid (h.behind S.log s h.ok.log hs)
      have H := Lib.hid h
      have HH := Lib.hid hh
      clear e1 e2 hc hh h
      go_enter Tryz.func323, Tryz.ntmps323
      go_wp2_with fail
      refine HH.out.mono ?_
      rintro e w' ⟨rfl, rfl⟩
      go_wp2_with fail
      refine HB.out.mono ?_
      rintro e w' ⟨rfl, rfl⟩
      go_wp2
      go_ret
      refine ⟨rfl, ⟨hok, H.out.blk.set_ 4 _⟩, ?_⟩
      refine Kept.setCell (Kept.refl _ _) ?_ _; exact .inl rfl
  · have hc' : Caps.has S.pupil m 1 = false := by simpa using hc
    rw [hc'] at hh
    have e1 : Caps.typE S m s = 11 := by simp [Caps.typE, hc']
    have e2 : Caps.typS S m s = S := by simp [Caps.typS, hc']
    rw [e1, e2]
    have H := Lib.hid h
    have HH := Lib.hid hh
    clear e1 e2 hc hc' h hok hh
    go_enter Tryz.func323, Tryz.ntmps323
    go_wp2_with fail
    refine HH.out.mono ?_
    rintro e w' ⟨rfl, rfl⟩
    go_wp2
    go_ret
    exact ⟨rfl, H.out, Kept.refl _ _⟩


theorem nl_at : ∀ (l : List UInt8) (n j : Nat) (h : j < l.length), j < n → j ≤ Caps.nl l n → (l[j] = 10 ↔ j = Caps.nl l n)
  | [], n, j, h, _, _ => by simp at h
  | c :: l, 0, j, h, h1, _ => by omega
  | c :: l, n + 1, 0, h, h1, h2 => by
    simp only [Caps.nl, List.getElem_cons_zero]
    by_cases hc : c = 10
    · simp [hc]
    · simp [hc]
  | c :: l, n + 1, j + 1, h, h1, h2 => by
    simp only [Caps.nl, List.getElem_cons_succ] at *
    by_cases hc : c = 10
    · simp [hc] at h2
    · simp only [if_neg hc] at *
      have := nl_at l n j (by simpa using h) (by omega) (by omega)
      rw [this]; omega
def strLen : Value → Nat | .string s => s.size | _ => 0

def AccRel (S : Caps.Tab) (n : Int) (g : Nat) (w : World) (s : Value) (wr : World) : Prop :=
  ∃ (j : Nat) (I J : ByteArray), j ≤ Caps.cut S.inp n ∧ I = S.inp.extract j S.inp.size ∧ J = S.inp.extract 0 j ∧ s = .string J ∧ Blk wr g 202 (rcells { S with inp := I }) ∧ Kept (fun k => k = g) w wr

theorem drop_end (s : ByteArray) (a : Nat) : (s.extract a s.size).data.toList = s.data.toList.drop a := by
  rw [Lib.extract_data, List.take_of_length_le (by rw [List.length_drop, Caps.size_data]; omega)]

/-- one letter ahead -/
theorem head_byte (s I : ByteArray) (j : Nat) (hj : j < s.size) (hI : I = s.extract j s.size) : ∃ c, I.extract 0 1 = ⟨#[c]⟩ ∧ s.data.toList[j]'(by rw [Caps.size_data]; exact hj) = c := by
  refine ⟨_, Caps.ext _ _ ?_, rfl⟩
  subst hI
  rw [Lib.extract_data, drop_end, List.drop_zero, List.drop_eq_getElem_cons (by rw [Caps.size_data]; exact hj)]
  rfl
theorem tail_tail (s I : ByteArray) (j : Nat) (hI : I = s.extract j s.size) : I.extract 1 I.size = s.extract (j + 1) s.size := by
  apply Caps.ext
  rw [drop_end, drop_end, hI, drop_end, List.drop_drop]
theorem take_more (s J : ByteArray) (j : Nat) (c : UInt8) (hj : j < s.size) (hJ : J = s.extract 0 j) (hc : s.data.toList[j]'(by rw [Caps.size_data]; exact hj) = c) : J ++ ⟨#[c]⟩ = s.extract 0 (j + 1) := by
  apply Caps.ext
  subst hJ
  rw [Lib.extract_data]
  simp only [List.drop_zero, Nat.sub_zero]
  rw [List.take_succ_eq_append_getElem (by rw [Caps.size_data]; exact hj), hc]
  simp
theorem isEmpty_false (s : ByteArray) (h : 0 < s.size) : s.toList.isEmpty = false := by
  rw [Lib.toList_data]
  cases hd : s.data.toList with
  | nil => exfalso; rw [← Caps.size_data, hd] at h; simp at h
  | cons c t => rfl
theorem toList_nil (s : ByteArray) (h : s.size = 0) : s.toList = [] := by
  rw [Lib.toList_data]; exact List.eq_nil_of_length_eq_zero (by rw [Caps.size_data]; exact h)

set_option maxHeartbeats 1000000 in
theorem RRep.accept (h : RRep w g S) (m n : Int) : Calls Tryz.prog 324 #[.pointer (some ⟨g, 0, none⟩), .int .i64 m, .int .i64 n] w
    (RPost (accV S m n) g (Caps.accS S m n) w) := by
  have hh := h.has m 2
  have hok := Caps.acc_ok h.ok m n
  by_cases hc : Caps.has S.pupil m 2 = true
  · rw [hc] at hh
    obtain ⟨-, -, c2, -⟩ := h.cells
    have f2 := h.frozen 2
    have hsz := h.ok.inp
    by_cases hn0 : n < 0
    · have e1 : accV S m n = .tuple #[.string ⟨#[]⟩, .int .i64 19] := by
        have : ¬ 0 < n := by omega
        simp [accV, Caps.accB, Caps.accE, hc, hn0, this]
      have e2 : Caps.accS S m n = S := by unfold Caps.accS; rw [if_neg (by omega)]
      rw [e1, e2]
      have H := Lib.hid h
      have HH := Lib.hid hh
      clear e1 e2 hc hh h hok
      go_enter Tryz.func324, Tryz.ntmps324
      go_wp2_with fail
      refine HH.out.mono ?_
      rintro e w' ⟨rfl, rfl⟩
      go_wp2
      go_ret2
      exact ⟨rfl, H.out, Kept.refl _ _⟩
    by_cases hn1 : n = 0
    · subst hn1
      have e1 : accV S m 0 = .tuple #[.string ⟨#[]⟩, .int .i64 0] := by simp [accV, Caps.accB, Caps.accE, hc]
      have e2 : Caps.accS S m 0 = S := by unfold Caps.accS; rw [if_neg (by omega)]
      rw [e1, e2]
      have H := Lib.hid h
      have HH := Lib.hid hh
      clear e1 e2 hc hh h hok
      go_enter Tryz.func324, Tryz.ntmps324
      go_wp2_with fail
      refine HH.out.mono ?_
      rintro e w' ⟨rfl, rfl⟩
      go_wp2
      go_ret2
      exact ⟨rfl, H.out, Kept.refl _ _⟩
    have hnp : 0 < n := by omega
    have hn1' : (n == 0) = false := by simpa using hn1
    by_cases hz : S.inp.size = 0
    · have hd : S.inp.data.toList = [] := List.eq_nil_of_length_eq_zero (by rw [Caps.size_data]; exact hz)
      have e1 : accV S m n = .tuple #[.string ⟨#[]⟩, .int .i64 18] := by
        have : S.inp.extract 0 (Caps.cut S.inp n) = ⟨#[]⟩ := Caps.ext _ _ (by simp [hd])
        simp [accV, Caps.accB, Caps.accE, hc, hn0, hnp, hz, hn1, this]
      have e2 : Caps.accS S m n = S := by
        unfold Caps.accS; rw [if_pos ⟨hc, hnp⟩]
        have : S.inp.extract (Caps.taken S.inp n) S.inp.size = S.inp := Caps.ext _ _ (by simp [hd])
        rw [this]
      rw [e1, e2]
      have H := Lib.hid h
      have HH := Lib.hid hh
      have hs0 : S.inp.toList = [] := by rw [Lib.toList_data]; exact hd
      clear e1 e2 hc hh h hok hd hz
      go_enter Tryz.func324, Tryz.ntmps324
      go_wp2_with fail
      refine HH.out.mono ?_
      rintro e w' ⟨rfl, rfl⟩
      go_wp2
      go_ret2
      exact ⟨rfl, H.out, Kept.refl _ _⟩
    · have hs0 : (S.inp.toList.isEmpty) = false := by
        rw [Lib.toList_data]
        cases hd : S.inp.data.toList with
        | nil => exfalso; apply hz; rw [← Caps.size_data, hd]; rfl
        | cons c t => rfl
      have e1 : accV S m n = .tuple #[.string (S.inp.extract 0 (Caps.cut S.inp n)), .int .i64 0] := by
        simp [accV, Caps.accB, Caps.accE, hc, hn0, hnp, hz, hn1]
      have e2 : Caps.accS S m n = { S with inp := S.inp.extract (Caps.taken S.inp n) S.inp.size } := by
        unfold Caps.accS; rw [if_pos ⟨hc, hnp⟩]
      rw [e2] at hok
      rw [e1, e2]
      have H := Lib.hid h
      have HH := Lib.hid hh
      have q1 : 0 ≤ n := by omega
      have hcl := Caps.cut_le S.inp n
      have E0 : AccRel S n g w (.string ⟨#[]⟩) w := by
        exact ⟨0, S.inp, ⟨#[]⟩, Nat.zero_le _, by simp, Caps.ext _ _ (by simp), rfl, h.blk, Kept.refl _ _⟩
      clear e1 e2 hc hh h hn0 hn1 hz
      go_enter Tryz.func324, Tryz.ntmps324
      go_wp2_with fail
      refine HH.out.mono ?_
      rintro e w' ⟨rfl, rfl⟩
      go_wp2
      go_loopw [9] (fun s wr => AccRel S n g w' s wr) (fun s _ => S.inp.size + 1 - strLen s)
      case atStart => exact E0
      case round =>
        obtain ⟨j, I, J, hj, hI, hJ, rfl, hb, hk⟩ := hrel
        clear E0 c2 f2 hs0
        have c2 := hb.cell 2
        have f2 := hb.frozen 2
        simp [rcells] at c2
        have hjs : J.size = j := by rw [hJ]; simp; omega
        have hIs : I.size = S.inp.size - j := by rw [hI]; simp
        by_cases hlt : j < min n.toNat S.inp.size
        · have hj2 : j < S.inp.size := by omega
          obtain ⟨c, hc1, hc2⟩ := head_byte S.inp I j hj2 hI
          have hat := nl_at S.inp.data.toList n.toNat j (by rw [Caps.size_data]; exact hj2) (by omega) hj
          have ht1 := tail_tail S.inp I j hI
          have ht2 := take_more S.inp J j c hj2 hJ hc2
          have HT1 := Lib.hid ht1
          have HT2 := Lib.hid ht2
          have HA := Lib.hid hat
          have HC2 := Lib.hid hc2
          have hne := isEmpty_false I (by omega)
          have hjn : (J.size : Int) < n := by omega
          have h1I : 1 ≤ I.size := by omega
          have hbig : J.size + 1 ≤ 9223372036854775807 := by omega
          have HI := Lib.hid hI
          have HJ := Lib.hid hJ
          have HS := Lib.hid hjs
          clear ht1 ht2 hat hc2 hI hJ hIs hjs
          go_wp2
          · rename_i hten
            have hten' : c = 10 := by simpa using hten
            have hjk : j = Caps.cut S.inp n := (HA.out).1 (HC2.out.trans hten')
            have et : Caps.taken S.inp n = j + 1 := by unfold Caps.taken; rw [← hjk, if_pos hlt]
            rw [et] at hok
            go_ret2
            refine ⟨?_, ⟨?_, ?_⟩, ?_⟩
            · rw [← hjk, ← HJ.out]; rfl
            · rw [et]; exact hok
            · rw [et, ← HT1.out]; exact hb.set_ 2 _
            · exact hk.setCell (.inl rfl) _
          · rename_i hten
            have hten' : ¬ c = 10 := by simpa using hten
            have hjk : j ≠ Caps.cut S.inp n := fun e => hten' (HC2.out.symm.trans (HA.out.2 e))
            refine ⟨⟨j + 1, _, _, by omega, HT1.out, HT2.out, rfl, hb.set_ 2 _, hk.setCell (.inl rfl) _⟩, ?_⟩
            have : (J ++ ⟨#[c]⟩).size = J.size + 1 := by rw [ByteArray.size_append]; rfl
            have := HS.out
            simp only [strLen]
            omega
        · have hjk : j = Caps.cut S.inp n := by omega
          have et : Caps.taken S.inp n = j := by unfold Caps.taken; rw [← hjk, if_neg hlt]
          rw [et] at hok
          have fin : RPost (.tuple #[.string (S.inp.extract 0 (Caps.cut S.inp n)), .int .i64 0]) g { S with inp := S.inp.extract (Caps.taken S.inp n) S.inp.size } w' (.returned (.tuple #[.string J, .int .i64 0])) wr := by
            rw [et, ← hjk, ← hJ, ← hI]
            exact ⟨rfl, ⟨by rw [hI]; exact hok, hb⟩, hk⟩
          have Fin := Lib.hid fin
          clear fin hI hJ et hok hjk
          by_cases hn : (J.size : Int) < n
          · have hIz : I.size = 0 := by omega
            have hnil := toList_nil I hIz
            clear hIz hIs
            go_wp2
            go_ret2
            exact Fin.out
          · clear hIs
            go_wp2
            go_ret2
            exact Fin.out
  · have hc' : Caps.has S.pupil m 2 = false := by simpa using hc
    rw [hc'] at hh
    have e1 : accV S m n = .tuple #[.string ⟨#[]⟩, .int .i64 11] := by simp [accV, Caps.accB, Caps.accE, hc']
    have e2 : Caps.accS S m n = S := by simp [Caps.accS, hc']
    rw [e1, e2]
    have H := Lib.hid h
    have HH := Lib.hid hh
    clear e1 e2 hc hc' h hok hh
    go_enter Tryz.func324, Tryz.ntmps324
    go_wp2_with fail
    refine HH.out.mono ?_
    rintro e w' ⟨rfl, rfl⟩
    go_wp2
    go_ret2
    exact ⟨rfl, H.out, Kept.refl _ _⟩
end
end Go.Proofs.YtjhdpmimccpcdaaGreatDoor
/- The tables of the program and of the reference as objects beside others; each call as a step of one of them; and the laws' own small functions. -/
namespace Go.Proofs.YtjhdpmimccpcdaaGreatDoor
set_option linter.unusedVariables false
open Go.RowKit Go.Lib

def TabA (g : Nat) (S : Caps.Tab) : Asr where
  holds w F := CRep w g S F
  lt h hk := h.lt hk
  kept h hk hT := h.kept hk hT
def RefA (g : Nat) (S : Caps.Tab) : Asr where
  holds w F := RRep w g S ∧ ∀ k, F k ↔ k = g
  lt h hk := by have := (h.2 _).1 hk; subst this; exact h.1.lt
  kept h hk hT := ⟨h.1.kept hk (hT _ ((h.2 _).2 rfl)), h.2⟩

section
variable {w0 w : World} {g : Nat} {S : Caps.Tab} {L : List Asr}
theorem CPost.toPost {v : Value} {S' : Caps.Tab} {F : Nat → Prop} {e : Ending} {w' : World} (h : CPost v g S' F w e w') : Post (fun u B => u = v ∧ B = TabA g S') F w e w' := by
  obtain ⟨he, F', hr, hk, hF⟩ := h
  exact ⟨v, TabA g S', F', ⟨rfl, rfl⟩, he, hr, hk, hF⟩
theorem RPost.toPost {v : Value} {S' : Caps.Tab} {F : Nat → Prop} (hF : ∀ k, F k ↔ k = g) {e : Ending} {w' : World} (h : RPost v g S' w e w') : Post (fun u B => u = v ∧ B = RefA g S') F w e w' := by
  obtain ⟨he, hr, hk⟩ := h
  exact ⟨v, RefA g S', F, ⟨rfl, rfl⟩, he, ⟨hr, hF⟩, hk.mono (fun k hk => (hF k).2 hk), fun k hk => .inl hk⟩

theorem TabA.crep (h : At w0 w (TabA g S :: L)) : ∃ F, CRep w g S F := h.first
theorem RefA.rrep (h : At w0 w (RefA g S :: L)) : RRep w g S := by obtain ⟨F, h1, _⟩ := h.first; exact h1

theorem t_typ (h : At w0 w (TabA g S :: L)) (m : Int) (s : ByteArray) (hs : s.size ≤ maxLen) : Calls Tryz.prog 208 #[.pointer (some ⟨g, 0, none⟩), .int .i64 m, .string s] w (Got1 (.int .i64 (Caps.typE S m s)) (TabA g (Caps.typS S m s)) w0 L) :=
  h.call1 fun _ hF => (CRep.typ hF m s hs).mono fun _ _ h => h.toPost
theorem t_key (h : At w0 w (TabA g S :: L)) (m : Int) : Calls Tryz.prog 165 #[.pointer (some ⟨g, 0, none⟩), .int .i64 m] w (Got1 (.tuple #[.int .u8 (Caps.keyB S m), .int .i64 (Caps.keyE S m)]) (TabA g (Caps.keyS S m)) w0 L) :=
  h.call1 fun _ hF => (CRep.key hF m).mono fun _ _ h => h.toPost
theorem t_accept (h : At w0 w (TabA g S :: L)) (m n : Int) : Calls Tryz.prog 209 #[.pointer (some ⟨g, 0, none⟩), .int .i64 m, .int .i64 n] w (Got1 (.tuple #[.string (Caps.accB S m n), .int .i64 (Caps.accE S m n)]) (TabA g (Caps.accS S m n)) w0 L) :=
  h.call1 fun _ hF => (CRep.accept hF m n).mono fun _ _ h => h.toPost
theorem t_say (h : At w0 w (TabA g S :: L)) (m p : Int) : Calls Tryz.prog 173 #[.pointer (some ⟨g, 0, none⟩), .int .i64 m, .int .i64 p] w (Got1 (.int .i64 (Caps.sayE S m p)) (TabA g (Caps.sayS S m p)) w0 L) :=
  h.call1 fun _ hF => (CRep.say hF m p).mono fun _ _ h => h.toPost
theorem t_has (h : At w0 w (TabA g S :: L)) (m c : Int) : Calls Tryz.prog 112 #[.pointer (some ⟨g, 0, none⟩), .int .i64 m, .int .i64 c] w (Same (.bool (Caps.has S.pupil m c)) w) := by
  obtain ⟨F, hF⟩ := h.first; exact CRep.has hF m c
theorem t_output (h : At w0 w (TabA g S :: L)) : Calls Tryz.prog 23 #[.pointer (some ⟨g, 0, none⟩)] w (Same (.string S.out) w) := by
  obtain ⟨F, hF⟩ := h.first; exact CRep.output hF
theorem t_points (h : At w0 w (TabA g S :: L)) : Calls Tryz.prog 24 #[.pointer (some ⟨g, 0, none⟩)] w (fun e w' => e = .returned (.tuple #[.int .i64 S.points, .bool S.said]) ∧ At w0 w' (TabA g S :: L)) := by
  obtain ⟨F, hF⟩ := h.first
  refine (CRep.points hF).mono ?_
  rintro e w' ⟨he, n, rfl⟩
  exact ⟨he, h.drewN n⟩
theorem r_typ (h : At w0 w (RefA g S :: L)) (m : Int) (s : ByteArray) (hs : s.size ≤ maxLen) : Calls Tryz.prog 323 #[.pointer (some ⟨g, 0, none⟩), .int .i64 m, .string s] w (Got1 (.int .i64 (Caps.typE S m s)) (RefA g (Caps.typS S m s)) w0 L) :=
  h.call1 fun _ hF => (RRep.typ hF.1 m s hs).mono fun _ _ h => h.toPost hF.2
theorem r_key (h : At w0 w (RefA g S :: L)) (m : Int) : Calls Tryz.prog 287 #[.pointer (some ⟨g, 0, none⟩), .int .i64 m] w (Got1 (.tuple #[.int .u8 (Caps.keyB S m), .int .i64 (Caps.keyE S m)]) (RefA g (Caps.keyS S m)) w0 L) :=
  h.call1 fun _ hF => (RRep.key hF.1 m).mono fun _ _ h => h.toPost hF.2
theorem r_accept (h : At w0 w (RefA g S :: L)) (m n : Int) : Calls Tryz.prog 324 #[.pointer (some ⟨g, 0, none⟩), .int .i64 m, .int .i64 n] w (Got1 (.tuple #[.string (Caps.accB S m n), .int .i64 (Caps.accE S m n)]) (RefA g (Caps.accS S m n)) w0 L) :=
  h.call1 fun _ hF => (RRep.accept hF.1 m n).mono fun _ _ h => h.toPost hF.2
theorem r_say (h : At w0 w (RefA g S :: L)) (m p : Int) : Calls Tryz.prog 292 #[.pointer (some ⟨g, 0, none⟩), .int .i64 m, .int .i64 p] w (Got1 (.int .i64 (Caps.sayE S m p)) (RefA g (Caps.sayS S m p)) w0 L) :=
  h.call1 fun _ hF => (RRep.say hF.1 m p).mono fun _ _ h => h.toPost hF.2
theorem r_has (h : At w0 w (RefA g S :: L)) (m c : Int) : Calls Tryz.prog 230 #[.pointer (some ⟨g, 0, none⟩), .int .i64 m, .int .i64 c] w (Same (.bool (Caps.has S.pupil m c)) w) :=
  (RefA.rrep h).has m c

theorem t_new (h : At w0 w L) (p r : Int) (s : ByteArray) (h0 : Caps.newErr p r s = 0) : Calls Tryz.prog 35 #[.int .i64 p, .int .i64 r, .string s] w
    (fun e w' => ∃ g, e = .returned (.tuple #[.pointer (some ⟨g, 0, none⟩), .int .i64 0]) ∧ At w0 w' (TabA g (Caps.made p r s) :: L)) := by
  refine (caps_new p r s w).mono ?_
  intro e w' hp
  unfold NewPost at hp
  rw [if_pos h0] at hp
  obtain ⟨g, F, he, hr, hk, hF⟩ := hp
  exact ⟨g, he, h.add (A := TabA g (Caps.made p r s)) hr hk hF⟩
theorem t_new_bad (p r : Int) (s : ByteArray) (w : World) (h0 : Caps.newErr p r s ≠ 0) : Calls Tryz.prog 35 #[.int .i64 p, .int .i64 r, .string s] w (Same (.tuple #[.pointer none, .int .i64 (Caps.newErr p r s)]) w) := by
  refine (caps_new p r s w).mono ?_
  intro e w' hp
  unfold NewPost at hp
  rw [if_neg h0] at hp
  exact hp
theorem r_new (h : At w0 w L) (p r : Int) (s : ByteArray) (h0 : Caps.newErr p r s = 0) : Calls Tryz.prog 69 #[.int .i64 p, .int .i64 r, .string s] w
    (fun e w' => ∃ g, e = .returned (.tuple #[.pointer (some ⟨g, 0, none⟩), .int .i64 0]) ∧ At w0 w' (RefA g (Caps.made p r s) :: L)) := by
  refine (ref_new p r s w).mono ?_
  intro e w' hp
  unfold RNewPost at hp
  rw [if_pos h0] at hp
  obtain ⟨he, hr, hk⟩ := hp
  exact ⟨_, he, h.add (A := RefA _ (Caps.made p r s)) (F' := fun k => k = w.heap.size) ⟨hr, fun _ => Iff.rfl⟩ hk (fun k hk => Nat.le_of_eq hk.symm)⟩
theorem r_new_bad (p r : Int) (s : ByteArray) (w : World) (h0 : Caps.newErr p r s ≠ 0) : Calls Tryz.prog 69 #[.int .i64 p, .int .i64 r, .string s] w (Same (.tuple #[.pointer none, .int .i64 (Caps.newErr p r s)]) w) := by
  refine (ref_new p r s w).mono ?_
  intro e w' hp
  unfold RNewPost at hp
  rw [if_neg h0] at hp
  exact hp
end
end Go.Proofs.YtjhdpmimccpcdaaGreatDoor
