/- The program's package caps, the functions that write and read a table's output. Conditions: the table lies in memory as CRep says; a string that is handed in is no longer than a string may be. -/
import Derived.Test.YtobneijdhedckaaCaps
namespace Go.Proofs.Ytobneijdhedckaa
set_option linter.unusedVariables false
open Go.RowKit Go.Lib

def PutPost (b tb : Nat) (v : Value) (room : Int) (bs : List UInt8) (s : ByteArray) (n m : Nat) (w : World) (e : Ending) (w' : World) : Prop :=
  ∃ v', e = .returned (.int .i64 m) ∧ Blk w' b tb #[v', .int .i64 room] ∧ Buf w' 5 v' (bs ++ s.data.toList.take n) ∧
    Kept (fun k => k = b ∨ v.ownBlock = some k) w w' ∧ (∀ k, v'.ownBlock = some k → v.ownBlock = some k ∨ w.heap.size ≤ k)

set_option maxHeartbeats 800000 in
theorem put_any (b tb : Nat) (v : Value) (room : Int) (bs : List UInt8) (s : ByteArray) (w : World) (hb : Blk w b tb #[v, .int .i64 room]) (hv : Buf w 5 v bs) (htb : 5 ≠ tb)
    (hr : (bs.length : Int) ≤ room ∧ room ≤ 65536) :
    Calls Try.prog 52 #[.pointer (some ⟨b, 0, none⟩), .string s] w (PutPost b tb v room bs s (min s.size (room.toNat - bs.length)) (min s.size (room.toNat - bs.length)) w) := by
  obtain ⟨i0, hi, hz0, hz1, hz2⟩ := info_parts Try.infoU8
  obtain ⟨A, cap, rfl, hcap⟩ := hv.form'
  obtain ⟨n, hrn⟩ : ∃ n : Nat, room - (bs.length : Int) = n := ⟨(room - bs.length).toNat, by omega⟩
  have c0 := hb.cell 0
  have c1 := hb.cell 1
  have f0 := hb.frozen 0
  simp at c0 c1
  have e0 : min s.size (room.toNat - bs.length) = min s.size n := by congr 1; omega
  rw [e0]
  clear e0
  by_cases hn : n < s.size
  · rw [Nat.min_eq_right (by omega)]
    have hle : n ≤ s.size := by omega
    have hmin : min (s.size : Int) (n : Int) = n := by omega
    have hex : (s.extract 0 n).data.toList = s.data.toList.take n := by simp
    have hln : (bs ++ s.data.toList.take n).length = bs.length + n := by simp; omega
    have Hex := Lib.hid hex
    have Hln := Lib.hid hln
    have hsz : bs.length + (s.extract 0 n).size ≤ 140737488355328 := by simp; omega
    clear hex hln
    go_enter Try.func52, Try.ntmps52
    go_wp2
    go_quiet (fail)
    go_wp2
    go_region_law ((refine step_append_buf rfl (.tmp 23) (.tmp 26) 59 9 rfl 5 i0 Try.underlying59 Try.underlying9 hi hz0 hz1 hz2 _ bs rfl hv _ rfl hsz ?_; rw [Hex.out]; intro v' w1 hb1 hg hat; obtain ⟨A1, cap1, rfl, _⟩ := hb1.form'; rw [Hln.out] at hb1 hat ⊢; have B1 := Blk.grown (hb.drewN (nq + 1)) hg (fun e => hv.ne_blk hb htb e.symm); have c0' := B1.cell 0; have f0' := B1.frozen 0; simp at c0'))
    go_wp2
    go_ret
    refine ⟨_, rfl, B1.set_ 0 _, hb1.setCell (hb1.ne_blk B1 htb) _, ?_, ?_⟩
    · exact (((Kept.refl _ w).drewN (nq + 1)).grown hg (fun k hk => .inl (.inr hk))).setCell (.inl (.inl rfl)) _
    · intro k hk
      rcases hat with h | h
      · exact .inl (h.symm.trans hk)
      · exact .inr (Nat.le_of_eq (Option.some.inj (h.symm.trans hk)))
  · rw [Nat.min_eq_left (by omega)]
    have hmin : min (s.size : Int) (n : Int) = s.size := by omega
    have hex : s.data.toList = s.data.toList.take s.size := by rw [List.take_of_length_le (by simp)]
    have hln : (bs ++ s.data.toList.take s.size).length = bs.length + s.size := by simp
    have Hex := Lib.hid hex
    have Hln := Lib.hid hln
    have hsz : bs.length + s.size ≤ 140737488355328 := by omega
    clear hex hln
    go_enter Try.func52, Try.ntmps52
    go_wp2
    go_quiet (fail)
    go_wp2
    go_region_law ((refine step_append_buf rfl (.tmp 23) (.tmp 26) 59 9 rfl 5 i0 Try.underlying59 Try.underlying9 hi hz0 hz1 hz2 _ bs rfl hv _ rfl hsz ?_; rw [Hex.out]; intro v' w1 hb1 hg hat; obtain ⟨A1, cap1, rfl, _⟩ := hb1.form'; rw [Hln.out] at hb1 hat ⊢; have B1 := Blk.grown (hb.drewN (nq + 1)) hg (fun e => hv.ne_blk hb htb e.symm); have c0' := B1.cell 0; have f0' := B1.frozen 0; simp at c0'))
    go_wp2
    go_ret
    refine ⟨_, rfl, B1.set_ 0 _, hb1.setCell (hb1.ne_blk B1 htb) _, ?_, ?_⟩
    · exact (((Kept.refl _ w).drewN (nq + 1)).grown hg (fun k hk => .inl (.inr hk))).setCell (.inl (.inl rfl)) _
    · intro k hk
      rcases hat with h | h
      · exact .inl (h.symm.trans hk)
      · exact .inr (Nat.le_of_eq (Option.some.inj (h.symm.trans hk)))

theorem PutPost.lossy {b tb : Nat} {v : Value} {room : Int} {bs : List UInt8} {s : ByteArray} {n m m' : Nat} {w w' : World} {e : Ending} (h : PutPost b tb v room bs s n m w e w') :
    PutPost b tb v room bs s n m' w (.returned (.int .i64 m')) w' := by
  obtain ⟨v', _, h2⟩ := h
  exact ⟨v', rfl, h2⟩

set_option maxHeartbeats 400000 in
theorem lossy_put (b tb : Nat) (v : Value) (room : Int) (bs : List UInt8) (s : ByteArray) (w : World) (hb : Blk w b tb #[v, .int .i64 room]) (hv : Buf w 5 v bs) (htb : 5 ≠ tb)
    (hr : (bs.length : Int) ≤ room ∧ room ≤ 65536) (hs : s.size ≤ maxLen) :
    Calls Try.prog 54 #[.pointer (some ⟨b, 0, none⟩), .string s] w (PutPost b tb v room bs s (min s.size (room.toNat - bs.length)) s.size w) := by
  have hs' := hs
  unfold maxLen at hs'
  go_enter Try.func54, Try.ntmps54
  go_wp2_with fail
  refine (put_any b tb v room bs s w hb hv htb hr).mono ?_
  rintro e w' hp
  have he : ∃ n, e = .returned n := by obtain ⟨_, h, _⟩ := hp; exact ⟨_, h⟩
  obtain ⟨n, rfl⟩ := he
  have hp' : PutPost b tb v room bs s (min s.size (room.toNat - bs.length)) s.size w _ w' := hp.lossy
  have Hp := Lib.hid hp'
  clear hp'
  clear hp
  go_wp2
  go_ret
  exact Hp.out

set_option maxHeartbeats 400000 in
theorem text_any (b tb : Nat) (v : Value) (room : Int) (bs : List UInt8) (w : World) (hb : Blk w b tb #[v, .int .i64 room]) (hv : Buf w 5 v bs) :
    Calls Try.prog 53 #[.pointer (some ⟨b, 0, none⟩)] w (Same (.string ⟨bs.toArray⟩) w) := by
  obtain ⟨A, cap, rfl, hcap⟩ := hv.form'
  have c0 := hb.cell 0
  simp at c0
  have hc := hv.to_string (P := Try.prog) 59 9 Try.underlying59 Try.underlying5 Try.underlying9
  go_enter Try.func53, Try.ntmps53
  go_wp2
  go_ret
  exact ⟨rfl, rfl⟩
end Go.Proofs.Ytobneijdhedckaa
