/- Chapter 3: the document's image: writing cells, texts and parts, the seal; as an object. Conditions: as written. -/
import Derived.Test.YtanpbphgmnjdeaaDoorRimg4
namespace Go.Proofs.YtanpbphgmnjdeaaDoor
set_option linter.unusedVariables false
open Go.RowKit Go.Lib Go.Deep

theorem r_set_mis (p : Value) (m a v : Int) (w : World) (hal : a % 8 ≠ 0) : Calls Tryd.prog 55 #[p, .int .i64 m, .int .i64 a, .int .i64 v] w (Gives (.int .i64 6) w) := by
  have hal1 : (a.tmod 8 == 0) = false := by rw [beq_eq_false_iff_ne]; exact fun h => hal ((tmod8 a).1 h)
  clear hal
  go_enter Tryd.func55, Tryd.ntmps55
  go_wp2
  go_ret
  exact ⟨rfl, Below.refl _ _⟩
theorem r_set_no (p : Value) (m a v : Int) (w : World) (hal : a % 8 = 0) (hrow : Calls Tryd.prog 83 #[p, .int .i64 m, .int .i64 a, .int .i64 8, .int .i64 2] w (Gives (.bool false) w)) :
    Calls Tryd.prog 55 #[p, .int .i64 m, .int .i64 a, .int .i64 v] w (Gives (.int .i64 5) w) := by
  have hal1 : a.tmod 8 = 0 := (tmod8 a).2 hal
  replace hrow := Lib.hid hrow
  clear hal
  go_enter Tryd.func55, Tryd.ntmps55
  go_wp2_with fail
  refine hrow.out.mono ?_
  rintro e w1 ⟨rfl, h1⟩
  replace h1 := Lib.hid h1
  go_wp2
  go_ret
  exact ⟨rfl, h1.out⟩
/-- j of eight bytes laid over some -/
theorem putL_snoc (b : List UInt8) (k : Nat) (l : List UInt8) (j : Nat) (hj : j < l.length) (hk : k + j < b.length) : (bcells (putL b k (l.take j))).toArray.setIfInBounds (k + j) (.int .u8 ((l.getD j 0).toNat : Int)) = (bcells (putL b k (l.take (j + 1)))).toArray := by
  have hlt : l.take (j + 1) = l.take j ++ [l.getD j 0] := by
    rw [List.take_succ_eq_append_getElem hj, List.getD_eq_getElem?_getD, List.getElem?_eq_getElem hj]
    rfl
  have htl : (l.take j).length = j := by rw [List.length_take]; omega
  apply Array.ext_getElem?
  intro i
  rw [hlt]
  unfold putL
  rw [List.length_append, htl, List.length_singleton]
  generalize l.getD j 0 = c
  have hdrop : b.drop (k + j) = b[k + j] :: b.drop (k + (j + 1)) := List.drop_eq_getElem_cons hk
  rw [hdrop]
  have h1 : (b.take k).length = k := by rw [List.length_take]; omega
  have e1 : bcells (b.take k ++ (l.take j ++ b[k + j] :: b.drop (k + (j + 1)))) = (bcells (b.take k ++ l.take j)) ++ (Value.int .u8 (b[k + j].toNat : Int) :: bcells (b.drop (k + (j + 1)))) := by simp [bcells]
  have e2 : bcells (b.take k ++ (l.take j ++ [c] ++ b.drop (k + (j + 1)))) = (bcells (b.take k ++ l.take j)) ++ (Value.int .u8 (c.toNat : Int) :: bcells (b.drop (k + (j + 1)))) := by simp [bcells]
  have hlen : (bcells (b.take k ++ l.take j)).length = k + j := by unfold bcells; rw [List.length_map, List.length_append, h1, htl]
  rw [e1, e2]
  generalize bcells (b.take k ++ l.take j) = A at *
  generalize bcells (b.drop (k + (j + 1))) = B at *
  generalize (Value.int .u8 (b[k + j].toNat : Int)) = y
  rw [← hlen]
  simp
set_option maxRecDepth 100000 in
set_option maxHeartbeats 2000000 in
theorem r_set_yes {w : World} {g gb : Nat} {S : Img} (h : RRep w g gb S) (m v : Int) (hv : -9223372036854775808 ≤ v ∧ v ≤ 9223372036854775807) (k : Nat) (hle : k + 8 ≤ S.beg 6) (hal : (k : Int) % 8 = 0)
    (hrow : Calls Tryd.prog 83 #[.pointer (some ⟨g, 0, none⟩), .int .i64 m, .int .i64 k, .int .i64 8, .int .i64 2] w (Gives (.bool true) w)) :
    Calls Tryd.prog 55 #[.pointer (some ⟨g, 0, none⟩), .int .i64 m, .int .i64 k, .int .i64 v] w fun e w' => e = .returned (.int .i64 0) ∧ Blk w' gb 5 (bcells (putL S.b k (toB v))).toArray ∧ Kept (fun i => i = gb) w w' := by
  have hal1 : (k : Int).tmod 8 = 0 := (tmod8 _).2 hal
  have hsm := h.ok.small
  have hlen := h.ok.len
  have hby := fun w => Bytes_walk v hv w
  have htl := toB_len v
  rw [← tn_all] at hby
  replace hrow := Lib.hid hrow
  replace h := Lib.hid h
  replace hby := Lib.hid hby
  replace htl := Lib.hid htl
  replace hlen := Lib.hid hlen
  clear hal
  go_enter Tryd.func55, Tryd.ntmps55
  go_wp2_with fail
  refine hrow.out.mono ?_
  rintro e w1 ⟨rfl, h1⟩
  have hR1 := Lib.hid (h.out.below h1)
  have hk1 := Lib.hid (Kept.ofBelow0 h1)
  clear h1
  go_wp2_with fail
  refine (hby.out w1).mono ?_
  rintro e w2 ⟨rfl, h2⟩
  have hR2 := Lib.hid (hR1.out.below h2)
  have hk2 := Lib.hid (hk1.out.trans (Kept.ofBelow0 h2))
  clear h2
  go_wp2
  go_loopw [11] (fun i wr => ∃ j : Nat, j ≤ 8 ∧ i = .int .i64 j ∧ Blk wr w2.heap.size 112 (bcells (toB v)).toArray ∧ Blk wr g 78 (rimgCells gb S) ∧ Blk wr gb 5 (bcells (putL S.b k ((toB v).take j))).toArray ∧ Kept (fun i => i = gb) w wr) (fun i _ => 8 - (RowKit.intOf i).toNat)
  case atStart =>
    refine ⟨0, by omega, rfl, ?_, hR2.out.blk.alloc _, ?_, (hk2.out.mono (fun _ h => h.elim)).alloc _⟩
    · rw [← tn_all]; exact Blk.new _ _ _
    · have : putL S.b k ((toB v).take 0) = S.b := by unfold putL; simp
      rw [this]
      exact hR2.out.row.alloc _
  case round =>
    obtain ⟨j, hj8, rfl, hb, hg, hr, hk⟩ := hrel
    by_cases hlt : j < 8
    · have hc : wr.cell? ⟨w2.heap.size, j, none⟩ = some (.int .u8 (((toB v).getD j 0).toNat : Int)) := by
        rw [hb.cell]
        have := htl.out
        have : j < (toB v).length := by omega
        simp [bcells, List.getD, this]
      have hall : wr.cell? ⟨g, 5, none⟩ = some (.slice (some ⟨gb, 0, none⟩) (S.beg 6) (S.beg 6)) := by rw [hg.cell]; rfl
      have hold : ∃ x, wr.cell? ⟨gb, k + j, none⟩ = some (.int .u8 x) := by
        rw [hr.cell]
        have hl2 : k + j < (putL S.b k ((toB v).take j)).length := by
          rw [putL_len _ _ _ (by rw [List.length_take, hlen.out]; omega), hlen.out]; omega
        exact ⟨_, by simp [bcells, hl2]; rfl⟩
      obtain ⟨x, hx⟩ := hold
      have hf := hr.frozen (k + j)
      have hset := hr.set_ (k + j) (.int .u8 (((toB v).getD j 0).toNat : Int))
      rw [putL_snoc S.b k (toB v) j (by rw [htl.out]; exact hlt) (by rw [hlen.out]; omega)] at hset
      have q1 : w2.heap.size ≠ gb := fun e => by have := hR2.out.row.lt; omega
      have q2 : g ≠ gb := hg.ne_ hr (by decide)
      replace q1 := Lib.hid q1
      replace q2 := Lib.hid q2
      replace hb := Lib.hid hb
      replace hg := Lib.hid hg
      replace hset := Lib.hid hset
      replace hk := Lib.hid hk
      generalize (((toB v).getD j 0).toNat : Int) = c at *
      generalize S.beg 6 = N at *
      clear hr
      go_wp2
      go_region
      go_wp2
      go_roundw
      case rel => exact ⟨j + 1, by omega, by go_num, (hb.out.far (p := ⟨gb, k + j, none⟩) q1.out _).drew, (hg.out.far (p := ⟨gb, k + j, none⟩) q2.out _).drew, hset.out.drew, (hk.out.setCell (.inl rfl) _).drew⟩
      case measure => simp [RowKit.intOf]; omega
    · obtain rfl : j = 8 := by omega
      have hlast : (toB v).take 8 = toB v := List.take_of_length_le (by rw [htl.out]; omega)
      rw [hlast] at hr
      replace hr := Lib.hid hr
      replace hk := Lib.hid hk
      clear hb hg hlast
      go_wp2
      go_ret
      exact ⟨rfl, hr.out, hk.out⟩
end Go.Proofs.YtanpbphgmnjdeaaDoor
