/- Chapter 1: a cell as bytes, bytes as a cell: the document's functions. Condition: eight bytes. -/
import Derived.Test.YtjhdpmimccpcdaaGreatDoorT05
import Derived.Laws.Bits64
namespace Go.Proofs.YtjhdpmimccpcdaaGreatDoor
set_option linter.unusedVariables false
open Go.RowKit Go.Lib Go.Deep

def quotOf (v : Int) (j : Nat) : Int := (v % 18446744073709551616) / 256 ^ j
theorem quot_succ (v : Int) (j : Nat) : quotOf v j / 256 = quotOf v (j + 1) := by
  unfold quotOf
  rw [Int.pow_succ, Int.ediv_ediv_of_nonneg (Int.pow_nonneg (by decide))]
theorem quot_nonneg (v : Int) (j : Nat) : 0 ≤ quotOf v j := by
  unfold quotOf
  exact Int.ediv_nonneg (Int.emod_nonneg _ (by decide)) (Int.pow_nonneg (by decide))
theorem quot_le (v : Int) (j : Nat) : quotOf v j ≤ 18446744073709551615 := by
  unfold quotOf
  have h1 : 0 ≤ v % 18446744073709551616 := Int.emod_nonneg _ (by decide)
  have h2 : v % 18446744073709551616 < 18446744073709551616 := Int.emod_lt_of_pos _ (by decide)
  have := Int.ediv_le_self (256 ^ j) h1
  omega
theorem quot_byte (v : Int) (j : Nat) (hj : j < 8) : quotOf v j % 256 = v / 2 ^ (8 * j) % 256 := by
  unfold quotOf
  have : j = 0 ∨ j = 1 ∨ j = 2 ∨ j = 3 ∨ j = 4 ∨ j = 5 ∨ j = 6 ∨ j = 7 := by omega
  rcases this with rfl | rfl | rfl | rfl | rfl | rfl | rfl | rfl <;> simp only [Int.reducePow, Nat.reduceMul, Int.ediv_one] <;> omega
set_option maxRecDepth 100000 in
theorem Bytes_walk (v : Int) (hv : -9223372036854775808 ≤ v ∧ v ≤ 9223372036854775807) (w : World) : Calls Tryz.prog 102 #[.int .i64 v] w (Gives (.agg (bcells (toB v)).toArray) w) := by
  have hq0 : quotOf v 0 = v % 18446744073709551616 := by unfold quotOf; simp
  replace hq0 := Lib.hid hq0
  go_enter Tryz.func102, Tryz.ntmps102
  go_wp2
  go_loopw [4, 5] (fun u i wr => ∃ j : Nat, j ≤ 8 ∧ i = .int .i64 j ∧ u = .int .u64 (quotOf v j) ∧ Blk wr (w.heap.size + 1) 137 (filled v j) ∧ Blk wr w.heap.size 137 (filled v 0) ∧ Below w.heap.size w wr) (fun _ i _ => 8 - (RowKit.intOf i).toNat)
  case atStart =>
    exact ⟨0, by omega, rfl, by rw [hq0.out, ← IntKind.wrap_u64], Blk.new' (by simp), (Blk.new _ _ _).alloc _, ((Below.refl _ _).alloc (Nat.le_refl _) _).alloc (by simp) _⟩
  case round =>
    obtain ⟨j, hj8, rfl, rfl, hb, hb0, hbl⟩ := hrel
    by_cases hlt : j < 8
    · have hc : wr.cell? ⟨w.heap.size + 1, j, none⟩ = some (.int .u8 0) := by rw [hb.cell, filled_at v j hlt]
      have hf := hb.frozen j
      have hb1 := hb.set_ j (.int .u8 (v / 2 ^ (8 * j) % 256))
      rw [filled_set v j hlt, ← quot_byte v j hlt] at hb1
      have hb2 := hb0.far (p := ⟨w.heap.size + 1, j, none⟩) (by simp) (.int .u8 (v / 2 ^ (8 * j) % 256))
      rw [← quot_byte v j hlt] at hb2
      have hs := quot_succ v j
      have h0 := quot_nonneg v j
      have h1 := quot_le v j
      generalize hx : quotOf v j = x at *
      replace hb1 := Lib.hid hb1
      replace hb2 := Lib.hid hb2
      replace hs := Lib.hid hs
      clear hb hb0 hx
      replace hbl := Lib.hid hbl
      go_wp2
      go_roundw
      case rel => exact ⟨j + 1, by omega, by go_num, by rw [← hs.out], hb1.out, hb2.out, hbl.out.setCell (by simp) _⟩
      case measure => simp [RowKit.intOf]; omega
    · obtain rfl : j = 8 := by omega
      have hb' : Blk wr (w.heap.size + 1) 137 (bcells (toB v)).toArray := hb
      have e8 : Eight wr (w.heap.size + 1) (fun i => .int .u8 (tn v i)) := eight_of hb' (toB_len v)
      obtain ⟨c0, c1, c2, c3, c4, c5, c6, c7⟩ := e8
      obtain ⟨d0, d1, d2, d3, d4, d5, d6, d7⟩ := eight_of (l := List.replicate 8 0) hb0 (by simp)
      have f0 := hb0.frozen 0
      have f1 := hb0.frozen 1
      have f2 := hb0.frozen 2
      have f3 := hb0.frozen 3
      have f4 := hb0.frozen 4
      have f5 := hb0.frozen 5
      have f6 := hb0.frozen 6
      have f7 := hb0.frozen 7
      clear hb hb0 hb'
      replace hbl := Lib.hid hbl
      go_wp2
      refine bodyPost_ret (v := .agg #[.int .u8 (tn v 0), .int .u8 (tn v 1), .int .u8 (tn v 2), .int .u8 (tn v 3), .int .u8 (tn v 4), .int .u8 (tn v 5), .int .u8 (tn v 6), .int .u8 (tn v 7)]) (by simp [results, Tryz.results102, go_sem, d0, d1, d2, d3, d4, d5, d6, d7]) rfl ⟨by rw [tn_all], ?_⟩
      exact (((((((hbl.out.setCell (Nat.le_refl _) _).setCell (Nat.le_refl _) _).setCell (Nat.le_refl _) _).setCell (Nat.le_refl _) _).setCell (Nat.le_refl _) _).setCell (Nat.le_refl _) _).setCell (Nat.le_refl _) _).setCell (Nat.le_refl _) _
end Go.Proofs.YtjhdpmimccpcdaaGreatDoor
/- Chapter 3: the document's image: reading cells. Conditions: as written. -/
namespace Go.Proofs.YtjhdpmimccpcdaaGreatDoor
set_option linter.unusedVariables false
open Go.RowKit Go.Lib Go.Deep

theorem IRRep.byte {w : World} {g gb : Nat} {S : Img} (h : IRRep w g gb S) (i : Nat) (hi : i < S.beg 6) : w.cell? ⟨gb, i, none⟩ = some (.int .u8 ((S.b.getD i 0).toNat : Int)) := by
  rw [h.row.cell]
  have : i < S.b.length := by rw [h.ok.len]; exact hi
  simp [bcells, List.getD, this]
theorem tmod8 (a : Int) : (a.tmod 8 = 0) ↔ a % 8 = 0 := by rw [Int.tmod_eq_emod]; split <;> omega
end Go.Proofs.YtjhdpmimccpcdaaGreatDoor
/- Chapter 3: the document's image: writing cells, texts and parts, the seal; as an object. Conditions: as written. -/
namespace Go.Proofs.YtjhdpmimccpcdaaGreatDoor
set_option linter.unusedVariables false
open Go.RowKit Go.Lib Go.Deep

/-- j of eight bytes laid over some -/
theorem putL_snoc (b : List UInt8) (k : Nat) (l : List UInt8) (j : Nat) (hj : j < l.length) (hk : k + j < b.length) : (bcells (putL b k (l.take j))).toArray.setIfInBounds (k + j) (.int .u8 ((l.getD j 0).toNat : Int)) = (bcells (putL b k (l.take (j + 1)))).toArray := by
  have hlt : l.take (j + 1) = l.take j ++ [l.getD j 0] := by
    rw [List.take_succ_eq_append_getElem hj, List.getD_eq_getElem?_getD, List.getElem?_eq_getElem hj]
    rfl
  have htl : (l.take j).length = j := by rw [List.length_take]; omega
  apply Array.ext_getElem?
  intro i
  rw [hlt]
  unfold putL
  rw [List.length_append, htl, List.length_singleton]
  generalize l.getD j 0 = c
  have hdrop : b.drop (k + j) = b[k + j] :: b.drop (k + (j + 1)) := List.drop_eq_getElem_cons hk
  rw [hdrop]
  have h1 : (b.take k).length = k := by rw [List.length_take]; omega
  have e1 : bcells (b.take k ++ (l.take j ++ b[k + j] :: b.drop (k + (j + 1)))) = (bcells (b.take k ++ l.take j)) ++ (Value.int .u8 (b[k + j].toNat : Int) :: bcells (b.drop (k + (j + 1)))) := by simp [bcells]
  have e2 : bcells (b.take k ++ (l.take j ++ [c] ++ b.drop (k + (j + 1)))) = (bcells (b.take k ++ l.take j)) ++ (Value.int .u8 (c.toNat : Int) :: bcells (b.drop (k + (j + 1)))) := by simp [bcells]
  have hlen : (bcells (b.take k ++ l.take j)).length = k + j := by unfold bcells; rw [List.length_map, List.length_append, h1, htl]
  rw [e1, e2]
  generalize bcells (b.take k ++ l.take j) = A at *
  generalize bcells (b.drop (k + (j + 1))) = B at *
  generalize (Value.int .u8 (b[k + j].toNat : Int)) = y
  rw [← hlen]
  simp
set_option maxRecDepth 100000 in
set_option maxHeartbeats 2000000 in
theorem r_set_yes {w : World} {g gb : Nat} {S : Img} (h : IRRep w g gb S) (m v : Int) (hv : -9223372036854775808 ≤ v ∧ v ≤ 9223372036854775807) (k : Nat) (hle : k + 8 ≤ S.beg 6) (hal : (k : Int) % 8 = 0)
    (hrow : Calls Tryz.prog 101 #[.pointer (some ⟨g, 0, none⟩), .int .i64 m, .int .i64 k, .int .i64 8, .int .i64 2] w (Gives (.bool true) w)) :
    Calls Tryz.prog 75 #[.pointer (some ⟨g, 0, none⟩), .int .i64 m, .int .i64 k, .int .i64 v] w fun e w' => e = .returned (.int .i64 0) ∧ Blk w' gb 5 (bcells (putL S.b k (toB v))).toArray ∧ Kept (fun i => i = gb) w w' := by
  have hal1 : (k : Int).tmod 8 = 0 := (tmod8 _).2 hal
  have hsm := h.ok.small
  have hlen := h.ok.len
  have hby := fun w => Bytes_walk v hv w
  have htl := toB_len v
  rw [← tn_all] at hby
  replace hrow := Lib.hid hrow
  replace h := Lib.hid h
  replace hby := Lib.hid hby
  replace htl := Lib.hid htl
  replace hlen := Lib.hid hlen
  clear hal
  go_enter Tryz.func75, Tryz.ntmps75
  go_wp2_with fail
  refine hrow.out.mono ?_
  rintro e w1 ⟨rfl, h1⟩
  have hR1 := Lib.hid (h.out.below h1)
  have hk1 := Lib.hid (Kept.ofBelow0 h1)
  clear h1
  go_wp2_with fail
  refine (hby.out w1).mono ?_
  rintro e w2 ⟨rfl, h2⟩
  have hR2 := Lib.hid (hR1.out.below h2)
  have hk2 := Lib.hid (hk1.out.trans (Kept.ofBelow0 h2))
  clear h2
  go_wp2
  go_loopw [11] (fun i wr => ∃ j : Nat, j ≤ 8 ∧ i = .int .i64 j ∧ Blk wr w2.heap.size 137 (bcells (toB v)).toArray ∧ Blk wr g 152 (rimgCells gb S) ∧ Blk wr gb 5 (bcells (putL S.b k ((toB v).take j))).toArray ∧ Kept (fun i => i = gb) w wr) (fun i _ => 8 - (RowKit.intOf i).toNat)
  case atStart =>
    refine ⟨0, by omega, rfl, ?_, hR2.out.blk.alloc _, ?_, (hk2.out.mono (fun _ h => h.elim)).alloc _⟩
    · rw [← tn_all]; exact Blk.new _ _ _
    · have : putL S.b k ((toB v).take 0) = S.b := by unfold putL; simp
      rw [this]
      exact hR2.out.row.alloc _
  case round =>
    obtain ⟨j, hj8, rfl, hb, hg, hr, hk⟩ := hrel
    by_cases hlt : j < 8
    · have hc : wr.cell? ⟨w2.heap.size, j, none⟩ = some (.int .u8 (((toB v).getD j 0).toNat : Int)) := by
        rw [hb.cell]
        have := htl.out
        have : j < (toB v).length := by omega
        simp [bcells, List.getD, this]
      have hall : wr.cell? ⟨g, 5, none⟩ = some (.slice (some ⟨gb, 0, none⟩) (S.beg 6) (S.beg 6)) := by rw [hg.cell]; rfl
      have hold : ∃ x, wr.cell? ⟨gb, k + j, none⟩ = some (.int .u8 x) := by
        rw [hr.cell]
        have hl2 : k + j < (putL S.b k ((toB v).take j)).length := by
          rw [putL_len _ _ _ (by rw [List.length_take, hlen.out]; omega), hlen.out]; omega
        exact ⟨_, by simp [bcells, hl2]; rfl⟩
      obtain ⟨x, hx⟩ := hold
      have hf := hr.frozen (k + j)
      have hset := hr.set_ (k + j) (.int .u8 (((toB v).getD j 0).toNat : Int))
      rw [putL_snoc S.b k (toB v) j (by rw [htl.out]; exact hlt) (by rw [hlen.out]; omega)] at hset
      have q1 : w2.heap.size ≠ gb := fun e => by have := hR2.out.row.lt; omega
      have q2 : g ≠ gb := hg.ne_ hr (by decide)
      replace q1 := Lib.hid q1
      replace q2 := Lib.hid q2
      replace hb := Lib.hid hb
      replace hg := Lib.hid hg
      replace hset := Lib.hid hset
      replace hk := Lib.hid hk
      generalize (((toB v).getD j 0).toNat : Int) = c at *
      generalize S.beg 6 = N at *
      clear hr
      go_wp2
      go_region
      go_wp2
      go_roundw
      case rel => exact ⟨j + 1, by omega, by go_num, (hb.out.far (p := ⟨gb, k + j, none⟩) q1.out _).drew, (hg.out.far (p := ⟨gb, k + j, none⟩) q2.out _).drew, hset.out.drew, (hk.out.setCell (.inl rfl) _).drew⟩
      case measure => simp [RowKit.intOf]; omega
    · obtain rfl : j = 8 := by omega
      have hlast : (toB v).take 8 = toB v := List.take_of_length_le (by rw [htl.out]; omega)
      rw [hlast] at hr
      replace hr := Lib.hid hr
      replace hk := Lib.hid hk
      clear hb hg hlast
      go_wp2
      go_ret
      exact ⟨rfl, hr.out, hk.out⟩
end Go.Proofs.YtjhdpmimccpcdaaGreatDoor
/- Chapter 3: the document's image as an object: texts, parts, the seal, a new one. Conditions: as written. -/
namespace Go.Proofs.YtjhdpmimccpcdaaGreatDoor
set_option linter.unusedVariables false
open Go.RowKit Go.Lib Go.Deep

def RimgA (g : Nat) (S : Img) : Asr where
  holds w F := ∃ gb, IRRep w g gb S ∧ ∀ k, F k ↔ k = g ∨ k = gb
  lt h hk := by
    obtain ⟨gb, h, hF⟩ := h
    rcases (hF _).1 hk with rfl | rfl
    · exact h.blk.lt
    · exact h.row.lt
  kept h hk hT := by
    obtain ⟨gb, h, hF⟩ := h
    exact ⟨gb, ⟨h.blk.kept hk (hT _ ((hF _).2 (.inl rfl))), h.row.kept hk (hT _ ((hF _).2 (.inr rfl))), h.ok⟩, hF⟩
theorem IRRep.ne {w : World} {g gb : Nat} {S : Img} (h : IRRep w g gb S) : g ≠ gb := h.blk.ne_ h.row (by decide)
theorem r_row_of {w : World} {g gb : Nat} {S : Img} (h : IRRep w g gb S) (m a : Int) (n : Nat) (hn : n ≠ 0) (hn2 : n ≤ 9223372036854775807) (wr : Bool) :
    (S.rowOk m a n wr = false ∧ Calls Tryz.prog 101 #[.pointer (some ⟨g, 0, none⟩), .int .i64 m, .int .i64 a, .int .i64 (n : Int), .int .i64 (rightOf wr)] w (Gives (.bool false) w)) ∨
    (S.rowOk m a n wr = true ∧ ∃ k : Nat, a = k ∧ k + n ≤ S.beg 6 ∧ Calls Tryz.prog 101 #[.pointer (some ⟨g, 0, none⟩), .int .i64 m, .int .i64 (k : Int), .int .i64 (n : Int), .int .i64 (rightOf wr)] w (Gives (.bool true) w)) := by
  have hrow := r_row h m a n hn2 wr
  cases hk : S.rowOk m a n wr
  · rw [hk] at hrow
    exact .inl ⟨rfl, hrow⟩
  · obtain ⟨h0, h1⟩ := S.row_in hk hn
    obtain ⟨k, rfl⟩ := Int.eq_ofNat_of_zero_le h0
    rw [hk] at hrow
    exact .inr ⟨rfl, k, rfl, by omega, hrow⟩
section
variable {w0 w : World} {g : Nat} {S : Img} {L : List Asr}
theorem RimgA.rep (h : At w0 w (RimgA g S :: L)) : ∃ gb, IRRep w g gb S := by obtain ⟨F, gb, h, _⟩ := h.first; exact ⟨gb, h⟩
end
end Go.Proofs.YtjhdpmimccpcdaaGreatDoor
/- Chapter 3: the document's image: texts, parts, the seal, a new one. Conditions: as written. -/
namespace Go.Proofs.YtjhdpmimccpcdaaGreatDoor
set_option linter.unusedVariables false
open Go.RowKit Go.Lib Go.Deep

theorem r_open {w : World} {g gb : Nat} {S : Img} (h : IRRep w g gb S) (hc : S.cl = false) : Calls Tryz.prog 71 #[.pointer (some ⟨g, 0, none⟩)] w (Same (.int .i64 0) (w.setCell ⟨g, 6, none⟩ (.bool true))) := by
  have hcl := h.cl_cell
  have hop := h.op_cell
  have hf := h.blk.frozen 6
  rw [hc] at hcl
  generalize S.op = o at hop
  clear h hc
  go_enter Tryz.func71, Tryz.ntmps71
  go_wp2
  go_ret
  exact ⟨rfl, rfl⟩
theorem r_seal {w : World} {g gb : Nat} {S : Img} (h : IRRep w g gb S) (hc : S.cl = false) : Calls Tryz.prog 72 #[.pointer (some ⟨g, 0, none⟩)] w (Same (.int .i64 0) (w.setCell ⟨g, 7, none⟩ (.bool true))) := by
  have hcl := h.cl_cell
  have hf := h.blk.frozen 7
  rw [hc] at hcl
  clear h hc
  go_enter Tryz.func72, Tryz.ntmps72
  go_wp2
  go_ret
  exact ⟨rfl, rfl⟩
section
variable {w0 w : World} {g : Nat} {S : Img} {L : List Asr}
end

theorem fits_yes (n lo hi : Int) (h1 : lo ≤ n) (h2 : n ≤ hi) (h8 : n % 8 = 0) (w : World) : Calls Tryz.prog 128 #[.int .i64 n, .int .i64 lo, .int .i64 hi] w (Same (.bool true) w) := by
  have h3 : n.tmod 8 = 0 := (tmod8 n).2 h8
  clear h8
  go_enter Tryz.func128, Tryz.ntmps128
  go_wp2
  go_ret
  exact ⟨rfl, rfl⟩
set_option maxRecDepth 100000 in
theorem Fits_yes {k s u d r : Nat} (hf : Fits k s u d r) (w : World) : Calls Tryz.prog 91 #[layoutV k s u d r] w (Gives (.bool true) w) := by
  have f1 := Lib.hid fun w => fits_yes k 16384 65536 (by have := hf.k1; omega) (by have := hf.k2; omega) (by have := hf.k8; omega) w
  have f2 := Lib.hid fun w => fits_yes s 0 4096 (by omega) (by have := hf.s2; omega) (by have := hf.s8; omega) w
  have f3 := Lib.hid fun w => fits_yes u 256 65536 (by have := hf.u1; omega) (by have := hf.u2; omega) (by have := hf.u8; omega) w
  have f4 := Lib.hid fun w => fits_yes d 64 4096 (by have := hf.d1; omega) (by have := hf.d2; omega) (by have := hf.d8; omega) w
  have f5 := Lib.hid fun w => fits_yes r 64 4096 (by have := hf.r1; omega) (by have := hf.r2; omega) (by have := hf.r8; omega) w
  clear hf
  unfold layoutV
  go_enter Tryz.func91, Tryz.ntmps91
  go_wp2_with fail
  refine (f1.out _).mono ?_
  rintro e w1 ⟨rfl, rfl⟩
  go_wp2_with fail
  refine (f2.out _).mono ?_
  rintro e w1 ⟨rfl, rfl⟩
  go_wp2_with fail
  refine (f3.out _).mono ?_
  rintro e w1 ⟨rfl, rfl⟩
  go_wp2_with fail
  refine (f4.out _).mono ?_
  rintro e w1 ⟨rfl, rfl⟩
  go_wp2_with fail
  refine (f5.out _).mono ?_
  rintro e w1 ⟨rfl, rfl⟩
  go_wp2
  go_ret
  exact ⟨rfl, (Below.refl _ _).alloc (Nat.le_refl _) _⟩
def IRNewPost (S : Img) (w : World) (e : Ending) (w' : World) : Prop := ∃ g gb, e = .returned (.tuple #[.pointer (some ⟨g, 0, none⟩), .bool true]) ∧ w.heap.size ≤ g ∧ w.heap.size ≤ gb ∧ IRRep w' g gb S ∧ Below w.heap.size w w'
set_option maxRecDepth 100000 in
set_option maxHeartbeats 2000000 in
theorem ir_new (k s u d r : Nat) (hf : Fits k s u d r) (w : World) : Calls Tryz.prog 65 #[layoutV k s u d r] w (IRNewPost (newImg k s u d r) w) := by
  have hfits := Lib.hid fun w => Fits_yes hf w
  have hok := Lib.hid (newImg_ok hf)
  obtain ⟨k1, k2, k8, s2, s8, u1, u2, u8, d1, d2, d8, r1, r2, r8⟩ := hf
  clear k1 k8 s8 u1 u8 d1 d8 r1 r8
  obtain ⟨n, hn⟩ : ∃ n, k + s + u + d + r = n := ⟨_, rfl⟩
  have hmk := fun w => run_make_row' (P := Tryz.prog) 123 5 (.int .u8 0) 1 Tryz.underlying123 (by kernel_rfl) rfl .i64 .i64 n (by omega) (by omega) w
  simp only [made0] at hmk
  have hsum : ((n : Nat) : Int) = (k : Int) + s + u + d + r := by omega
  rw [hsum] at hmk
  clear hsum
  replace hn := Lib.hid hn
  unfold layoutV at *
  go_enter Tryz.func65, Tryz.ntmps65
  go_wp2_with fail
  refine (hfits.out _).mono ?_
  rintro e w1 ⟨rfl, h1⟩
  have hb1 : Blk w1 w.heap.size 90 #[.int .i64 (k : Int), .int .i64 (s : Int), .int .i64 (u : Int), .int .i64 (d : Int), .int .i64 (r : Int)] := (Blk.new w _ _).below h1 (by simp)
  have hbl := Lib.hid (((Below.refl w.heap.size w).alloc (Nat.le_refl _) _).trans (h1.mono (by simp)))
  have hsz : w.heap.size < w1.heap.size := by have := h1.size; simp at this; omega
  have c0 : w1.cell? ⟨w.heap.size, 0, none⟩ = some (.int .i64 (k : Int)) := hb1.cell 0
  have c1 : w1.cell? ⟨w.heap.size, 1, none⟩ = some (.int .i64 (s : Int)) := hb1.cell 1
  have c2 : w1.cell? ⟨w.heap.size, 2, none⟩ = some (.int .i64 (u : Int)) := hb1.cell 2
  have c3 : w1.cell? ⟨w.heap.size, 3, none⟩ = some (.int .i64 (d : Int)) := hb1.cell 3
  have c4 : w1.cell? ⟨w.heap.size, 4, none⟩ = some (.int .i64 (r : Int)) := hb1.cell 4
  clear h1 hb1
  go_wp2
  go_region
  go_wp2
  go_ret2
  refine ⟨w1.heap.size + 1, w1.heap.size, rfl, by omega, by omega, ⟨?_, ?_, hok.out⟩, ((hbl.out.alloc (by omega) _).alloc (by simp; omega) _).drew⟩
  · have hn := hn.out
    subst hn
    exact (Blk.new' (by simp)).drew
  · have hn := hn.out
    subst hn
    exact ((Blk.new _ _ _).alloc _).drew
end Go.Proofs.YtjhdpmimccpcdaaGreatDoor
