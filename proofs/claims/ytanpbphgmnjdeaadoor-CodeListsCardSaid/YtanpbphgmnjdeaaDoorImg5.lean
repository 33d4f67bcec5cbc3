/- Chapter 3: writing into the program's image. Conditions: as written. -/
import Derived.Test.YtanpbphgmnjdeaaDoorImg4
import Derived.Laws.CopyOwn
namespace Go.Proofs.YtanpbphgmnjdeaaDoor
set_option linter.unusedVariables false
open Go.RowKit Go.Lib

theorem i_set_mis (p : Value) (m a v : Int) (w : World) (hal : a % 8 ≠ 0) : Calls Tryd.prog 54 #[p, .int .i64 m, .int .i64 a, .int .i64 v] w (Same (.int .i64 6) w) := by
  have hal1 : (bits .and .i64 a 7 == 0) = false := by rw [beq_eq_false_iff_ne, i64_and7]; exact hal
  clear hal
  go_enter Tryd.func54, Tryd.ntmps54
  go_wp2
  go_ret
  exact ⟨rfl, rfl⟩
theorem i_set_no (p : Value) (m a v : Int) (w : World) (hal : a % 8 = 0) (hrow : Calls Tryd.prog 81 #[p, .int .i64 m, .int .i64 a, .int .i64 8, .int .i64 2] w (Same (.tuple #[.slice none 0 0, .bool false]) w)) :
    Calls Tryd.prog 54 #[p, .int .i64 m, .int .i64 a, .int .i64 v] w (Same (.int .i64 5) w) := by
  have hal1 : bits .and .i64 a 7 = 0 := by rw [i64_and7]; exact hal
  replace hrow := Lib.hid hrow
  clear hal
  go_enter Tryd.func54, Tryd.ntmps54
  go_wp2_with fail
  refine hrow.out.mono ?_
  rintro e w1 ⟨rfl, rfl⟩
  go_wp2
  go_ret
  exact ⟨rfl, rfl⟩
theorem Kept.setRow {S : Nat → Prop} {w w' : World} (h : Kept S w w') {g : Nat} (hg : S g ∨ w.heap.size ≤ g) (cs : Array Value) : Kept S w (w'.setRow g cs) :=
  ⟨h.os, h.tape, h.output, by simpa [World.setRow] using h.size, fun k hk hs => by
    rw [setRow_other w' g k cs (by rintro rfl; rcases hg with hg | hg; exact hs hg; omega)]
    exact h.block k hk hs⟩
theorem Kept.ofBelow0 {w w' : World} (h : Below w.heap.size w w') : Kept Nob w w' := ⟨h.os, h.tape, h.output, h.size, fun k hk _ => h.block k hk⟩
/-- a row of bytes put into a block -/
theorem putRow_eq (b l : List UInt8) (k : Nat) : ((bcells b).take k ++ (bcells l ++ (bcells b).drop (k + l.length))) = bcells (putL b k l) := by
  simp [bcells, putL]
theorem copy_row (w2 : World) (gb k : Nat) (b : List UInt8) (hle : k + 8 ≤ b.length) (v : Int) (hb : Blk w2 gb 5 (bcells b).toArray) (hsz : (Tryd.prog.info? 5).map (·.size) = some 1) :
    (Builtin.copy_ #[76, 76] 3 #[.slice (some ⟨gb, k, none⟩) 8 8, .slice (some ⟨w2.heap.size, 0, none⟩) 8 8]).run Tryd.prog (w2.alloc (.cells #[.int .u8 (tn v 0), .int .u8 (tn v 1), .int .u8 (tn v 2), .int .u8 (tn v 3), .int .u8 (tn v 4), .int .u8 (tn v 5), .int .u8 (tn v 6), .int .u8 (tn v 7)] 112)) =
      .ok (.int .i64 8) ((w2.alloc (.cells #[.int .u8 (tn v 0), .int .u8 (tn v 1), .int .u8 (tn v 2), .int .u8 (tn v 3), .int .u8 (tn v 4), .int .u8 (tn v 5), .int .u8 (tn v 6), .int .u8 (tn v 7)] 112)).setRow gb (bcells (putL b k (toB v))).toArray) := by
  rw [tn_all]
  have hl : (bcells (toB v)).length = 8 := by simp [bcells, toB_len]
  have hrun := run_copy_row (P := Tryd.prog) (w2.alloc (.cells (bcells (toB v)).toArray 112)) 76 76 3 5 gb k 8 8 ⟨w2.heap.size, 0, none⟩ 8 8 (bcells b).toArray 5 (bcells (toB v))
    Tryd.underlying76 hsz (hb.alloc _) (by rw [hl]; rfl) (fun j x hj => by
      have h1 := (Blk.new w2 112 (bcells (toB v)).toArray).cell j
      have h2 : ((⟨w2.heap.size, 0, none⟩ : Addr).add j) = ⟨w2.heap.size, j, none⟩ := by simp [Addr.add]; exact fun h => h.symm
      rw [h2, h1]
      simpa using hj) (by rw [hl]; simpa [bcells] using hle) (fun x hx => by
      obtain ⟨y, _, rfl⟩ := List.mem_map.1 hx
      rfl)
  rw [hrun, hl]
  have := putRow_eq b (toB v) k
  rw [toB_len] at this
  rw [show (bcells b).toArray.toList = bcells b from rfl, List.append_assoc, this]
  rfl
theorem putBlk {w : World} {g : Nat} {t : TypeId} {cs : Array Value} (h : Blk w g t cs) (new : Array Value) : Blk (w.setRow g new) g t new := setRow_heap w g cs new t (0, 0) h
set_option maxRecDepth 100000 in
set_option maxHeartbeats 1000000 in
theorem i_set_yes (p : Value) (m v : Int) (hv : -9223372036854775808 ≤ v ∧ v ≤ 9223372036854775807) (gb k : Nat) (b : List UInt8) (w : World) (hal : (k : Int) % 8 = 0) (hle : k + 8 ≤ b.length)
    (hrow : Calls Tryd.prog 81 #[p, .int .i64 m, .int .i64 k, .int .i64 8, .int .i64 2] w (Same (.tuple #[.slice (some ⟨gb, k, none⟩) 8 8, .bool true]) w)) (hb : Blk w gb 5 (bcells b).toArray) :
    Calls Tryd.prog 54 #[p, .int .i64 m, .int .i64 k, .int .i64 v] w fun e w' => e = .returned (.int .i64 0) ∧ Blk w' gb 5 (bcells (putL b k (toB v))).toArray ∧ Kept (fun i => i = gb) w w' := by
  have hal1 : bits .and .i64 (k : Int) 7 = 0 := by rw [i64_and7]; exact hal
  have hby := bytes_walk v hv w
  rw [← tn_all] at hby
  have hsz : (Tryd.prog.info? 5).map (·.size) = some 1 := by kernel_rfl
  replace hby := Lib.hid hby
  replace hrow := Lib.hid hrow
  replace hb := Lib.hid hb
  replace hsz := Lib.hid hsz
  clear hal hv
  go_enter Tryd.func54, Tryd.ntmps54
  go_wp2_with fail
  refine hrow.out.mono ?_
  rintro e w1 ⟨rfl, rfl⟩
  go_wp2_with fail
  refine hby.out.mono ?_
  rintro e w2 ⟨rfl, h2⟩
  have hb2 := Lib.hid (hb.out.below h2 hb.out.lt)
  have hk2 := Lib.hid (Kept.ofBelow0 h2)
  clear h2
  have hcp := copy_row w2 gb k b hle v hb2.out hsz.out
  replace hcp := hcp
  go_wp2
  go_ret
  refine ⟨rfl, ?_, ?_⟩
  · exact putBlk (hb2.out.alloc _) _
  · exact Kept.setRow (S := fun i => i = gb) ((hk2.out.alloc _).mono (fun _ h => h.elim)) (.inl rfl) _

/-- an image of the program's, over two blocks -/
def ImgA (g : Nat) (S : Img) : Asr where
  holds w F := ∃ gb, IRep w g gb S ∧ ∀ k, F k ↔ k = g ∨ k = gb
  lt h hk := by
    obtain ⟨gb, h, hF⟩ := h
    rcases (hF _).1 hk with rfl | rfl
    · exact h.blk.lt
    · exact h.row.lt
  kept h hk hT := by
    obtain ⟨gb, h, hF⟩ := h
    exact ⟨gb, ⟨h.blk.kept hk (hT _ ((hF _).2 (.inl rfl))), h.row.kept hk (hT _ ((hF _).2 (.inr rfl))), h.ok⟩, hF⟩
theorem IRep.ne {w : World} {g gb : Nat} {S : Img} (h : IRep w g gb S) : g ≠ gb := h.blk.ne_ h.row (by decide)
theorem Img.Ok.put {S : Img} (h : S.Ok) (k : Nat) (l : List UInt8) (hk : k + l.length ≤ S.beg 6) : (S.put k l).Ok := by
  have hb : ∀ i, (S.put k l).beg i = S.beg i := fun i => by unfold Img.beg Img.put; rfl
  exact ⟨by rw [hb]; show (putL S.b k l).length = _; rw [putL_len _ _ _ (by rw [h.len]; exact hk)]; exact h.len, by rw [hb]; exact h.small⟩
section
variable {w0 w : World} {g : Nat} {S : Img} {L : List Asr}
theorem ImgA.rep (h : At w0 w (ImgA g S :: L)) : ∃ gb, IRep w g gb S := by obtain ⟨F, gb, h, _⟩ := h.first; exact ⟨gb, h⟩
theorem At.ofBelow {w' : World} (h : At w0 w L) (hb : Below w.heap.size w w') : At w0 w' L := h.keptNob (Kept.ofBelow0 hb)
theorem a_cell (h : At w0 w (ImgA g S :: L)) (m a : Int) : Calls Tryd.prog 60 #[.pointer (some ⟨g, 0, none⟩), .int .i64 m, .int .i64 a] w (Got1 (.tuple #[.int .i64 (S.cellV m a), .int .i64 (S.cellF m a false)]) (ImgA g S) w0 L) := by
  obtain ⟨gb, hr⟩ := ImgA.rep h
  exact (i_cell hr m a).mono fun e w' h' => ⟨h'.1, h.ofBelow h'.2⟩
theorem a_setCell (h : At w0 w (ImgA g S :: L)) (m a v : Int) (hv : -9223372036854775808 ≤ v ∧ v ≤ 9223372036854775807) :
    Calls Tryd.prog 54 #[.pointer (some ⟨g, 0, none⟩), .int .i64 m, .int .i64 a, .int .i64 v] w (Got1 (.int .i64 (S.cellF m a true)) (ImgA g (S.setCell m a v)) w0 L) := by
  refine h.call1 fun F hF => ?_
  obtain ⟨gb, hr, hFk⟩ := hF
  by_cases hal : a % 8 = 0
  · have h80 : (8 : Nat) ≠ 0 := by omega
    have h8 : (8 : Nat) ≤ 9223372036854775807 := by omega
    rcases i_row_of hr m a 8 h80 h8 true with ⟨hk, hrow⟩ | ⟨hk, k, rfl, hle, hrow⟩
    · have hC : S.cellF m a true = 5 := by unfold Img.cellF; simp [hal, hk]
      have hS : S.setCell m a v = S := by unfold Img.setCell; simp [hC]
      rw [hC, hS]
      refine (i_set_no _ m a v w hal hrow).mono ?_
      rintro e w' ⟨rfl, rfl⟩
      exact ⟨_, _, F, ⟨rfl, rfl⟩, rfl, ⟨gb, hr, hFk⟩, Kept.refl _ _, fun k hk => .inl hk⟩
    · have hC : S.cellF m k true = 0 := by unfold Img.cellF; simp [hal, hk]
      have hS : S.setCell m k v = S.put k (toB v) := by unfold Img.setCell; simp [hC]
      rw [hC, hS]
      refine (i_set_yes _ m v hv gb k S.b w hal (by rw [hr.ok.len]; exact hle) hrow hr.row).mono ?_
      rintro e w' ⟨rfl, hb', hk'⟩
      refine ⟨_, _, F, ⟨rfl, rfl⟩, rfl, ⟨gb, ⟨?_, hb', hr.ok.put k _ (by rw [toB_len]; exact hle)⟩, hFk⟩, hk'.mono (fun i hi => (hFk i).2 (.inr hi)), fun k hk => .inl hk⟩
      exact hr.blk.kept hk' hr.ne
  · have hC : S.cellF m a true = 6 := by unfold Img.cellF; simp [hal]
    have hS : S.setCell m a v = S := by unfold Img.setCell; simp [hC]
    rw [hC, hS]
    refine (i_set_mis _ m a v w hal).mono ?_
    rintro e w' ⟨rfl, rfl⟩
    exact ⟨_, _, F, ⟨rfl, rfl⟩, rfl, ⟨gb, hr, hFk⟩, Kept.refl _ _, fun k hk => .inl hk⟩
end
end Go.Proofs.YtanpbphgmnjdeaaDoor
