/- Chapter 4: all cells of a stack, the lowest first. Conditions: as written. -/
import Derived.Test.YtjhdpmimccpcdaaGreatDoorT18
import Derived.Test.YtjhdpmimccpcdaaGreatDoorTVMap
namespace Go.Proofs.YtjhdpmimccpcdaaGreatDoor
set_option linter.unusedVariables false
set_option maxRecDepth 100000
open Go.RowKit Go.Lib Go.Deep
namespace Vm
def stkAll (S : Img) (fr d : Nat) : List Int := (List.range d).map fun j => sget S fr j
def cellsK (S : Img) (fr d k : Nat) : Array Value := ((List.range d).map fun j => Value.int .i64 (if j < k then sget S fr j else 0)).toArray
theorem cellsK0 (S : Img) (fr d : Nat) : madeCells #[Value.int .i64 0] d = cellsK S fr d 0 := by
  unfold cellsK
  apply Array.ext'
  simp [madeCells, Nat.mod_one]
theorem cellsK_at (S : Img) (fr d k : Nat) (hk : k < d) : ∃ v, (cellsK S fr d k)[k]? = some (.int .i64 v) := by
  unfold cellsK
  simp [hk]
theorem cellsK_set (S : Img) (fr d k : Nat) (hk : k < d) : (cellsK S fr d k).setIfInBounds k (.int .i64 (sget S fr k)) = cellsK S fr d (k + 1) := by
  unfold cellsK
  apply Array.ext'
  simp only [Array.toList_setIfInBounds]
  apply List.ext_getElem?
  intro i
  rw [List.getElem?_set]
  by_cases hi : i < d
  · by_cases e : k = i
    · subst e
      simp [hk]
    · have e2 : (i < k + 1) ↔ (i < k) := by omega
      simp [hi, e, e2]
  · simp [hi, show ¬ (k = i) by omega]
theorem cellsK_all (S : Img) (fr d : Nat) : cellsK S fr d d = intsC (stkAll S fr d) := by
  unfold cellsK intsC stkAll
  congr 1
  rw [List.map_map]
  apply List.map_congr_left
  intro j hj
  have : j < d := by simpa using hj
  simp [this]
section
variable {w : World} {g gI gb d : Nat} {S : Img} {p : Pl}
set_option maxHeartbeats 1000000 in
theorem k_cells (hs : Blk w g 113 (stkC gI p d)) (hi : IRep w gI gb S) (hp : p.Ok) (hd : d ≤ 17920) :
    Calls Tryz.prog 29 #[.pointer (some ⟨g, 0, none⟩)] w (Got (.returned (.slice (some ⟨w.heap.size, 0, none⟩) d d)) (AllA [BlkA w.heap.size 3 (intsC (stkAll S p.fr d))]) Nob w) := by
  have hon := On.refl (A := AllA []) (F := Nob) (w := w) (fun _ h => h)
  have hmk := run_make_row' (P := Tryz.prog) 25 3 (.int .i64 0) 8 Tryz.underlying25 (by kernel_rfl) rfl .i64 .i64 d (by omega) (by omega) w
  rw [cellsK0 S p.fr d] at hmk
  have hon0 := hon.box (cellsK S p.fr d 0) 3
  have c3 : w.cell? ⟨g, 3, none⟩ = some (.int .i64 (d : Int)) := hs.cell 3
  have hlt := hs.lt
  have hget := fun W (hb : Below w.heap.size w W) i (hi2 : i ≤ 17920) => k_get (hs.below hb hs.lt) ⟨hi.blk.below hb hi.blk.lt, hi.row.below hb hi.row.lt, hi.ok⟩ hp i hi2
  replace hon0 := Lib.hid hon0
  replace hget := Lib.hid hget
  clear hs hi hon
  go_enter Tryz.func29, Tryz.ntmps29
  go_wp2
  go_loopg [12] d (fun k t wr => ∃ j : Nat, j + k = d ∧ t = .int .i64 (j : Int) ∧ On Nob w (AllA [BlkA w.heap.size 3 (cellsK S p.fr d j)]) wr)
  case atStart => exact ⟨0, by omega, rfl, hon0.out⟩
  case round =>
    obtain ⟨j, hj, rfl, honj⟩ := hrel
    by_cases hjl : j < d
    · have ht := hget.out wr honj.outB j (by omega)
      have hset := cellsK_set S p.fr d j hjl
      generalize sget S p.fr j = v at *
      replace ht := Lib.hid ht
      replace hset := Lib.hid hset
      replace honj := Lib.hid honj
      go_wp2_with fail
      refine ht.out.mono ?_
      rintro e w1 ⟨rfl, hbl⟩
      simp only []
      have hon1 := honj.out.below hbl
      have hblk := hon1.blkAt 0 rfl
      have ff := hblk.frozen j
      obtain ⟨v0, cc⟩ := cellsK_at S p.fr d j hjl
      replace cc := (hblk.cell j).trans cc
      have hfin := hon1.setAt 0 rfl j (.int .i64 v)
      rw [hset.out] at hfin
      replace hfin := Lib.hid hfin
      clear hblk
      replace hon1 := Lib.hid hon1
      clear hbl
      go_wp2
      go_roundg (gk - 1)
      case measure => omega
      case rel => exact ⟨j + 1, by omega, by go_num, hfin.out⟩
    · have hjn : j = d := by omega
      subst hjn
      have hdec : decide ((j : Int) < (j : Int)) = false := by simp
      rw [cellsK_all] at honj
      replace honj := Lib.hid honj
      go_wp2
      go_ret
      exact ⟨rfl, honj.out⟩
end
end Vm
end Go.Proofs.YtjhdpmimccpcdaaGreatDoor
