/- Chapter 3: a new image of the program's. Condition: a layout that may be. -/
import Derived.Test.YtanpbphgmnjdeaaDoorImg6
import Derived.BigRegion
import Derived.Deep.OwnRows
namespace Go.Proofs.YtanpbphgmnjdeaaDoor
set_option linter.unusedVariables false
open Go.RowKit Go.Lib Go.Deep

/-- may a layout be? -/
structure Fits (k s u d r : Nat) : Prop where
  k1 : 16384 ≤ k
  k2 : k ≤ 65536
  k8 : k % 8 = 0
  s2 : s ≤ 4096
  s8 : s % 8 = 0
  u1 : 256 ≤ u
  u2 : u ≤ 65536
  u8 : u % 8 = 0
  d1 : 64 ≤ d
  d2 : d ≤ 4096
  d8 : d % 8 = 0
  r1 : 64 ≤ r
  r2 : r ≤ 4096
  r8 : r % 8 = 0
def newImg (k s u d r : Nat) : Img := ⟨k, s, u, d, r, List.replicate (k + s + u + d + r) 0, false, false⟩
theorem newImg_ok {k s u d r : Nat} (h : Fits k s u d r) : (newImg k s u d r).Ok := by
  refine ⟨by simp [newImg, Img.beg], ?_⟩
  simp only [newImg, Img.beg]
  have := h.k2
  have := h.s2
  have := h.u2
  have := h.d2
  have := h.r2
  omega
def layoutV (k s u d r : Nat) : Value := .agg #[.int .i64 (k : Int), .int .i64 (s : Int), .int .i64 (u : Int), .int .i64 (d : Int), .int .i64 (r : Int)]
/-- the cells of an image of which j regions have been laid out -/
def initCells (S : Img) (j : Nat) : Array Value :=
  #[.int .i64 (S.k : Int), .int .i64 (S.s : Int), .int .i64 (S.u : Int), .int .i64 (S.d : Int), .int .i64 (S.r : Int),
    .int .i64 0, .int .i64 0, .int .i64 (if 2 ≤ j then S.beg 2 else 0 : Nat), .int .i64 (if 3 ≤ j then S.beg 3 else 0 : Nat), .int .i64 (if 4 ≤ j then S.beg 4 else 0 : Nat), .int .i64 (if 5 ≤ j then S.beg 5 else 0 : Nat), .int .i64 (if 6 ≤ j then S.beg 6 else 0 : Nat),
    .slice none 0 0, .bool false, .bool false]
def leastC : Array Value := #[.int .i64 0, .int .i64 16384, .int .i64 0, .int .i64 256, .int .i64 64, .int .i64 64]
def mostC : Array Value := #[.int .i64 0, .int .i64 65536, .int .i64 4096, .int .i64 65536, .int .i64 4096, .int .i64 4096]
def NewPost (S : Img) (w : World) (e : Ending) (w' : World) : Prop := ∃ g gb, e = .returned (.tuple #[.pointer (some ⟨g, 0, none⟩), .int .i64 0]) ∧ w.heap.size ≤ g ∧ w.heap.size ≤ gb ∧ IRep w' g gb S ∧ Below w.heap.size w w'
theorem initStep {w : World} {g : Nat} {t : TypeId} {a b : Array Value} (h : Blk w g t a) (e : a = b) : Blk w g t b := e ▸ h
theorem made0 (n : Nat) : madeCells #[Value.int .u8 0] n = (bcells (List.replicate n 0)).toArray := by
  apply Array.ext_getElem?
  intro i
  by_cases hi : i < n
  · simp [madeCells, bcells, hi, Nat.mod_one]
  · simp [madeCells, bcells, hi]
set_option maxRecDepth 100000 in
set_option maxHeartbeats 2000000 in
theorem i_new (k s u d r : Nat) (hf : Fits k s u d r) (w : World) : Calls Tryd.prog 52 #[layoutV k s u d r] w (NewPost (newImg k s u d r) w) := by
  have hf' := Lib.hid hf
  obtain ⟨k1, k2, k8, s2, s8, u1, u2, u8, d1, d2, d8, r1, r2, r8⟩ := hf
  unfold layoutV
  go_enter Tryd.func52, Tryd.ntmps52
  go_wp2
  obtain ⟨gl, hgl⟩ : ∃ gl, w.heap.size + 1 + 1 = gl := ⟨_, rfl⟩
  obtain ⟨gm, hgm⟩ : ∃ gm, w.heap.size + 1 + 1 + 1 = gm := ⟨_, rfl⟩
  obtain ⟨gi, hgi⟩ : ∃ gi, w.heap.size + 1 + 1 + 1 + 1 = gi := ⟨_, rfl⟩
  have hidx : ∀ w, (Instr.index 105 (.agg #[.int .i64 0, .int .i64 (k : Int), .int .i64 (s : Int), .int .i64 (u : Int), .int .i64 (d : Int), .int .i64 (r : Int)]) (.int .i64 0)).run Tryd.prog w = .ok (.int .i64 0) w ∧ (Instr.index 105 (.agg #[.int .i64 0, .int .i64 (k : Int), .int .i64 (s : Int), .int .i64 (u : Int), .int .i64 (d : Int), .int .i64 (r : Int)]) (.int .i64 1)).run Tryd.prog w = .ok (.int .i64 (k : Int)) w ∧ (Instr.index 105 (.agg #[.int .i64 0, .int .i64 (k : Int), .int .i64 (s : Int), .int .i64 (u : Int), .int .i64 (d : Int), .int .i64 (r : Int)]) (.int .i64 2)).run Tryd.prog w = .ok (.int .i64 (s : Int)) w ∧ (Instr.index 105 (.agg #[.int .i64 0, .int .i64 (k : Int), .int .i64 (s : Int), .int .i64 (u : Int), .int .i64 (d : Int), .int .i64 (r : Int)]) (.int .i64 3)).run Tryd.prog w = .ok (.int .i64 (u : Int)) w ∧ (Instr.index 105 (.agg #[.int .i64 0, .int .i64 (k : Int), .int .i64 (s : Int), .int .i64 (u : Int), .int .i64 (d : Int), .int .i64 (r : Int)]) (.int .i64 4)).run Tryd.prog w = .ok (.int .i64 (d : Int)) w ∧ (Instr.index 105 (.agg #[.int .i64 0, .int .i64 (k : Int), .int .i64 (s : Int), .int .i64 (u : Int), .int .i64 (d : Int), .int .i64 (r : Int)]) (.int .i64 5)).run Tryd.prog w = .ok (.int .i64 (r : Int)) w := fun w => ⟨by kernel_rfl, by kernel_rfl, by kernel_rfl, by kernel_rfl, by kernel_rfl, by kernel_rfl⟩
  replace hidx := Lib.hid hidx
  rw [hgi, hgm, hgl]
  go_loopw [27] (fun i wr => ∃ j : Nat, j ≤ 6 ∧ i = .int .i64 j ∧ Blk wr gl 105 leastC ∧ Blk wr gm 105 mostC ∧ Blk wr gi 108 (initCells (newImg k s u d r) j) ∧ Below w.heap.size w wr) (fun i _ => 6 - (RowKit.intOf i).toNat)
  case atStart =>
    refine ⟨0, by omega, rfl, ?_, ?_, ?_, ?_⟩
    · subst hgl
      exact ((Blk.new' (by simp)).alloc _).alloc _
    · subst hgm
      exact (Blk.new' (by simp)).alloc _
    · subst hgi
      exact Blk.new' (by simp)
    · exact ((((((Below.refl _ _).alloc (Nat.le_refl _) _).alloc (by simp) _).alloc (by simp; omega) _).alloc (by simp; omega) _).alloc (by simp; omega) _)
  case round =>
    obtain ⟨j, hj6, rfl, hl, hm, hi, hbl⟩ := hrel
    replace hbl := Lib.hid hbl
    have hjj : j = 0 ∨ j = 1 ∨ j = 2 ∨ j = 3 ∨ j = 4 ∨ j = 5 ∨ j = 6 := by omega
    have q0 : w.heap.size ≤ gi := by omega
    have q1 : gl ≠ gi := by omega
    have q2 : gm ≠ gi := by omega
    replace hgl := Lib.hid hgl
    replace hgm := Lib.hid hgm
    replace hgi := Lib.hid hgi
    have hcl := hl.cell j
    have hcm := hm.cell j
    have hca := hi.cell (5 + j)
    have hcb := hi.cell (5 + (j + 1))
    have hfb := hi.frozen (5 + (j + 1))
    replace hl := Lib.hid hl
    replace hm := Lib.hid hm
    replace hi := Lib.hid hi
    obtain ⟨x0, x1, x2, x3, x4, x5⟩ := hidx.out wr
    rcases hjj with rfl | rfl | rfl | rfl | rfl | rfl | rfl
    · replace hcl : wr.cell? ⟨gl, 0, none⟩ = some (.int .i64 0) := hcl
      replace hcm : wr.cell? ⟨gm, 0, none⟩ = some (.int .i64 0) := hcm
      replace hca : wr.cell? ⟨gi, 5, none⟩ = some (.int .i64 0) := hca
      replace hcb : wr.cell? ⟨gi, 6, none⟩ = some (.int .i64 0) := hcb
      replace hfb : wr.frozen? ⟨gi, 6, none⟩ = false := hfb
      clear x1 x2 x3 x4 x5
      have hset := hi.out.set_ 6 (.int .i64 (0))
      replace hset := Lib.hid hset
      go_wp2
      go_region
      go_wp2
      go_roundw
      case rel => exact ⟨1, by omega, rfl, (hl.out.far (by simp; omega) _).drew, (hm.out.far (by simp; omega) _).drew, initStep hset.out.drew (by simp [initCells, newImg]), (hbl.out.setCell q0 _).drew⟩
      case measure => simp [RowKit.intOf]
    · replace hcl : wr.cell? ⟨gl, 1, none⟩ = some (.int .i64 16384) := hcl
      replace hcm : wr.cell? ⟨gm, 1, none⟩ = some (.int .i64 65536) := hcm
      replace hca : wr.cell? ⟨gi, 6, none⟩ = some (.int .i64 0) := hca
      replace hcb : wr.cell? ⟨gi, 7, none⟩ = some (.int .i64 0) := hcb
      replace hfb : wr.frozen? ⟨gi, 7, none⟩ = false := hfb
      clear x0 x2 x3 x4 x5
      have hrem : ((k : Int)).tmod 8 = 0 := by rw [Int.tmod_eq_emod_of_nonneg (by omega)]; omega
      have hset := hi.out.set_ 7 (.int .i64 (k : Int))
      replace hset := Lib.hid hset
      go_wp2
      go_region
      go_wp2
      go_roundw
      case rel => exact ⟨2, by omega, rfl, (hl.out.far (by simp; omega) _).drew, (hm.out.far (by simp; omega) _).drew, initStep hset.out.drew (by simp [initCells, newImg, Img.beg]), (hbl.out.setCell q0 _).drew⟩
      case measure => simp [RowKit.intOf]
    · replace hcl : wr.cell? ⟨gl, 2, none⟩ = some (.int .i64 0) := hcl
      replace hcm : wr.cell? ⟨gm, 2, none⟩ = some (.int .i64 4096) := hcm
      replace hca : wr.cell? ⟨gi, 7, none⟩ = some (.int .i64 (k : Int)) := hca
      replace hcb : wr.cell? ⟨gi, 8, none⟩ = some (.int .i64 0) := hcb
      replace hfb : wr.frozen? ⟨gi, 8, none⟩ = false := hfb
      clear x0 x1 x3 x4 x5
      have hrem : ((s : Int)).tmod 8 = 0 := by rw [Int.tmod_eq_emod_of_nonneg (by omega)]; omega
      have hset := hi.out.set_ 8 (.int .i64 ((k : Int) + (s : Int)))
      replace hset := Lib.hid hset
      go_wp2
      go_region
      go_wp2
      go_roundw
      case rel => exact ⟨3, by omega, rfl, (hl.out.far (by simp; omega) _).drew, (hm.out.far (by simp; omega) _).drew, initStep hset.out.drew (by simp [initCells, newImg, Img.beg]), (hbl.out.setCell q0 _).drew⟩
      case measure => simp [RowKit.intOf]
    · replace hcl : wr.cell? ⟨gl, 3, none⟩ = some (.int .i64 256) := hcl
      replace hcm : wr.cell? ⟨gm, 3, none⟩ = some (.int .i64 65536) := hcm
      replace hca : wr.cell? ⟨gi, 8, none⟩ = some (.int .i64 ((k + s : Nat) : Int)) := hca
      replace hcb : wr.cell? ⟨gi, 9, none⟩ = some (.int .i64 0) := hcb
      replace hfb : wr.frozen? ⟨gi, 9, none⟩ = false := hfb
      clear x0 x1 x2 x4 x5
      have hrem : ((u : Int)).tmod 8 = 0 := by rw [Int.tmod_eq_emod_of_nonneg (by omega)]; omega
      have hset := hi.out.set_ 9 (.int .i64 (((k + s : Nat) : Int) + (u : Int)))
      replace hset := Lib.hid hset
      go_wp2
      go_region
      go_wp2
      go_roundw
      case rel => exact ⟨4, by omega, rfl, (hl.out.far (by simp; omega) _).drew, (hm.out.far (by simp; omega) _).drew, initStep hset.out.drew (by simp [initCells, newImg, Img.beg]), (hbl.out.setCell q0 _).drew⟩
      case measure => simp [RowKit.intOf]
    · replace hcl : wr.cell? ⟨gl, 4, none⟩ = some (.int .i64 64) := hcl
      replace hcm : wr.cell? ⟨gm, 4, none⟩ = some (.int .i64 4096) := hcm
      replace hca : wr.cell? ⟨gi, 9, none⟩ = some (.int .i64 ((k + s + u : Nat) : Int)) := hca
      replace hcb : wr.cell? ⟨gi, 10, none⟩ = some (.int .i64 0) := hcb
      replace hfb : wr.frozen? ⟨gi, 10, none⟩ = false := hfb
      clear x0 x1 x2 x3 x5
      have hrem : ((d : Int)).tmod 8 = 0 := by rw [Int.tmod_eq_emod_of_nonneg (by omega)]; omega
      have hset := hi.out.set_ 10 (.int .i64 (((k + s + u : Nat) : Int) + (d : Int)))
      replace hset := Lib.hid hset
      go_wp2
      go_region
      go_wp2
      go_roundw
      case rel => exact ⟨5, by omega, rfl, (hl.out.far (by simp; omega) _).drew, (hm.out.far (by simp; omega) _).drew, initStep hset.out.drew (by simp [initCells, newImg, Img.beg]), (hbl.out.setCell q0 _).drew⟩
      case measure => simp [RowKit.intOf]
    · replace hcl : wr.cell? ⟨gl, 5, none⟩ = some (.int .i64 64) := hcl
      replace hcm : wr.cell? ⟨gm, 5, none⟩ = some (.int .i64 4096) := hcm
      replace hca : wr.cell? ⟨gi, 10, none⟩ = some (.int .i64 ((k + s + u + d : Nat) : Int)) := hca
      replace hcb : wr.cell? ⟨gi, 11, none⟩ = some (.int .i64 0) := hcb
      replace hfb : wr.frozen? ⟨gi, 11, none⟩ = false := hfb
      clear x0 x1 x2 x3 x4
      have hrem : ((r : Int)).tmod 8 = 0 := by rw [Int.tmod_eq_emod_of_nonneg (by omega)]; omega
      have hset := hi.out.set_ 11 (.int .i64 (((k + s + u + d : Nat) : Int) + (r : Int)))
      replace hset := Lib.hid hset
      go_wp2
      go_region
      go_wp2
      go_roundw
      case rel => exact ⟨6, by omega, rfl, (hl.out.far (by simp; omega) _).drew, (hm.out.far (by simp; omega) _).drew, initStep hset.out.drew (by simp [initCells, newImg, Img.beg]), (hbl.out.setCell q0 _).drew⟩
      case measure => simp [RowKit.intOf]
    · clear x0 x1 x2 x3 x4 x5 hcl hcm hca hcb hfb
      have hc11 : wr.cell? ⟨gi, 11, none⟩ = some (.int .i64 ((k + s + u + d + r : Nat) : Int)) := by rw [hi.out.cell]; rfl
      have hc12 : wr.cell? ⟨gi, 12, none⟩ = some (.slice none 0 0) := by rw [hi.out.cell]; rfl
      have hf12 := hi.out.frozen 12
      obtain ⟨n, hn⟩ : ∃ n, k + s + u + d + r = n := ⟨_, rfl⟩
      rw [hn] at hc11
      have hmk := run_make_row' (P := Tryd.prog) 76 5 (.int .u8 0) 1 Tryd.underlying76 (by kernel_rfl) rfl .i64 .i64 n (by omega) (by omega) wr
      rw [made0] at hmk
      have hiA := hi.out.alloc (.cells (bcells (List.replicate n 0)).toArray 5)
      have hc12' : (wr.alloc (.cells (bcells (List.replicate n 0)).toArray 5)).cell? ⟨gi, 12, none⟩ = some (.slice none 0 0) := by rw [hiA.cell]; rfl
      have hf12' := hiA.frozen 12
      have hset := hiA.set_ 12 (.slice (some ⟨wr.heap.size, 0, none⟩) n n)
      have hne : gi ≠ wr.heap.size := by have := hi.out.lt; omega
      have hrow := (Blk.new wr 5 (bcells (List.replicate n 0)).toArray).far (p := ⟨gi, 12, none⟩) hne.symm (.slice (some ⟨wr.heap.size, 0, none⟩) n n)
      clear hne hiA
      replace hn := Lib.hid hn
      replace hset := Lib.hid hset
      replace hrow := Lib.hid hrow
      go_wp2
      go_ret2
      refine ⟨gi, wr.heap.size, rfl, q0, hbl.out.size, ⟨?_, ?_, newImg_ok hf'.out⟩, (hbl.out.alloc hbl.out.size _).setCell q0 _⟩
      · have hn := hn.out
        subst hn
        exact initStep hset.out rfl
      · have hn := hn.out
        subst hn
        exact hrow.out
theorem a_new {w0 w : World} {L : List Asr} (h : At w0 w L) (k s u d r : Nat) (hf : Fits k s u d r) : Calls Tryd.prog 52 #[layoutV k s u d r] w fun e w' => ∃ g, e = .returned (.tuple #[.pointer (some ⟨g, 0, none⟩), .int .i64 0]) ∧ At w0 w' (ImgA g (newImg k s u d r) :: L) := by
  refine (i_new k s u d r hf w).mono ?_
  rintro e w' ⟨g, gb, he, h1, h2, hr, hb⟩
  exact ⟨g, he, h.add (A := ImgA g (newImg k s u d r)) (F' := fun i => i = g ∨ i = gb) ⟨gb, hr, fun _ => Iff.rfl⟩ (Kept.ofBelow0 hb) (fun i hi => by rcases hi with rfl | rfl <;> assumption)⟩
end Go.Proofs.YtanpbphgmnjdeaaDoor
