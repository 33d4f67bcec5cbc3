/- The law CapsDenied: without its capability no pupil does anything. Conditions: as written. -/
import Derived.Test.YtobneijdhedckaaCapsPlays
namespace Go.Proofs.Ytobneijdhedckaa
set_option linter.unusedVariables false
open Go.RowKit Go.Lib LawF

theorem has_zero (c : Int) : Caps.has 0 1 c = false := by simp [Caps.has]
section
variable {w0 w : World} {g : Nat} {s : ByteArray} {L : List Asr}
theorem d_typ (h : At w0 w (TabA g (Caps.made 0 100 s) :: L)) (t : ByteArray) (ht : t.size ≤ maxLen) : Calls Try.prog 17 #[.pointer (some ⟨g, 0, none⟩), .int .i64 1, .string t] w (Got1 (.int .i64 11) (TabA g (Caps.made 0 100 s)) w0 L) := by
  have := t_typ h 1 t ht
  have e1 : Caps.typE (Caps.made 0 100 s) 1 t = 11 := by simp [Caps.typE, Caps.made, has_zero]
  have e2 : Caps.typS (Caps.made 0 100 s) 1 t = Caps.made 0 100 s := by simp [Caps.typS, Caps.made, has_zero]
  rw [e1, e2] at this; exact this
theorem d_emit (h : At w0 w (TabA g (Caps.made 0 100 s) :: L)) (b : Int) : Calls Try.prog 24 #[.pointer (some ⟨g, 0, none⟩), .int .i64 1, .int .u8 b] w (Got1 (.int .i64 11) (TabA g (Caps.made 0 100 s)) w0 L) := by
  have := t_emit h 1 b
  have e1 : Caps.typE (Caps.made 0 100 s) 1 (byteStr b) = 11 := by simp [Caps.typE, Caps.made, has_zero]
  have e2 : Caps.typS (Caps.made 0 100 s) 1 (byteStr b) = Caps.made 0 100 s := by simp [Caps.typS, Caps.made, has_zero]
  rw [e1, e2] at this; exact this
theorem d_key (h : At w0 w (TabA g (Caps.made 0 100 s) :: L)) : Calls Try.prog 20 #[.pointer (some ⟨g, 0, none⟩), .int .i64 1] w (Got1 (.tuple #[.int .u8 0, .int .i64 11]) (TabA g (Caps.made 0 100 s)) w0 L) := by
  have := t_key h 1
  have e0 : Caps.keyB (Caps.made 0 100 s) 1 = 0 := by simp [Caps.keyB, Caps.made, has_zero]
  have e1 : Caps.keyE (Caps.made 0 100 s) 1 = 11 := by simp [Caps.keyE, Caps.made, has_zero]
  have e2 : Caps.keyS (Caps.made 0 100 s) 1 = Caps.made 0 100 s := by simp [Caps.keyS, Caps.made, has_zero]
  rw [e0, e1, e2] at this; exact this
theorem d_accept (h : At w0 w (TabA g (Caps.made 0 100 s) :: L)) (n : Int) : Calls Try.prog 22 #[.pointer (some ⟨g, 0, none⟩), .int .i64 1, .int .i64 n] w (Got1 (.tuple #[.string ⟨#[]⟩, .int .i64 11]) (TabA g (Caps.made 0 100 s)) w0 L) := by
  have := t_accept h 1 n
  have e0 : Caps.accB (Caps.made 0 100 s) 1 n = ⟨#[]⟩ := by simp [Caps.accB, Caps.made, has_zero]
  have e1 : Caps.accE (Caps.made 0 100 s) 1 n = 11 := by simp [Caps.accE, Caps.made, has_zero]
  have e2 : Caps.accS (Caps.made 0 100 s) 1 n = Caps.made 0 100 s := by simp [Caps.accS, Caps.made, has_zero]
  rw [e0, e1, e2] at this; exact this
theorem d_say (h : At w0 w (TabA g (Caps.made 0 100 s) :: L)) (n : Int) : Calls Try.prog 25 #[.pointer (some ⟨g, 0, none⟩), .int .i64 1, .int .i64 n] w (Got1 (.int .i64 11) (TabA g (Caps.made 0 100 s)) w0 L) := by
  have := t_say h 1 n
  have e1 : Caps.sayE (Caps.made 0 100 s) 1 n = 11 := by simp [Caps.sayE, Caps.made, has_zero]
  have e2 : Caps.sayS (Caps.made 0 100 s) 1 n = Caps.made 0 100 s := by simp [Caps.sayS, Caps.made, has_zero]
  rw [e1, e2] at this; exact this
theorem d_last (h : At w0 w (TabA g (Caps.made 0 100 s) :: L)) : Calls Try.prog 25 #[.pointer (some ⟨g, 0, none⟩), .int .i64 2, .int .i64 100] w (Got1 (.int .i64 0) (TabA g ⟨0, 100, s, ⟨#[]⟩, ⟨#[]⟩, 100, true⟩) w0 L) := t_say h 2 100
end

set_option maxRecDepth 100000 in
set_option maxHeartbeats 2000000 in
theorem denied_any (s : ByteArray) (A : Option Addr) (n cap : Nat) (w : World) (hn : n ≤ maxLen) (hA : OpRow w A n) :
    Calls Try.prog 8 #[.string s, .slice A n cap] w fun e w' => e = .returned (.bool true) ∧ Below w.heap.size w w' := by
  unfold maxLen at hn
  by_cases hs : 4096 < s.size
  · go_enter Try.func8, Try.ntmps8
    go_wp2_with fail
    refine (shown_any (At.refl w)).mono ?_
    rintro e w1 ⟨rfl, h1⟩
    have H1 := Lib.hid h1
    clear h1
    go_wp2
    go_ret
    exact ⟨rfl, H1.out.below⟩
  · have HA := Lib.hid hA
    clear hA
    have h0 : Caps.newErr 0 100 s = 0 := by unfold Caps.newErr; rw [if_neg (by omega), if_neg hs]
    have h00 := Lib.hid h0
    clear h0
    have hs' : s.size ≤ 4096 := by omega
    clear hs
    go_enter Try.func8, Try.ntmps8
    go_wp2_with fail
    refine (shown_any (At.refl w)).mono ?_
    rintro e w1 ⟨rfl, h1⟩
    have H1 := Lib.hid h1
    clear h1
    go_wp2_with fail
    refine (made_any H1.out 0 100 s h00.out hs').mono ?_
    rintro e w2 ⟨g, rfl, h2⟩
    have H2 := Lib.hid h2
    clear h2
    go_wp2
    go_loopw [7] (fun i wr => ∃ (j : Nat), j ≤ n ∧ i = .int .i64 j ∧ At w wr [TabA g (Caps.made 0 100 s)]) (fun i _ => n - (RowKit.intOf i).toNat)
    case atStart => exact ⟨0, Nat.zero_le _, rfl, H2.out⟩
    case round =>
      obtain ⟨j, hj, rfl, hat⟩ := hrel
      have HT := Lib.hid hat
      clear hat
      by_cases hlt : j < n
      · obtain ⟨b, off, rfl, hcell⟩ := HA.out (by omega)
        obtain ⟨k, m, q, t, hk, hm, hq, ht, c0, c1, c2, c3⟩ := hcell j hlt
        replace c0 := HT.out.old c0
        replace c1 := HT.out.old c1
        replace c2 := HT.out.old c2
        replace c3 := HT.out.old c3
        clear hcell hm hq hk
        go_wp2_with fail
        have HB := Lib.hid (HT.out.box (opCells k m q t) 51).swap
        unfold opCells at HB
        generalize wr.alloc _ = wb at *
        generalize wr.heap.size = bx at *
        refine (d_emit HB.out _).mono ?_
        rintro e w3 ⟨rfl, h3⟩
        obtain ⟨d0, d1, d2, d3⟩ := box_cells h3.swap.blk
        have H3 := Lib.hid h3
        clear h3 HB
        go_wp2_with fail
        refine (d_typ H3.out t ht).mono ?_
        rintro e w4 ⟨rfl, h4⟩
        obtain ⟨e0, e1, e2, e3⟩ := box_cells h4.swap.blk
        have H4 := Lib.hid h4
        clear h4 H3 d0 d1 d2 d3
        go_wp2_with fail
        refine (d_key H4.out).mono ?_
        rintro e w5 ⟨rfl, h5⟩
        obtain ⟨d0, d1, d2, d3⟩ := box_cells h5.swap.blk
        have H5 := Lib.hid h5
        clear h5 H4 e0 e1 e2 e3
        go_wp2_with fail
        refine (d_accept H5.out q).mono ?_
        rintro e w6 ⟨rfl, h6⟩
        obtain ⟨e0, e1, e2, e3⟩ := box_cells h6.swap.blk
        have H6 := Lib.hid h6
        clear h6 H5 d0 d1 d2 d3
        go_wp2_with fail
        refine (d_say H6.out q).mono ?_
        rintro e w7 ⟨rfl, h7⟩
        have H7 := Lib.hid h7.swap.tail
        clear h7 H6 e0 e1 e2 e3
        go_wp2
        go_roundw
        case rel => exact ⟨j + 1, by omega, by go_num, H7.out⟩
        case measure => simp [RowKit.intOf]; omega
      · go_wp2_with fail
        refine (t_points HT.out).mono ?_
        rintro e w3 ⟨rfl, h3⟩
        have H3 := Lib.hid h3
        clear h3
        go_wp2_with fail
        refine (d_last H3.out).mono ?_
        rintro e w4 ⟨rfl, h4⟩
        have H4 := Lib.hid h4
        clear h4
        go_wp2_with fail
        refine (t_points H4.out).mono ?_
        rintro e w5 ⟨rfl, h5⟩
        have H5 := Lib.hid h5
        have A1 := Lib.hid (t_output h5)
        have A2 := Lib.hid (t_log h5)
        have A3 := Lib.hid (t_left h5)
        clear h5
        simp only at A1 A2 A3
        go_wp2_with fail
        refine A1.out.mono ?_
        rintro e w6 ⟨rfl, rfl⟩
        go_wp2_with fail
        refine A2.out.mono ?_
        rintro e w6 ⟨rfl, rfl⟩
        go_wp2_with fail
        refine A3.out.mono ?_
        rintro e w6 ⟨rfl, rfl⟩
        go_wp2
        go_ret
        exact ⟨rfl, H5.out.below⟩
end Go.Proofs.Ytobneijdhedckaa
