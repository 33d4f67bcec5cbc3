/- The laws of chapter 9: one call of both tables. Conditions: as written in each theorem. -/
import Derived.Test.YtobneijdhedckaaCapsLaw1
import Derived.Deep.RegionHeld3
namespace Go.Proofs.Ytobneijdhedckaa
set_option linter.unusedVariables false
open Go.RowKit Go.Lib

section
variable {w0 w : World} {g x : Nat} {S : Caps.Tab} {L : List Asr}

/-- the table behind one call -/
def playS (S : Caps.Tab) (k m n : Int) (s : ByteArray) : Caps.Tab :=
  if pickI k 6 = 0 then Caps.typS S m (byteStr (IntKind.u8.wrap n)) else if pickI k 6 = 1 then Caps.typS S m s else if pickI k 6 = 2 then Caps.keyS S m
  else if pickI k 6 = 3 ∨ pickI k 6 = 4 then Caps.accS S m n else Caps.sayS S m n

def opCells (k m n : Int) (s : ByteArray) : Array Value := #[.int .i64 k, .int .i64 m, .int .i64 n, .string s]
theorem box_cells {b : Nat} {k m n : Int} {s : ByteArray} {w : World} (h : Blk w b 51 (opCells k m n s)) :
    w.cell? ⟨b, 0, none⟩ = some (.int .i64 k) ∧ w.cell? ⟨b, 1, none⟩ = some (.int .i64 m) ∧ w.cell? ⟨b, 2, none⟩ = some (.int .i64 n) ∧ w.cell? ⟨b, 3, none⟩ = some (.string s) :=
  ⟨h.cell 0, h.cell 1, h.cell 2, h.cell 3⟩

theorem conv_byte (b : Int) (w : World) : (convert 59 9 (.slice (some ⟨w.heap.size, 0, none⟩) 1 1)).run Try.prog (w.alloc (.cells #[.int .u8 b] 5)) = .ok (.string (byteStr b)) (w.alloc (.cells #[.int .u8 b] 5)) :=
  run_convert_bytes_arg (P := Try.prog) (w.alloc (.cells #[.int .u8 b] 5)) 59 5 Try.underlying59 Try.underlying5 w.heap.size 0 1 1 [b] rfl
    (fun i hi => by obtain rfl : i = 0 := by omega
                    simp) 9 Try.underlying9
theorem conv_at (b : Int) (g : Nat) (w : World) (h : Blk w g 5 #[.int .u8 b]) : (convert 59 9 (.slice (some ⟨g, 0, none⟩) 1 1)).run Try.prog w = .ok (.string (byteStr b)) w :=
  run_convert_bytes_arg (P := Try.prog) w 59 5 Try.underlying59 Try.underlying5 g 0 1 1 [b] rfl
    (fun i hi => by obtain rfl : i = 0 := by omega
                    exact h.cell 0) 9 Try.underlying9
theorem byteStr_size (b : Int) : (byteStr b).size ≤ maxLen := by unfold maxLen; show 1 ≤ _; omega

set_option maxHeartbeats 4000000 in
theorem play_any (h : At w0 w (TabA g S :: RefA x S :: L)) (k m n : Int) (s : ByteArray) (hk : -9223372036854775808 ≤ k ∧ k ≤ 9223372036854775807) (hs : s.size ≤ maxLen) :
    Calls Try.prog 23 #[.pointer (some ⟨g, 0, none⟩), .pointer (some ⟨x, 0, none⟩), .agg (opCells k m n s)] w (True1 w0 (TabA g (playS S k m n s) :: RefA x (playS S k m n s) :: L)) := by
  have hp := pickI_lt (c := k) (n := 6) (by omega)
  have hb := (h.box (opCells k m n s) 51).rot3.rot3
  obtain ⟨c0, c1, c2, c3⟩ := box_cells hb.rot3.blk
  have H := Lib.hid hb
  have HP := Lib.hid (pick_any k 6 (w.alloc (.cells (opCells k m n s) 51)) hk (by omega))
  have hcase : pickI k 6 = 0 ∨ pickI k 6 = 1 ∨ pickI k 6 = 2 ∨ pickI k 6 = 3 ∨ pickI k 6 = 4 ∨ pickI k 6 = 5 := by omega
  clear hb h hp
  rcases hcase with q | q | q | q | q | q
  · have e : playS S k m n s = Caps.typS S m (byteStr (IntKind.u8.wrap n)) := by unfold playS; rw [if_pos q]
    rw [e]
    rw [q] at HP
    clear q e
    unfold opCells at *
    go_enter Try.func23, Try.ntmps23
    go_wp2_with fail
    refine HP.out.mono ?_
    rintro e w1 ⟨rfl, rfl⟩
    go_wp2_with fail
    generalize w.alloc _ = wb at *
    generalize w.heap.size = b at *
    clear HP
    have hcv := conv_byte (IntKind.u8.wrap n)
    have hcv0 := conv_at (IntKind.u8.wrap n) wb.heap.size (wb.alloc (.cells #[.int .u8 (IntKind.u8.wrap n)] 5)).drew (Blk.new _ _ _)
    go_region_held (fun w' => w'.cell? ⟨b, 1, none⟩ = some (.int .i64 m) ∧ w'.cell? ⟨b, 2, none⟩ = some (.int .i64 n))
      (first
        | go_keep
        | exact ⟨hB.2.1, hB.2.2.1⟩
        | exact ⟨hB2.2.1, hB2.2.2.1⟩)
      (first
        | (go_at_call 24; refine (t_emit H.out.drew m (IntKind.u8.wrap n)).mono ?_; rintro e w1 ⟨rfl, h1⟩; have hB := box_cells h1.rot3.blk; have h1' := h1.swap)
        | (go_at_call 24; refine (t_emit ((H.out.drew.box #[.int .u8 (IntKind.u8.wrap n)] 5).swap) m (IntKind.u8.wrap n)).mono ?_; rintro e w1 ⟨rfl, h1⟩; have hB := box_cells h1.rot4.blk; have hcv1 := conv_at (IntKind.u8.wrap n) wb.heap.size w1 h1.swap.blk; have h1' := At.drop3 h1.rot3)
        | (go_at_call 28; refine (r_typ h1' m (byteStr (IntKind.u8.wrap n)) (byteStr_size _)).mono ?_; rintro e w2 ⟨rfl, h2⟩; have hB2 := box_cells h2.rot3.blk)
        | (go_at_call 28; refine (r_typ (h1'.alloc _) m (byteStr (IntKind.u8.wrap n)) (byteStr_size _)).mono ?_; rintro e w2 ⟨rfl, h2⟩; have hB2 := box_cells h2.rot3.blk))
    all_goals
      go_wp2
      go_ret
      exact ⟨by simp, At.drop3 h2.swap⟩
  · have e : playS S k m n s = Caps.typS S m s := by unfold playS; rw [if_neg (by omega), if_pos q]
    rw [e]
    clear e
    rw [q] at HP
    clear q
    unfold opCells at *
    go_enter Try.func23, Try.ntmps23
    go_wp2_with fail
    refine HP.out.mono ?_
    rintro e w1 ⟨rfl, rfl⟩
    go_wp2_with fail
    generalize w.alloc _ = wb at *
    generalize w.heap.size = b at *
    clear HP
    go_region_held3 (fun w' => w'.cell? ⟨b, 1, none⟩ = some (.int .i64 m) ∧ w'.cell? ⟨b, 3, none⟩ = some (.string s))
      (first
        | go_keep
        | exact ⟨hB.2.1, hB.2.2.2⟩
        | exact ⟨hB2.2.1, hB2.2.2.2⟩)
      (first
        | (go_at_call 17; refine (t_typ H.out.drew m s hs).mono ?_; rintro e w1 ⟨rfl, h1⟩; have hB := box_cells h1.rot3.blk; have h1' := h1.swap)
        | (go_at_call 28; refine (r_typ h1' m s hs).mono ?_; rintro e w2 ⟨rfl, h2⟩; have hB2 := box_cells h2.rot3.blk))
    all_goals
      go_wp2
      go_ret
      exact ⟨by simp, At.drop3 h2.swap⟩
  · have e : playS S k m n s = Caps.keyS S m := by unfold playS; rw [if_neg (by omega), if_neg (by omega), if_pos q]
    rw [e]
    clear e
    rw [q] at HP
    clear q
    unfold opCells at *
    go_enter Try.func23, Try.ntmps23
    go_wp2_with fail
    refine HP.out.mono ?_
    rintro e w1 ⟨rfl, rfl⟩
    generalize w.alloc _ = wb at *
    generalize w.heap.size = b at *
    clear HP
    go_wp2_with fail
    refine (t_key H.out m).mono ?_
    rintro e w1 ⟨rfl, h1⟩
    obtain ⟨d0, d1, d2, d3⟩ := box_cells h1.rot3.blk
    have H1 := Lib.hid h1
    clear h1 H c0 c1 c2 c3
    go_wp2_with fail
    refine (r_key H1.out.swap m).mono ?_
    rintro e w2 ⟨rfl, h2⟩
    clear H1 d0 d1 d2 d3
    have H2 := Lib.hid h2
    clear h2
    go_wp2
    go_ret
    exact ⟨by simp, At.drop3 H2.out.swap⟩
  · have e : playS S k m n s = Caps.accS S m n := by unfold playS; rw [if_neg (by omega), if_neg (by omega), if_neg (by omega), if_pos (by omega)]
    rw [e]
    clear e
    rw [q] at HP
    clear q
    unfold opCells at *
    go_enter Try.func23, Try.ntmps23
    go_wp2_with fail
    refine HP.out.mono ?_
    rintro e w1 ⟨rfl, rfl⟩
    generalize w.alloc _ = wb at *
    generalize w.heap.size = b at *
    clear HP
    go_wp2_with fail
    refine (t_accept H.out m n).mono ?_
    rintro e w1 ⟨rfl, h1⟩
    obtain ⟨d0, d1, d2, d3⟩ := box_cells h1.rot3.blk
    have H1 := Lib.hid h1
    clear h1 H c0 c1 c2 c3
    go_wp2_with fail
    refine (r_accept H1.out.swap m n).mono ?_
    rintro e w2 ⟨rfl, h2⟩
    clear H1 d0 d1 d2 d3
    have H2 := Lib.hid h2
    clear h2
    go_wp2
    go_ret
    exact ⟨by simp, At.drop3 H2.out.swap⟩
  · have e : playS S k m n s = Caps.accS S m n := by unfold playS; rw [if_neg (by omega), if_neg (by omega), if_neg (by omega), if_pos (by omega)]
    rw [e]
    clear e
    rw [q] at HP
    clear q
    unfold opCells at *
    go_enter Try.func23, Try.ntmps23
    go_wp2_with fail
    refine HP.out.mono ?_
    rintro e w1 ⟨rfl, rfl⟩
    generalize w.alloc _ = wb at *
    generalize w.heap.size = b at *
    clear HP
    go_wp2_with fail
    refine (t_accept H.out m n).mono ?_
    rintro e w1 ⟨rfl, h1⟩
    obtain ⟨d0, d1, d2, d3⟩ := box_cells h1.rot3.blk
    have H1 := Lib.hid h1
    clear h1 H c0 c1 c2 c3
    go_wp2_with fail
    refine (r_accept H1.out.swap m n).mono ?_
    rintro e w2 ⟨rfl, h2⟩
    clear H1 d0 d1 d2 d3
    have H2 := Lib.hid h2
    clear h2
    go_wp2
    go_ret
    exact ⟨by simp, At.drop3 H2.out.swap⟩
  · have e : playS S k m n s = Caps.sayS S m n := by unfold playS; rw [if_neg (by omega), if_neg (by omega), if_neg (by omega), if_neg (by omega)]
    rw [e]
    clear e
    rw [q] at HP
    clear q
    unfold opCells at *
    go_enter Try.func23, Try.ntmps23
    go_wp2_with fail
    refine HP.out.mono ?_
    rintro e w1 ⟨rfl, rfl⟩
    go_wp2_with fail
    generalize w.alloc _ = wb at *
    generalize w.heap.size = b at *
    clear HP
    go_region_held3 (fun w' => w'.cell? ⟨b, 1, none⟩ = some (.int .i64 m) ∧ w'.cell? ⟨b, 2, none⟩ = some (.int .i64 n))
      (first
        | go_keep
        | exact ⟨hB.2.1, hB.2.2.1⟩
        | exact ⟨hB2.2.1, hB2.2.2.1⟩)
      (first
        | (go_at_call 25; refine (t_say H.out.drew m n).mono ?_; rintro e w1 ⟨rfl, h1⟩; have hB := box_cells h1.rot3.blk; have h1' := h1.swap)
        | (go_at_call 31; refine (r_say h1' m n).mono ?_; rintro e w2 ⟨rfl, h2⟩; have hB2 := box_cells h2.rot3.blk))
    all_goals
      go_wp2
      go_ret
      exact ⟨by simp, At.drop3 h2.swap⟩
end
end Go.Proofs.Ytobneijdhedckaa
