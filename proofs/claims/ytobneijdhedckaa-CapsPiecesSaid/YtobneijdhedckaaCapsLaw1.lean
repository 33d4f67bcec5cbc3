/- The small functions of the laws of chapter 9: shown, pick, made, alike. Conditions: as written in each theorem. -/
import Derived.Test.YtobneijdhedckaaCapsAt
namespace Go.Proofs.Ytobneijdhedckaa
set_option linter.unusedVariables false
open Go.RowKit Go.Lib

/-- which of n things -/
def pickI (c n : Int) : Int := (if c < 0 then -(c + 1) else c).tmod n
set_option maxHeartbeats 400000 in
theorem pick_any (c n : Int) (w : World) (hc : -9223372036854775808 ≤ c ∧ c ≤ 9223372036854775807) (hn : 0 < n ∧ n ≤ 9223372036854775807) :
    Calls Try.prog 15 #[.int .i64 c, .int .i64 n] w (Same (.int .i64 (pickI c n)) w) := by
  by_cases h : c < 0
  · have e : pickI c n = (-(c + 1)).tmod n := by unfold pickI; rw [if_pos h]
    rw [e]
    clear e
    go_enter Try.func15, Try.ntmps15
    go_wp2
    go_ret
    exact ⟨by rw [Int.neg_tmod]; rfl, rfl⟩
  · have e : pickI c n = c.tmod n := by unfold pickI; rw [if_neg h]
    rw [e]
    clear e
    go_enter Try.func15, Try.ntmps15
    go_wp2
    go_ret
    exact ⟨by rw [Int.tmod_eq_emod_of_nonneg (by omega)]; rfl, rfl⟩
theorem pickI_lt {c n : Int} (hn : 0 < n) : 0 ≤ pickI c n ∧ pickI c n < n := by
  unfold pickI
  have h0 : 0 ≤ (if c < 0 then -(c + 1) else c) := by split <;> omega
  rw [Int.tmod_eq_emod_of_nonneg h0]
  exact ⟨Int.emod_nonneg _ (by omega), Int.emod_lt_of_pos _ hn⟩

section
variable {w0 w : World} {g x : Nat} {S : Caps.Tab} {L : List Asr}

def True1 (w0 : World) (L : List Asr) (e : Ending) (w' : World) : Prop := e = .returned (.bool true) ∧ At w0 w' L

def shS0 : Caps.Tab := ⟨1, 3, ⟨#[97, 98, 10, 99, 100]⟩, ⟨#[]⟩, ⟨#[]⟩, 0, false⟩
def shS1 : Caps.Tab := ⟨1, 3, ⟨#[97, 98, 10, 99, 100]⟩, ⟨#[120, 121]⟩, ⟨#[]⟩, 0, false⟩
def shS2 : Caps.Tab := ⟨1, 3, ⟨#[97, 98, 10, 99, 100]⟩, ⟨#[120, 121, 122]⟩, ⟨#[]⟩, 0, false⟩
def shS3 : Caps.Tab := ⟨1, 3, ⟨#[99, 100]⟩, ⟨#[120, 121, 122]⟩, ⟨#[]⟩, 0, false⟩
def shS4 : Caps.Tab := ⟨1, 3, ⟨#[99, 100]⟩, ⟨#[120, 121, 122]⟩, ⟨#[]⟩, 7, true⟩
theorem sh_made : Caps.made 1 3 ⟨#[97, 98, 10, 99, 100]⟩ = shS0 := by kernel_rfl
theorem sh_1 : Caps.typE shS0 1 ⟨#[120, 121]⟩ = 0 ∧ Caps.typS shS0 1 ⟨#[120, 121]⟩ = shS1 := ⟨by kernel_rfl, by kernel_rfl⟩
theorem sh_2 : Caps.typE shS1 1 ⟨#[122, 119]⟩ = 12 ∧ Caps.typS shS1 1 ⟨#[122, 119]⟩ = shS2 := ⟨by kernel_rfl, by kernel_rfl⟩
theorem sh_3 : Caps.accE shS2 2 5 = 0 ∧ Caps.accB shS2 2 5 = ⟨#[97, 98]⟩ ∧ Caps.accS shS2 2 5 = shS3 := ⟨by kernel_rfl, by kernel_rfl, by kernel_rfl⟩
theorem sh_4 : Caps.keyB shS3 1 = 0 ∧ Caps.keyE shS3 1 = 11 ∧ Caps.keyS shS3 1 = shS3 := ⟨by kernel_rfl, by kernel_rfl, by kernel_rfl⟩
theorem sh_5 : Caps.sayE shS3 2 7 = 0 ∧ Caps.sayS shS3 2 7 = shS4 := ⟨by kernel_rfl, by kernel_rfl⟩
theorem two_le : (2 : Nat) ≤ maxLen := by unfold maxLen; omega

theorem sh_c1 (h : At w0 w (TabA g shS0 :: L)) : Calls Try.prog 17 #[.pointer (some ⟨g, 0, none⟩), .int .i64 1, .string ⟨#[120, 121]⟩] w (Got1 (.int .i64 0) (TabA g shS1) w0 L) := by
  have := t_typ h 1 ⟨#[120, 121]⟩ two_le
  rw [sh_1.1, sh_1.2] at this; exact this
theorem sh_c2 (h : At w0 w (TabA g shS1 :: L)) : Calls Try.prog 17 #[.pointer (some ⟨g, 0, none⟩), .int .i64 1, .string ⟨#[122, 119]⟩] w (Got1 (.int .i64 12) (TabA g shS2) w0 L) := by
  have := t_typ h 1 ⟨#[122, 119]⟩ two_le
  rw [sh_2.1, sh_2.2] at this; exact this
theorem sh_c3 (h : At w0 w (TabA g shS2 :: L)) : Calls Try.prog 22 #[.pointer (some ⟨g, 0, none⟩), .int .i64 2, .int .i64 5] w (Got1 (.tuple #[.string ⟨#[97, 98]⟩, .int .i64 0]) (TabA g shS3) w0 L) := by
  have := t_accept h 2 5
  rw [sh_3.1, sh_3.2.1, sh_3.2.2] at this; exact this
theorem sh_c4 (h : At w0 w (TabA g shS3 :: L)) : Calls Try.prog 20 #[.pointer (some ⟨g, 0, none⟩), .int .i64 1] w (Got1 (.tuple #[.int .u8 0, .int .i64 11]) (TabA g shS3) w0 L) := by
  have := t_key h 1
  rw [sh_4.1, sh_4.2.1, sh_4.2.2] at this; exact this
theorem sh_c5 (h : At w0 w (TabA g shS3 :: L)) : Calls Try.prog 25 #[.pointer (some ⟨g, 0, none⟩), .int .i64 2, .int .i64 7] w (Got1 (.int .i64 0) (TabA g shS4) w0 L) := by
  have := t_say h 2 7
  rw [sh_5.1, sh_5.2] at this; exact this

set_option maxHeartbeats 1000000 in
theorem shown_any (h : At w0 w L) : Calls Try.prog 9 #[] w (True1 w0 L) := by
  go_enter Try.func9, Try.ntmps9
  go_wp2_with fail
  refine (t_new h 1 3 _ (by decide)).mono ?_
  rintro e w1 ⟨g, rfl, h1⟩
  rw [sh_made] at h1
  clear h
  go_wp2_with fail
  refine (sh_c1 h1).mono ?_
  rintro e w2 ⟨rfl, h2⟩
  clear h1
  go_wp2_with fail
  refine (sh_c2 h2).mono ?_
  rintro e w3 ⟨rfl, h3⟩
  clear h2
  go_wp2_with fail
  refine (sh_c3 h3).mono ?_
  rintro e w4 ⟨rfl, h4⟩
  clear h3
  go_wp2_with fail
  refine (sh_c4 h4).mono ?_
  rintro e w5 ⟨rfl, h5⟩
  clear h4
  go_wp2_with fail
  refine (sh_c5 h5).mono ?_
  rintro e w6 ⟨rfl, h6⟩
  clear h5
  go_wp2_with fail
  refine (t_points h6).mono ?_
  rintro e w7 ⟨rfl, h7⟩
  clear h6
  have a1 := t_output h7
  have a2 := t_left h7
  simp only [shS4] at a1 a2 ⊢
  have A1 := Lib.hid a1
  have A2 := Lib.hid a2
  clear a1 a2
  go_wp2_with fail
  refine A1.out.mono ?_
  rintro e w8 ⟨rfl, rfl⟩
  go_wp2_with fail
  refine A2.out.mono ?_
  rintro e w8 ⟨rfl, rfl⟩
  go_wp2
  go_ret
  exact ⟨rfl, h7.tail⟩

set_option maxHeartbeats 1000000 in
theorem made_any (h : At w0 w L) (p r : Int) (s : ByteArray) (h0 : Caps.newErr p r s = 0) (hs : s.size ≤ 4096) : Calls Try.prog 16 #[.int .i64 p, .int .i64 r, .string s] w
    (fun e w' => ∃ g, e = .returned (.pointer (some ⟨g, 0, none⟩)) ∧ At w0 w' (TabA g (Caps.made p r s) :: L)) := by
  go_enter Try.func16, Try.ntmps16
  go_wp2_with fail
  refine (t_new h p r s h0).mono ?_
  rintro e w1 ⟨g, rfl, h1⟩
  have A1 := Lib.hid (t_output h1)
  have A2 := Lib.hid (t_log h1)
  have A3 := Lib.hid (t_left h1)
  simp only [Caps.made] at A1 A2 A3
  clear h
  go_wp2_with fail
  refine A1.out.mono ?_
  rintro e w8 ⟨rfl, rfl⟩
  go_wp2_with fail
  refine A2.out.mono ?_
  rintro e w8 ⟨rfl, rfl⟩
  go_wp2_with fail
  refine A3.out.mono ?_
  rintro e w8 ⟨rfl, rfl⟩
  go_wp2
  go_ret
  exact ⟨g, rfl, h1⟩

set_option maxHeartbeats 1000000 in
theorem alike_any (h : At w0 w (TabA g S :: RefA x S :: L)) : Calls Try.prog 12 #[.pointer (some ⟨g, 0, none⟩), .pointer (some ⟨x, 0, none⟩)] w (True1 w0 (TabA g S :: RefA x S :: L)) := by
  go_enter Try.func12, Try.ntmps12
  go_wp2_with fail
  refine (t_points h).mono ?_
  rintro e w1 ⟨rfl, h1⟩
  clear h
  have H := Lib.hid h1
  obtain ⟨c0, c1, c2, c3, c4, c5, c6⟩ := (RefA.rrep h1.swap).cells
  have hi : S.inp.size ≤ 4096 := (RefA.rrep h1.swap).ok.inp
  clear h1
  go_wp2
  go_quiet ((first | (go_at_call 18; exact Calls.quiet_of_same (t_output (H.out.drewN _))) | (go_at_call 19; exact Calls.quiet_of_same (t_log (H.out.drewN _))) | (go_at_call 21; exact Calls.quiet_of_same (t_left (H.out.drewN _)))))
  go_wp2
  go_ret
  exact ⟨rfl, H.out.drewN _⟩
end
end Go.Proofs.Ytobneijdhedckaa
