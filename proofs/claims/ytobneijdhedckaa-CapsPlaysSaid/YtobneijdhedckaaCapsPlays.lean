/- The law CapsPlays: any calls of both tables answer alike. Conditions: as written. -/
import Derived.Test.YtobneijdhedckaaCapsLaw2
import Derived.Test.YtobneijdhedckaaFrame
namespace Go.Proofs.Ytobneijdhedckaa
set_option linter.unusedVariables false
open Go.RowKit Go.Lib LawF

/-- a slice of calls -/
def OpRow (w : World) (A : Option Addr) (n : Nat) : Prop :=
  0 < n → ∃ b off, A = some ⟨b, off, none⟩ ∧ ∀ i, i < n → ∃ (k m q : Int) (t : ByteArray), i64ok k ∧ i64ok m ∧ i64ok q ∧ t.size ≤ maxLen ∧
    w.cell? ⟨b, off + i * 4, none⟩ = some (.int .i64 k) ∧ w.cell? ⟨b, off + i * 4 + 1, none⟩ = some (.int .i64 m) ∧ w.cell? ⟨b, off + i * 4 + 2, none⟩ = some (.int .i64 q) ∧ w.cell? ⟨b, off + i * 4 + 3, none⟩ = some (.string t)

theorem arg_ops {H : Type} {enc : TypeId × Value → H} {w : World} {base : Nat} {v : Value} {d : DataW H} {ps : List MemPlace} (hval : Value.okWide Try.prog w .any base 48 v) (hd : DataW.Trod enc Try.prog w 0 (fun _ => true) true 48 v d ps) :
    ∃ (A : Option Addr) (n cap : Nat), v = .slice A n cap ∧ n ≤ cap ∧ cap ≤ maxLen ∧ OpRow w A n := by
  obtain ⟨A, n, cap, rfl, h1, h2, h3⟩ := arg_structs Try.underlying48 Try.underlying51 (by kernel_rfl) (by kernel_rfl) hval hd
  refine ⟨A, n, cap, rfl, h1, h2, fun hn => ?_⟩
  obtain ⟨a, rfl, h4⟩ := h3 hn
  have get : ∀ i, i < n → ∃ (k m q : Int) (t : ByteArray), i64ok k ∧ i64ok m ∧ i64ok q ∧ t.size ≤ maxLen ∧
      w.cell? (a.add (i * 4 + 0)) = some (.int .i64 k) ∧ w.cell? (a.add (i * 4 + 1)) = some (.int .i64 m) ∧ w.cell? (a.add (i * 4 + 2)) = some (.int .i64 q) ∧ w.cell? (a.add (i * 4 + 3)) = some (.string t) := by
    intro i hi
    obtain ⟨u0, y0, m0, e0, t0⟩ := h4 i hi 0 _ rfl
    obtain ⟨u1, y1, m1, e1, t1⟩ := h4 i hi 1 _ rfl
    obtain ⟨u2, y2, m2, e2, t2⟩ := h4 i hi 2 _ rfl
    obtain ⟨u3, y3, m3, e3, t3⟩ := h4 i hi 3 _ rfl
    obtain ⟨k, q0, -, w0⟩ := DataW.trod_int Try.underlying3 t0
    obtain ⟨m, q1, -, w1⟩ := DataW.trod_int Try.underlying3 t1
    obtain ⟨q, q2, -, w2⟩ := DataW.trod_int Try.underlying3 t2
    obtain ⟨t, q3, -, w3⟩ := DataW.trod_string Try.underlying9 t3
    simp only [List.cons.injEq, and_true] at q0 q1 q2 q3
    subst q0; subst q1; subst q2; subst q3
    exact ⟨k, m, q, t, i64ok_of w0, i64ok_of w1, i64ok_of w2, w3, e0, e1, e2, e3⟩
  obtain ⟨_, _, _, _, _, _, _, _, hc, _⟩ := get 0 hn
  obtain ⟨b, off, spot⟩ := a
  have hspot : spot = none := by simpa [Addr.add] using World.cell?_spot hc
  subst hspot
  refine ⟨b, off, rfl, fun i hi => ?_⟩
  obtain ⟨k, m, q, t, a1, a2, a3, a4, e0, e1, e2, e3⟩ := get i hi
  rw [Go.WideShapes.add_plain] at e0 e1 e2 e3
  exact ⟨k, m, q, t, a1, a2, a3, a4, e0, by rw [Nat.add_assoc]; exact e1, by rw [Nat.add_assoc]; exact e2, by rw [Nat.add_assoc]; exact e3⟩

set_option maxHeartbeats 1000000 in
theorem plays_bad (p r : Int) (s : ByteArray) (A : Option Addr) (n cap : Nat) (w : World) (h0 : Caps.newErr p r s ≠ 0) :
    Calls Try.prog 7 #[.int .i64 p, .int .i64 r, .string s, .slice A n cap] w fun e w' => e = .returned (.bool true) ∧ Below w.heap.size w w' := by
  have hE : (Caps.newErr p r s == 0) = false := by simpa using h0
  have hE' : (Caps.newErr p r s != 0) = true := by simpa using h0
  go_enter Try.func7, Try.ntmps7
  go_wp2_with fail
  refine (shown_any (At.refl w)).mono ?_
  rintro e w1 ⟨rfl, h1⟩
  have H1 := Lib.hid h1
  clear h1
  go_wp2_with fail
  refine (t_new_bad p r s w1 h0).mono ?_
  rintro e w2 ⟨rfl, rfl⟩
  go_wp2_with fail
  refine (r_new_bad p r s w2 h0).mono ?_
  rintro e w3 ⟨rfl, rfl⟩
  go_wp2
  go_ret
  exact ⟨by simp, H1.out.below⟩

set_option maxHeartbeats 2000000 in
theorem plays_ok (p r : Int) (s : ByteArray) (A : Option Addr) (n cap : Nat) (w : World) (h0 : Caps.newErr p r s = 0) (hn : n ≤ maxLen) (hA : OpRow w A n) :
    Calls Try.prog 7 #[.int .i64 p, .int .i64 r, .string s, .slice A n cap] w fun e w' => e = .returned (.bool true) ∧ Below w.heap.size w w' := by
  unfold maxLen at hn
  have HA := Lib.hid hA
  clear hA
  go_enter Try.func7, Try.ntmps7
  go_wp2_with fail
  refine (shown_any (At.refl w)).mono ?_
  rintro e w1 ⟨rfl, h1⟩
  have H1 := Lib.hid h1
  clear h1
  go_wp2_with fail
  refine (t_new H1.out p r s h0).mono ?_
  rintro e w2 ⟨g, rfl, h2⟩
  have H2 := Lib.hid h2
  clear h2
  go_wp2_with fail
  refine (r_new H2.out p r s h0).mono ?_
  rintro e w3 ⟨x, rfl, h3⟩
  have H3 := Lib.hid h3
  clear h3
  go_wp2
  go_loopw [14] (fun i wr => ∃ (j : Nat) (S : Caps.Tab), j ≤ n ∧ i = .int .i64 j ∧ At w wr [TabA g S, RefA x S]) (fun i _ => n - (RowKit.intOf i).toNat)
  case atStart => exact ⟨0, _, Nat.zero_le _, rfl, H3.out.swap⟩
  case round =>
    obtain ⟨j, S, hj, rfl, hat⟩ := hrel
    have HT := Lib.hid hat
    clear hat
    by_cases hlt : j < n
    · obtain ⟨b, off, rfl, hcell⟩ := HA.out (by omega)
      obtain ⟨k, m, q, t, hk, hm, hq, ht, c0, c1, c2, c3⟩ := hcell j hlt
      replace c0 := HT.out.old c0
      replace c1 := HT.out.old c1
      replace c2 := HT.out.old c2
      replace c3 := HT.out.old c3
      clear hcell hm hq
      go_wp2_with fail
      refine (play_any HT.out k m q t hk ht).mono ?_
      rintro e w4 ⟨rfl, h4⟩
      have H4 := Lib.hid h4
      clear h4 c0 c1 c2 c3
      go_wp2_with fail
      refine (alike_any H4.out).mono ?_
      rintro e w5 ⟨rfl, h5⟩
      have H5 := Lib.hid h5
      clear h5
      go_wp2
      go_roundw
      case rel => exact ⟨j + 1, _, by omega, by go_num, H5.out⟩
      case measure => simp [RowKit.intOf]; omega
    · go_wp2
      go_ret
      exact ⟨rfl, HT.out.below⟩

theorem plays_any (p r : Int) (s : ByteArray) (A : Option Addr) (n cap : Nat) (w : World) (hn : n ≤ maxLen) (hA : OpRow w A n) :
    Calls Try.prog 7 #[.int .i64 p, .int .i64 r, .string s, .slice A n cap] w fun e w' => e = .returned (.bool true) ∧ Below w.heap.size w w' := by
  by_cases h0 : Caps.newErr p r s = 0
  · exact plays_ok p r s A n cap w h0 hn hA
  · exact plays_bad p r s A n cap w h0
end Go.Proofs.Ytobneijdhedckaa
