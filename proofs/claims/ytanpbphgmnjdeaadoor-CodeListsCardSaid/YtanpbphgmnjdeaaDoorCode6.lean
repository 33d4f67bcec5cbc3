/- Chapter 7: capital letters, as the document makes them. Conditions: the text is shorter than 2^45 bytes. -/
import Derived.Test.YtanpbphgmnjdeaaDoorCode5
import Derived.Test.YtanpbphgmnjdeaaDoorCode4b
import Derived.Test.YtanpbphgmnjdeaaDoorBytes
namespace Go.Proofs.YtanpbphgmnjdeaaDoor
set_option linter.unusedVariables false
open Go.RowKit Go.Lib

def Code.large (s : ByteArray) : ByteArray := ⟨(s.data.toList.map Code.upB).toArray⟩
theorem take_map_snoc (s : ByteArray) (f : UInt8 → UInt8) (j : Nat) (hj : j < s.size) : (s.data.toList.take (j + 1)).map f = (s.data.toList.take j).map f ++ [f (s.data.toList.getD j 0)] := by
  have h : j < s.data.toList.length := by rw [← Lib.size_eq]; exact hj
  rw [List.take_succ_eq_append_getElem h, List.map_append, List.getD_eq_getElem?_getD, List.getElem?_eq_getElem h]
  rfl

/-- what has been made of the first j bytes -/
def Code.pre (s : ByteArray) (j : Nat) : List UInt8 := (s.data.toList.take j).map Code.upB
theorem Code.pre_len (s : ByteArray) (j : Nat) : (Code.pre s j).length ≤ j := by unfold Code.pre; simp; omega
theorem Code.pre_all (s : ByteArray) (j : Nat) (h : ¬ j < s.size) : (⟨(Code.pre s j).toArray⟩ : ByteArray) = Code.large s := by
  unfold Code.pre Code.large
  rw [List.take_of_length_le (by rw [← Lib.size_eq]; omega)]

set_option maxRecDepth 100000 in
theorem large_walk (s : ByteArray) (hs : s.size < 35184372088832) (w : World) : Calls Tryd.prog 51 #[.string s] w fun e w' => e = .returned (.string (Code.large s)) ∧ Below w.heap.size w w' := by
  obtain ⟨iu, hiu, hux⟩ := Option.map_eq_some_iff.1 (show (Tryd.prog.info? 5).map (fun i => (i.zero, i.size, i.bytes)) = some (some (.int .u8 0), 1, 1) by kernel_rfl)
  simp only [Prod.mk.injEq] at hux
  obtain ⟨hz0, hz1, hz2⟩ := hux
  have hiu := Lib.hid hiu
  have hz0 := Lib.hid hz0
  have hz1 := Lib.hid hz1
  have hz2 := Lib.hid hz2
  go_enter Tryd.func51, Tryd.ntmps51
  go_wp2
  go_loopw [3, 4] (fun b i wr => ∃ j : Nat, j ≤ s.size ∧ i = .int .i64 j ∧ Own w.heap.size wr 5 b (Code.pre s j) ∧ Below w.heap.size w wr) (fun _ i _ => s.size - (RowKit.intOf i).toNat)
  case atStart => exact ⟨0, Nat.zero_le _, rfl, Own.nil _ _ _, Below.refl _ _⟩
  case round =>
    obtain ⟨j, hj, rfl, hown, hbl⟩ := hrel
    have hbs : w.heap.size ≤ wr.heap.size := hbl.size
    have hown := Lib.hid hown
    have hbl := Lib.hid hbl
    by_cases hlt : j < s.size
    · have hget := fun w => idx_str s j hlt w
      have htk : Code.pre s (j + 1) = Code.pre s j ++ [Code.upB (s.data.toList.getD j 0)] := take_map_snoc s Code.upB j hlt
      have htk := Lib.hid htk
      have hln := Code.pre_len s j
      have hup := Code.upB_nat (s.data.toList.getD j 0)
      obtain ⟨c, hc⟩ : ∃ c, s.data.toList.getD j 0 = c := ⟨_, rfl⟩
      rw [hc] at hget htk hup
      have hc := Lib.hid hc
      have h256 : (c.toNat : Int) < 256 := by have := c.toNat_lt; omega
      unfold Code.up at hup
      by_cases h : 97 ≤ (c.toNat : Int) ∧ (c.toNat : Int) ≤ 122
      all_goals
        first | rw [if_pos h] at hup | rw [if_neg h] at hup
        have hup := Lib.hid hup
        go_wp2_with (refine wpList_append_byte rfl (.tmp 23) (.tmp 25) 76 rfl w.heap.size 5 iu Tryd.underlying76 hiu.out hz0.out hz1.out hz2.out _ _ rfl _ hown.out _ (Code.upB c) ?_ rfl ?_ ?_ ?_)
        all_goals first
          | (rw [hup.out]; done)
          | omega
          | exact hbs
          | (intro v' w' h1 h2
             have h1 := Lib.hid h1
             have h2 := Lib.hid h2
             go_wp2
             go_roundw
             case rel => exact ⟨j + 1, by omega, by go_num, by rw [htk.out]; exact h1.out, hbl.out.trans h2.out⟩
             case measure => simp [RowKit.intOf]; omega)
    · have hcv : (convert 76 9 u3).run Tryd.prog wr = .ok (.string ⟨(Code.pre s j).toArray⟩) wr := hown.out.buf.to_string 76 9 Tryd.underlying76 Tryd.underlying5 Tryd.underlying9
      rw [Code.pre_all s j hlt] at hcv
      go_wp2
      go_ret
      exact ⟨rfl, hbl.out⟩
end Go.Proofs.YtanpbphgmnjdeaaDoor
