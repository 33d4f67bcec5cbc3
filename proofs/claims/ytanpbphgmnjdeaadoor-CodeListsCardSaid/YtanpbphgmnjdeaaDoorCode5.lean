/- Chapter 7: capital letters, as the program makes them (strings.Map). Conditions: the text is shorter than 2^45 bytes (the shelf's bound), the two tables of unicode/utf8 lie as their initialisers lay them. -/
import Derived.Test.YtanpbphgmnjdeaaDoorCode1
import Derived.Test.YtanpbphgmnjdeaaDoorShelf
import Derived.Test.YtanpbphgmnjdeaaDoorUpper
namespace Go.Proofs.YtanpbphgmnjdeaaDoor
set_option linter.unusedVariables false
open Go.RowKit Go.Lib

theorem up_walk (x : Nat) (hx : x ≤ 1114111) (w : World) : Calls Tryd.prog 79 #[.int .i32 (x : Int)] w (Same (.int .i32 (Code.up (x : Int))) w) := by
  by_cases h : 97 ≤ (x : Int) ∧ (x : Int) ≤ 122
  · have hr : Code.up (x : Int) = (x : Int) - 32 := if_pos h
    have hm : (x : Int) - 97 + 65 = (x : Int) - 32 := by omega
    rw [hr, ← hm]
    clear hr hm
    go_enter Tryd.func79, Tryd.ntmps79
    go_wp2
    all_goals go_ret
    all_goals exact ⟨rfl, rfl⟩
  · have hr : Code.up (x : Int) = (x : Int) := if_neg h
    rw [hr]
    clear hr
    go_enter Tryd.func79, Tryd.ntmps79
    go_wp2
    all_goals go_ret
    all_goals exact ⟨rfl, rfl⟩
theorem upper_walk (s : ByteArray) (hs : s.size < 35184372088832) (w : World) (hT : Lib.Utf8Tabs 4 5 w) :
    Calls Tryd.prog 50 #[.string s] w fun e w' => e = .returned (.string ⟨(Lib.mapD Code.up s.data.toList).toArray⟩) ∧ Below w.heap.size w w' := by
  have hM := Tryd.strings_Map_runes 79 #[] (enters_of Tryd.func79 (by kernel_rfl) rfl) Code.up s w hs (fun W x hx _ => (up_walk x hx W).mono fun e w' h => ⟨h.1, 0, h.2⟩) (fun x hx => by unfold Code.up; split <;> omega) hT
  have hM := Lib.hid hM
  go_enter Tryd.func50, Tryd.ntmps50
  go_wp2_with fail
  refine hM.out.mono ?_
  rintro e w1 ⟨rfl, hb⟩
  have hb := Lib.hid hb
  go_wp2
  go_ret
  exact ⟨rfl, hb.out⟩
end Go.Proofs.YtanpbphgmnjdeaaDoor
