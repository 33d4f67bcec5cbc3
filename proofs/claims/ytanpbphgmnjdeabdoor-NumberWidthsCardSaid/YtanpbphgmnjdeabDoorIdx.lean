/- A string's byte at an index, run. No condition. -/
import Derived.Test.YtanpbphgmnjdeabDoorMem
namespace Go.Proofs.YtanpbphgmnjdeabDoor
set_option linter.unusedVariables false
open Go.RowKit Go.Lib
theorem idx_str (s : ByteArray) (i : Nat) (hi : i < s.size) (w : World) : (Instr.index 9 (.string s) (.int .i64 (i : Int))).run Tryd.prog w = .ok (.int .u8 ((s.data.toList.getD i 0).toNat : Int)) w := by
  rw [run_index_string w _ s .i64 (i : Int) Tryd.underlying9, dif_pos ⟨by omega, by omega⟩]
  have h2 : i < s.data.toList.length := by rw [← Lib.size_eq]; exact hi
  congr 4
  rw [List.getD_eq_getElem?_getD, List.getElem?_eq_getElem h2]
  rfl
end Go.Proofs.YtanpbphgmnjdeabDoor
