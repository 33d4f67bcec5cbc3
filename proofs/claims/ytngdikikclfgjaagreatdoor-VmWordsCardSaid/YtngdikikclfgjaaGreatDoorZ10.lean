/- Chapter 5: reading a number, on both sides. Conditions: as written. -/
import Derived.Test.YtngdikikclfgjaaGreatDoorZShelf
import Derived.Test.YtngdikikclfgjaaGreatDoorZ09
namespace Go.Proofs.YtngdikikclfgjaaGreatDoor
set_option linter.unusedVariables false
set_option linter.unusedSimpArgs false
open Go.RowKit Go.Lib
theorem size_data(s:ByteArray):s.data.toList.length=s.size:=by rw[Array.length_toList];rfl
def Pows(w:World):Prop:=Lib.TabIs Tryz.prog w "internal/strconv.uint64pow10" .u64 Lib.pow10Tab
theorem Pows.below{w w':World}(h:Pows w)(hb:Below w.heap.size w w'):Pows w':=(tabBelow_of_tabIs h) w' hb
theorem Bruijn.below{w w':World}(h:Bruijn w)(hb:Below w.heap.size w w'):Bruijn w':=(tabBelow_of_tabIs h) w' hb
end Go.Proofs.YtngdikikclfgjaaGreatDoor
