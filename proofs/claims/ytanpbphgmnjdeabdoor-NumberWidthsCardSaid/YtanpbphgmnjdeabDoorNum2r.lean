/- Chapter 5: reading a number, the document's. Conditions: as written. -/
import Derived.Test.YtanpbphgmnjdeabDoorNum2
namespace Go.Proofs.YtanpbphgmnjdeabDoor
set_option linter.unusedVariables false
open Go.RowKit Go.Lib
end Go.Proofs.YtanpbphgmnjdeabDoor
