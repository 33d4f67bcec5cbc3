/- The plain specification of chapter 7 (code): one for the program and for the document's answer. No condition. -/
import Derived.Test.YtanpbphgmnjdeaaDoorMem
namespace Go.Proofs.YtanpbphgmnjdeaaDoor
set_option linter.unusedVariables false
namespace Code

def isAddr (op : Int) : Bool := op == 3 || op == 4 || op == 5 || op == 7 || op == 8 || op == 9 || op == 17
def form (op : Int) : Int := if isAddr op then 1 else if op == 19 then 2 else if op == 20 then 3 else 0
/-- what may go with an operation -/
def argOk (op a : Int) : Bool :=
  if isAddr op then decide (-36028797018963968 ≤ a) && decide (a < 36028797018963968)
  else if op == 19 then decide (0 ≤ a) && decide (a < 36028797018963968)
  else if op == 20 then decide (1 ≤ a) && decide (a ≤ 36) else a == 0
def inOps (op : Int) : Bool := decide (1 ≤ op) && decide (op ≤ 106)
def right (op a : Int) : Bool := inOps op && argOk op a
def pack (op a : Int) : Int := if right op a then 256 * a + op else 0
def unOp (v : Int) : Int := v % 256
def unArg (v : Int) : Int := v / 256
def unpack (v : Int) : Int × Int × Bool := if right (unOp v) (unArg v) then (unOp v, unArg v, true) else (0, 0, false)
end Code
end Go.Proofs.YtanpbphgmnjdeaaDoor
