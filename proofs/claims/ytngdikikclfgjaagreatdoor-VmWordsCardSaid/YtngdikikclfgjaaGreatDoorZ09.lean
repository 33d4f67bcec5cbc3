/- Chapter 5: strconv's formatBits. Conditions: a base from 2 to 36 that is not 10; the table of trailing zeros. -/
import Derived.Test.YtngdikikclfgjaaGreatDoorZ08
import Derived.Test.YtngdikikclfgjaaGreatDoorZ03
import Derived.Deep.DeepCutAuto
import Derived.Deep.CutBlock
import Derived.Lib.AppendIntMem
namespace Go.Proofs.YtngdikikclfgjaaGreatDoor
set_option linter.unusedVariables false
set_option linter.unusedSimpArgs false
open Go.RowKit Go.Lib
def arrL(i:Nat)(l:List UInt8):List UInt8:=List.replicate i 0++l
theorem Blk.zero{w:World}{g:Nat}{t:TypeId}{i:Nat}{l:List UInt8}(h:Blk w g t (bcells (arrL (i+1) l)).toArray):w.cell? (g,i)=some (.int .u8 0):=by
 rw[h.cell i]
 simp[bcells,arrL]
 rw[List.getElem?_append_left (by simp)]
 simp
def FmtRel(b:Nat)(R:List UInt8)(k:Nat)(i:Nat)(l:List UInt8):Prop:=i+l.length=65∧digitsL b k++l=R
theorem FmtRel.next{b:Nat}{R:List UInt8}{k i:Nat}{l:List UInt8}(hb:2<=b)(h:FmtRel b R k (i+1) l)(hk:b<=k):FmtRel b R (k/b) i (digLC (k % b)::l):=by
 refine⟨by have:=h.1;simp;omega,?_⟩
 rw[<-h.2,digitsL_big hb hk]
 simp
end Go.Proofs.YtngdikikclfgjaaGreatDoor
