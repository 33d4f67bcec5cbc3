/- Chapter 5: the document's Base, Unsigned, Print. Conditions: a base from 2 to 36 where digits are asked for. -/
import Derived.Test.YtngdikikclfgjaaGreatDoorZ07
import Derived.Lib.LaidTab
import Derived.Lib.Case
namespace Go.Proofs.YtngdikikclfgjaaGreatDoor
set_option linter.unusedVariables false
set_option linter.unusedSimpArgs false
open Go.RowKit Go.Lib
def DigRel(b u0:Nat)(R:List UInt8)(k:Nat)(l:List UInt8):Prop:=(l = []∧k=u0)∨(l≠[]∧((k=0∧l=R)∨(0<k∧digitsU b k++l=R)))
theorem DigRel.next{b u0:Nat}(hb:2<=b){R:List UInt8}{k:Nat}{l:List UInt8}(h:digitsU b k++l=R):DigRel b u0 R (k/b) (digC (k % b)::l):=by
 obtain⟨h1,h2⟩:=digits_step hb l R h
 refine .inr ⟨by simp,?_⟩
 rcases Nat.eq_zero_or_pos (k/b)with h0|h0
 ·exact .inl ⟨h0,h1 h0⟩
 ·exact .inr ⟨h0,h2 h0⟩
def digLC(k:Nat):UInt8:=UInt8.ofNat (if k<10 then 48+k else 87+k)
def digitsL(b u:Nat):List UInt8:=
 if h:u<b∨b<2 then [digLC u]else digitsL b (u/b)++ [digLC (u % b)]
termination_by u
decreasing_by exact Nat.div_lt_self (by omega) (by omega)
theorem digitsL_big{b u:Nat}(hb:2<=b)(h:b<=u):digitsL b u=digitsL b (u/b)++ [digLC (u % b)]:=by rw[digitsL,dif_neg (by omega)]
def dbTab:List Int:=[0,1,56,2,57,49,28,3,61,58,42,50,38,29,17,4,62,47,59,36,45,43,51,22,53,39,33,30,24,18,12,5,63,55,48,27,60,41,37,16,46,35,44,21,52,32,23,11,54,26,40,15,34,20,31,10,25,14,19,9,13,8,7,6]
def Bruijn(w:World):Prop:=Lib.TabIs Tryz.prog w "math/bits.deBruijn64tab" .u8 dbTab
theorem gBruijn:Tryz.prog.globalNamed "math/bits.deBruijn64tab" = some 9:=by kernel_rfl
theorem Bruijn.cell{w:World}(h:Bruijn w)(i:Nat)(hi:i<64):w.cell? ⟨9,i,none⟩=some (.int .u8 (dbTab.getD i 0)):=Lib.TabIs.cell h gBruijn i hi
end Go.Proofs.YtngdikikclfgjaaGreatDoor
