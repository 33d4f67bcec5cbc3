/- Chapter 5: strconv's digits by a base: plain words, and the small functions beneath. Conditions: as written. -/
import Derived.Test.YteaijdgnagkllaaGreatDoorZd04
import Derived.Lib.LaidTab
import Derived.Lib.Case
open Go.Proofs.Tryz
namespace Go.Proofs.YteaijdgnagkllaaGreatDoor
set_option linter.unusedVariables false
set_option linter.unusedSimpArgs false
open Go.RowKit Go.Lib
def digLC(k:Nat):UInt8:=UInt8.ofNat (if k<10 then 48+k else 87+k)
def digitsL(b u:Nat):List UInt8:=
 if h:u<b∨b<2 then [digLC u]else digitsL b (u/b)++ [digLC (u % b)]
termination_by u
decreasing_by exact Nat.div_lt_self oM oM
theorem digitsL_small{b u:Nat}(h:u<b):digitsL b u = [digLC u]:=by rw[digitsL,dif_pos (.inl h)]
theorem digitsL_big{b u:Nat}(hb:2<=b)(h:b<=u):digitsL b u=digitsL b (u/b)++ [digLC (u % b)]:=by rw[digitsL,dif_neg oM]
theorem digitsL_len(b u:Nat): (digitsL b u).length= (digitsU b u).length:=by
 induction u using Nat.strongRecOn with
 | ind u ih=>
   by_cases h:u<b∨b<2
   ·rw[digitsL,dif_pos h,digitsU,dif_pos h];rfl
   ·rw[digitsL,dif_neg h,digitsU,dif_neg h]
    simp[ih (u/b) (Nat.div_lt_self oM oM)]
theorem up_digit: ∀k:Fin 36,Lib.toUpperA [digLC k.val]= [digC k.val]:=by decide +kernel
theorem low_digit: ∀k:Fin 36,(digLC k.val).toNat<128:=by decide +kernel
theorem digitsL_up{b:Nat}(hb:2<=b)(h36:b<=36)(u:Nat):Lib.toUpperA (digitsL b u)=digitsU b u:=by
 induction u using Nat.strongRecOn with
 | ind u ih=>
   by_cases h:u<b
   ·rw[digitsL_small h,digitsU_small h]
    exact up_digit ⟨u,by omega⟩
   ·rw[digitsL_big hb oM,digitsU_big hb oM]
    have h1:=ih (u/b) (Nat.div_lt_self oM oM)
    have h2:=up_digit ⟨u % b,by have:=Nat.mod_lt u (show 0<b by omega);omega⟩
    unfold Lib.toUpperA at *
    rw[List.map_append,h1,h2]
theorem digitsL_low{b:Nat}(hb:2<=b)(h36:b<=36)(u:Nat): ∀c∈digitsL b u,c.toNat<128:=by
 induction u using Nat.strongRecOn with
 | ind u ih=>
   intro c hc
   by_cases h:u<b
   ·rw[digitsL_small h]at hc
    have:=low_digit ⟨u,by omega⟩
    simp at hc
    rw[hc];exact this
   ·rw[digitsL_big hb oM]at hc
    rcases List.mem_append.1 hc with hc|hc
    ·exact ih (u/b) (Nat.div_lt_self oM oM) c hc
    ·have:=low_digit ⟨u % b,by have:=Nat.mod_lt u (show 0<b by omega);omega⟩
     simp at hc
     rw[hc];exact this
def isP2(b:Nat):Bool:=b==2||b==4||b==8||b==16||b==32
theorem isP2_and: ∀b:Fin 37,2<=b.val->(bits BinOp.and IntKind.i64 (b.val:Int) ((b.val:Int) -1) ==0)=isP2 b.val:=by decide +kernel
theorem p2_walk(b:Nat)(h2:2<=b)(h36:b<=36)(w:World):Calls prog 173 #[(b:Int)] w (Same (.bool (isP2 b)) w):=by
 have h:=isP2_and ⟨b,by omega⟩ h2
 simp only at h
 go_enter func173,ntmps173
 go_wp2
 go_ret
 exact⟨by rw[<-h];rfl,rfl⟩
def dbTab:List Int:=[0,1,56,2,57,49,28,3,61,58,42,50,38,29,17,4,62,47,59,36,45,43,51,22,53,39,33,30,24,18,12,5,63,55,48,27,60,41,37,16,46,35,44,21,52,32,23,11,54,26,40,15,34,20,31,10,25,14,19,9,13,8,7,6]
def Bruijn(w:World):Prop:=Lib.TabIs prog w "math/bits.deBruijn64tab" .u8 dbTab
theorem gBruijn:prog.globalNamed "math/bits.deBruijn64tab" = some 6:=by kernel_rfl
theorem Bruijn.cell{w:World}(h:Bruijn w)(i:Nat)(hi:i<64):w.cell? ⟨6,i,none⟩=some (.int .u8 (dbTab.getD i 0)):=Lib.TabIs.cell h gBruijn i hi
def logP2(b:Nat):Nat:=if b=2 then 1 else if b=4 then 2 else if b=8 then 3 else if b=16 then 4 else 5
set_option maxRecDepth 100000 in
theorem tz_walk(b:Nat)(h:isP2 b=true)(w:World)(hB:Bruijn w):Calls prog 200 #[.int .u64 (b:Int)] w (Same ((logP2 b:Nat):Int) w):=by
 have hb:b=2∨b=4∨b=8∨b=16∨b=32:=by simpa [isP2,or_assoc]using h
 clear h
 rcases hb with rfl|rfl|rfl|rfl|rfl
 ·have c:=hB.cell 1 oM
  rw[show dbTab.getD 1 0=1 from rfl]at c
  have hz:IntKind.u64.wrap (bits BinOp.and IntKind.u64 2 (IntKind.u64.wrap (-2))*285870213051353865) /288230376151711744=1:=by decide +kernel
  replace hB:=hid hB
  go_enter func200,ntmps200
  go_wp2
  go_ret
  exact⟨rfl,rfl⟩
 ·have c:=hB.cell 3 oM
  rw[show dbTab.getD 3 0=2 from rfl]at c
  have hz:IntKind.u64.wrap (bits BinOp.and IntKind.u64 4 (IntKind.u64.wrap (-4))*285870213051353865) /288230376151711744=3:=by decide +kernel
  replace hB:=hid hB
  go_enter func200,ntmps200
  go_wp2
  go_ret
  exact⟨rfl,rfl⟩
 ·have c:=hB.cell 7 oM
  rw[show dbTab.getD 7 0=3 from rfl]at c
  have hz:IntKind.u64.wrap (bits BinOp.and IntKind.u64 8 (IntKind.u64.wrap (-8))*285870213051353865) /288230376151711744=7:=by decide +kernel
  replace hB:=hid hB
  go_enter func200,ntmps200
  go_wp2
  go_ret
  exact⟨rfl,rfl⟩
 ·have c:=hB.cell 15 oM
  rw[show dbTab.getD 15 0=4 from rfl]at c
  have hz:IntKind.u64.wrap (bits BinOp.and IntKind.u64 16 (IntKind.u64.wrap (-16))*285870213051353865) /288230376151711744=15:=by decide +kernel
  replace hB:=hid hB
  go_enter func200,ntmps200
  go_wp2
  go_ret
  exact⟨rfl,rfl⟩
 ·have c:=hB.cell 31 oM
  rw[show dbTab.getD 31 0=5 from rfl]at c
  have hz:IntKind.u64.wrap (bits BinOp.and IntKind.u64 32 (IntKind.u64.wrap (-32))*285870213051353865) /288230376151711744=31:=by decide +kernel
  replace hB:=hid hB
  go_enter func200,ntmps200
  go_wp2
  go_ret
  exact⟨rfl,rfl⟩
theorem tzu_walk(b:Nat)(h:isP2 b=true)(w:World)(hB:Bruijn w):Calls prog 174 #[.int .u64 (b:Int)] w (Same ((logP2 b:Nat):Int) w):=by
 have hw:=hid (tz_walk b h w hB)
 replace h:=hid h
 replace hB:=hid hB
 go_enter func174,ntmps174
 go_wp2_with (go_at_call 200;refine hw.out.mono ?_;rintro e w1 ⟨rfl,rfl⟩)
 go_ret
 exact⟨rfl,rfl⟩
end Go.Proofs.YteaijdgnagkllaaGreatDoor
