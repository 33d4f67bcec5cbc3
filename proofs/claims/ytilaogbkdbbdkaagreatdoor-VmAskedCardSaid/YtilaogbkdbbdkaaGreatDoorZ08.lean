/- Chapter 5. Conditions: as written. -/
import Derived.Test.YtilaogbkdbbdkaaGreatDoorOm
import Derived.Test.YtilaogbkdbbdkaaGreatDoorZ07
import Derived.Lib.LaidTab
import Derived.Lib.Case
open Go.Proofs.Tryz
namespace Go.Proofs.YtilaogbkdbbdkaaGreatDoor
set_option linter.unusedVariables false
open Go.RowKit Go.Lib
def JC(b u0:Nat)(R:List UInt8)(k:Nat)(l:List UInt8):Prop:=(l = []∧k=u0)∨(l≠[]∧((k=0∧l=R)∨(0<k∧cd b k++l=R)))
theorem JC.next{b u0:Nat}(hb:2<=b){R:List UInt8}{k:Nat}{l:List UInt8}(h:cd b k++l=R):JC b u0 R (k/b) (zb (k % b)::l):=by
 obtain⟨h1,h2⟩:=wS hb l R h
 refine .inr ⟨by simp,?_⟩
 rcases Nat.eq_zero_or_pos (k/b)with h0|h0
 ·exact .inl ⟨h0,h1 h0⟩
 ·exact .inr ⟨h0,h2 h0⟩
def eQ(v:Value)(w:World)(e:Ending)(w':World):Prop:=e = .returned v∧Kept Nob w w'
def dQ(k:Nat):UInt8:=UInt8.ofNat (if k<10 then 48+k else 87+k)
def bn(b u:Nat):List UInt8:=
 if h:u<b∨b<2 then [dQ u]else bn b (u/b)++ [dQ (u % b)]
termination_by u
decreasing_by exact Nat.div_lt_self oM oM
theorem ga{b u:Nat}(h:u<b):bn b u = [dQ u]:=by rw[bn,dif_pos (.inl h)]
theorem jc{b u:Nat}(hb:2<=b)(h:b<=u):bn b u=bn b (u/b)++ [dQ (u % b)]:=by rw[bn,dif_neg oM]
theorem jh(b u:Nat): (bn b u).length= (cd b u).length:=by
 induction u using Nat.strongRecOn with
 | ind u ih=>
   by_cases h:u<b∨b<2
   ·rw[bn,dif_pos h,cd,dif_pos h];rfl
   ·rw[bn,dif_neg h,cd,dif_neg h]
    simp[ih (u/b) (Nat.div_lt_self oM oM)]
theorem xi: ∀k:Fin 36,Lib.toUpperA [dQ k.val]= [zb k.val]:=by decide +kernel
theorem uN: ∀k:Fin 36,(dQ k.val).toNat<128:=by decide +kernel
theorem sx{b:Nat}(hb:2<=b)(WY:b<=36)(u:Nat):Lib.toUpperA (bn b u)=cd b u:=by
 induction u using Nat.strongRecOn with
 | ind u ih=>
   by_cases h:u<b
   ·rw[ga h,gh h]
    exact xi ⟨u,by omega⟩
   ·rw[jc hb oM,kU hb oM]
    have h1:=ih (u/b) (Nat.div_lt_self oM oM)
    have h2:=xi ⟨u % b,by have:=Nat.mod_lt u (show 0<b by omega);omega⟩
    unfold Lib.toUpperA at *
    rw[List.map_append,h1,h2]
theorem pU{b:Nat}(hb:2<=b)(WY:b<=36)(u:Nat): ∀c∈bn b u,c.toNat<128:=by
 induction u using Nat.strongRecOn with
 | ind u ih=>
   intro c hc
   by_cases h:u<b
   ·rw[ga h]at hc
    have:=uN ⟨u,by omega⟩
    simp at hc
    rw[hc];exact this
   ·rw[jc hb oM]at hc
    rcases List.mem_append.1 hc with hc|hc
    ·exact ih (u/b) (Nat.div_lt_self oM oM) c hc
    ·have:=uN ⟨u % b,by have:=Nat.mod_lt u (show 0<b by omega);omega⟩
     simp at hc
     rw[hc];exact this
def px(b:Nat):Bool:=b==2||b==4||b==8||b==16||b==32
theorem Gt: ∀b:Fin 37,2<=b.val->(bits BinOp.and IntKind.i64 (b.val:Int) ((b.val:Int) -1) ==0)=px b.val:=by decide +kernel
theorem Ci(b:Nat)(h2:2<=b)(WY:b<=36)(w:World):Calls prog 344 #[(b:Int)] w (ax (.bool (px b)) w):=by
 have h:=Gt ⟨b,by omega⟩ h2
 simp only at h
 go_enter func344,ntmps344
 go_wp2
 go_ret
 exact⟨by rw[<-h];rfl,rfl⟩
def qd:List Int:=[0,1,56,2,57,49,28,3,61,58,42,50,38,29,17,4,62,47,59,36,45,43,51,22,53,39,33,30,24,18,12,5,63,55,48,27,60,41,37,16,46,35,44,21,52,32,23,11,54,26,40,15,34,20,31,10,25,14,19,9,13,8,7,6]
def Bruijn(w:World):Prop:=Lib.TabIs prog w "math/bits.deBruijn64tab" .u8 qd
theorem Cz:prog.globalNamed "math/bits.deBruijn64tab" = some 9:=by kernel_rfl
theorem Bruijn.cell{w:World}(h:Bruijn w)(i:Nat)(hi:i<64):w.cell? ⟨9,i,none⟩=some (.int .u8 (qd.getD i 0)):=Lib.TabIs.cell h Cz i hi
def pY(b:Nat):Nat:=if b=2 then 1 else if b=4 then 2 else if b=8 then 3 else if b=16 then 4 else 5
set_option maxRecDepth 100000 in
theorem LY(b:Nat)(h:px b=true)(w:World)(hB:Bruijn w):Calls prog 359 #[.int .u64 (b:Int)] w (ax ((pY b:Nat):Int) w):=by
 have hb:b=2∨b=4∨b=8∨b=16∨b=32:=by simpa [px,or_assoc]using h
 clear h
 rcases hb with rfl|rfl|rfl|rfl|rfl
 ·have c:=hB.cell 1 oM
  rw[show qd.getD 1 0=1 from rfl]at c
  have hz:IntKind.u64.wrap (bits BinOp.and IntKind.u64 2 (IntKind.u64.wrap (-2))*285870213051353865) /288230376151711744=1:=by decide +kernel
  replace hB:=hid hB
  go_enter func359,ntmps359
  go_wp2
  go_ret
  exact⟨rfl,rfl⟩
 ·have c:=hB.cell 3 oM
  rw[show qd.getD 3 0=2 from rfl]at c
  have hz:IntKind.u64.wrap (bits BinOp.and IntKind.u64 4 (IntKind.u64.wrap (-4))*285870213051353865) /288230376151711744=3:=by decide +kernel
  replace hB:=hid hB
  go_enter func359,ntmps359
  go_wp2
  go_ret
  exact⟨rfl,rfl⟩
 ·have c:=hB.cell 7 oM
  rw[show qd.getD 7 0=3 from rfl]at c
  have hz:IntKind.u64.wrap (bits BinOp.and IntKind.u64 8 (IntKind.u64.wrap (-8))*285870213051353865) /288230376151711744=7:=by decide +kernel
  replace hB:=hid hB
  go_enter func359,ntmps359
  go_wp2
  go_ret
  exact⟨rfl,rfl⟩
 ·have c:=hB.cell 15 oM
  rw[show qd.getD 15 0=4 from rfl]at c
  have hz:IntKind.u64.wrap (bits BinOp.and IntKind.u64 16 (IntKind.u64.wrap (-16))*285870213051353865) /288230376151711744=15:=by decide +kernel
  replace hB:=hid hB
  go_enter func359,ntmps359
  go_wp2
  go_ret
  exact⟨rfl,rfl⟩
 ·have c:=hB.cell 31 oM
  rw[show qd.getD 31 0=5 from rfl]at c
  have hz:IntKind.u64.wrap (bits BinOp.and IntKind.u64 32 (IntKind.u64.wrap (-32))*285870213051353865) /288230376151711744=31:=by decide +kernel
  replace hB:=hid hB
  go_enter func359,ntmps359
  go_wp2
  go_ret
  exact⟨rfl,rfl⟩
theorem Kg(b:Nat)(h:px b=true)(w:World)(hB:Bruijn w):Calls prog 345 #[.int .u64 (b:Int)] w (ax ((pY b:Nat):Int) w):=by
 have hw:=hid (LY b h w hB)
 replace⟨h,hB⟩:=iB h hB
 go_enter func345,ntmps345
 go_wp2_with (go_at_call 359;refine hw.out.mono ?_;rintro e w1 ⟨rfl,rfl⟩)
 go_ret
 exact⟨rfl,rfl⟩
