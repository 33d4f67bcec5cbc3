/- Chapter 5. Conditions: as written. -/
import Derived.Test.YtilaogbkdbbdkaaGreatDoorOm
import Derived.Test.YtilaogbkdbbdkaaGreatDoorZ08
import Derived.Test.YtilaogbkdbbdkaaGreatDoorZ06
import Derived.Deep.DeepCutAuto
import Derived.Deep.CutBlock
import Derived.Lib.AppendIntMem
open Go.Proofs.Tryz
namespace Go.Proofs.YtilaogbkdbbdkaaGreatDoor
set_option linter.unusedVariables false
set_option maxHeartbeats 8000000
open Go.RowKit Go.Lib
def mh(i:Nat)(l:List UInt8):List UInt8:=List.replicate i 0++l
theorem L5(i:Nat)(l:List UInt8)(c:UInt8): (mh (i+1) l).set i c=mh i (c::l):=by
 unfold mh
 rw[List.set_append_left _ _ (by simp),List.replicate_succ']
 rw[List.set_append_right _ _ (by simp)]
 simp
theorem BZ(l:List UInt8)(i:Nat)(c:UInt8): (ah l).toArray.setIfInBounds i (.int .u8 (c.toNat:Int))= (ah (l.set i c)).toArray:=by
 simp[ah,List.map_set]
theorem Blk.digit{w:World}{g:Nat}{t:TypeId}{i:Nat}{l:List UInt8}(h:Blk w g t (ah (mh (i+1) l)).toArray)(c:UInt8):Blk (w.setCell (g,i) (.int .u8 (c.toNat:Int))) g t (ah (mh i (c::l))).toArray:=by
 have:=h.bE i (.int .u8 (c.toNat:Int))
 rwa[BZ,L5]at this
theorem Blk.zero{w:World}{g:Nat}{t:TypeId}{i:Nat}{l:List UInt8}(h:Blk w g t (ah (mh (i+1) l)).toArray):w.cell? (g,i)=some (.int .u8 0):=by
 rw[h.cell i]
 simp[ah,mh]
 rw[List.getElem?_append_left (by simp)]
 simp
theorem Qq: ∀k:Fin 36,((⟨#[48,49,50,51,52,53,54,55,56,57,97,98,99,100,101,102,103,104,105,106,107,108,109,110,111,112,113,114,115,116,117,118,119,120,121,122]⟩:ByteArray).data.toList.getD k.val 0)=dQ k.val:=by decide +kernel
theorem CO:Tryz.zeroCells360= (ah (mh 65 [])).toArray:=by kernel_rfl
theorem vt(k:Nat)(hk:k<36)(w:World): (Instr.index 9 (.string ⟨#[48,49,50,51,52,53,54,55,56,57,97,98,99,100,101,102,103,104,105,106,107,108,109,110,111,112,113,114,115,116,117,118,119,120,121,122]⟩) (.int .u64 (k:Int))).run prog w = .ok (.int .u8 ((dQ k).toNat:Int)) w:=by
 rw[run_index_string w _ _ .u64 (k:Int) underlying9,dif_pos ⟨by omega,by show(k:Int) <36;omega⟩]
 have h:=Qq ⟨k,hk⟩
 simp only at h
 rw[<-h]
 congr 4
 rw[List.getD_eq_getElem?_getD]
 rw[List.getElem?_eq_getElem (by simpa using hk)]
 rfl
theorem tB{k b k' r:Nat}(h:b*k'+r=k): (k:Int) - (k':Int)* (b:Int)= (r:Int)∧0<=(k':Int)* (b:Int)∧(k':Int)* (b:Int)<=(k:Int):=by
 have e: (k':Int)* (b:Int)= ((b*k':Nat):Int):=by rw[Int.mul_comm];simp
 rw[e]
 generalize b*k'=z at *
 omega
theorem js(g i l:Nat)(h:i+l=65)(h0:0<l)(x:Int)(hx:x= (i:Int))(W:World): (Instr.sliceAt 360 (.pointer g) (some (x:Vl)) none none).run prog W = .ok (.slice (some ⟨g,i,none⟩) l l) W:=by
 subst hx
 have RY:prog.arrayLen 360=65:=by kernel_rfl
 rw[run_sliceAt_array_l W 360 ⟨g,0,none⟩ kR .i64 (i:Int) oM (by rw[RY];omega),RY]
 have hsz: (sizeOf (prog.elem 360)).run prog W = .ok 1 W:=by kernel_rfl
 rw[hsz]
 simp only[Result.andThen,slicedAt,Int.toNat_natCast]
 obtain rfl:l=65-i:=by omega
 simp[Addr.add]
 rw[if_neg oM]
 split
 ·rename_i h;subst h;rfl
 ·rfl
theorem j0(W:World)(g i:Nat)(t:TypeId)(R:List UInt8)(h:Blk W g t (ah (mh i R)).toArray): (convert 93 9 (.slice (some ⟨g,i,none⟩) R.length R.length)).run prog W = .ok (.string ⟨R.toArray⟩) W:=by
 refine run_convert_bytes_back W 93 9 5 ⟨g,i,none⟩ R.length R underlying93 underlying5 underlying9 λj hj=> ?_
 have he3: (⟨g,i,none⟩:Addr).add j= ⟨g,i+j,none⟩:=by unfold Addr.add;split<;>simp_all
 rw[he3,h.cell]
 simp only[ah,mh,List.getElem?_toArray,List.getElem?_map]
 rw[List.getElem?_append_right (by simp)]
 simp[hj]
def jU(b:Nat)(R:List UInt8)(k:Nat)(i:Nat)(l:List UInt8):Prop:=i+l.length=65∧bn b k++l=R
theorem jU.pos{b:Nat}{R:List UInt8}{k i:Nat}{l:List UInt8}(h:jU b R k i l)(hR:R.length<=64):2<=i∧i<=65:=by
 have h1:=congrArg List.length h.2
 have h2: (bn b k).length≠0:=by rw[jh];have:=List.length_pos_iff.2 (AU b k);omega
 rw[List.length_append]at h1
 have:=h.1
 omega
theorem jU.next{b:Nat}{R:List UInt8}{k i:Nat}{l:List UInt8}(hb:2<=b)(h:jU b R k (i+1) l)(hk:b<=k):jU b R (k/b) i (dQ (k % b)::l):=by
 refine⟨by have:=h.1;simp;omega,?_⟩
 rw[<-h.2,jc hb hk]
 simp
theorem jU.last{b:Nat}{R:List UInt8}{k i:Nat}{l:List UInt8}(h:jU b R k (i+1) l)(hk:k<b):dQ k::l=R:=by
 rw[<-h.2,ga hk]
 rfl
set_option maxRecDepth 100000 in
theorem CM(u u0 b:Nat)(neg:Bool)(hu: (neg=false∧u0=u)∨(neg=true∧IntKind.u64.wrap (-(u:Int))= (u0:Int)))(hu64:u0<18446744073709551616)(h2:2<=b)(WY:b<=36)(TK:b≠10)(hp:px b=false)(w:World):
 Calls prog 305 #[.slice none 0 0,.int .u64 (u:Int),(b:Int),.bool neg,.bool false] w (eQ (.tuple #[.slice none 0 0,.string ⟨((if neg then [45]else [])++bn b u0).toArray⟩]) w):=by
 obtain⟨R,hR⟩: ∃R,bn b u0=R:=⟨_,rfl⟩
 have hRl:R.length<=64:=by rw[<-hR,jh];exact fZ h2 hu64
 rw[hR]
 have WT:=Ci b h2 WY
 rw[hp]at WT
 replace WT:=hid WT
 have q1:decide ((b:Int) <2)=false:=by rw[decide_eq_false_iff_not];omega
 have q2: ((b:Int) ==10)=false:=by rw[beq_eq_false_iff_ne];omega
 have q3:decide ((36:Int) < (b:Int))=false:=by rw[decide_eq_false_iff_not];omega
 replace hR:=hid hR
 clear hp TK
 have SC:Blk (w.alloc (.cells Tryz.zeroCells360 360)) w.heap.size 360 (ah (mh 65 [])).toArray:=by rw[<-CO];exact Blk.new _ _ _
 have VV:Kept Nob w (w.alloc (.cells Tryz.zeroCells360 360)):=(Kept.refl _ _).alloc _
 have hgw:w.heap.size<=w.heap.size:=Nat.le_refl _
 replace⟨SC,VV⟩:=iB SC VV
 rcases hu with⟨rfl,rfl⟩ | ⟨rfl,hu⟩
 all_goals
  go_enter func305,ntmps305
  go_wp2_with (go_at_call 344;refine(WT.out _).mono ?_;rintro e w1 ⟨rfl,rfl⟩)
  generalize w.alloc (.cells Tryz.zeroCells360 360)=wa at *
  generalize hgg:w.heap.size=g at *
  replace hgg:=hid hgg
  go_loopw [1,13] (λx y wr=> ∃(k i:Nat) (l:List UInt8),x = .int .u64 (k:Int)∧y = .int .i64 (i:Int)∧k<18446744073709551616∧jU b R k i l∧Blk wr g 360 (ah (mh i l)).toArray∧Kept Nob w wr) (λx _ _=>(RowKit.intOf x).toNat)
  case atStart=>exact⟨_,65,[],rfl,rfl,hu64,⟨rfl,by simpa using hR.out⟩,SC.out,VV.out⟩
  case round=>
   obtain⟨k,i,l,rfl,rfl,hk,SA,hB,hK⟩:=hrel
   obtain⟨YN,hi6⟩:=SA.pos hRl
   obtain⟨i,rfl⟩: ∃j,i=j+1:=⟨i-1,by omega⟩
   clear SC VV
   have ZQ:w.heap.size<=g:=Nat.le_of_eq hgg.out
   have hz:=hB.zero
   have hfz:=hB.frozen i
   have hgC: (((i+1:Nat):Int))= (i:Int) +1:=by omega
   by_cases Ud:b<=k
   ·have Wq:=SA.next h2 Ud
    have VR:=hB.digit (dQ (k % b))
    have hql:k % b<b:=Nat.mod_lt _ oM
    have V3:=λw=>vt (k % b) oM w
    have hd: (k:Int) / (b:Int)= ((k/b:Nat):Int):=by simp
    have hdm:=Nat.div_add_mod k b
    have Rd:=Nat.div_lt_self (show 0<k by omega) (show 1<b by omega)
    have Zi:=Kept.setCell (p:=⟨g,i,none⟩) hK (.inr ZQ) (.int .u8 ((dQ (k % b)).toNat:Int))
    generalize dQ (k % b)=ch at *
    generalize k % b=r at *
    generalize k/b=k' at *
    obtain⟨hmr,hm0,hm1⟩:=tB hdm
    have heg:decide ((b:Int)<=(k:Int))=true:=by rw[decide_eq_true_iff];omega
    have hbN:decide (b<=k)=true:=by rw[decide_eq_true_iff];omega
    replace⟨hdm,Wq,VR,Zi,hB,SA,hK⟩:=iG hdm Wq VR Zi hB SA hK
    go_wp2
    go_roundw
    case rel=>exact⟨k',i,_,rfl,by go_num,by omega,Wq.out,VR.out,Zi.out⟩
    case measure=>simp[RowKit.intOf];omega
   ·have Rd:k<b:=by omega
    have Ug:=SA.last Rd
    have VR:=hB.digit (dQ k)
    have V3:=λw=>vt k oM w
    have Zi:=Kept.setCell (p:=⟨g,i,none⟩) hK (.inr ZQ) (.int .u8 ((dQ k).toNat:Int))
    have heg:decide ((b:Int)<=(k:Int))=false:=by rw[decide_eq_false_iff_not];omega
    have hbN:decide (b<=k)=false:=by rw[decide_eq_false_iff_not];omega
    have hil:i+ (dQ k::l).length=65:=by have:=SA.1;simp;omega
    generalize dQ k=ch at *
    rw[Ug]at VR hil
    replace⟨hB,SA,hK,Ug⟩:=iD hB SA hK Ug
    obtain⟨j,rfl⟩: ∃j,i=j+1:=⟨i-1,by omega⟩
    have SQ: (wr.setCell ⟨g,j+1,none⟩ (.int .u8 (ch.toNat:Int))).cell? (g,j)=some (.int .u8 0):=VR.zero
    have hiw:=VR.frozen j
    have ZK:Blk ((wr.setCell ⟨g,j+1,none⟩ (.int .u8 (ch.toNat:Int))).setCell (g,j) (.int .u8 45)) g 360 (ah (mh j (45::R))).toArray:=VR.digit 45
    have ZB:=Kept.setCell (p:=⟨g,j,none⟩) Zi (.inr ZQ) (.int .u8 45)
    have hiM:=λW=>js g (j+1) R.length hil oM ((j:Int) +1) oM W
    have heo:=λW=>js g j (45::R).length (by simp;omega) (by simp) (j:Int) rfl W
    have hii:=j0 _ g (j+1) _ R VR
    have hcD:=j0 _ g j _ (45::R) ZK
    simp only[List.length_cons]at heo hcD
    have heE: (((j+1:Nat):Int))= (j:Int) +1:=by omega
    replace⟨hil,VR,ZK,Zi,ZB⟩:=iE hil VR ZK Zi ZB
    go_wp2
    go_ret2
    first|exact⟨rfl,Zi.out⟩ |exact⟨rfl,ZB.out⟩
theorem zv{b:Nat}(h:px b=true):2 ^ pY b=b∧pY b<=5:=by
 have hb:b=2∨b=4∨b=8∨b=16∨b=32:=by simpa [px,or_assoc]using h
 rcases hb with rfl|rfl|rfl|rfl|rfl<;>decide
theorem BV(k:Nat)(hk:k<18446744073709551616){b:Nat}(h:px b=true):bits BinOp.and IntKind.u64 (k:Int) ((b:Int) -1)= ((k % b:Nat):Int):=by
 have hb:b=2∨b=4∨b=8∨b=16∨b=32:=by simpa [px,or_assoc]using h
 have key: ∀s:Nat,s<=5->(BitVec.ofInt 64 ((2 ^ s:Nat) -1:Int)).toNat=2 ^ s-1->bits BinOp.and IntKind.u64 (k:Int) (((2 ^ s:Nat):Int) -1)= ((k % 2 ^ s:Nat):Int):=by
  intro s hs hm
  have k1: (BitVec.ofInt 64 (k:Int) &&& BitVec.ofInt 64 (((2 ^ s:Nat):Int) -1)).toNat=k % 2 ^ s:=by
   rw[BitVec.toNat_and,BitVec.toNat_ofInt,hm,Nat.and_two_pow_sub_one_eq_mod]
   congr 1
   omega
  show IntKind.u64.wrap ((BitVec.ofInt 64 (k:Int) &&& BitVec.ofInt 64 (((2 ^ s:Nat):Int) -1)).toNat:Nat)=_
  rw[k1,IntKind.wrap_u64]
  have:k % 2 ^ s<=k:=Nat.mod_le _ _
  omega
 rcases hb with rfl|rfl|rfl|rfl|rfl
 ·exact key 1 oM (by decide)
 ·exact key 2 oM (by decide)
 ·exact key 3 oM (by decide)
 ·exact key 4 oM (by decide)
 ·exact key 5 oM (by decide)
set_option maxRecDepth 100000 in
theorem Kh(u u0 b:Nat)(neg:Bool)(hu: (neg=false∧u0=u)∨(neg=true∧IntKind.u64.wrap (-(u:Int))= (u0:Int)))(hu64:u0<18446744073709551616)(h2:2<=b)(WY:b<=36)(TK:b≠10)(hp:px b=true)(w:World)(hBr:Bruijn w):
 Calls prog 305 #[.slice none 0 0,.int .u64 (u:Int),(b:Int),.bool neg,.bool false] w (eQ (.tuple #[.slice none 0 0,.string ⟨((if neg then [45]else [])++bn b u0).toArray⟩]) w):=by
 obtain⟨R,hR⟩: ∃R,bn b u0=R:=⟨_,rfl⟩
 have hRl:R.length<=64:=by rw[<-hR,jh];exact fZ h2 hu64
 rw[hR]
 have WT:=Ci b h2 WY
 rw[hp]at WT
 replace WT:=hid WT
 have htz:=λw hB=>Kg b hp w hB
 have heM:Bruijn (w.alloc (.cells Tryz.zeroCells360 360)):=(Lib.tabBelow_of_tabIs hBr) _ ((Below.refl _ _).alloc (Nat.le_refl _) _)
 replace⟨heM,htz⟩:=iB heM htz
 have Zm:=hid (zv hp)
 have hlog5:pY b<=5:=(zv hp).2
 have q1:decide ((b:Int) <2)=false:=by rw[decide_eq_false_iff_not];omega
 have q2: ((b:Int) ==10)=false:=by rw[beq_eq_false_iff_ne];omega
 have q3:decide ((36:Int) < (b:Int))=false:=by rw[decide_eq_false_iff_not];omega
 have haX:=λk hk=>BV k hk hp
 replace⟨haX,hR⟩:=iB haX hR
 clear hp TK hBr
 have SC:Blk (w.alloc (.cells Tryz.zeroCells360 360)) w.heap.size 360 (ah (mh 65 [])).toArray:=by rw[<-CO];exact Blk.new _ _ _
 have VV:Kept Nob w (w.alloc (.cells Tryz.zeroCells360 360)):=(Kept.refl _ _).alloc _
 have hgw:w.heap.size<=w.heap.size:=Nat.le_refl _
 replace⟨SC,VV⟩:=iB SC VV
 rcases hu with⟨rfl,rfl⟩ | ⟨rfl,hu⟩
 all_goals
  go_enter func305,ntmps305
  go_wp2_with (first| (go_at_call 344;refine(WT.out _).mono ?_;rintro e w1 ⟨rfl,rfl⟩) | (go_at_call 345;refine(htz.out _ heM.out).mono ?_;rintro e w2 ⟨rfl,rfl⟩))
  generalize w.alloc (.cells Tryz.zeroCells360 360)=wa at *
  generalize hgg:w.heap.size=g at *
  replace hgg:=hid hgg
  go_loopw [1,13] (λx y wr=> ∃(k i:Nat) (l:List UInt8),x = .int .u64 (k:Int)∧y = .int .i64 (i:Int)∧k<18446744073709551616∧jU b R k i l∧Blk wr g 360 (ah (mh i l)).toArray∧Kept Nob w wr) (λx _ _=>(RowKit.intOf x).toNat)
  case atStart=>exact⟨_,65,[],rfl,rfl,hu64,⟨rfl,by simpa using hR.out⟩,SC.out,VV.out⟩
  case round=>
   obtain⟨k,i,l,rfl,rfl,hk,SA,hB,hK⟩:=hrel
   obtain⟨YN,hi6⟩:=SA.pos hRl
   obtain⟨i,rfl⟩: ∃j,i=j+1:=⟨i-1,by omega⟩
   clear SC VV
   have ZQ:w.heap.size<=g:=Nat.le_of_eq hgg.out
   have hz:=hB.zero
   have hfz:=hB.frozen i
   have hgC: (((i+1:Nat):Int))= (i:Int) +1:=by omega
   by_cases Ud:b<=k
   ·have Wq:=SA.next h2 Ud
    have VR:=hB.digit (dQ (k % b))
    have hql:k % b<b:=Nat.mod_lt _ oM
    have V3:=λw=>vt (k % b) oM w
    have hd: (k:Int) / (b:Int)= ((k/b:Nat):Int):=by simp
    have hand:=haX.out k hk
    have R7: (k:Int) /2 ^ pY b= ((k/b:Nat):Int):=by
     rw[<-hd,show((2:Int) ^ pY b)= ((2 ^ pY b:Nat):Int)from by simp,Zm.out.1]
    replace R7:=hid R7
    have hdm:=Nat.div_add_mod k b
    have Rd:=Nat.div_lt_self (show 0<k by omega) (show 1<b by omega)
    have Zi:=Kept.setCell (p:=⟨g,i,none⟩) hK (.inr ZQ) (.int .u8 ((dQ (k % b)).toNat:Int))
    generalize dQ (k % b)=ch at *
    generalize k % b=r at *
    generalize k/b=k' at *
    have heg:decide ((b:Int)<=(k:Int))=true:=by rw[decide_eq_true_iff];omega
    have hbN:decide (b<=k)=true:=by rw[decide_eq_true_iff];omega
    replace⟨hdm,Wq,VR,Zi,hB,SA,hK⟩:=iG hdm Wq VR Zi hB SA hK
    go_wp2
    go_roundw
    case rel=>exact⟨k',i,_,by rw[R7.out],by go_num,by omega,Wq.out,VR.out,Zi.out⟩
    case measure=>rw[R7.out];simp[RowKit.intOf];omega
   ·have Rd:k<b:=by omega
    have Ug:=SA.last Rd
    have VR:=hB.digit (dQ k)
    have V3:=λw=>vt k oM w
    have Zi:=Kept.setCell (p:=⟨g,i,none⟩) hK (.inr ZQ) (.int .u8 ((dQ k).toNat:Int))
    have heg:decide ((b:Int)<=(k:Int))=false:=by rw[decide_eq_false_iff_not];omega
    have hbN:decide (b<=k)=false:=by rw[decide_eq_false_iff_not];omega
    have hil:i+ (dQ k::l).length=65:=by have:=SA.1;simp;omega
    generalize dQ k=ch at *
    rw[Ug]at VR hil
    replace⟨hB,SA,hK,Ug⟩:=iD hB SA hK Ug
    obtain⟨j,rfl⟩: ∃j,i=j+1:=⟨i-1,by omega⟩
    have SQ: (wr.setCell ⟨g,j+1,none⟩ (.int .u8 (ch.toNat:Int))).cell? (g,j)=some (.int .u8 0):=VR.zero
    have hiw:=VR.frozen j
    have ZK:Blk ((wr.setCell ⟨g,j+1,none⟩ (.int .u8 (ch.toNat:Int))).setCell (g,j) (.int .u8 45)) g 360 (ah (mh j (45::R))).toArray:=VR.digit 45
    have ZB:=Kept.setCell (p:=⟨g,j,none⟩) Zi (.inr ZQ) (.int .u8 45)
    have hiM:=λW=>js g (j+1) R.length hil oM ((j:Int) +1) oM W
    have heo:=λW=>js g j (45::R).length (by simp;omega) (by simp) (j:Int) rfl W
    have hii:=j0 _ g (j+1) _ R VR
    have hcD:=j0 _ g j _ (45::R) ZK
    simp only[List.length_cons]at heo hcD
    have heE: (((j+1:Nat):Int))= (j:Int) +1:=by omega
    replace⟨hil,VR,ZK,Zi,ZB⟩:=iE hil VR ZK Zi ZB
    go_wp2
    go_ret2
    first|exact⟨rfl,Zi.out⟩ |exact⟨rfl,ZB.out⟩
