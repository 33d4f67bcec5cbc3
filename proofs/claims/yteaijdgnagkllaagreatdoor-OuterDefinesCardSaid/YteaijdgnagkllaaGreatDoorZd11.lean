/- Chapter 5: strconv's formatBits. Conditions: a base from 2 to 36 that is not 10; the table of trailing zeros. -/
import Derived.Test.YteaijdgnagkllaaGreatDoorZdFmt1
import Derived.Test.YteaijdgnagkllaaGreatDoorZd08
import Derived.Test.YteaijdgnagkllaaGreatDoorZd10
import Derived.Deep.DeepCutAuto
import Derived.Deep.CutBlock
import Derived.Lib.AppendIntMem
open Go.Proofs.Tryz
namespace Go.Proofs.YteaijdgnagkllaaGreatDoor
set_option linter.unusedVariables false
set_option linter.unusedSimpArgs false
set_option maxHeartbeats 8000000
open Go.RowKit Go.Lib
def arrL(i:Nat)(l:List UInt8):List UInt8:=List.replicate i 0++l
theorem arr_set(i:Nat)(l:List UInt8)(c:UInt8): (arrL (i+1) l).set i c=arrL i (c::l):=by
 unfold arrL
 rw[List.set_append_left _ _ (by simp),List.replicate_succ']
 rw[List.set_append_right _ _ (by simp)]
 simp
theorem bcells_set(l:List UInt8)(i:Nat)(c:UInt8): (bcells l).toArray.setIfInBounds i (.int .u8 (c.toNat:Int))= (bcells (l.set i c)).toArray:=by
 simp[bcells,List.map_set]
theorem Blk.digit{w:World}{g:Nat}{t:TypeId}{i:Nat}{l:List UInt8}(h:Blk w g t (bcells (arrL (i+1) l)).toArray)(c:UInt8):Blk (w.setCell (g,i) (.int .u8 (c.toNat:Int))) g t (bcells (arrL i (c::l))).toArray:=by
 have:=h.set_ i (.int .u8 (c.toNat:Int))
 rwa[bcells_set,arr_set]at this
theorem Blk.zero{w:World}{g:Nat}{t:TypeId}{i:Nat}{l:List UInt8}(h:Blk w g t (bcells (arrL (i+1) l)).toArray):w.cell? (g,i)=some (.int .u8 0):=by
 rw[h.cell i]
 simp[bcells,arrL]
 rw[List.getElem?_append_left (by simp)]
 simp
theorem lc_at: ∀k:Fin 36,((⟨#[48,49,50,51,52,53,54,55,56,57,97,98,99,100,101,102,103,104,105,106,107,108,109,110,111,112,113,114,115,116,117,118,119,120,121,122]⟩:ByteArray).data.toList.getD k.val 0)=digLC k.val:=by decide +kernel
theorem zeros65:Tryz.zeroCells269= (bcells (arrL 65 [])).toArray:=by kernel_rfl
theorem lc_idx(k:Nat)(hk:k<36)(w:World): (Instr.index 9 (.string ⟨#[48,49,50,51,52,53,54,55,56,57,97,98,99,100,101,102,103,104,105,106,107,108,109,110,111,112,113,114,115,116,117,118,119,120,121,122]⟩) (.int .u64 (k:Int))).run prog w = .ok (.int .u8 ((digLC k).toNat:Int)) w:=by
 rw[run_index_string w _ _ .u64 (k:Int) underlying9,dif_pos ⟨by omega,by show(k:Int) <36;omega⟩]
 have h:=lc_at ⟨k,hk⟩
 simp only at h
 rw[<-h]
 congr 4
 rw[List.getD_eq_getElem?_getD]
 rw[List.getElem?_eq_getElem (by simpa using hk)]
 rfl
theorem div_mul_parts{k b k' r:Nat}(h:b*k'+r=k): (k:Int) - (k':Int)* (b:Int)= (r:Int)∧0<=(k':Int)* (b:Int)∧(k':Int)* (b:Int)<=(k:Int):=by
 have e: (k':Int)* (b:Int)= ((b*k':Nat):Int):=by rw[Int.mul_comm];simp
 rw[e]
 generalize b*k'=z at *
 omega
theorem arr65_slice(g i l:Nat)(h:i+l=65)(h0:0<l)(x:Int)(hx:x= (i:Int))(W:World): (Instr.sliceAt 269 (.pointer g) (some (x:Vl)) none none).run prog W = .ok (.slice (some ⟨g,i,none⟩) l l) W:=by
 subst hx
 have hal:prog.arrayLen 269=65:=by kernel_rfl
 rw[run_sliceAt_array_l W 269 ⟨g,0,none⟩ kR .i64 (i:Int) oM (by rw[hal];omega),hal]
 have hsz: (sizeOf (prog.elem 269)).run prog W = .ok 1 W:=by kernel_rfl
 rw[hsz]
 simp only[Result.andThen,slicedAt,Int.toNat_natCast]
 obtain rfl:l=65-i:=by omega
 simp[Addr.add]
 rw[if_neg oM]
 split
 ·rename_i h;subst h;rfl
 ·rfl
theorem arr65_conv(W:World)(g i:Nat)(t:TypeId)(R:List UInt8)(h:Blk W g t (bcells (arrL i R)).toArray): (convert 43 9 (.slice (some ⟨g,i,none⟩) R.length R.length)).run prog W = .ok (.string ⟨R.toArray⟩) W:=by
 refine run_convert_bytes_back W 43 9 5 ⟨g,i,none⟩ R.length R underlying43 underlying5 underlying9 λj hj=> ?_
 have hadd: (⟨g,i,none⟩:Addr).add j= ⟨g,i+j,none⟩:=by unfold Addr.add;split<;>simp_all
 rw[hadd,h.cell]
 simp only[bcells,arrL,List.getElem?_toArray,List.getElem?_map]
 rw[List.getElem?_append_right (by simp)]
 simp[hj]
def FmtRel(b:Nat)(R:List UInt8)(k:Nat)(i:Nat)(l:List UInt8):Prop:=i+l.length=65∧digitsL b k++l=R
theorem FmtRel.pos{b:Nat}{R:List UInt8}{k i:Nat}{l:List UInt8}(h:FmtRel b R k i l)(hR:R.length<=64):2<=i∧i<=65:=by
 have h1:=congrArg List.length h.2
 have h2: (digitsL b k).length≠0:=by rw[digitsL_len];have:=List.length_pos_iff.2 (digitsU_ne b k);omega
 rw[List.length_append]at h1
 have:=h.1
 omega
theorem FmtRel.next{b:Nat}{R:List UInt8}{k i:Nat}{l:List UInt8}(hb:2<=b)(h:FmtRel b R k (i+1) l)(hk:b<=k):FmtRel b R (k/b) i (digLC (k % b)::l):=by
 refine⟨by have:=h.1;simp;omega,?_⟩
 rw[<-h.2,digitsL_big hb hk]
 simp
theorem FmtRel.last{b:Nat}{R:List UInt8}{k i:Nat}{l:List UInt8}(h:FmtRel b R k (i+1) l)(hk:k<b):digLC k::l=R:=by
 rw[<-h.2,digitsL_small hk]
 rfl
set_option maxRecDepth 100000 in
theorem fmt_gen(u u0 b:Nat)(neg:Bool)(hu: (neg=false∧u0=u)∨(neg=true∧IntKind.u64.wrap (-(u:Int))= (u0:Int)))(hu64:u0<18446744073709551616)(h2:2<=b)(h36:b<=36)(h10:b≠10)(hp:isP2 b=false)(w:World):
 Calls prog 124 #[.slice none 0 0,.int .u64 (u:Int),(b:Int),.bool neg,.bool false] w (Fresh' (.tuple #[.slice none 0 0,.string ⟨((if neg then [45]else [])++digitsL b u0).toArray⟩]) w):=by
 obtain⟨R,hR⟩: ∃R,digitsL b u0=R:=⟨_,rfl⟩
 have hRl:R.length<=64:=by rw[<-hR,digitsL_len];exact digitsU_64 h2 hu64
 rw[hR]
 have hp2:=p2_walk b h2 h36
 rw[hp]at hp2
 replace hp2:=hid hp2
 have q1:decide ((b:Int) <2)=false:=by rw[decide_eq_false_iff_not];omega
 have q2: ((b:Int) ==10)=false:=by rw[beq_eq_false_iff_ne];omega
 have q3:decide ((36:Int) < (b:Int))=false:=by rw[decide_eq_false_iff_not];omega
 replace hR:=hid hR
 clear hp h10
 have hblk:Blk (w.alloc (.cells Tryz.zeroCells269 269)) w.heap.size 269 (bcells (arrL 65 [])).toArray:=by rw[<-zeros65];exact Blk.new _ _ _
 have hkept:Kept Nob w (w.alloc (.cells Tryz.zeroCells269 269)):=(Kept.refl _ _).alloc _
 have hgw:w.heap.size<=w.heap.size:=Nat.le_refl _
 replace hblk:=hid hblk
 replace hkept:=hid hkept
 rcases hu with⟨rfl,rfl⟩ | ⟨rfl,hu⟩
 all_goals
  go_enter func124,ntmps124
  go_wp2_with (go_at_call 173;refine(hp2.out _).mono ?_;rintro e w1 ⟨rfl,rfl⟩)
  generalize w.alloc (.cells Tryz.zeroCells269 269)=wa at *
  generalize hgg:w.heap.size=g at *
  replace hgg:=hid hgg
  go_loopw [1,13] (λx y wr=> ∃(k i:Nat) (l:List UInt8),x = .int .u64 (k:Int)∧y = .int .i64 (i:Int)∧k<18446744073709551616∧FmtRel b R k i l∧Blk wr g 269 (bcells (arrL i l)).toArray∧Kept Nob w wr) (λx _ _=>(RowKit.intOf x).toNat)
  case atStart=>exact⟨_,65,[],rfl,rfl,hu64,⟨rfl,by simpa using hR.out⟩,hblk.out,hkept.out⟩
  case round=>
   obtain⟨k,i,l,rfl,rfl,hk,hR2,hB,hK⟩:=hrel
   obtain⟨hi2,hi65⟩:=hR2.pos hRl
   obtain⟨i,rfl⟩: ∃j,i=j+1:=⟨i-1,by omega⟩
   clear hblk hkept
   have hgwr:w.heap.size<=g:=Nat.le_of_eq hgg.out
   have hz:=hB.zero
   have hfz:=hB.frozen i
   have hcast: (((i+1:Nat):Int))= (i:Int) +1:=by omega
   by_cases hge:b<=k
   ·have hnx:=hR2.next h2 hge
    have hBd:=hB.digit (digLC (k % b))
    have hql:k % b<b:=Nat.mod_lt _ oM
    have hix:=λw=>lc_idx (k % b) oM w
    have hd: (k:Int) / (b:Int)= ((k/b:Nat):Int):=by simp
    have hdm:=Nat.div_add_mod k b
    have hlt:=Nat.div_lt_self (show 0<k by omega) (show 1<b by omega)
    have hKd:=Kept.setCell (p:=⟨g,i,none⟩) hK (.inr hgwr) (.int .u8 ((digLC (k % b)).toNat:Int))
    generalize digLC (k % b)=ch at *
    generalize k % b=r at *
    generalize k/b=k' at *
    obtain⟨hmr,hm0,hm1⟩:=div_mul_parts hdm
    have hgeb:decide ((b:Int)<=(k:Int))=true:=by rw[decide_eq_true_iff];omega
    have hgeb':decide (b<=k)=true:=by rw[decide_eq_true_iff];omega
    replace hdm:=hid hdm
    replace hnx:=hid hnx
    replace hBd:=hid hBd
    replace hKd:=hid hKd
    replace hB:=hid hB
    replace hR2:=hid hR2
    replace hK:=hid hK
    go_wp2
    go_roundw
    case rel=>exact⟨k',i,_,rfl,by go_num,by omega,hnx.out,hBd.out,hKd.out⟩
    case measure=>simp[RowKit.intOf];omega
   ·have hlt:k<b:=by omega
    have hl2:=hR2.last hlt
    have hBd:=hB.digit (digLC k)
    have hix:=λw=>lc_idx k oM w
    have hKd:=Kept.setCell (p:=⟨g,i,none⟩) hK (.inr hgwr) (.int .u8 ((digLC k).toNat:Int))
    have hgeb:decide ((b:Int)<=(k:Int))=false:=by rw[decide_eq_false_iff_not];omega
    have hgeb':decide (b<=k)=false:=by rw[decide_eq_false_iff_not];omega
    have hil:i+ (digLC k::l).length=65:=by have:=hR2.1;simp;omega
    generalize digLC k=ch at *
    rw[hl2]at hBd hil
    replace hB:=hid hB
    replace hR2:=hid hR2
    replace hK:=hid hK
    replace hl2:=hid hl2
    obtain⟨j,rfl⟩: ∃j,i=j+1:=⟨i-1,by omega⟩
    have hz2: (wr.setCell ⟨g,j+1,none⟩ (.int .u8 (ch.toNat:Int))).cell? (g,j)=some (.int .u8 0):=hBd.zero
    have hfz2:=hBd.frozen j
    have hBd2:Blk ((wr.setCell ⟨g,j+1,none⟩ (.int .u8 (ch.toNat:Int))).setCell (g,j) (.int .u8 45)) g 269 (bcells (arrL j (45::R))).toArray:=hBd.digit 45
    have hKd2:=Kept.setCell (p:=⟨g,j,none⟩) hKd (.inr hgwr) (.int .u8 45)
    have hsl1:=λW=>arr65_slice g (j+1) R.length hil oM ((j:Int) +1) oM W
    have hsl2:=λW=>arr65_slice g j (45::R).length (by simp;omega) (by simp) (j:Int) rfl W
    have hcv1:=arr65_conv _ g (j+1) _ R hBd
    have hcv2:=arr65_conv _ g j _ (45::R) hBd2
    simp only[List.length_cons]at hsl2 hcv2
    have hcast2: (((j+1:Nat):Int))= (j:Int) +1:=by omega
    replace hil:=hid hil
    replace hBd:=hid hBd
    replace hBd2:=hid hBd2
    replace hKd:=hid hKd
    replace hKd2:=hid hKd2
    go_wp2
    go_ret2
    first|exact⟨rfl,hKd.out⟩ |exact⟨rfl,hKd2.out⟩
theorem isP2_log{b:Nat}(h:isP2 b=true):2 ^ logP2 b=b∧logP2 b<=5:=by
 have hb:b=2∨b=4∨b=8∨b=16∨b=32:=by simpa [isP2,or_assoc]using h
 rcases hb with rfl|rfl|rfl|rfl|rfl<;>decide
theorem u64_and_p2(k:Nat)(hk:k<18446744073709551616){b:Nat}(h:isP2 b=true):bits BinOp.and IntKind.u64 (k:Int) ((b:Int) -1)= ((k % b:Nat):Int):=by
 have hb:b=2∨b=4∨b=8∨b=16∨b=32:=by simpa [isP2,or_assoc]using h
 have key: ∀s:Nat,s<=5->(BitVec.ofInt 64 ((2 ^ s:Nat) -1:Int)).toNat=2 ^ s-1->bits BinOp.and IntKind.u64 (k:Int) (((2 ^ s:Nat):Int) -1)= ((k % 2 ^ s:Nat):Int):=by
  intro s hs hm
  have k1: (BitVec.ofInt 64 (k:Int) &&& BitVec.ofInt 64 (((2 ^ s:Nat):Int) -1)).toNat=k % 2 ^ s:=by
   rw[BitVec.toNat_and,BitVec.toNat_ofInt,hm,Nat.and_two_pow_sub_one_eq_mod]
   congr 1
   omega
  show IntKind.u64.wrap ((BitVec.ofInt 64 (k:Int) &&& BitVec.ofInt 64 (((2 ^ s:Nat):Int) -1)).toNat:Nat)=_
  rw[k1,IntKind.wrap_u64]
  have:k % 2 ^ s<=k:=Nat.mod_le _ _
  omega
 rcases hb with rfl|rfl|rfl|rfl|rfl
 ·exact key 1 oM (by decide)
 ·exact key 2 oM (by decide)
 ·exact key 3 oM (by decide)
 ·exact key 4 oM (by decide)
 ·exact key 5 oM (by decide)
set_option maxRecDepth 100000 in
theorem fmt_p2(u u0 b:Nat)(neg:Bool)(hu: (neg=false∧u0=u)∨(neg=true∧IntKind.u64.wrap (-(u:Int))= (u0:Int)))(hu64:u0<18446744073709551616)(h2:2<=b)(h36:b<=36)(h10:b≠10)(hp:isP2 b=true)(w:World)(hBr:Bruijn w):
 Calls prog 124 #[.slice none 0 0,.int .u64 (u:Int),(b:Int),.bool neg,.bool false] w (Fresh' (.tuple #[.slice none 0 0,.string ⟨((if neg then [45]else [])++digitsL b u0).toArray⟩]) w):=by
 obtain⟨R,hR⟩: ∃R,digitsL b u0=R:=⟨_,rfl⟩
 have hRl:R.length<=64:=by rw[<-hR,digitsL_len];exact digitsU_64 h2 hu64
 rw[hR]
 have hp2:=p2_walk b h2 h36
 rw[hp]at hp2
 replace hp2:=hid hp2
 have htz:=λw hB=>tzu_walk b hp w hB
 have hBr1:Bruijn (w.alloc (.cells Tryz.zeroCells269 269)):=(Lib.tabBelow_of_tabIs hBr) _ ((Below.refl _ _).alloc (Nat.le_refl _) _)
 replace hBr1:=hid hBr1
 replace htz:=hid htz
 have hpl:=hid (isP2_log hp)
 have hlog5:logP2 b<=5:=(isP2_log hp).2
 have q1:decide ((b:Int) <2)=false:=by rw[decide_eq_false_iff_not];omega
 have q2: ((b:Int) ==10)=false:=by rw[beq_eq_false_iff_ne];omega
 have q3:decide ((36:Int) < (b:Int))=false:=by rw[decide_eq_false_iff_not];omega
 have hand0:=λk hk=>u64_and_p2 k hk hp
 replace hand0:=hid hand0
 replace hR:=hid hR
 clear hp h10 hBr
 have hblk:Blk (w.alloc (.cells Tryz.zeroCells269 269)) w.heap.size 269 (bcells (arrL 65 [])).toArray:=by rw[<-zeros65];exact Blk.new _ _ _
 have hkept:Kept Nob w (w.alloc (.cells Tryz.zeroCells269 269)):=(Kept.refl _ _).alloc _
 have hgw:w.heap.size<=w.heap.size:=Nat.le_refl _
 replace hblk:=hid hblk
 replace hkept:=hid hkept
 rcases hu with⟨rfl,rfl⟩ | ⟨rfl,hu⟩
 all_goals
  go_enter func124,ntmps124
  go_wp2_with (first| (go_at_call 173;refine(hp2.out _).mono ?_;rintro e w1 ⟨rfl,rfl⟩) | (go_at_call 174;refine(htz.out _ hBr1.out).mono ?_;rintro e w2 ⟨rfl,rfl⟩))
  generalize w.alloc (.cells Tryz.zeroCells269 269)=wa at *
  generalize hgg:w.heap.size=g at *
  replace hgg:=hid hgg
  go_loopw [1,13] (λx y wr=> ∃(k i:Nat) (l:List UInt8),x = .int .u64 (k:Int)∧y = .int .i64 (i:Int)∧k<18446744073709551616∧FmtRel b R k i l∧Blk wr g 269 (bcells (arrL i l)).toArray∧Kept Nob w wr) (λx _ _=>(RowKit.intOf x).toNat)
  case atStart=>exact⟨_,65,[],rfl,rfl,hu64,⟨rfl,by simpa using hR.out⟩,hblk.out,hkept.out⟩
  case round=>
   obtain⟨k,i,l,rfl,rfl,hk,hR2,hB,hK⟩:=hrel
   obtain⟨hi2,hi65⟩:=hR2.pos hRl
   obtain⟨i,rfl⟩: ∃j,i=j+1:=⟨i-1,by omega⟩
   clear hblk hkept
   have hgwr:w.heap.size<=g:=Nat.le_of_eq hgg.out
   have hz:=hB.zero
   have hfz:=hB.frozen i
   have hcast: (((i+1:Nat):Int))= (i:Int) +1:=by omega
   by_cases hge:b<=k
   ·have hnx:=hR2.next h2 hge
    have hBd:=hB.digit (digLC (k % b))
    have hql:k % b<b:=Nat.mod_lt _ oM
    have hix:=λw=>lc_idx (k % b) oM w
    have hd: (k:Int) / (b:Int)= ((k/b:Nat):Int):=by simp
    have hand:=hand0.out k hk
    have hsh: (k:Int) /2 ^ logP2 b= ((k/b:Nat):Int):=by
     rw[<-hd,show((2:Int) ^ logP2 b)= ((2 ^ logP2 b:Nat):Int)from by simp,hpl.out.1]
    replace hsh:=hid hsh
    have hdm:=Nat.div_add_mod k b
    have hlt:=Nat.div_lt_self (show 0<k by omega) (show 1<b by omega)
    have hKd:=Kept.setCell (p:=⟨g,i,none⟩) hK (.inr hgwr) (.int .u8 ((digLC (k % b)).toNat:Int))
    generalize digLC (k % b)=ch at *
    generalize k % b=r at *
    generalize k/b=k' at *
    have hgeb:decide ((b:Int)<=(k:Int))=true:=by rw[decide_eq_true_iff];omega
    have hgeb':decide (b<=k)=true:=by rw[decide_eq_true_iff];omega
    replace hdm:=hid hdm
    replace hnx:=hid hnx
    replace hBd:=hid hBd
    replace hKd:=hid hKd
    replace hB:=hid hB
    replace hR2:=hid hR2
    replace hK:=hid hK
    go_wp2
    go_roundw
    case rel=>exact⟨k',i,_,by rw[hsh.out],by go_num,by omega,hnx.out,hBd.out,hKd.out⟩
    case measure=>rw[hsh.out];simp[RowKit.intOf];omega
   ·have hlt:k<b:=by omega
    have hl2:=hR2.last hlt
    have hBd:=hB.digit (digLC k)
    have hix:=λw=>lc_idx k oM w
    have hKd:=Kept.setCell (p:=⟨g,i,none⟩) hK (.inr hgwr) (.int .u8 ((digLC k).toNat:Int))
    have hgeb:decide ((b:Int)<=(k:Int))=false:=by rw[decide_eq_false_iff_not];omega
    have hgeb':decide (b<=k)=false:=by rw[decide_eq_false_iff_not];omega
    have hil:i+ (digLC k::l).length=65:=by have:=hR2.1;simp;omega
    generalize digLC k=ch at *
    rw[hl2]at hBd hil
    replace hB:=hid hB
    replace hR2:=hid hR2
    replace hK:=hid hK
    replace hl2:=hid hl2
    obtain⟨j,rfl⟩: ∃j,i=j+1:=⟨i-1,by omega⟩
    have hz2: (wr.setCell ⟨g,j+1,none⟩ (.int .u8 (ch.toNat:Int))).cell? (g,j)=some (.int .u8 0):=hBd.zero
    have hfz2:=hBd.frozen j
    have hBd2:Blk ((wr.setCell ⟨g,j+1,none⟩ (.int .u8 (ch.toNat:Int))).setCell (g,j) (.int .u8 45)) g 269 (bcells (arrL j (45::R))).toArray:=hBd.digit 45
    have hKd2:=Kept.setCell (p:=⟨g,j,none⟩) hKd (.inr hgwr) (.int .u8 45)
    have hsl1:=λW=>arr65_slice g (j+1) R.length hil oM ((j:Int) +1) oM W
    have hsl2:=λW=>arr65_slice g j (45::R).length (by simp;omega) (by simp) (j:Int) rfl W
    have hcv1:=arr65_conv _ g (j+1) _ R hBd
    have hcv2:=arr65_conv _ g j _ (45::R) hBd2
    simp only[List.length_cons]at hsl2 hcv2
    have hcast2: (((j+1:Nat):Int))= (j:Int) +1:=by omega
    replace hil:=hid hil
    replace hBd:=hid hBd
    replace hBd2:=hid hBd2
    replace hKd:=hid hKd
    replace hKd2:=hid hKd2
    go_wp2
    go_ret2
    first|exact⟨rfl,hKd.out⟩ |exact⟨rfl,hKd2.out⟩
end Go.Proofs.YteaijdgnagkllaaGreatDoor
