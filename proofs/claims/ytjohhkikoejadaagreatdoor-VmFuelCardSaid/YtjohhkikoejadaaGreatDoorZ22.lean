/- Chapter 6: which texts are names: the program's and the document's test; which are alike. Condition: the text is no longer than a machine's memory. -/
import Derived.Test.YtjohhkikoejadaaGreatDoorOm
import Derived.Test.YtjohhkikoejadaaGreatDoorZ13
import Derived.Test.YtjohhkikoejadaaGreatDoorZ07
import Derived.Test.YtjohhkikoejadaaGreatDoorZ08
import Derived.Test.YtjohhkikoejadaaGreatDoorZ03
import Derived.Test.YtjohhkikoejadaaGreatDoorZShelf
import Derived.Test.YtjohhkikoejadaaGreatDoorZ06
import Derived.Lib.SpaceUEq
import Derived.Lib.TrimUEq
import Derived.Test.YtjohhkikoejadaaGreatDoorZ02
import Derived.Test.YtjohhkikoejadaaGreatDoorZ16
namespace Go.Proofs.YtjohhkikoejadaaGreatDoor
set_option linter.unusedVariables false
set_option linter.unusedSimpArgs false
set_option maxHeartbeats 8000000
set_option maxRecDepth 100000
open Go.RowKit Go.Lib Go.Deep
namespace Vm
def fF(r:Nat) :Bool:=decide (r<=32)
def ui(l:List UInt8)(pos:Nat) :Prop:= ∃i,pos<=i∧i<l.length∧(l.getD i 0).toNat<=32
theorem ug(s:ByteArray) : ∀(f pos:Nat),s.data.toList.length<=pos+f->(0<=Lib.idxFuncFrom fF true s f pos↔ui s.data.toList pos)
 | 0,pos,h=>by
   constructor
   ·intro h1;simp[Lib.idxFuncFrom]at h1
   ·rintro⟨i,h1,h2,_⟩;omega
 | f+1,pos,h=>by
   have hsz:s.size=s.data.toList.length:=Lib.size_eq s |>.symm▸rfl
   unfold Lib.idxFuncFrom
   by_cases hp:pos<s.size
   ·rw[if_pos hp,Lib.decode_N]
    have hc:=Lib.decodeN_cases (s.data.toList.length-pos) (s.data.toList.getD pos 0).toNat (s.data.toList.getD (pos+1) 0).toNat (s.data.toList.getD (pos+2) 0).toNat (s.data.toList.getD (pos+3) 0).toNat
    have hk:=Lib.decodeN_conts (s.data.toList.length-pos) (s.data.toList.getD pos 0).toNat (s.data.toList.getD (pos+1) 0).toNat (s.data.toList.getD (pos+2) 0).toNat (s.data.toList.getD (pos+3) 0).toNat
    have h1:=Lib.decodeN_ge1 (s.data.toList.length-pos) (s.data.toList.getD pos 0).toNat (s.data.toList.getD (pos+1) 0).toNat (s.data.toList.getD (pos+2) 0).toNat (s.data.toList.getD (pos+3) 0).toNat
    have ha: (s.data.toList.getD pos 0).toNat<128->Lib.decodeN (s.data.toList.length-pos) (s.data.toList.getD pos 0).toNat (s.data.toList.getD (pos+1) 0).toNat (s.data.toList.getD (pos+2) 0).toNat (s.data.toList.getD (pos+3) 0).toNat= ((s.data.toList.getD pos 0).toNat,1):=λh=>by
     unfold Lib.decodeN
     rw[if_pos h]
    obtain⟨⟨r,k⟩,hrk⟩ : ∃p,Lib.decodeN (s.data.toList.length-pos) (s.data.toList.getD pos 0).toNat (s.data.toList.getD (pos+1) 0).toNat (s.data.toList.getD (pos+2) 0).toNat (s.data.toList.getD (pos+3) 0).toNat=p:=⟨_,rfl⟩
    rw[hrk]at hc hk h1 ha⊢
    simp only[Prod.mk.injEq]at hc hk h1 ha⊢
    have ih:=ug s f (pos+k) oM
    by_cases hb: (s.data.toList.getD pos 0).toNat<=32
    ·have h2:=ha oM
     have e:fF r=true:=by unfold fF;rw[h2.1];exact decide_eq_true hb
     rw[if_pos e]
     exact⟨λ_=>⟨pos,Nat.le_refl _,by omega,hb⟩,λ_=>by omega⟩
    ·have e : ¬fF r=true:=by
      unfold fF
      rw[decide_eq_true_eq]
      rcases Nat.lt_or_ge (s.data.toList.getD pos 0).toNat 128 with h3|h3
      ·rw[(ha h3).1];exact hb
      ·omega
     rw[if_neg e,ih]
     constructor
     ·rintro⟨i,h3,h4,h5⟩
      exact⟨i,by omega,h4,h5⟩
     ·rintro⟨i,h3,h4,h5⟩
      refine⟨i,?_,h4,h5⟩
      apply Classical.byContradiction
      intro hlt
      have h6:i=pos∨i=pos+1∨i=pos+2∨i=pos+3:=by omega
      rcases h6 with rfl|rfl|rfl|rfl
      ·exact hb h5
      ·have:=hk.1 oM;omega
      ·have:=hk.2.1 oM;omega
      ·have:=hk.2.2.1 oM;omega
   ·rw[if_neg hp]
    constructor
    ·intro h1;omega
    ·rintro⟨i,h1,h2,_⟩;omega
theorem FK(s:ByteArray) : (!decide (0<=Lib.idxFunc fF true s)) =s.data.toList.all eb:=by
 have h:=ug s s.size 0 (by rw[Lib.size_eq];omega)
 have e: (0<=Lib.idxFunc fF true s)↔ui s.data.toList 0:=h
 rw[Bool.eq_iff_iff,Bool.not_eq_true',decide_eq_false_iff_not,e,List.all_eq_true]
 constructor
 ·intro h1 c hc
  unfold eb
  rw[decide_eq_true_eq]
  apply Classical.byContradiction
  intro h2
  obtain⟨i,hi,rfl⟩:=List.getElem_of_mem hc
  exact h1 ⟨i,Nat.zero_le _,hi,by rw[List.getD_eq_getElem?_getD,List.getElem?_eq_getElem hi];simp at h2⊢;omega⟩
 ·rintro h1 ⟨i,_,hi,h2⟩
  have h3:=h1 _ (List.getElem_mem hi)
  unfold eb at h3
  rw[decide_eq_true_eq]at h3
  rw[List.getD_eq_getElem?_getD,List.getElem?_eq_getElem hi,Option.getD_some]at h2
  omega
theorem Ga(x:Nat)(hx:x<=1114111)(w:World) :Calls Tryz.prog 171 #[.int .i32 (x:Int)] w (aA (.bool (fF x)) w):=by
 have e:decide ((x:Int)<=32) =fF x:=by unfold fF;rw[decide_eq_decide];omega
 go_enter Tryz.func171,Tryz.ntmps171
 go_wp2
 go_ret
 exact⟨rfl,rfl⟩
theorem vM(s:ByteArray)(hs:s.size<=9223372036854775807)(w:World) :Calls Tryz.prog 110 #[.string s] w (Quiet (.bool (Dc.dJ s.data.toList)) w):=by
 have hl:s.data.toList.length=s.size:=by rw[Lib.size_eq]
 obtain⟨r,hr⟩ : ∃r,Dc.dJ s.data.toList=r:=⟨_,rfl⟩
 rw[hr]
 unfold Dc.dJ at hr
 rw[hl]at hr
 by_cases h0:s.size=0
 ·have e:r=false:=by rw[<-hr];simp[h0]
  subst e
  have hnil:s.data.toList = []:=List.eq_nil_of_length_eq_zero (by rw[hl];exact h0)
  obtain rfl:s= ⟨#[]⟩:=by cases s;simp at hnil;rw[hnil]
  clear hr hl hnil h0
  go_enter Tryz.func110,Tryz.ntmps110
  go_wp2
  go_ret
  exact⟨rfl,Below.refl _ _⟩
 have hne:s.toList.isEmpty=false:=sJ s oM
 by_cases h1:s.size<=31
 ·have hc:=Tryz.strings_ContainsFunc_grows 171 #[] (λ_ _=>by kernel_rfl) fF s w (λW x hx _=>(Ga x hx W).mono λe w' h=>⟨h.1,by rw[h.2];exact Below.refl _ _⟩)
  have e: (!decide (0<=Lib.idxFunc fF true s)) =r:=by rw[FK,<-hr];simp[h1];omega
  generalize decide (0<=Lib.idxFunc fF true s) =q at *
  have t1:decide ((s.size:Int)<=31) =true:=decide_eq_true oM
  replace hc:=hid hc
  replace e:=hid e
  clear hr hl h0
  go_enter Tryz.func110,Tryz.ntmps110
  go_wp2_with fail
  refine hc.out.mono ?_
  rintro e0 w1 ⟨rfl,h⟩
  replace h:=hid h
  go_wp2
  go_ret
  exact⟨by rw[<-e.out];rfl,h.out⟩
 ·have e:r=false:=by rw[<-hr];simp[h1]
  subst e
  have t1:decide ((s.size:Int)<=31) =false:=decide_eq_false oM
  clear hr hl h0
  go_enter Tryz.func110,Tryz.ntmps110
  go_wp2
  go_ret
  exact⟨rfl,Below.refl _ _⟩
theorem Gj(c:UInt8) : ((sI c).toNat:Int) =if 65<=(c.toNat:Int)∧(c.toNat:Int)<=90 then(c.toNat:Int) +32 else(c.toNat:Int):=by
 unfold sI
 by_cases h:65<=c.toNat∧c.toNat<=90
 ·rw[if_pos h,if_pos oM,UInt8.toNat_add]
  have: (32:UInt8).toNat=32:=rfl
  rw[this];omega
 ·rw[if_neg h,if_neg oM]
def jT(l:List UInt8)(j:Nat) :List UInt8:=(l.take j).map sI++l.drop j
theorem yj(l:List UInt8)(j:Nat) : (jT l j).length=l.length:=by unfold jT;simp;omega
theorem DZ(l:List UInt8) :jT l 0=l:=by unfold jT;simp
theorem Fw(l:List UInt8)(j:Nat)(h:l.length<=j) :jT l j=xF l:=by unfold jT xF;rw[List.take_of_length_le h,List.drop_eq_nil_of_le h];simp
theorem BM(l:List UInt8)(j:Nat)(h:j<l.length)(h':j< (jT l j).length) : (jT l j)[j] =l.getD j 0:=by
 have e: (jT l j)[j]? = some l[j]:=by
  unfold jT
  rw[List.getElem?_append_right (by simp;omega),List.getElem?_drop]
  have:j+ (j- (List.map sI (List.take j l)).length) =j:=by simp;omega
  rw[this,List.getElem?_eq_getElem h]
 rw[List.getElem?_eq_getElem h']at e
 have hg:l.getD j 0=l[j]:=by simp[List.getD,h]
 rw[hg]
 exact Option.some.inj e
theorem tv(l:List UInt8)(j:Nat)(h:j<l.length) : (jT l j).set j (sI (l.getD j 0)) =jT l (j+1):=by
 have hg:l.getD j 0=l[j]:=by simp[List.getD,h]
 unfold jT
 rw[List.set_append_right _ _ (by simp;omega),List.take_succ_eq_append_getElem h,List.drop_eq_getElem_cons h,hg]
 have:j- (List.map sI (List.take j l)).length=0:=by simp;omega
 rw[this,List.set_cons_zero,List.map_append,List.append_assoc]
 rfl
theorem CF(l:List UInt8)(j:Nat)(h:j<l.length)(hc:sI (l.getD j 0) =l.getD j 0) :jT l (j+1) =jT l j:=by
 rw[<-tv l j h,hc]
 have h':j< (jT l j).length:=by rw[yj];exact h
 rw[<-BM l j h h']
 exact List.set_getElem_self h'
theorem Ou : ∀k:Fin 26,bits .or .u8 (65+ (k.val:Int)) 32=97+ (k.val:Int):=by decide +kernel
theorem Ny(n:Nat)(h1:65<=(n:Int))(h2: (n:Int)<=90) :bits .or .u8 (n:Int) 32= (n:Int) +32:=by
 have h:=Ou ⟨n-65,by omega⟩
 have e: (65+ ((n-65:Nat) :Int)) = (n:Int):=by omega
 simp only[e]at h
 rw[h]
 omega
theorem qS(s:ByteArray)(hs:s.size<=140737488355327)(w:World) :Calls Tryz.prog 62 #[.string s] w λe w'=>e = .returned (.string ⟨(xF s.data.toList).toArray⟩)∧Below w.heap.size w w':=by
 have hl:s.data.toList.length=s.size:=by rw[Lib.size_eq]
 have hcv:=λw=>Lib.run_convert_string_bytes (P:=Tryz.prog) w 9 92 5 s Tryz.underlying9 Tryz.underlying92 Tryz.underlying5
 have hA0:=(At.refl w).bytes 5 s (by unfold maxLen;omega)
 obtain⟨cap,hcap⟩ : ∃cap,grownCap w s.size 0 5=cap:=⟨_,rfl⟩
 rw[hcap]at hA0
 have hcv0:=hcv w
 rw[hcap]at hcv0
 clear hcv
 replace hA0:=hid hA0
 replace hl:=hid hl
 go_enter Tryz.func62,Tryz.ntmps62
 go_wp2_with fail
 go_loopw [10] (λi wr=> ∃j:Nat,j<=s.size∧i = .int .i64 j∧At w wr [De 5 (.slice w.heap.size s.size cap) (jT s.data.toList j)]) (λi _=>s.size- (RowKit.intOf i).toNat)
 case atStart=>exact⟨0,by omega,rfl,by rw[DZ];exact hA0.out⟩
 case round=>
  obtain⟨j,hj,rfl,hA⟩:=hrel
  have hrow:=hA.row
  by_cases hlt:j<s.size
  ·have hj1:j< (jT s.data.toList j).length:=by rw[yj,hl.out];exact hlt
   have hc0:=hrow.cells rfl j hj1
   have hf0:=hrow.frozen rfl j hj1
   rw[BM _ _ (by rw[hl.out];exact hlt)]at hc0
   have hset:=λD hD=>hA.aV rfl j hj1 (sI (s.data.toList.getD j 0)) D hD
   have hsame:=CF s.data.toList j (by rw[hl.out];exact hlt)
   rw[tv _ _ (by rw[hl.out];exact hlt)]at hset
   obtain⟨c,hc⟩ : ∃c,s.data.toList.getD j 0=c:=⟨_,rfl⟩
   rw[hc]at hc0 hset hsame
   have hcl:=Gj c
   have hc255: (c.toNat:Int)<=255:=by have:=c.toNat_lt;omega
   replace hset:=hid hset
   replace hsame:=hid hsame
   replace hA:=hid hA
   replace hc:=hid hc
   clear hrow hA0
   by_cases g0:65<=(c.toNat:Int)∧(c.toNat:Int)<=90
   ·obtain⟨g1,g2⟩:=g0
    have hor:=Ny c.toNat g1 g2
    rw[if_pos ⟨g1,g2⟩]at hcl
    replace hor:=hid hor
    replace hcl:=hid hcl
    go_wp2_with fail
    go_roundw
    case rel=>exact⟨j+1,by omega,by go_num,hset.out _ (by rw[hcl.out];have:=hor.out;omega)⟩
    case measure=>simp[RowKit.intOf];omega
   ·rw[if_neg g0]at hcl
    have hlc:sI c=c:=UInt8.toNat_inj.1 oM
    have hA2:=hA.out
    rw[<-hsame.out hlc]at hA2
    replace hA2:=hid hA2
    replace hcl:=hid hcl
    replace hlc:=hid hlc
    by_cases g1:65<=(c.toNat:Int)
    ·have t2:decide ((c.toNat:Int)<=90) =false:=by simp;omega
     clear g0
     go_wp2_with fail
     go_roundw
     case rel=>exact⟨j+1,by omega,by go_num,hA2.out⟩
     case measure=>simp[RowKit.intOf];omega
    ·have t1:decide (65<=(c.toNat:Int)) =false:=by simp;omega
     clear g0 g1
     go_wp2_with fail
     go_roundw
     case rel=>exact⟨j+1,by omega,by go_num,hA2.out⟩
     case measure=>simp[RowKit.intOf];omega
  ·rw[Fw _ _ (by rw[hl.out];omega)]at hrow
   have hcv2:=hrow.nU (P:=Tryz.prog) 92 9 Tryz.underlying92 Tryz.underlying5 Tryz.underlying9
   replace hA:=hid hA
   clear hrow
   go_wp2_with fail
   go_ret
   exact⟨rfl,hA.out.below⟩
theorem om(s:ByteArray)(hs:s.size<=9223372036854775807)(w:World) :Calls Tryz.prog 116 #[.string s] w (aA (.bool (Dc.dJ s.data.toList)) w):=by
 have hl:s.data.toList.length=s.size:=by rw[Lib.size_eq]
 have ia:=λ(j:Nat) (h:j<s.size)=>gn s j h
 obtain⟨r,hr⟩ : ∃r,Dc.dJ s.data.toList=r:=⟨_,rfl⟩
 have hr':=hr
 rw[hr]
 unfold Dc.dJ at hr'
 rw[hl]at hr'
 replace hr:=hid hr
 replace ia:=hid ia
 by_cases h1:1<=s.size∧s.size<=31
 ·have t1:decide ((s.size:Int) <1) =false:=by rw[decide_eq_false_iff_not];omega
  have t2:decide ((s.size:Int) >31) =false:=by rw[decide_eq_false_iff_not];omega
  have hr2:s.data.toList.all eb=r:=by rw[<-hr'];simp[h1]
  clear hr'
  replace hr2:=hid hr2
  replace hl:=hid hl
  go_enter Tryz.func116,Tryz.ntmps116
  go_wp2
  go_loopw [3] (λi wr=> ∃j:Nat,j<=s.size∧i = .int .i64 (j:Int)∧wr=w∧∀k,k<j->eb (s.data.toList.getD k 0) =true) (λi _=>s.size- (RowKit.intOf i).toNat)
  case atStart=>exact⟨0,by omega,rfl,rfl,λk hk=>by omega⟩
  case round=>
   obtain⟨j,hj,rfl,rfl,hno⟩:=hrel
   replace hno:=hid hno
   by_cases hlt:j<s.size
   ·have hx:=ia.out j hlt wr
    obtain⟨c,hc⟩ : ∃c,s.data.toList.getD j 0=c:=⟨_,rfl⟩
    rw[hc]at hx
    obtain⟨n,hn⟩ : ∃n,c.toNat=n:=⟨_,rfl⟩
    rw[hn]at hx
    replace hc:=hid hc
    replace hn:=hid hn
    by_cases c1:n<=32
    ·have t3:decide ((n:Int)<=32) =true:=by rw[decide_eq_true_eq];omega
     go_wp2
     go_ret
     have:r=false:=by
      rw[<-hr2.out,List.all_eq_false]
      have hjl:j<s.data.toList.length:=by rw[hl.out];exact hlt
      refine⟨s.data.toList[j],List.getElem_mem hjl,?_⟩
      have e:s.data.toList[j] =c:=by rw[<-hc.out,List.getD_eq_getElem?_getD,List.getElem?_eq_getElem hjl];rfl
      rw[e]
      unfold eb
      rw[hn.out]
      simp;omega
     rw[this]
     exact⟨rfl,rfl⟩
    ·have t3:decide ((n:Int)<=32) =false:=by rw[decide_eq_false_iff_not];omega
     replace c1:=hid c1
     go_wp2
     go_roundw
     case rel=>
      refine⟨j+1,by omega,by go_num,by first|rfl|trivial,λk hk=> ?_⟩
      by_cases hkj:k=j
      ·subst hkj
       rw[hc.out]
       unfold eb
       rw[hn.out]
       have:=c1.out
       simp;omega
      ·exact hno.out k oM
     case measure=>simp[RowKit.intOf];omega
   ·have hjj:j=s.size:=by omega
    subst hjj
    go_wp2
    go_ret
    have:r=true:=by
     rw[<-hr2.out,List.all_eq_true]
     intro x hx
     obtain⟨k,hk,rfl⟩:=List.getElem_of_mem hx
     have:=hno.out k (by rw[<-hl.out];exact hk)
     rw[List.getD_eq_getElem?_getD,List.getElem?_eq_getElem hk]at this
     exact this
    rw[this]
    exact⟨rfl,rfl⟩
 ·have:r=false:=by rw[<-hr'];simp[h1]
  subst this
  clear hr'
  by_cases h2:s.size<1
  ·have t1:decide ((s.size:Int) <1) =true:=by rw[decide_eq_true_eq];omega
   go_enter Tryz.func116,Tryz.ntmps116
   go_wp2
   go_ret
   exact⟨rfl,rfl⟩
  ·have t1:decide ((s.size:Int) <1) =false:=by rw[decide_eq_false_iff_not];omega
   have t2:decide ((s.size:Int) >31) =true:=by rw[decide_eq_true_eq];omega
   go_enter Tryz.func116,Tryz.ntmps116
   go_wp2
   go_ret
   exact⟨rfl,rfl⟩
theorem Ml(a b:ByteArray)(ha:a.size<=140737488355327)(hb:b.size<=140737488355327)(w:World) :Calls Tryz.prog 38 #[.string a,.string b] w (Quiet (.bool (j9 a.data.toList b.data.toList)) w):=by
 have hla:a.data.toList.length=a.size:=by rw[Lib.size_eq]
 have hlb:b.data.toList.length=b.size:=by rw[Lib.size_eq]
 obtain⟨r,hr⟩ : ∃r,j9 a.data.toList b.data.toList=r:=⟨_,rfl⟩
 rw[hr]
 unfold j9 at hr
 by_cases h1:a.size=b.size
 ·have t1: ((a.size:Int) == (b.size:Int)) =true:=by rw[beq_iff_eq];omega
  have ca:=qS a ha w
  have cb:=λw=>qS b hb w
  generalize xF a.data.toList=x at *
  generalize xF b.data.toList=y at *
  replace hr:=hid hr
  replace ca:=hid ca
  replace cb:=hid cb
  replace h1:=hid h1
  replace hla:=hid hla
  replace hlb:=hid hlb
  go_enter Tryz.func38,Tryz.ntmps38
  go_wp2_with fail
  refine ca.out.mono ?_
  rintro e w1 ⟨rfl,hb1⟩
  replace hb1:=hid hb1
  go_wp2_with fail
  refine(cb.out _).mono ?_
  rintro e w2 ⟨rfl,hb2⟩
  replace hb2:=hid hb2
  go_wp2
  go_ret
  have e3: (x==y) =r:=by rw[<-hr.out,Bool.eq_iff_iff,beq_iff_eq,decide_eq_true_eq]
  exact⟨by rw[<-e3];rfl,hb1.out.trans (hb2.out.mono hb1.out.size)⟩
 ·have t1: ((a.size:Int) == (b.size:Int)) =false:=by rw[beq_eq_false_iff_ne];omega
  have e:r=false:=by
   rw[<-hr,decide_eq_false_iff_not]
   intro h
   have h2:=congrArg List.length h
   unfold xF at h2
   rw[List.length_map,List.length_map]at h2
   omega
  subst e
  clear hr hla hlb
  replace h1:=hid h1
  go_enter Tryz.func38,Tryz.ntmps38
  go_wp2
  go_ret
  exact⟨rfl,Below.refl _ _⟩
theorem wF(n:Nat)(h:n<4611686018427387904) :bits .andNot .i64 (n:Int) 7= ((n/8*8:Nat) :Int):=by
 show IntKind.i64.wrap ((BitVec.ofInt 64 (n:Int) &&& ~~~BitVec.ofInt 64 ((7:Nat) :Int)).toNat:Int) =_
 rw[BitVec.toNat_and,BitVec.toNat_not,ofInt_u64 n oM,ofInt_u64 7 oM]
 have e:2 ^ 64-1-7=18446744073709551608:=by decide
 rw[e,nat_hi64_3,Nat.mod_eq_of_lt oM,IntKind.wrap_i64]
 omega
theorem xj(n:Nat)(h:n<=1000000)(w:World) :Calls Tryz.prog 111 #[.int .i64 (n:Int)] w (aA (.int .i64 (up n:Nat)) w):=by
 have e:=wF (n+7) oM
 rw[show((n+7:Nat) :Int) = (n:Int) +7 by omega]at e
 have e2: (n+7) /8*8=up n:=rfl
 rw[e2]at e
 replace e:=hid e
 go_enter Tryz.func111,Tryz.ntmps111
 go_wp2
 go_ret
 exact⟨by rw[<-e.out];rfl,rfl⟩
def dF(gI g fr en:Nat)(D:Dc)(S:Img)(l:List UInt8) :Asr:=aa [DcA gI g fr en (laidB D l.length),au gI (S.put D.h l)]
section
variable {w w1:World}{F:Nat->Prop}{g gI fr en:Nat}{D:Dc}{S:Img}
theorem zj(hb: (aa [DcA gI g fr en D,au gI S]).holds w F) :On F w (dF gI g fr en D S []) w:=by
 unfold dF
 rw[Img.fP]
 exact On.refl hb
theorem Aa(l:List UInt8)(h:On F w (dF gI g fr en D S l) w1) :w1.cell? ⟨g,0,none⟩ =some (.pointer (some ⟨gI,0,none⟩))∧w1.cell? ⟨g,1,none⟩ =some (.int .i64 (fr:Int))∧w1.cell? ⟨g,2,none⟩ =some (.int .i64 (en:Int))∧
 w1.cell? ⟨g,3,none⟩ =some (.int .i64 ((D.h+l.length:Nat) :Int))∧w1.cell? ⟨g,4,none⟩ =some (.int .i64 (D.l:Int))∧w1.frozen? ⟨g,4,none⟩ =false:=by
 have hs:Blk w1 g 136 (cu gI fr en ((D.h+l.length:Nat) :Int) (D.l:Int)):=h.ab 0 rfl
 exact⟨hs.cell 0,hs.cell 1,hs.cell 2,hs.cell 3,hs.cell 4,hs.frozen 4⟩
theorem pj(h8:At8 S D fr en)(hs:D.shut S=false)(l:List UInt8)(b:UInt8)(hl:D.h+l.length<en)(h:On F w (dF gI g fr en D S l) w1) :
 Calls Tryz.prog 115 #[.pointer (some ⟨g,0,none⟩),.int .u8 (b.toNat:Int)] w1 (Got (.returned (.int .i64 0)) (dF gI g fr en D S (l ++ [b])) F w):=by
 unfold dF
 rw[List.length_append]
 exact h.qE λF' hb=>oS h8 hs l b hl hb
theorem zR(h8:At8 S D fr en)(hs:D.shut S=false)(l:List UInt8)(v:Int)(hv:V64 v)(hl:D.h+l.length+8<=en)(hal: (D.h+l.length) % 8=0)(h:On F w (dF gI g fr en D S l) w1) :
 Calls Tryz.prog 75 #[.pointer (some ⟨g,0,none⟩),.int .i64 v] w1 (Got (.returned (.int .i64 0)) (dF gI g fr en D S (l++toB v)) F w):=by
 unfold dF
 rw[List.length_append,aJ]
 refine h.qE λF' hb=> ?_
 have h9:=nv h8 hs l oM
 have hq:=vJ hb h9 v hv
 have hsh: (laidB D l.length).shut (S.put D.h l) =false:=by rw[<-hs];rfl
 have e: (laidB D l.length).bo (S.put D.h l) =0:=by
  unfold Dc.bo
  rw[h9.lim,hsh,if_neg (by show¬en<D.h+l.length+8;omega),if_neg (by show¬(D.h+l.length) % 8≠0;omega)]
  rfl
 unfold Dc.bq Dc.bp at hq
 rw[e,if_pos rfl,if_pos rfl]at hq
 have e2: (S.put D.h l).put (laidB D l.length).h (toB v) =S.put D.h (l++toB v):=S.gG D.h l (toB v) (by rw[h8.img.len];have:=h8.ok.all;rw[h8.lim]at this;omega)
 rw[e2]at hq
 exact hq
theorem rU(h8:At8 S D fr en)(hs:D.shut S=false)(l:List UInt8)(n:Nat)(hn:n=up (D.h+l.length) - (D.h+l.length))(hl:D.h+l.length<=en)(h:On F w (dF gI g fr en D S l) w1) :
 Calls Tryz.prog 114 #[.pointer (some ⟨g,0,none⟩)] w1 (Got (.returned (.int .i64 0)) (dF gI g fr en D S (l++List.replicate n 0)) F w):=by
 subst hn
 unfold dF
 rw[List.length_append,List.length_replicate]
 refine h.qE λF' hb=> ?_
 have h9:=nv h8 hs l hl
 have hsh: (laidB D l.length).shut (S.put D.h l) =false:=by rw[<-hs];rfl
 have hq:=oL hb h9 (.inr hsh)
 have e1: (laidB D l.length).h=D.h+l.length:=rfl
 rw[e1]at hq
 have e2: (S.put D.h l).put (D.h+l.length) (List.replicate (up (D.h+l.length) - (D.h+l.length)) 0) =S.put D.h (l++List.replicate (up (D.h+l.length) - (D.h+l.length)) 0):=S.gG D.h l _ (by rw[h8.img.len];have:=h8.ok.all;rw[h8.lim]at this;omega)
 rw[e2]at hq
 have e3:laidB (laidB D l.length) (up (D.h+l.length) - (D.h+l.length)) =laidB D (l.length+ (up (D.h+l.length) - (D.h+l.length))):=by unfold laidB;simp[Nat.add_assoc]
 rw[e3]at hq
 exact hq
end
section
variable {w w1:World}{F:Nat->Prop}{g gI fr en:Nat}{D:Dc}{S:Img}
theorem yY(hb: (aa [DcA gI g fr en D,au gI S]).holds w F)(s:ByteArray)(hsz:s.size<=9223372036854775807)(hn:Dc.dJ s.data.toList=false) :
 Calls Tryz.prog 70 #[g,.string s] w (Got (.returned (.tuple #[(0:Int),(15:Int)])) (aa [DcA gI g fr en D,au gI S]) F w):=by
 have hon:=On.refl hb
 have hnm:=vM s hsz w
 rw[hn]at hnm
 replace hon:=hid hon
 replace hnm:=hid hnm
 clear hb hn
 go_enter Tryz.func70,Tryz.ntmps70
 go_wp2_with fail
 refine hnm.out.mono ?_
 rintro e w1 ⟨rfl,h⟩
 replace h:=hid h
 go_wp2
 go_ret2
 exact⟨rfl,hon.out.below h.out⟩
theorem jf{s:ByteArray}(hn:Dc.dJ s.data.toList=true) :1<=s.size∧s.size<=31:=by
 have:=Dc.vZ hn
 rw[<-Lib.size_eq]at this
 exact this
theorem wV(hb: (aa [DcA gI g fr en D,au gI S]).holds w F)(h8:At8 S D fr en)(s:ByteArray)(hn:Dc.dJ s.data.toList=true)(hf:en<up D.h+ (8+up (1+s.size))) :
 Calls Tryz.prog 70 #[g,.string s] w (Got (.returned (.tuple #[(0:Int),(9:Int)])) (aa [DcA gI g fr en D,au gI S]) F w):=by
 have hon:=On.refl hb
 have hs2:=jf hn
 have hnm:=vM s oM w
 rw[hn]at hnm
 have h1:=h8.lo
 have hle:=h8.le
 have hu1:=ed D.h
 have hu2:=ed (1+s.size)
 have hup1:=λw=>xj D.h oM w
 have hup2:=λw=>xj (1+s.size) oM w
 rw[show((1+s.size:Nat) :Int) =1+ (s.size:Int)by omega]at hup2
 have hc:=λw1 (h:On F w (aa [DcA gI g fr en D,au gI S]) w1)=>(show Blk w1 g 136 (cu gI fr en (D.h:Int) (D.l:Int))from h.ab 0 rfl)
 replace hon:=hid hon
 replace hnm:=hid hnm
 replace hup1:=hid hup1
 replace hup2:=hid hup2
 replace hc:=hid hc
 generalize up (1+s.size) =u2 at *
 generalize up D.h=u1 at *
 clear hb hn h8
 go_enter Tryz.func70,Tryz.ntmps70
 go_wp2_with fail
 refine hnm.out.mono ?_
 rintro e w1 ⟨rfl,h⟩
 have hon1:=hon.out.below h
 have c3:w1.cell? (g,3) =some ((D.h:Int) :Vl):=(hc.out _ hon1).cell 3
 have c2:w1.cell? (g,2) =some ((en:Int) :Vl):=(hc.out _ hon1).cell 2
 replace hon1:=hid hon1
 clear h
 go_wp2_with fail
 refine(hup1.out _).mono ?_
 rintro e w2 ⟨rfl,rfl⟩
 go_wp2_with fail
 go_quiet ((go_at_call 111;exact Calls.quiet_of_same (hup2.out _)))
 go_wp2
 go_ret2
 exact⟨rfl,hon1.out.drewN _⟩
theorem wU(hb: (aa [DcA gI g fr en D,au gI S]).holds w F)(h8:At8 S D fr en)(s:ByteArray)(hn:Dc.dJ s.data.toList=true)(hf : ¬en<up D.h+ (8+up (1+s.size)))(hsh:D.shut S=true) :
 Calls Tryz.prog 70 #[g,.string s] w (Got (.returned (.tuple #[(0:Int),(5:Int)])) (aa [DcA gI g fr en D,au gI S]) F w):=by
 have hon:=On.refl hb
 have hs2:=jf hn
 have hnm:=vM s oM w
 rw[hn]at hnm
 have h1:=h8.lo
 have hle:=h8.le
 have hu1:=ed D.h
 have hu2:=ed (1+s.size)
 have hup1:=λw=>xj D.h oM w
 have hup2:=λw=>xj (1+s.size) oM w
 rw[show((1+s.size:Nat) :Int) =1+ (s.size:Int)by omega]at hup2
 have hc:=λw1 (h:On F w (aa [DcA gI g fr en D,au gI S]) w1)=>(show Blk w1 g 136 (cu gI fr en (D.h:Int) (D.l:Int))from h.ab 0 rfl)
 have hrg:D.rg<=5:=by rcases h8.ok.rg with e|e<;>omega
 have hreg:=λw1 (h:On F w (aa [DcA gI g fr en D,au gI S]) w1) (n:Nat)=>(by
  obtain⟨gb,hi⟩:=h.img 1 rfl
  have:=mT (w:=w1.drewN n) (hi.drewN n) (fr:Int)
  rw[h8.ok.region fr (by rw[h8.fr];exact Nat.le_refl _) (by rw[h8.lim];omega)]at this
  exact this:Calls Tryz.prog 113 #[gI,(fr:Int)] (w1.drewN n) (aA (D.rg:Int) (w1.drewN n)))
 have hmay:=λw1 (h:On F w (aa [DcA gI g fr en D,au gI S]) w1) (n:Nat)=>(by
  obtain⟨gb,hi⟩:=h.img 1 rfl
  have:=BX (w:=w1.drewN n) (hi.drewN n) 0 D.rg hrg
  rw[h8.ok.may,if_pos hsh]at this
  exact this:Calls Tryz.prog 112 #[gI,(0:Int),(D.rg:Int)] (w1.drewN n) (aA (.int .i64 1) (w1.drewN n)))
 have hbit:bits .and .i64 1 2=0:=by decide
 replace hon:=hid hon
 replace hnm:=hid hnm
 replace hup1:=hid hup1
 replace hup2:=hid hup2
 replace hc:=hid hc
 replace hreg:=hid hreg
 replace hmay:=hid hmay
 generalize up (1+s.size) =u2 at *
 generalize up D.h=u1 at *
 clear hb hn h8 hsh
 go_enter Tryz.func70,Tryz.ntmps70
 go_wp2_with fail
 refine hnm.out.mono ?_
 rintro e w1 ⟨rfl,h⟩
 have hon1:=hon.out.below h
 have c3:w1.cell? (g,3) =some ((D.h:Int) :Vl):=(hc.out _ hon1).cell 3
 have c2:w1.cell? (g,2) =some ((en:Int) :Vl):=(hc.out _ hon1).cell 2
 replace hon1:=hid hon1
 clear h
 go_wp2_with fail
 refine(hup1.out _).mono ?_
 rintro e w2 ⟨rfl,rfl⟩
 go_wp2_with fail
 go_quiet ((go_at_call 111;exact Calls.quiet_of_same (hup2.out _)))
 have hon2:=hon1.out.drewN nq
 obtain⟨w3,hw3⟩ : ∃w3,w2.drewN nq=w3:=⟨_,rfl⟩
 rw[hw3]at hon2⊢
 have c0:w3.cell? (g,0) =some (gI:Vl):=(hc.out _ hon2).cell 0
 have c1:w3.cell? (g,1) =some ((fr:Int) :Vl):=(hc.out _ hon2).cell 1
 replace hreg:=hid (hreg.out _ hon2)
 replace hmay:=hid (hmay.out _ hon2)
 replace hon2:=hid hon2
 clear c2 c3 hon1 hw3
 go_wp2_with fail
 go_quiet ((first| (go_at_call 113;exact Calls.quiet_of_same (hreg.out _)) | (go_at_call 112;exact Calls.quiet_of_same (hmay.out _))))
 go_wp2
 go_ret2
 exact⟨rfl,hon2.out.drewN _⟩
theorem D7(hb: (aa [DcA gI g fr en D,au gI S]).holds w F)(h8:At8 S D fr en)(s:ByteArray)(hn:Dc.dJ s.data.toList=true)(hf : ¬en<up D.h+ (8+up (1+s.size)))(hsh:D.shut S=false) :
 Calls Tryz.prog 70 #[g,.string s] w (Got (.returned (.tuple #[((up D.h+ (8+up (1+s.size)) :Nat) :Int),(0:Int)])) (aa [DcA gI g fr en { D with h:=up D.h+ (8+up (1+s.size)),l:=up D.h },au gI (S.put D.h (D.fi s.data.toList))]) F w):=by
 have hon:=zj hb
 have hs2:=jf hn
 have hnl:s.data.toList.length=s.size:=by rw[Lib.size_eq]
 have hnm:=vM s oM w
 rw[hn]at hnm
 have h1:=h8.lo
 have hle:=h8.le
 have hu1:=ed D.h
 have hu2:=ed (1+s.size)
 have hup1:=λw=>xj D.h oM w
 have hup2:=λw=>xj (1+s.size) oM w
 rw[show((1+s.size:Nat) :Int) =1+ (s.size:Int)by omega]at hup2
 have hc:=λw1 l (h:On F w (dF gI g fr en D S l) w1)=>Aa l h
 have hrg:D.rg<=5:=by rcases h8.ok.rg with e|e<;>omega
 have hreg:=λw1 (h:On F w (dF gI g fr en D S []) w1) (n:Nat)=>(by
  unfold dF at h
  obtain⟨gb,hi⟩:=h.img 1 rfl
  rw[Img.fP]at hi
  have:=mT (w:=w1.drewN n) (hi.drewN n) (fr:Int)
  rw[h8.ok.region fr (by rw[h8.fr];exact Nat.le_refl _) (by rw[h8.lim];omega)]at this
  exact this:Calls Tryz.prog 113 #[gI,(fr:Int)] (w1.drewN n) (aA (D.rg:Int) (w1.drewN n)))
 have hmay:=λw1 (h:On F w (dF gI g fr en D S []) w1) (n:Nat)=>(by
  unfold dF at h
  obtain⟨gb,hi⟩:=h.img 1 rfl
  rw[Img.fP]at hi
  have:=BX (w:=w1.drewN n) (hi.drewN n) 0 D.rg hrg
  rw[h8.ok.may,if_neg (by rw[hsh];decide)]at this
  exact this:Calls Tryz.prog 112 #[gI,(0:Int),(D.rg:Int)] (w1.drewN n) (aA (.int .i64 3) (w1.drewN n)))
 have hbit:bits .and .i64 3 2=2:=by decide
 obtain⟨za,hza⟩ : ∃za:List UInt8,za=List.replicate (up D.h-D.h) 0:=⟨_,rfl⟩
 have hzl:za.length=up D.h-D.h:=by rw[hza];simp
 have hal1:=λw1 (h:On F w (dF gI g fr en D S []) w1)=>rU h8 hsh [] _ rfl (by simp;omega) h
 simp only[List.length_nil,Nat.add_zero,List.nil_append]at hal1
 rw[<-hza]at hal1
 have hvl:V64 (D.l:Int):=by have:=h8.ok.l;rw[h8.lim]at this;unfold V64;omega
 have hcm:=λw1 (h:On F w (dF gI g fr en D S za) w1)=>zR h8 hsh za (D.l:Int) hvl (by rw[hzl];omega) (by rw[hzl];omega) h
 have hl2: (za++toB (D.l:Int)).length=up D.h-D.h+8:=by simp[aJ,hzl]
 have hcb:=λw1 (h:On F w (dF gI g fr en D S (za++toB (D.l:Int))) w1)=>pj h8 hsh (za++toB (D.l:Int)) (UInt8.ofNat (s.size+32)) (by rw[hl2];omega) h
 have hby: (((UInt8.ofNat (s.size+32)).toNat:Nat) :Int) = (s.size:Int) +32:=by rw[UInt8.toNat_ofNat'];omega
 rw[hby]at hcb
 obtain⟨l3,hl3⟩ : ∃l3:List UInt8,l3=za++toB (D.l:Int) ++ [UInt8.ofNat (s.size+32)]:=⟨_,rfl⟩
 have hl3l:l3.length=up D.h-D.h+9:=by rw[hl3,List.length_append,hl2];rfl
 rw[<-hl3]at hcb
 have hcn:=λw1 (j:Nat) (hj:j<s.size) (h:On F w (dF gI g fr en D S (l3++s.data.toList.take j)) w1)=>pj h8 hsh (l3++s.data.toList.take j) (s.data.toList.getD j 0) (by rw[List.length_append,hl3l,List.length_take,hnl];omega) h
 have htk : ∀j,j<s.size->(l3++s.data.toList.take j) ++ [s.data.toList.getD j 0] =l3++s.data.toList.take (j+1):=λj hj=>by
  rw[List.append_assoc,List.take_succ_eq_append_getElem (by rw[hnl];exact hj),List.getD_eq_getElem?_getD,List.getElem?_eq_getElem (by rw[hnl];exact hj)]
  rfl
 have hl4l: (l3++s.data.toList).length=up D.h-D.h+9+s.size:=by rw[List.length_append,hl3l,hnl]
 have hal2:=λw1 (h:On F w (dF gI g fr en D S (l3++s.data.toList)) w1)=>rU h8 hsh (l3++s.data.toList) (up (1+s.size) - (1+s.size)) (by rw[hl4l];unfold up at *;omega) (by rw[hl4l];omega) h
 have hlast:l3++s.data.toList++List.replicate (up (1+s.size) - (1+s.size)) 0=D.fi s.data.toList:=by
  unfold Dc.fi
  rw[hl3,hza,hnl]
  simp[List.append_assoc]
 rw[hlast]at hal2
 have hfl: (D.fi s.data.toList).length=up D.h-D.h+ (8+up (1+s.size)):=by rw[Dc.pW,hnl]
 have hend:=λw1 (h:On F w (dF gI g fr en D S (D.fi s.data.toList)) w1)=>(by
  unfold dF at h
  rw[hfl]at h
  have h2:=h.setAt 0 rfl 4 (.int .i64 (up D.h:Nat))
  have e:laidB D (up D.h-D.h+ (8+up (1+s.size))) = { D with h:=up D.h+ (8+up (1+s.size)) }:=by unfold laidB;congr 1;omega
  rw[e]at h2
  exact h2:On F w (aa [DcA gI g fr en { D with h:=up D.h+ (8+up (1+s.size)),l:=up D.h },au gI (S.put D.h (D.fi s.data.toList))]) (w1.setCell (g,4) (.int .i64 (up D.h:Nat))))
 have hix:=λ(j:Nat) (h:j<s.size)=>gn s j h
 generalize D.fi s.data.toList=lf at *
 have hhf:D.h+lf.length=up D.h+ (8+up (1+s.size)):=by rw[hfl];omega
 replace hon:=hid hon
 replace hnm:=hid hnm
 replace hup1:=hid hup1
 replace hup2:=hid hup2
 replace hc:=hid hc
 replace hreg:=hid hreg
 replace hmay:=hid hmay
 replace hal1:=hid hal1
 replace hcm:=hid hcm
 replace hcb:=hid hcb
 replace hcn:=hid hcn
 replace htk:=hid htk
 replace hal2:=hid hal2
 replace hend:=hid hend
 replace hix:=hid hix
 replace hhf:=hid hhf
 replace hnl:=hid hnl
 generalize up (1+s.size) =u2 at *
 generalize up D.h=u1 at *
 clear hb hn h8 hsh hza hzl hvl hl2 hby hl3 hl3l hl4l hlast hfl
 go_enter Tryz.func70,Tryz.ntmps70
 go_wp2_with fail
 refine hnm.out.mono ?_
 rintro e w1 ⟨rfl,h⟩
 have hon1:=hon.out.below h
 obtain⟨c0,c1,c2,c3,c4,f4⟩:=hc.out _ _ hon1
 replace hon1:=hid hon1
 clear h
 simp only[List.length_nil,Nat.add_zero]at c3
 go_wp2_with fail
 refine(hup1.out _).mono ?_
 rintro e w2 ⟨rfl,rfl⟩
 go_wp2_with fail
 go_quiet ((go_at_call 111;exact Calls.quiet_of_same (hup2.out _)))
 have hon2:=hon1.out.drewN nq
 obtain⟨w3,hw3⟩ : ∃w3,w2.drewN nq=w3:=⟨_,rfl⟩
 rw[hw3]at hon2⊢
 clear c0 c1 c2 c3 c4 f4 hon1 hw3
 obtain⟨c0,c1,c2,c3,c4,f4⟩:=hc.out _ _ hon2
 replace hreg:=hid (hreg.out _ hon2)
 replace hmay:=hid (hmay.out _ hon2)
 replace hon2:=hid hon2
 go_wp2_with fail
 go_quiet ((first| (go_at_call 113;exact Calls.quiet_of_same (hreg.out _)) | (go_at_call 112;exact Calls.quiet_of_same (hmay.out _))))
 have hon3:=hon2.out.drewN nq
 obtain⟨w4,hw4⟩ : ∃w4,w3.drewN nq=w4:=⟨_,rfl⟩
 rw[hw4]at hon3⊢
 clear c0 c1 c2 c3 c4 f4 hon2 hw4
 replace hal1:=hid (hal1.out _ hon3)
 clear hon3
 go_wp2_with fail
 refine hal1.out.mono ?_
 rintro e w5 ⟨rfl,h5⟩
 obtain⟨c0,c1,c2,c3,c4,f4⟩:=hc.out _ _ h5
 replace hcm:=hid (hcm.out _ h5)
 clear h5
 go_wp2_with fail
 refine hcm.out.mono ?_
 rintro e w6 ⟨rfl,h6⟩
 replace hcb:=hid (hcb.out _ h6)
 clear h6 c0 c1 c2 c3 c4 f4
 go_wp2_with fail
 refine hcb.out.mono ?_
 rintro e w7 ⟨rfl,h7⟩
 replace h7:=hid h7
 have hdec:decide ((en:Int) - (u1:Int) <8+ (u2:Int)) =false:=decide_eq_false oM
 go_wp2_with fail
 go_loopg [60] s.size (λk t wr=> ∃j:Nat,j+k=s.size∧t = .int .i64 (j:Int)∧On F w (dF gI g fr en D S (l3++s.data.toList.take j)) wr)
 case atStart=>exact⟨0,by omega,rfl,by rw[List.take_zero,List.append_nil];exact h7.out⟩
 case round=>
  obtain⟨j,hj,rfl,hj7⟩:=hrel
  by_cases hjl:j<s.size
  ·have hq:=hcn.out _ j hjl hj7
   have hx:=hix.out j hjl wr
   rw[htk.out j hjl]at hq
   generalize s.data.toList.getD j 0=c at *
   replace hq:=hid hq
   replace hj7:=hid hj7
   go_wp2_with fail
   refine hq.out.mono ?_
   rintro e w8 ⟨rfl,h8⟩
   replace h8:=hid h8
   go_wp2
   go_roundg (gk-1)
   case measure=>omega
   case rel=>exact⟨j+1,by omega,by go_num,h8.out⟩
  ·have hjj:j=s.size:=by omega
   subst hjj
   rw[List.take_of_length_le (by rw[hnl.out];exact Nat.le_refl _)]at hj7
   replace hal2:=hid (hal2.out _ hj7)
   have hdec2:decide ((s.size:Int) < (s.size:Int)) =false:=by simp
   clear hj7
   go_wp2_with fail
   refine hal2.out.mono ?_
   rintro e w8 ⟨rfl,h8⟩
   obtain⟨c0,c1,c2,c3,c4,f4⟩:=hc.out _ _ h8
   replace hend:=hid (hend.out _ h8)
   rw[hhf.out]at c3
   clear h8
   go_wp2
   go_ret2
   exact⟨rfl,hend.out⟩
theorem Ha(hb: (aa [DcA gI g fr en D,au gI S]).holds w F)(h8:At8 S D fr en)(s:ByteArray)(hsz:s.size<=9223372036854775807) :
 Calls Tryz.prog 70 #[g,.string s] w (Got (.returned (.tuple #[(D.iD S s.data.toList),(D.bZ S s.data.toList)])) (aa [DcA gI g fr en (D.cz S s.data.toList),au gI (D.cB S s.data.toList)]) F w):=by
 have hnl:s.data.toList.length=s.size:=by rw[Lib.size_eq]
 have hF:D.bZ S s.data.toList=if Dc.dJ s.data.toList=false then 15 else if en<up D.h+ (8+up (1+s.size))then 9 else if D.shut S=true then 5 else 0:=by
  unfold Dc.bZ
  rw[h8.lim,hnl]
 unfold Dc.iD Dc.cz Dc.cB
 rw[hF]
 by_cases h1:Dc.dJ s.data.toList=false
 ·rw[if_pos h1,if_neg (by decide),if_neg (by decide),if_neg (by decide)]
  exact yY hb s hsz h1
 rw[if_neg h1]
 have h1':Dc.dJ s.data.toList=true:=by simpa using h1
 by_cases h2:en<up D.h+ (8+up (1+s.size))
 ·rw[if_pos h2,if_neg (by decide),if_neg (by decide),if_neg (by decide)]
  exact wV hb h8 s h1' h2
 rw[if_neg h2]
 by_cases h3:D.shut S=true
 ·rw[if_pos h3,if_neg (by decide),if_neg (by decide),if_neg (by decide)]
  exact wU hb h8 s h1' h2 h3
 ·rw[if_neg h3,if_pos rfl,if_pos rfl,if_pos rfl,hnl]
  exact D7 hb h8 s h1' h2 (by simpa using h3)
end
def Dc.cq(S:Img)(D:Dc)(t:UInt8->UInt8) :Img:=if D.l=0∨D.shut S=true then S else S.put (D.l+8) [t (S.b.getD (D.l+8) 0)]
def BF(f:FuncId)(t:UInt8->UInt8) :Prop:= ∀(c:UInt8) (w:World),Calls Tryz.prog f #[.int .u8 (c.toNat:Int)] w (aA (.int .u8 ((t c).toNat:Int)) w)
section
variable {w w1:World}{F:Nat->Prop}{g gI fr en:Nat}{D:Dc}{S:Img}
theorem ni(h:On F w (aa [DcA gI g fr en D,au gI S]) w1) :w1.cell? (g,0) =some (gI:Vl)∧w1.cell? (g,1) =some ((fr:Int) :Vl)∧w1.cell? (g,2) =some ((en:Int) :Vl)∧
 w1.cell? (g,3) =some ((D.h:Int) :Vl)∧w1.cell? (g,4) =some ((D.l:Int) :Vl):=by
 have hs:Blk w1 g 136 (cu gI fr en (D.h:Int) (D.l:Int)):=h.ab 0 rfl
 exact⟨hs.cell 0,hs.cell 1,hs.cell 2,hs.cell 3,hs.cell 4⟩
theorem zM(hb: (aa [DcA gI g fr en D,au gI S]).holds w F)(f:FuncId)(h0:D.l=0) :
 Calls Tryz.prog 120 #[g,.func (.func f) #[] #[]] w (Got (.returned (.tuple #[])) (aa [DcA gI g fr en D,au gI S]) F w):=by
 have hon:=On.refl hb
 obtain⟨c0,c1,c2,c3,c4⟩:=ni hon
 rw[h0]at c4
 replace hon:=hid hon
 clear hb h0
 go_enter Tryz.func120,Tryz.ntmps120
 go_wp2
 go_end0
 exact⟨rfl,hon.out⟩
theorem AR(hb: (aa [DcA gI g fr en D,au gI S]).holds w F)(h8:At8 S D fr en)(f:FuncId)(t:UInt8->UInt8)(ht:BF f t)(eg : ∀args w,(callFunc f args).run Tryz.prog w = .ok (.enter f args) w)(h0:D.l≠0) :
 Calls Tryz.prog 120 #[g,.func (.func f) #[] #[]] w (Got (.returned (.tuple #[])) (aa [DcA gI g fr en D,au gI (D.cq S t)]) F w):=by
 have hon:=On.refl hb
 have hl:D.l % 8=0∧fr<=D.l∧D.l+16<=en:=by
  rcases h8.ok.l with h|h
  ·exact absurd h h0
  ·rw[h8.fr,h8.lim]at h;exact h
 have hle:=h8.le
 have hbr:=h8.ok.KI (D.l+8) (by rw[h8.fr];omega) (by rw[h8.lim];omega)
 have hbw:=h8.ok.KL (D.l+8) (by rw[h8.fr];omega) (by rw[h8.lim];omega)
 rw[show((D.l+8:Nat) :Int) = (D.l:Int) +8 by omega]at hbr hbw
 have hby:=λw1 (h:On F w (aa [DcA gI g fr en D,au gI S]) w1)=>(by
  obtain⟨gb,hi⟩:=h.img 1 rfl
  have:=Bl hi 0 ((D.l:Int) +8)
  rw[hbr.1,hbr.2]at this
  exact this:Calls Tryz.prog 125 #[gI,(0:Int),((D.l:Int) +8:Int)] w1 (aA (.tuple #[.int .u8 (((S.b.getD (D.l+8) 0).toNat:Nat) :Int),(0:Int)]) w1))
 have htc:=λw=>ht (S.b.getD (D.l+8) 0) w
 have hset:=λw1 (h:On F w (aa [DcA gI g fr en D,au gI S]) w1)=>h.bA 1 rfl (λF' ha=>iX ha 0 ((D.l:Int) +8) (t (S.b.getD (D.l+8) 0)))
 have e2:S.aV 0 ((D.l:Int) +8) (t (S.b.getD (D.l+8) 0)) =D.cq S t:=by
  unfold Img.aV Dc.cq
  rw[show(D.l:Int) +8= ((D.l+8:Nat) :Int)by omega,h8.ok.aS (D.l+8) 1 (by rw[h8.fr];omega) (by rw[h8.lim];omega) oM true]
  have e3: ((D.l+8:Nat) :Int).toNat=D.l+8:=by omega
  cases D.shut S<;>simp[h0]
  rw[<-e3]
  congr 1
 rw[e2]at hset
 have hcs:=λw1 (h:On F w (aa [DcA gI g fr en D,au gI S]) w1)=>ni h
 generalize S.bR 0 ((D.l:Int) +8) true=bf at *
 generalize t (S.b.getD (D.l+8) 0) =tc at *
 generalize S.b.getD (D.l+8) 0=bc at *
 generalize D.cq S t=S' at *
 have hset':=λw1 (h:On F w (aa [DcA gI g fr en D,au gI S]) w1)=>(hset w1 h:Calls Tryz.prog 140 #[gI,(0:Int),((D.l:Int) +8:Int),.int .u8 (tc.toNat:Int)] w1 (Got (.returned bf) (aa [DcA gI g fr en D,au gI S']) F w))
 clear hset
 obtain⟨c0,c1,c2,c3,c4⟩:=ni hon
 have hz: ((D.l:Int) ==0) =false:=by simpa using h0
 obtain⟨hl1,hl2,hl3⟩:=hl
 replace hon:=hid hon
 replace hby:=hid hby
 replace htc:=hid htc
 replace hset':=hid hset'
 replace hcs:=hid hcs
 replace ht:=hid ht
 replace eg:=eg
 clear hb h8 hbr hbw e2 h0 hl1
 go_enter Tryz.func120,Tryz.ntmps120
 go_wp2_with fail
 have hwr:IntKind.i64.wrap ((D.l:Int) +8) = (D.l:Int) +8:=IntWalk.i64_in _ oM
 have hbyd:=hid (hby.out _ hon.out.drew)
 go_region_held (λw'=>w'.cell? (g,0) =some (gI:Vl)∧w'.cell? (g,4) =some ((D.l:Int) :Vl)) (go_keep)
  ((go_at_call 125;refine hbyd.out.mono ?_;rintro e w1 ⟨rfl,rfl⟩))
 go_wp2_with fail
 go_quiet (fail)
 have hon2:=hon.out.drew.drewN nq
 obtain⟨w4,hw4⟩ : ∃w4,w.drew.drewN nq=w4:=⟨_,rfl⟩
 rw[hw4]at hon2⊢
 clear c0 c1 c2 c3 c4 hw4 hon hbyd
 obtain⟨c0,c1,c2,c3,c4⟩:=hcs.out _ hon2
 have hsd:=hid (hset'.out _ hon2.drew)
 have htd:=hid (htc.out w4.drew)
 replace hon2:=hid hon2
 go_wp2_with fail
 go_region_held (λw'=>w'.cell? (g,0) =some (gI:Vl)∧w'.cell? (g,4) =some ((D.l:Int) :Vl)) (go_keep)
  ((first
    | (go_at_call 140;refine hsd.out.mono ?_;rintro e w5 ⟨rfl,h5⟩;obtain⟨m0,m1,m2,m3,m4⟩:=ni h5;replace h5:=hid h5)
    | ((with_reducible refine htd.out.mono ?_);rintro e w5 ⟨rfl,rfl⟩)))
 go_wp2
 go_end0
 exact⟨rfl,h5.out⟩
theorem BZ(hb: (aa [DcA gI g fr en D,au gI S]).holds w F)(h8:At8 S D fr en)(f:FuncId)(t:UInt8->UInt8)(ht:BF f t)(eg : ∀args w,(callFunc f args).run Tryz.prog w = .ok (.enter f args) w) :
 Calls Tryz.prog 120 #[g,.func (.func f) #[] #[]] w (Got (.returned (.tuple #[])) (aa [DcA gI g fr en D,au gI (D.cq S t)]) F w):=by
 by_cases h0:D.l=0
 ·have e:D.cq S t=S:=by unfold Dc.cq;rw[if_pos (.inl h0)]
  rw[e]
  exact zM hb f h0
 ·exact AR hb h8 f t ht eg h0
def eL(b:UInt8) :UInt8:=b &&& 223
def kk(b:UInt8) :UInt8:=b ||| 64
theorem zX:BF 121 eL:=by
 intro c w
 have e:bits .andNot .u8 (c.toNat:Int) 32= (((eL c).toNat:Nat) :Int):=by
  have h:=u8_andNot_nat c.toNat 32 c.toNat_lt oM
  rw[show((32:Nat) :Int) =32 from rfl]at h
  rw[h]
  unfold eL
  rw[UInt8.toNat_and]
  rfl
 replace e:=hid e
 go_enter Tryz.func121,Tryz.ntmps121
 go_wp2
 go_ret
 exact⟨by rw[<-e.out];rfl,rfl⟩
theorem Eh:BF 122 kk:=by
 intro c w
 have e:bits .or .u8 (c.toNat:Int) 64= (((kk c).toNat:Nat) :Int):=by
  have h:=u8_or_nat c.toNat 64 c.toNat_lt oM
  rw[show((64:Nat) :Int) =64 from rfl]at h
  rw[h]
  unfold kk
  rw[UInt8.toNat_or]
  rfl
 replace e:=hid e
 go_enter Tryz.func122,Tryz.ntmps122
 go_wp2
 go_ret
 exact⟨by rw[<-e.out];rfl,rfl⟩
theorem LM(hb: (aa [DcA gI g fr en D,au gI S]).holds w F)(h8:At8 S D fr en) :
 Calls Tryz.prog 72 #[g] w (Got (.returned (.tuple #[])) (aa [DcA gI g fr en D,au gI (D.cq S eL)]) F w):=by
 have h:=BZ hb h8 121 eL zX (λ_ _=>by kernel_rfl)
 replace h:=hid h
 clear hb h8
 go_enter Tryz.func72,Tryz.ntmps72
 go_wp2_with fail
 refine h.out.mono ?_
 rintro e w1 ⟨rfl,h1⟩
 replace h1:=hid h1
 go_wp2
 go_end0
 exact⟨rfl,h1.out⟩
theorem wi(hb: (aa [DcA gI g fr en D,au gI S]).holds w F)(h8:At8 S D fr en) :
 Calls Tryz.prog 74 #[g] w (Got (.returned (.tuple #[])) (aa [DcA gI g fr en D,au gI (D.cq S kk)]) F w):=by
 have h:=BZ hb h8 122 kk Eh (λ_ _=>by kernel_rfl)
 replace h:=hid h
 clear hb h8
 go_enter Tryz.func74,Tryz.ntmps74
 go_wp2_with fail
 refine h.out.mono ?_
 rintro e w1 ⟨rfl,h1⟩
 replace h1:=hid h1
 go_wp2
 go_end0
 exact⟨rfl,h1.out⟩
end
end Vm
end Go.Proofs.YtjohhkikoejadaaGreatDoor
