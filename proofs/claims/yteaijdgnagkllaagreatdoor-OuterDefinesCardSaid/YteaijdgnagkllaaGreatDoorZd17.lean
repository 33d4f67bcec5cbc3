/- Chapter 6: which texts are names: the program's and the document's test; which are alike. Condition: the text is no longer than a machine's memory. -/
import Derived.Test.YteaijdgnagkllaaGreatDoorZd16
import Derived.Test.YteaijdgnagkllaaGreatDoorZd10
import Derived.Test.YteaijdgnagkllaaGreatDoorZd07
import Derived.Lib.SpaceUEq
open Go.Proofs.Tryz
namespace Go.Proofs.YteaijdgnagkllaaGreatDoor
set_option linter.unusedVariables false
set_option linter.unusedSimpArgs false
set_option maxHeartbeats 8000000
set_option maxRecDepth 100000
open Go.RowKit Go.Lib Go.Deep
namespace Vm
def blankN(r:Nat):Bool:=decide (r<=32)
def someBlank(l:List UInt8)(pos:Nat):Prop:= ∃i,pos<=i∧i<l.length∧(l.getD i 0).toNat<=32
theorem idx_blank(s:ByteArray): ∀(f pos:Nat),s.data.toList.length<=pos+f->(0<=Lib.idxFuncFrom blankN true s f pos↔someBlank s.data.toList pos)
 | 0,pos,h=>by
   constructor
   ·intro h1;simp[Lib.idxFuncFrom]at h1
   ·rintro⟨i,h1,h2,_⟩;omega
 | f+1,pos,h=>by
   have hsz:s.size=s.data.toList.length:=Lib.size_eq s |>.symm▸rfl
   unfold Lib.idxFuncFrom
   by_cases hp:pos<s.size
   ·rw[if_pos hp,Lib.decode_N]
    have hc:=Lib.decodeN_cases (s.data.toList.length-pos) (s.data.toList.getD pos 0).toNat (s.data.toList.getD (pos+1) 0).toNat (s.data.toList.getD (pos+2) 0).toNat (s.data.toList.getD (pos+3) 0).toNat
    have hk:=Lib.decodeN_conts (s.data.toList.length-pos) (s.data.toList.getD pos 0).toNat (s.data.toList.getD (pos+1) 0).toNat (s.data.toList.getD (pos+2) 0).toNat (s.data.toList.getD (pos+3) 0).toNat
    have h1:=Lib.decodeN_ge1 (s.data.toList.length-pos) (s.data.toList.getD pos 0).toNat (s.data.toList.getD (pos+1) 0).toNat (s.data.toList.getD (pos+2) 0).toNat (s.data.toList.getD (pos+3) 0).toNat
    have ha: (s.data.toList.getD pos 0).toNat<128->Lib.decodeN (s.data.toList.length-pos) (s.data.toList.getD pos 0).toNat (s.data.toList.getD (pos+1) 0).toNat (s.data.toList.getD (pos+2) 0).toNat (s.data.toList.getD (pos+3) 0).toNat= ((s.data.toList.getD pos 0).toNat,1):=λh=>by
     unfold Lib.decodeN
     rw[if_pos h]
    obtain⟨⟨r,k⟩,hrk⟩: ∃p,Lib.decodeN (s.data.toList.length-pos) (s.data.toList.getD pos 0).toNat (s.data.toList.getD (pos+1) 0).toNat (s.data.toList.getD (pos+2) 0).toNat (s.data.toList.getD (pos+3) 0).toNat=p:=⟨_,rfl⟩
    rw[hrk]at hc hk h1 ha⊢
    simp only[Prod.mk.injEq]at hc hk h1 ha⊢
    have ih:=idx_blank s f (pos+k) oM
    by_cases hb: (s.data.toList.getD pos 0).toNat<=32
    ·have h2:=ha oM
     have e:blankN r=true:=by unfold blankN;rw[h2.1];exact decide_eq_true hb
     rw[if_pos e]
     exact⟨λ_=>⟨pos,Nat.le_refl _,by omega,hb⟩,λ_=>by omega⟩
    ·have e: ¬blankN r=true:=by
      unfold blankN
      rw[decide_eq_true_eq]
      rcases Nat.lt_or_ge (s.data.toList.getD pos 0).toNat 128 with h3|h3
      ·rw[(ha h3).1];exact hb
      ·omega
     rw[if_neg e,ih]
     constructor
     ·rintro⟨i,h3,h4,h5⟩
      exact⟨i,by omega,h4,h5⟩
     ·rintro⟨i,h3,h4,h5⟩
      refine⟨i,?_,h4,h5⟩
      apply Classical.byContradiction
      intro hlt
      have h6:i=pos∨i=pos+1∨i=pos+2∨i=pos+3:=by omega
      rcases h6 with rfl|rfl|rfl|rfl
      ·exact hb h5
      ·have:=hk.1 oM;omega
      ·have:=hk.2.1 oM;omega
      ·have:=hk.2.2.1 oM;omega
   ·rw[if_neg hp]
    constructor
    ·intro h1;omega
    ·rintro⟨i,h1,h2,_⟩;omega
theorem name_all(s:ByteArray): (!decide (0<=Lib.idxFunc blankN true s))=s.data.toList.all isHigh:=by
 have h:=idx_blank s s.size 0 (by rw[Lib.size_eq];omega)
 have e: (0<=Lib.idxFunc blankN true s)↔someBlank s.data.toList 0:=h
 rw[Bool.eq_iff_iff,Bool.not_eq_true',decide_eq_false_iff_not,e,List.all_eq_true]
 constructor
 ·intro h1 c hc
  unfold isHigh
  rw[decide_eq_true_eq]
  apply Classical.byContradiction
  intro h2
  obtain⟨i,hi,rfl⟩:=List.getElem_of_mem hc
  exact h1 ⟨i,Nat.zero_le _,hi,by rw[List.getD_eq_getElem?_getD,List.getElem?_eq_getElem hi];simp at h2⊢;omega⟩
 ·rintro h1 ⟨i,_,hi,h2⟩
  have h3:=h1 _ (List.getElem_mem hi)
  unfold isHigh at h3
  rw[decide_eq_true_eq]at h3
  rw[List.getD_eq_getElem?_getD,List.getElem?_eq_getElem hi,Option.getD_some]at h2
  omega
theorem name_lit(x:Nat)(hx:x<=1114111)(w:World):Calls prog 177 #[.int .i32 (x:Int)] w (Same (.bool (blankN x)) w):=by
 have e:decide ((x:Int)<=32)=blankN x:=by unfold blankN;rw[decide_eq_decide];omega
 go_enter func177,ntmps177
 go_wp2
 go_ret
 exact⟨rfl,rfl⟩
theorem n_name(s:ByteArray)(hs:s.size<=9223372036854775807)(w:World):Calls prog 128 #[.string s] w (Quiet (.bool (Dc.nameB s.data.toList)) w):=by
 have hl:s.data.toList.length=s.size:=by rw[Lib.size_eq]
 obtain⟨r,hr⟩: ∃r,Dc.nameB s.data.toList=r:=⟨_,rfl⟩
 rw[hr]
 unfold Dc.nameB at hr
 rw[hl]at hr
 by_cases h0:s.size=0
 ·have e:r=false:=by rw[<-hr];simp[h0]
  subst e
  have hnil:s.data.toList = []:=List.eq_nil_of_length_eq_zero (by rw[hl];exact h0)
  obtain rfl:s= ⟨#[]⟩:=by cases s;simp at hnil;rw[hnil]
  clear hr hl hnil h0
  go_enter func128,ntmps128
  go_wp2
  go_ret
  exact⟨rfl,Below.refl _ _⟩
 have hne:s.toList.isEmpty=false:=isEmpty_false s oM
 by_cases h1:s.size<=31
 ·have hc:=Tryz.strings_ContainsFunc_grows 177 #[] (λ_ _=>by kernel_rfl) blankN s w (λW x hx _=>(name_lit x hx W).mono λe w' h=>⟨h.1,by rw[h.2];exact Below.refl _ _⟩)
  have e: (!decide (0<=Lib.idxFunc blankN true s))=r:=by rw[name_all,<-hr];simp[h1];omega
  generalize decide (0<=Lib.idxFunc blankN true s)=q at *
  have t1:decide ((s.size:Int)<=31)=true:=decide_eq_true oM
  replace hc:=hid hc
  replace e:=hid e
  clear hr hl h0
  go_enter func128,ntmps128
  go_wp2_with fail
  refine hc.out.mono ?_
  rintro e0 w1 ⟨rfl,h⟩
  replace h:=hid h
  go_wp2
  go_ret
  exact⟨by rw[<-e.out];rfl,h.out⟩
 ·have e:r=false:=by rw[<-hr];simp[h1]
  subst e
  have t1:decide ((s.size:Int)<=31)=false:=decide_eq_false oM
  clear hr hl h0
  go_enter func128,ntmps128
  go_wp2
  go_ret
  exact⟨rfl,Below.refl _ _⟩
theorem lowC_nat(c:UInt8): ((lowC c).toNat:Int)=if 65<=(c.toNat:Int)∧(c.toNat:Int)<=90 then(c.toNat:Int) +32 else(c.toNat:Int):=by
 unfold lowC
 by_cases h:65<=c.toNat∧c.toNat<=90
 ·rw[if_pos h,if_pos oM,UInt8.toNat_add]
  have: (32:UInt8).toNat=32:=rfl
  rw[this];omega
 ·rw[if_neg h,if_neg oM]
def lowJ(l:List UInt8)(j:Nat):List UInt8:=(l.take j).map lowC++l.drop j
theorem lowJ_len(l:List UInt8)(j:Nat): (lowJ l j).length=l.length:=by unfold lowJ;simp;omega
theorem lowJ_zero(l:List UInt8):lowJ l 0=l:=by unfold lowJ;simp
theorem lowJ_all(l:List UInt8)(j:Nat)(h:l.length<=j):lowJ l j=lowS l:=by unfold lowJ lowS;rw[List.take_of_length_le h,List.drop_eq_nil_of_le h];simp
theorem lowJ_at(l:List UInt8)(j:Nat)(h:j<l.length)(h':j< (lowJ l j).length): (lowJ l j)[j]=l.getD j 0:=by
 have e: (lowJ l j)[j]? = some l[j]:=by
  unfold lowJ
  rw[List.getElem?_append_right (by simp;omega),List.getElem?_drop]
  have:j+ (j- (List.map lowC (List.take j l)).length)=j:=by simp;omega
  rw[this,List.getElem?_eq_getElem h]
 rw[List.getElem?_eq_getElem h']at e
 have hg:l.getD j 0=l[j]:=by simp[List.getD,h]
 rw[hg]
 exact Option.some.inj e
theorem lowJ_next(l:List UInt8)(j:Nat)(h:j<l.length): (lowJ l j).set j (lowC (l.getD j 0))=lowJ l (j+1):=by
 have hg:l.getD j 0=l[j]:=by simp[List.getD,h]
 unfold lowJ
 rw[List.set_append_right _ _ (by simp;omega),List.take_succ_eq_append_getElem h,List.drop_eq_getElem_cons h,hg]
 have:j- (List.map lowC (List.take j l)).length=0:=by simp;omega
 rw[this,List.set_cons_zero,List.map_append,List.append_assoc]
 rfl
theorem lowJ_same(l:List UInt8)(j:Nat)(h:j<l.length)(hc:lowC (l.getD j 0)=l.getD j 0):lowJ l (j+1)=lowJ l j:=by
 rw[<-lowJ_next l j h,hc]
 have h':j< (lowJ l j).length:=by rw[lowJ_len];exact h
 rw[<-lowJ_at l j h h']
 exact List.set_getElem_self h'
theorem or32: ∀k:Fin 26,bits .or .u8 (65+ (k.val:Int)) 32=97+ (k.val:Int):=by decide +kernel
theorem or32'(n:Nat)(h1:65<=(n:Int))(h2: (n:Int)<=90):bits .or .u8 (n:Int) 32= (n:Int) +32:=by
 have h:=or32 ⟨n-65,by omega⟩
 have e: (65+ ((n-65:Nat):Int))= (n:Int):=by omega
 simp only[e]at h
 rw[h]
 omega
theorem lower_walk(s:ByteArray)(hs:s.size<=140737488355327)(w:World):Calls prog 82 #[.string s] w λe w'=>e = .returned (.string ⟨(lowS s.data.toList).toArray⟩)∧Below w.heap.size w w':=by
 have hl:s.data.toList.length=s.size:=by rw[Lib.size_eq]
 have hcv:=λw=>Lib.run_convert_string_bytes (P:=prog) w 9 43 5 s underlying9 underlying43 underlying5
 have hA0:=(At.refl w).bytes 5 s (by unfold maxLen;omega)
 obtain⟨cap,hcap⟩: ∃cap,grownCap w s.size 0 5=cap:=⟨_,rfl⟩
 rw[hcap]at hA0
 have hcv0:=hcv w
 rw[hcap]at hcv0
 clear hcv
 replace hA0:=hid hA0
 replace hl:=hid hl
 go_enter func82,ntmps82
 go_wp2_with fail
 go_loopw [10] (λi wr=> ∃j:Nat,j<=s.size∧i = .int .i64 j∧At w wr [RowA 5 (.slice w.heap.size s.size cap) (lowJ s.data.toList j)]) (λi _=>s.size- (RowKit.intOf i).toNat)
 case atStart=>exact⟨0,by omega,rfl,by rw[lowJ_zero];exact hA0.out⟩
 case round=>
  obtain⟨j,hj,rfl,hA⟩:=hrel
  have hrow:=hA.row
  by_cases hlt:j<s.size
  ·have hj1:j< (lowJ s.data.toList j).length:=by rw[lowJ_len,hl.out];exact hlt
   have hc0:=hrow.cells rfl j hj1
   have hf0:=hrow.frozen rfl j hj1
   rw[lowJ_at _ _ (by rw[hl.out];exact hlt)]at hc0
   have hset:=λD hD=>hA.setByte rfl j hj1 (lowC (s.data.toList.getD j 0)) D hD
   have hsame:=lowJ_same s.data.toList j (by rw[hl.out];exact hlt)
   rw[lowJ_next _ _ (by rw[hl.out];exact hlt)]at hset
   obtain⟨c,hc⟩: ∃c,s.data.toList.getD j 0=c:=⟨_,rfl⟩
   rw[hc]at hc0 hset hsame
   have hcl:=lowC_nat c
   have hc255: (c.toNat:Int)<=255:=by have:=c.toNat_lt;omega
   replace hset:=hid hset
   replace hsame:=hid hsame
   replace hA:=hid hA
   replace hc:=hid hc
   clear hrow hA0
   by_cases g0:65<=(c.toNat:Int)∧(c.toNat:Int)<=90
   ·obtain⟨g1,g2⟩:=g0
    have hor:=or32' c.toNat g1 g2
    rw[if_pos ⟨g1,g2⟩]at hcl
    replace hor:=hid hor
    replace hcl:=hid hcl
    go_wp2_with fail
    go_roundw
    case rel=>exact⟨j+1,by omega,by go_num,hset.out _ (by rw[hcl.out];have:=hor.out;omega)⟩
    case measure=>simp[RowKit.intOf];omega
   ·rw[if_neg g0]at hcl
    have hlc:lowC c=c:=UInt8.toNat_inj.1 oM
    have hA2:=hA.out
    rw[<-hsame.out hlc]at hA2
    replace hA2:=hid hA2
    replace hcl:=hid hcl
    replace hlc:=hid hlc
    by_cases g1:65<=(c.toNat:Int)
    ·have t2:decide ((c.toNat:Int)<=90)=false:=by simp;omega
     clear g0
     go_wp2_with fail
     go_roundw
     case rel=>exact⟨j+1,by omega,by go_num,hA2.out⟩
     case measure=>simp[RowKit.intOf];omega
    ·have t1:decide (65<=(c.toNat:Int))=false:=by simp;omega
     clear g0 g1
     go_wp2_with fail
     go_roundw
     case rel=>exact⟨j+1,by omega,by go_num,hA2.out⟩
     case measure=>simp[RowKit.intOf];omega
  ·rw[lowJ_all _ _ (by rw[hl.out];omega)]at hrow
   have hcv2:=hrow.to_string (P:=prog) 43 9 underlying43 underlying5 underlying9
   replace hA:=hid hA
   clear hrow
   go_wp2_with fail
   go_ret
   exact⟨rfl,hA.out.below⟩
theorem low_walk(c:UInt8)(w:World):Calls prog 49 #[.int .u8 (c.toNat:Int)] w (Same (.int .u8 ((lowC c).toNat:Int)) w):=by
 have h1:=lowC_nat c
 have h2:c.toNat<256:=c.toNat_lt
 generalize c.toNat=n at *
 rw[h1]
 clear h1
 by_cases a:65<=(n:Int)
 ·by_cases b: (n:Int)<=90
  ·rw[if_pos ⟨a,b⟩]
   have t1:decide ((n:Int)≥65)=true:=by rw[decide_eq_true_eq];omega
   have t2:decide ((n:Int)<=90)=true:=by rw[decide_eq_true_eq];omega
   go_enter func49,ntmps49
   go_wp2
   go_ret
   refine⟨?_,rfl⟩
   first|rfl| (congr 1;omega)
  ·rw[if_neg oM]
   have t1:decide ((n:Int)≥65)=true:=by rw[decide_eq_true_eq];omega
   have t2:decide ((n:Int)<=90)=false:=by rw[decide_eq_false_iff_not];omega
   go_enter func49,ntmps49
   go_wp2
   go_ret
   exact⟨rfl,rfl⟩
 ·rw[if_neg oM]
  have t1:decide ((n:Int)≥65)=false:=by rw[decide_eq_false_iff_not];omega
  go_enter func49,ntmps49
  go_wp2
  go_ret
  exact⟨rfl,rfl⟩
theorem name_walk(s:ByteArray)(hs:s.size<=9223372036854775807)(w:World):Calls prog 14 #[.string s] w (Same (.bool (Dc.nameB s.data.toList)) w):=by
 have hl:s.data.toList.length=s.size:=by rw[Lib.size_eq]
 have ia:=λ(j:Nat) (h:j<s.size)=>idx_str s j h
 obtain⟨r,hr⟩: ∃r,Dc.nameB s.data.toList=r:=⟨_,rfl⟩
 have hr':=hr
 rw[hr]
 unfold Dc.nameB at hr'
 rw[hl]at hr'
 replace hr:=hid hr
 replace ia:=hid ia
 by_cases h1:1<=s.size∧s.size<=31
 ·have t1:decide ((s.size:Int) <1)=false:=by rw[decide_eq_false_iff_not];omega
  have t2:decide ((s.size:Int) >31)=false:=by rw[decide_eq_false_iff_not];omega
  have hr2:s.data.toList.all isHigh=r:=by rw[<-hr'];simp[h1]
  clear hr'
  replace hr2:=hid hr2
  replace hl:=hid hl
  go_enter func14,ntmps14
  go_wp2
  go_loopw [3] (λi wr=> ∃j:Nat,j<=s.size∧i = .int .i64 (j:Int)∧wr=w∧∀k,k<j->isHigh (s.data.toList.getD k 0)=true) (λi _=>s.size- (RowKit.intOf i).toNat)
  case atStart=>exact⟨0,by omega,rfl,rfl,λk hk=>by omega⟩
  case round=>
   obtain⟨j,hj,rfl,rfl,hno⟩:=hrel
   replace hno:=hid hno
   by_cases hlt:j<s.size
   ·have hx:=ia.out j hlt wr
    obtain⟨c,hc⟩: ∃c,s.data.toList.getD j 0=c:=⟨_,rfl⟩
    rw[hc]at hx
    obtain⟨n,hn⟩: ∃n,c.toNat=n:=⟨_,rfl⟩
    rw[hn]at hx
    replace hc:=hid hc
    replace hn:=hid hn
    by_cases c1:n<=32
    ·have t3:decide ((n:Int)<=32)=true:=by rw[decide_eq_true_eq];omega
     go_wp2
     go_ret
     have:r=false:=by
      rw[<-hr2.out,List.all_eq_false]
      have hjl:j<s.data.toList.length:=by rw[hl.out];exact hlt
      refine⟨s.data.toList[j],List.getElem_mem hjl,?_⟩
      have e:s.data.toList[j]=c:=by rw[<-hc.out,List.getD_eq_getElem?_getD,List.getElem?_eq_getElem hjl];rfl
      rw[e]
      unfold isHigh
      rw[hn.out]
      simp;omega
     rw[this]
     exact⟨rfl,rfl⟩
    ·have t3:decide ((n:Int)<=32)=false:=by rw[decide_eq_false_iff_not];omega
     replace c1:=hid c1
     go_wp2
     go_roundw
     case rel=>
      refine⟨j+1,by omega,by go_num,by first|rfl|trivial,λk hk=> ?_⟩
      by_cases hkj:k=j
      ·subst hkj
       rw[hc.out]
       unfold isHigh
       rw[hn.out]
       have:=c1.out
       simp;omega
      ·exact hno.out k oM
     case measure=>simp[RowKit.intOf];omega
   ·have hjj:j=s.size:=by omega
    subst hjj
    go_wp2
    go_ret
    have:r=true:=by
     rw[<-hr2.out,List.all_eq_true]
     intro x hx
     obtain⟨k,hk,rfl⟩:=List.getElem_of_mem hx
     have:=hno.out k (by rw[<-hl.out];exact hk)
     rw[List.getD_eq_getElem?_getD,List.getElem?_eq_getElem hk]at this
     exact this
    rw[this]
    exact⟨rfl,rfl⟩
 ·have:r=false:=by rw[<-hr'];simp[h1]
  subst this
  clear hr'
  by_cases h2:s.size<1
  ·have t1:decide ((s.size:Int) <1)=true:=by rw[decide_eq_true_eq];omega
   go_enter func14,ntmps14
   go_wp2
   go_ret
   exact⟨rfl,rfl⟩
  ·have t1:decide ((s.size:Int) <1)=false:=by rw[decide_eq_false_iff_not];omega
   have t2:decide ((s.size:Int) >31)=true:=by rw[decide_eq_true_eq];omega
   go_enter func14,ntmps14
   go_wp2
   go_ret
   exact⟨rfl,rfl⟩
theorem lows_eq{a b:List UInt8}(hl:a.length=b.length)(h: ∀k,k<a.length->lowC (a.getD k 0)=lowC (b.getD k 0)):lowS a=lowS b:=by
 apply List.ext_getElem
 ·simp[lowS,hl]
 ·intro i h1 h2
  have h3:i<a.length:=by simpa [lowS]using h1
  have h4:i<b.length:=by simpa [lowS]using h2
  have:=h i h3
  rw[List.getD_eq_getElem?_getD,List.getD_eq_getElem?_getD,List.getElem?_eq_getElem h3,List.getElem?_eq_getElem h4]at this
  simpa [lowS]using this
theorem same_walk(a b:ByteArray)(ha:a.size<=9223372036854775807)(hb:b.size<=9223372036854775807)(w:World):Calls prog 19 #[.string a,.string b] w (λe w'=>e = .returned (.bool (sameB a.data.toList b.data.toList))∧∃n,w'=w.drewN n):=by
 have hla:a.data.toList.length=a.size:=by rw[Lib.size_eq]
 have hlb:b.data.toList.length=b.size:=by rw[Lib.size_eq]
 have ia:=λ(j:Nat) (h:j<a.size)=>idx_str a j h
 have ib:=λ(j:Nat) (h:j<b.size)=>idx_str b j h
 have hlow: ∀(x:UInt8) w,Calls prog 49 #[.int .u8 (x.toNat:Int)] w (λe w'=>e = .returned (.int .u8 ((lowC x).toNat:Int))∧w'=w):=λx w=>low_walk x w
 obtain⟨r,hr⟩: ∃r,sameB a.data.toList b.data.toList=r:=⟨_,rfl⟩
 have hr':=hr
 rw[hr]
 unfold sameB at hr'
 replace hr:=hid hr
 replace ia:=hid ia
 replace ib:=hid ib
 replace hlow:=hid hlow
 by_cases h1:a.size=b.size
 ·have t1: ((a.size:Int) == (b.size:Int))=true:=by rw[beq_iff_eq];omega
  replace hr':=hid hr'
  replace hla:=hid hla
  replace hlb:=hid hlb
  replace h1:=hid h1
  go_enter func19,ntmps19
  go_wp2
  go_loopw [5] (λi wr=> ∃j n:Nat,j<=a.size∧i = .int .i64 (j:Int)∧wr=w.drewN n∧∀k,k<j->lowC (a.data.toList.getD k 0)=lowC (b.data.toList.getD k 0)) (λi _=>a.size- (RowKit.intOf i).toNat)
  case atStart=>exact⟨0,0,by omega,rfl,rfl,λk hk=>by omega⟩
  case round=>
   obtain⟨j,nd,hj,rfl,hwr,hno⟩:=hrel
   replace hno:=hid hno
   replace hwr:=hid hwr
   by_cases hlt:j<a.size
   ·have hx:=ia.out j hlt
    have hy:=ib.out j (by have:=h1.out;omega)
    obtain⟨c,hc⟩: ∃c,a.data.toList.getD j 0=c:=⟨_,rfl⟩
    obtain⟨d,hd⟩: ∃d,b.data.toList.getD j 0=d:=⟨_,rfl⟩
    rw[hc]at hx
    rw[hd]at hy
    replace hc:=hid hc
    replace hd:=hid hd
    by_cases e:lowC c=lowC d
    ·have t3: (((lowC c).toNat:Int) == ((lowC d).toNat:Int))=true:=by rw[beq_iff_eq,e]
     replace e:=hid e
     go_wp2
     go_quiet ((go_at_call 49;exact Calls.quiet_of_same (hlow.out _ (World.drewN _ _))))
     go_wp2
     go_roundw
     case rel=>
      refine⟨j+1,nd+nq,by omega,by go_num,by rw[hwr.out,World.drewN_drewN],λk hk=> ?_⟩
      by_cases hkj:k=j
      ·subst hkj
       rw[hc.out,hd.out,e.out]
      ·exact hno.out k oM
     case measure=>simp[RowKit.intOf];omega
    ·have t3: (((lowC c).toNat:Int) == ((lowC d).toNat:Int))=false:=by rw[beq_eq_false_iff_ne];intro h;exact e (UInt8.toNat_inj.1 oM)
     replace e:=hid e
     go_wp2
     go_quiet ((go_at_call 49;exact Calls.quiet_of_same (hlow.out _ (World.drewN _ _))))
     go_wp2
     go_ret
     have:r=false:=by
      rw[<-hr'.out,decide_eq_false_iff_not]
      intro h
      have h2:=congrArg (λl:List UInt8=>l.getD j 0) h
      have hja:j<a.data.toList.length:=by rw[hla.out];exact hlt
      have hjb:j<b.data.toList.length:=by rw[hlb.out];have:=h1.out;omega
      have e1:a.data.toList[j]=c:=by rw[<-hc.out,List.getD_eq_getElem?_getD,List.getElem?_eq_getElem hja];rfl
      have e2:b.data.toList[j]=d:=by rw[<-hd.out,List.getD_eq_getElem?_getD,List.getElem?_eq_getElem hjb];rfl
      simp only[lowS,List.getD_eq_getElem?_getD,List.getElem?_map,List.getElem?_eq_getElem hja,List.getElem?_eq_getElem hjb,Option.map_some,Option.getD_some,e1,e2]at h2
      exact e.out h2
     rw[this]
     exact⟨rfl,nd+nq,by rw[hwr.out,World.drewN_drewN]⟩
   ·have hjj:j=a.size:=by omega
    subst hjj
    go_wp2
    go_ret
    have:r=true:=by
     rw[<-hr'.out,decide_eq_true_eq]
     exact lows_eq (by rw[hla.out,hlb.out,h1.out]) (λk hk=>hno.out k (by rw[<-hla.out];exact hk))
    rw[this]
    exact⟨rfl,nd,hwr.out⟩
 ·have t1: ((a.size:Int) == (b.size:Int))=false:=by rw[beq_eq_false_iff_ne];omega
  have:r=false:=by
   rw[<-hr',decide_eq_false_iff_not]
   intro h
   have:=congrArg List.length h
   simp[lowS]at this
   apply h1
   rw[Lib.size_eq,Lib.size_eq]
   simpa using this
  subst this
  clear hr' hla hlb
  replace h1:=hid h1
  go_enter func19,ntmps19
  go_wp2
  go_ret
  exact⟨rfl,0,rfl⟩
theorem n_same(a b:ByteArray)(ha:a.size<=140737488355327)(hb:b.size<=140737488355327)(w:World):Calls prog 48 #[.string a,.string b] w (Quiet (.bool (sameB a.data.toList b.data.toList)) w):=by
 have hla:a.data.toList.length=a.size:=by rw[Lib.size_eq]
 have hlb:b.data.toList.length=b.size:=by rw[Lib.size_eq]
 obtain⟨r,hr⟩: ∃r,sameB a.data.toList b.data.toList=r:=⟨_,rfl⟩
 rw[hr]
 unfold sameB at hr
 by_cases h1:a.size=b.size
 ·have t1: ((a.size:Int) == (b.size:Int))=true:=by rw[beq_iff_eq];omega
  have ca:=lower_walk a ha w
  have cb:=λw=>lower_walk b hb w
  generalize lowS a.data.toList=x at *
  generalize lowS b.data.toList=y at *
  replace hr:=hid hr
  replace ca:=hid ca
  replace cb:=hid cb
  replace h1:=hid h1
  replace hla:=hid hla
  replace hlb:=hid hlb
  go_enter func48,ntmps48
  go_wp2_with fail
  refine mo ca.out λw1 hb1=>?_
  replace hb1:=hid hb1
  go_wp2_with fail
  refine mo (cb.out _) λw2 hb2=>?_
  replace hb2:=hid hb2
  go_wp2
  go_ret
  have e3: (x==y)=r:=by rw[<-hr.out,Bool.eq_iff_iff,beq_iff_eq,decide_eq_true_eq]
  exact⟨by rw[<-e3];rfl,hb1.out.trans (hb2.out.mono hb1.out.size)⟩
 ·have t1: ((a.size:Int) == (b.size:Int))=false:=by rw[beq_eq_false_iff_ne];omega
  have e:r=false:=by
   rw[<-hr,decide_eq_false_iff_not]
   intro h
   have h2:=congrArg List.length h
   unfold lowS at h2
   rw[List.length_map,List.length_map]at h2
   omega
  subst e
  clear hr hla hlb
  replace h1:=hid h1
  go_enter func48,ntmps48
  go_wp2
  go_ret
  exact⟨rfl,Below.refl _ _⟩
end Vm
end Go.Proofs.YteaijdgnagkllaaGreatDoor
