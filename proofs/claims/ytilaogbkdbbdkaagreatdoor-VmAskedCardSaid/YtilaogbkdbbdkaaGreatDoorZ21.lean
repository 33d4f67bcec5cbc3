/- Chapter 6. Conditions: as written. -/
import Derived.Test.YtilaogbkdbbdkaaGreatDoorOm
import Derived.Test.YtilaogbkdbbdkaaGreatDoorZ06
import Derived.Lib.SpaceUEq
import Derived.Test.YtilaogbkdbbdkaaGreatDoorZ18
open Go.Proofs.Tryz
namespace Go.Proofs.YtilaogbkdbbdkaaGreatDoor
set_option linter.unusedVariables false
set_option maxHeartbeats 8000000
set_option maxRecDepth 100000
open Go.RowKit Go.Lib Go.Deep
namespace Vm
def fS(r:Nat):Bool:=decide (r<=32)
def uD(l:List UInt8)(pos:Nat):Prop:= ∃i,pos<=i∧i<l.length∧(l.getD i 0).toNat<=32
theorem uU(s:ByteArray): ∀(f pos:Nat),s.data.toList.length<=pos+f->(0<=Lib.idxFuncFrom fS true s f pos↔uD s.data.toList pos)
 | 0,pos,h=>by
   constructor
   ·intro h1;simp[Lib.idxFuncFrom]at h1
   ·rintro⟨i,h1,h2,_⟩;omega
 | f+1,pos,h=>by
   have hsz:s.size=s.data.toList.length:=Lib.size_eq s |>.symm▸rfl
   unfold Lib.idxFuncFrom
   by_cases hp:pos<s.size
   ·rw[if_pos hp,Lib.decode_N]
    have hc:=Lib.decodeN_cases (s.data.toList.length-pos) (s.data.toList.getD pos 0).toNat (s.data.toList.getD (pos+1) 0).toNat (s.data.toList.getD (pos+2) 0).toNat (s.data.toList.getD (pos+3) 0).toNat
    have hk:=Lib.decodeN_conts (s.data.toList.length-pos) (s.data.toList.getD pos 0).toNat (s.data.toList.getD (pos+1) 0).toNat (s.data.toList.getD (pos+2) 0).toNat (s.data.toList.getD (pos+3) 0).toNat
    have h1:=Lib.decodeN_ge1 (s.data.toList.length-pos) (s.data.toList.getD pos 0).toNat (s.data.toList.getD (pos+1) 0).toNat (s.data.toList.getD (pos+2) 0).toNat (s.data.toList.getD (pos+3) 0).toNat
    have ha: (s.data.toList.getD pos 0).toNat<128->Lib.decodeN (s.data.toList.length-pos) (s.data.toList.getD pos 0).toNat (s.data.toList.getD (pos+1) 0).toNat (s.data.toList.getD (pos+2) 0).toNat (s.data.toList.getD (pos+3) 0).toNat= ((s.data.toList.getD pos 0).toNat,1):=λh=>by
     unfold Lib.decodeN
     rw[if_pos h]
    obtain⟨⟨r,k⟩,hrk⟩: ∃p,Lib.decodeN (s.data.toList.length-pos) (s.data.toList.getD pos 0).toNat (s.data.toList.getD (pos+1) 0).toNat (s.data.toList.getD (pos+2) 0).toNat (s.data.toList.getD (pos+3) 0).toNat=p:=⟨_,rfl⟩
    rw[hrk]at hc hk h1 ha⊢
    simp only[Prod.mk.injEq]at hc hk h1 ha⊢
    have ih:=uU s f (pos+k) oM
    by_cases hb: (s.data.toList.getD pos 0).toNat<=32
    ·have h2:=ha oM
     have e:fS r=true:=by unfold fS;rw[h2.1];exact decide_eq_true hb
     rw[if_pos e]
     exact⟨λ_=>⟨pos,Nat.le_refl _,by omega,hb⟩,λ_=>by omega⟩
    ·have e: ¬fS r=true:=by
      unfold fS
      rw[decide_eq_true_eq]
      rcases Nat.lt_or_ge (s.data.toList.getD pos 0).toNat 128 with h3|h3
      ·rw[(ha h3).1];exact hb
      ·omega
     rw[if_neg e,ih]
     constructor
     ·rintro⟨i,h3,h4,h5⟩
      exact⟨i,by omega,h4,h5⟩
     ·rintro⟨i,h3,h4,h5⟩
      refine⟨i,?_,h4,h5⟩
      apply Classical.byContradiction
      intro Rd
      have h6:i=pos∨i=pos+1∨i=pos+2∨i=pos+3:=by omega
      rcases h6 with rfl|rfl|rfl|rfl
      ·exact hb h5
      ·have:=hk.1 oM;omega
      ·have:=hk.2.1 oM;omega
      ·have:=hk.2.2.1 oM;omega
   ·rw[if_neg hp]
    constructor
    ·intro h1;omega
    ·rintro⟨i,h1,h2,_⟩;omega
theorem Hg(s:ByteArray): (!decide (0<=Lib.idxFunc fS true s))=s.data.toList.all eG:=by
 have h:=uU s s.size 0 (by rw[Lib.size_eq];omega)
 have e: (0<=Lib.idxFunc fS true s)↔uD s.data.toList 0:=h
 rw[Bool.eq_iff_iff,Bool.not_eq_true',decide_eq_false_iff_not,e,List.all_eq_true]
 constructor
 ·intro h1 c hc
  unfold eG
  rw[decide_eq_true_eq]
  apply Classical.byContradiction
  intro h2
  obtain⟨i,hi,rfl⟩:=List.getElem_of_mem hc
  exact h1 ⟨i,Nat.zero_le _,hi,by rw[List.getD_eq_getElem?_getD,List.getElem?_eq_getElem hi];simp at h2⊢;omega⟩
 ·rintro h1 ⟨i,_,hi,h2⟩
  have h3:=h1 _ (List.getElem_mem hi)
  unfold eG at h3
  rw[decide_eq_true_eq]at h3
  rw[List.getD_eq_getElem?_getD,List.getElem?_eq_getElem hi,Option.getD_some]at h2
  omega
theorem Ip(x:Nat)(hx:x<=1114111)(w:World):Calls prog 185 #[.int .i32 (x:Int)] w (ax (.bool (fS x)) w):=by
 have e:decide ((x:Int)<=32)=fS x:=by unfold fS;rw[decide_eq_decide];omega
 go_enter func185,ntmps185
 go_wp2
 go_ret
 exact⟨rfl,rfl⟩
theorem wt(s:ByteArray)(hs:s.size<=9223372036854775807)(w:World):Calls prog 119 #[.string s] w (Quiet (.bool (Dc.ea s.data.toList)) w):=by
 have hl:s.data.toList.length=s.size:=by rw[Lib.size_eq]
 obtain⟨r,hr⟩: ∃r,Dc.ea s.data.toList=r:=⟨_,rfl⟩
 rw[hr]
 unfold Dc.ea at hr
 rw[hl]at hr
 by_cases h0:s.size=0
 ·have e:r=false:=by rw[<-hr];simp[h0]
  subst e
  have WU:s.data.toList = []:=List.eq_nil_of_length_eq_zero (by rw[hl];exact h0)
  obtain rfl:s= ⟨#[]⟩:=by cases s;simp at WU;rw[WU]
  clear hr hl WU h0
  go_enter func119,ntmps119
  go_wp2
  go_ret
  exact⟨rfl,Below.refl _ _⟩
 have RP:s.toList.isEmpty=false:=mx s oM
 by_cases h1:s.size<=31
 ·have hc:=Tryz.strings_ContainsFunc_grows 185 #[] (λ_ _=>by kernel_rfl) fS s w (λW x hx _=>(Ip x hx W).mono λe w' h=>⟨h.1,by rw[h.2];exact Below.refl _ _⟩)
  have e: (!decide (0<=Lib.idxFunc fS true s))=r:=by rw[Hg,<-hr];simp[h1];omega
  generalize decide (0<=Lib.idxFunc fS true s)=q at *
  have t1:decide ((s.size:Int)<=31)=true:=decide_eq_true oM
  replace⟨hc,e⟩:=iB hc e
  clear hr hl h0
  go_enter func119,ntmps119
  go_wp2_with fail
  refine hc.out.mono ?_
  rintro e0 w1 ⟨rfl,h⟩
  replace h:=hid h
  go_wp2
  go_ret
  exact⟨by rw[<-e.out];rfl,h.out⟩
 ·have e:r=false:=by rw[<-hr];simp[h1]
  subst e
  have t1:decide ((s.size:Int)<=31)=false:=decide_eq_false oM
  clear hr hl h0
  go_enter func119,ntmps119
  go_wp2
  go_ret
  exact⟨rfl,Below.refl _ _⟩
theorem Ii(c:UInt8): ((tA c).toNat:Int)=if 65<=(c.toNat:Int)∧(c.toNat:Int)<=90 then(c.toNat:Int) +32 else(c.toNat:Int):=by
 unfold tA
 by_cases h:65<=c.toNat∧c.toNat<=90
 ·rw[if_pos h,if_pos oM,UInt8.toNat_add]
  have: (32:UInt8).toNat=32:=rfl
  rw[this];omega
 ·rw[if_neg h,if_neg oM]
def kM(l:List UInt8)(j:Nat):List UInt8:=(l.take j).map tA++l.drop j
theorem xQ(l:List UInt8)(j:Nat): (kM l j).length=l.length:=by unfold kM;simp;omega
theorem E5(l:List UInt8):kM l 0=l:=by unfold kM;simp
theorem Jk(l:List UInt8)(j:Nat)(h:l.length<=j):kM l j=xm l:=by unfold kM xm;rw[List.take_of_length_le h,List.drop_eq_nil_of_le h];simp
theorem CG(l:List UInt8)(j:Nat)(h:j<l.length)(h':j< (kM l j).length): (kM l j)[j]=l.getD j 0:=by
 have e: (kM l j)[j]? = some l[j]:=by
  unfold kM
  rw[List.getElem?_append_right (by simp;omega),List.getElem?_drop]
  have:j+ (j- (List.map tA (List.take j l)).length)=j:=by simp;omega
  rw[this,List.getElem?_eq_getElem h]
 rw[List.getElem?_eq_getElem h']at e
 have hg:l.getD j 0=l[j]:=by simp[List.getD,h]
 rw[hg]
 exact Option.some.inj e
theorem uO(l:List UInt8)(j:Nat)(h:j<l.length): (kM l j).set j (tA (l.getD j 0))=kM l (j+1):=by
 have hg:l.getD j 0=l[j]:=by simp[List.getD,h]
 unfold kM
 rw[List.set_append_right _ _ (by simp;omega),List.take_succ_eq_append_getElem h,List.drop_eq_getElem_cons h,hg]
 have:j- (List.map tA (List.take j l)).length=0:=by simp;omega
 rw[this,List.set_cons_zero,List.map_append,List.append_assoc]
 rfl
theorem Er(l:List UInt8)(j:Nat)(h:j<l.length)(hc:tA (l.getD j 0)=l.getD j 0):kM l (j+1)=kM l j:=by
 rw[<-uO l j h,hc]
 have h':j< (kM l j).length:=by rw[xQ];exact h
 rw[<-CG l j h h']
 exact List.set_getElem_self h'
theorem QU: ∀k:Fin 26,bits .or .u8 (65+ (k.val:Int)) 32=97+ (k.val:Int):=by decide +kernel
theorem P5(n:Nat)(h1:65<=(n:Int))(h2: (n:Int)<=90):bits .or .u8 (n:Int) 32= (n:Int) +32:=by
 have h:=QU ⟨n-65,by omega⟩
 have e: (65+ ((n-65:Nat):Int))= (n:Int):=by omega
 simp only[e]at h
 rw[h]
 omega
theorem rq(s:ByteArray)(hs:s.size<=140737488355327)(w:World):Calls prog 67 #[.string s] w λe w'=>e = .returned (.string ⟨(xm s.data.toList).toArray⟩)∧Below w.heap.size w w':=by
 have hl:s.data.toList.length=s.size:=by rw[Lib.size_eq]
 have hcv:=λw=>Lib.run_convert_string_bytes (P:=prog) w 9 93 5 s underlying9 underlying93 underlying5
 have hA0:=(At.refl w).bytes 5 s (by unfold maxLen;omega)
 obtain⟨cap,Yd⟩: ∃cap,grownCap w s.size 0 5=cap:=⟨_,rfl⟩
 rw[Yd]at hA0
 have hif:=hcv w
 rw[Yd]at hif
 clear hcv
 replace⟨hA0,hl⟩:=iB hA0 hl
 go_enter func67,ntmps67
 go_wp2_with fail
 go_loopw [10] (λi wr=> ∃j:Nat,j<=s.size∧i = .int .i64 j∧At w wr [yT 5 (.slice w.heap.size s.size cap) (kM s.data.toList j)]) (λi _=>s.size- (RowKit.intOf i).toNat)
 case atStart=>exact⟨0,by omega,rfl,by rw[E5];exact hA0.out⟩
 case round=>
  obtain⟨j,hj,rfl,hA⟩:=hrel
  have An:=hA.row
  by_cases Rd:j<s.size
  ·have hj1:j< (kM s.data.toList j).length:=by rw[xQ,hl.out];exact Rd
   have Za:=An.cells rfl j hj1
   have SJ:=An.frozen rfl j hj1
   rw[CG _ _ (by rw[hl.out];exact Rd)]at Za
   have ON:=λD hD=>hA.aS rfl j hj1 (tA (s.data.toList.getD j 0)) D hD
   have Sz:=Er s.data.toList j (by rw[hl.out];exact Rd)
   rw[uO _ _ (by rw[hl.out];exact Rd)]at ON
   obtain⟨c,hc⟩: ∃c,s.data.toList.getD j 0=c:=⟨_,rfl⟩
   rw[hc]at Za ON Sz
   have RX:=Ii c
   have hc255: (c.toNat:Int)<=255:=by have:=c.toNat_lt;omega
   replace⟨ON,Sz,hA,hc⟩:=iD ON Sz hA hc
   clear An hA0
   by_cases g0:65<=(c.toNat:Int)∧(c.toNat:Int)<=90
   ·obtain⟨g1,g2⟩:=g0
    have hor:=P5 c.toNat g1 g2
    rw[if_pos ⟨g1,g2⟩]at RX
    replace⟨hor,RX⟩:=iB hor RX
    go_wp2_with fail
    go_roundw
    case rel=>exact⟨j+1,by omega,by go_num,ON.out _ (by rw[RX.out];have:=hor.out;omega)⟩
    case measure=>simp[RowKit.intOf];omega
   ·rw[if_neg g0]at RX
    have hlc:tA c=c:=UInt8.toNat_inj.1 oM
    have ZS:=hA.out
    rw[<-Sz.out hlc]at ZS
    replace⟨ZS,RX,hlc⟩:=iC ZS RX hlc
    by_cases g1:65<=(c.toNat:Int)
    ·have t2:decide ((c.toNat:Int)<=90)=false:=by simp;omega
     clear g0
     go_wp2_with fail
     go_roundw
     case rel=>exact⟨j+1,by omega,by go_num,ZS.out⟩
     case measure=>simp[RowKit.intOf];omega
    ·have t1:decide (65<=(c.toNat:Int))=false:=by simp;omega
     clear g0 g1
     go_wp2_with fail
     go_roundw
     case rel=>exact⟨j+1,by omega,by go_num,ZS.out⟩
     case measure=>simp[RowKit.intOf];omega
  ·rw[Jk _ _ (by rw[hl.out];omega)]at An
   have hcD:=An.pA (P:=prog) 93 9 underlying93 underlying5 underlying9
   replace hA:=hid hA
   clear An
   go_wp2_with fail
   go_ret
   exact⟨rfl,hA.out.below⟩
theorem oo(s:ByteArray)(hs:s.size<=9223372036854775807)(w:World):Calls prog 125 #[.string s] w (ax (.bool (Dc.ea s.data.toList)) w):=by
 have hl:s.data.toList.length=s.size:=by rw[Lib.size_eq]
 have ia:=λ(j:Nat) (h:j<s.size)=>gp s j h
 obtain⟨r,hr⟩: ∃r,Dc.ea s.data.toList=r:=⟨_,rfl⟩
 have YJ:=hr
 rw[hr]
 unfold Dc.ea at YJ
 rw[hl]at YJ
 replace⟨hr,ia⟩:=iB hr ia
 by_cases h1:1<=s.size∧s.size<=31
 ·have t1:decide ((s.size:Int) <1)=false:=by rw[decide_eq_false_iff_not];omega
  have t2:decide ((s.size:Int) >31)=false:=by rw[decide_eq_false_iff_not];omega
  have Y2:s.data.toList.all eG=r:=by rw[<-YJ];simp[h1]
  clear YJ
  replace⟨Y2,hl⟩:=iB Y2 hl
  go_enter func125,ntmps125
  go_wp2
  go_loopw [3] (λi wr=> ∃j:Nat,j<=s.size∧i = .int .i64 (j:Int)∧wr=w∧∀k,k<j->eG (s.data.toList.getD k 0)=true) (λi _=>s.size- (RowKit.intOf i).toNat)
  case atStart=>exact⟨0,by omega,rfl,rfl,λk hk=>by omega⟩
  case round=>
   obtain⟨j,hj,rfl,rfl,Um⟩:=hrel
   replace Um:=hid Um
   by_cases Rd:j<s.size
   ·have hx:=ia.out j Rd wr
    obtain⟨c,hc⟩: ∃c,s.data.toList.getD j 0=c:=⟨_,rfl⟩
    rw[hc]at hx
    obtain⟨n,hn⟩: ∃n,c.toNat=n:=⟨_,rfl⟩
    rw[hn]at hx
    replace⟨hc,hn⟩:=iB hc hn
    by_cases c1:n<=32
    ·have t3:decide ((n:Int)<=32)=true:=by rw[decide_eq_true_eq];omega
     go_wp2
     go_ret
     have:r=false:=by
      rw[<-Y2.out,List.all_eq_false]
      have RQ:j<s.data.toList.length:=by rw[hl.out];exact Rd
      refine⟨s.data.toList[j],List.getElem_mem RQ,?_⟩
      have e:s.data.toList[j]=c:=by rw[<-hc.out,List.getD_eq_getElem?_getD,List.getElem?_eq_getElem RQ];rfl
      rw[e]
      unfold eG
      rw[hn.out]
      simp;omega
     rw[this]
     exact⟨rfl,rfl⟩
    ·have t3:decide ((n:Int)<=32)=false:=by rw[decide_eq_false_iff_not];omega
     replace c1:=hid c1
     go_wp2
     go_roundw
     case rel=>
      refine⟨j+1,by omega,by go_num,by first|rfl|trivial,λk hk=> ?_⟩
      by_cases hkj:k=j
      ·subst hkj
       rw[hc.out]
       unfold eG
       rw[hn.out]
       have:=c1.out
       simp;omega
      ·exact Um.out k oM
     case measure=>simp[RowKit.intOf];omega
   ·have TJ:j=s.size:=by omega
    subst TJ
    go_wp2
    go_ret
    have:r=true:=by
     rw[<-Y2.out,List.all_eq_true]
     intro x hx
     obtain⟨k,hk,rfl⟩:=List.getElem_of_mem hx
     have:=Um.out k (by rw[<-hl.out];exact hk)
     rw[List.getD_eq_getElem?_getD,List.getElem?_eq_getElem hk]at this
     exact this
    rw[this]
    exact⟨rfl,rfl⟩
 ·have:r=false:=by rw[<-YJ];simp[h1]
  subst this
  clear YJ
  by_cases h2:s.size<1
  ·have t1:decide ((s.size:Int) <1)=true:=by rw[decide_eq_true_eq];omega
   go_enter func125,ntmps125
   go_wp2
   go_ret
   exact⟨rfl,rfl⟩
  ·have t1:decide ((s.size:Int) <1)=false:=by rw[decide_eq_false_iff_not];omega
   have t2:decide ((s.size:Int) >31)=true:=by rw[decide_eq_true_eq];omega
   go_enter func125,ntmps125
   go_wp2
   go_ret
   exact⟨rfl,rfl⟩
theorem Nx(a b:ByteArray)(ha:a.size<=140737488355327)(hb:b.size<=140737488355327)(w:World):Calls prog 40 #[.string a,.string b] w (Quiet (.bool (kY a.data.toList b.data.toList)) w):=by
 have WD:a.data.toList.length=a.size:=by rw[Lib.size_eq]
 have hlb:b.data.toList.length=b.size:=by rw[Lib.size_eq]
 obtain⟨r,hr⟩: ∃r,kY a.data.toList b.data.toList=r:=⟨_,rfl⟩
 rw[hr]
 unfold kY at hr
 by_cases h1:a.size=b.size
 ·have t1: ((a.size:Int) == (b.size:Int))=true:=by rw[beq_iff_eq];omega
  have ca:=rq a ha w
  have cb:=λw=>rq b hb w
  generalize xm a.data.toList=x at *
  generalize xm b.data.toList=y at *
  replace⟨hr,ca,cb,h1,WD,hlb⟩:=iF hr ca cb h1 WD hlb
  go_enter func40,ntmps40
  go_wp2_with fail
  refine mo ca.out λw1 Rh=>?_
  replace Rh:=hid Rh
  go_wp2_with fail
  refine mo (cb.out _) λw2 Rm=>?_
  replace Rm:=hid Rm
  go_wp2
  go_ret
  have e3: (x==y)=r:=by rw[<-hr.out,Bool.eq_iff_iff,beq_iff_eq,decide_eq_true_eq]
  exact⟨by rw[<-e3];rfl,Rh.out.trans (Rm.out.mono Rh.out.size)⟩
 ·have t1: ((a.size:Int) == (b.size:Int))=false:=by rw[beq_eq_false_iff_ne];omega
  have e:r=false:=by
   rw[<-hr,decide_eq_false_iff_not]
   intro h
   have h2:=congrArg List.length h
   unfold xm at h2
   rw[List.length_map,List.length_map]at h2
   omega
  subst e
  clear hr WD hlb
  replace h1:=hid h1
  go_enter func40,ntmps40
  go_wp2
  go_ret
  exact⟨rfl,Below.refl _ _⟩
theorem zt(n:Nat)(h:n<4611686018427387904):bits .andNot .i64 (n:Int) 7= ((n/8*8:Nat):Int):=by
 show IntKind.i64.wrap ((BitVec.ofInt 64 (n:Int) &&& ~~~BitVec.ofInt 64 ((7:Nat):Int)).toNat:Int)=_
 rw[BitVec.toNat_and,BitVec.toNat_not,ofInt_u64 n oM,ofInt_u64 7 oM]
 have e:2 ^ 64-1-7=18446744073709551608:=by decide
 rw[e,nat_hi64_3,Nat.mod_eq_of_lt oM,IntKind.wrap_i64]
 omega
theorem xl(n:Nat)(h:n<=1000000)(w:World):Calls prog 120 #[.int .i64 (n:Int)] w (ax (.int .i64 (up n:Nat)) w):=by
 have e:=zt (n+7) oM
 rw[show((n+7:Nat):Int)= (n:Int) +7 by omega]at e
 have e2: (n+7) /8*8=up n:=rfl
 rw[e2]at e
 replace e:=hid e
 go_enter func120,ntmps120
 go_wp2
 go_ret
 exact⟨by rw[<-e.out];rfl,rfl⟩
def ec(gI g fr en:Nat)(D:Dc)(S:Img)(l:List UInt8):Asr:=aa [Rk gI g fr en (laidB D l.length),av gI (S.put D.h l)]
section
variable {w w1:World}{F:Nat->Prop}{g gI fr en:Nat}{D:Dc}{S:Img}
theorem BP(hb: (aa [Rk gI g fr en D,av gI S]).holds w F):On F w (ec gI g fr en D S []) w:=by
 unfold ec
 rw[Img.fK]
 exact On.refl hb
theorem AP(l:List UInt8)(h:On F w (ec gI g fr en D S l) w1):w1.cell? ⟨g,0,none⟩=some (.pointer (some ⟨gI,0,none⟩))∧w1.cell? ⟨g,1,none⟩=some (.int .i64 (fr:Int))∧w1.cell? ⟨g,2,none⟩=some (.int .i64 (en:Int))∧
 w1.cell? ⟨g,3,none⟩=some (.int .i64 ((D.h+l.length:Nat):Int))∧w1.cell? ⟨g,4,none⟩=some (.int .i64 (D.l:Int))∧w1.frozen? ⟨g,4,none⟩=false:=by
 have hs:Blk w1 g 123 (cm gI fr en ((D.h+l.length:Nat):Int) (D.l:Int)):=h.ab 0 rfl
 exact⟨hs.cell 0,hs.cell 1,hs.cell 2,hs.cell 3,hs.cell 4,hs.frozen 4⟩
theorem pQ(h8:At8 S D fr en)(hs:D.shut S=false)(l:List UInt8)(b:UInt8)(hl:D.h+l.length<en)(h:On F w (ec gI g fr en D S l) w1):
 Calls prog 124 #[.pointer (some ⟨g,0,none⟩),.int .u8 (b.toNat:Int)] w1 (Got (.returned (.int .i64 0)) (ec gI g fr en D S (l ++ [b])) F w):=by
 unfold ec
 rw[List.length_append]
 exact h.tP λF' hb=>pH h8 hs l b hl hb
theorem AM(h8:At8 S D fr en)(hs:D.shut S=false)(l:List UInt8)(v:Int)(hv:V64 v)(hl:D.h+l.length+8<=en)(RY: (D.h+l.length) % 8=0)(h:On F w (ec gI g fr en D S l) w1):
 Calls prog 83 #[.pointer (some ⟨g,0,none⟩),.int .i64 v] w1 (Got (.returned (.int .i64 0)) (ec gI g fr en D S (l++toB v)) F w):=by
 unfold ec
 rw[List.length_append,aI]
 refine h.tP λF' hb=> ?_
 have h9:=ni h8 hs l oM
 have hq:=vx hb h9 v hv
 have R7: (laidB D l.length).shut (S.put D.h l)=false:=by rw[<-hs];rfl
 have e: (laidB D l.length).bm (S.put D.h l)=0:=by
  unfold Dc.bm
  rw[h9.lim,R7,if_neg (by show¬en<D.h+l.length+8;omega),if_neg (by show¬(D.h+l.length) % 8≠0;omega)]
  rfl
 unfold Dc.bw Dc.bi at hq
 rw[e,if_pos rfl,if_pos rfl]at hq
 have e2: (S.put D.h l).put (laidB D l.length).h (toB v)=S.put D.h (l++toB v):=S.iU D.h l (toB v) (by rw[h8.img.len];have:=h8.ok.all;rw[h8.lim]at this;omega)
 rw[e2]at hq
 exact hq
theorem sE(h8:At8 S D fr en)(hs:D.shut S=false)(l:List UInt8)(n:Nat)(hn:n=up (D.h+l.length) - (D.h+l.length))(hl:D.h+l.length<=en)(h:On F w (ec gI g fr en D S l) w1):
 Calls prog 123 #[.pointer (some ⟨g,0,none⟩)] w1 (Got (.returned (.int .i64 0)) (ec gI g fr en D S (l++List.replicate n 0)) F w):=by
 subst hn
 unfold ec
 rw[List.length_append,List.length_replicate]
 refine h.tP λF' hb=> ?_
 have h9:=ni h8 hs l hl
 have R7: (laidB D l.length).shut (S.put D.h l)=false:=by rw[<-hs];rfl
 have hq:=pO hb h9 (.inr R7)
 have e1: (laidB D l.length).h=D.h+l.length:=rfl
 rw[e1]at hq
 have e2: (S.put D.h l).put (D.h+l.length) (List.replicate (up (D.h+l.length) - (D.h+l.length)) 0)=S.put D.h (l++List.replicate (up (D.h+l.length) - (D.h+l.length)) 0):=S.iU D.h l _ (by rw[h8.img.len];have:=h8.ok.all;rw[h8.lim]at this;omega)
 rw[e2]at hq
 have e3:laidB (laidB D l.length) (up (D.h+l.length) - (D.h+l.length))=laidB D (l.length+ (up (D.h+l.length) - (D.h+l.length))):=by unfold laidB;simp[Nat.add_assoc]
 rw[e3]at hq
 exact hq
end
section
variable {w w1:World}{F:Nat->Prop}{g gI fr en:Nat}{D:Dc}{S:Img}
theorem Ca(hb: (aa [Rk gI g fr en D,av gI S]).holds w F)(s:ByteArray)(hsz:s.size<=9223372036854775807)(hn:Dc.ea s.data.toList=false):
 Calls prog 78 #[g,.string s] w (Got (.returned (.tuple #[(0:Int),(15:Int)])) (aa [Rk gI g fr en D,av gI S]) F w):=by
 have so:=On.refl hb
 have T9:=wt s hsz w
 rw[hn]at T9
 replace⟨so,T9⟩:=iB so T9
 clear hb hn
 go_enter func78,ntmps78
 go_wp2_with fail
 refine mo T9.out λw1 h=>?_
 replace h:=hid h
 go_wp2
 go_ret2
 exact⟨rfl,so.out.below h.out⟩
theorem jD{s:ByteArray}(hn:Dc.ea s.data.toList=true):1<=s.size∧s.size<=31:=by
 have:=Dc.wU hn
 rw[<-Lib.size_eq]at this
 exact this
theorem xA(hb: (aa [Rk gI g fr en D,av gI S]).holds w F)(h8:At8 S D fr en)(s:ByteArray)(hn:Dc.ea s.data.toList=true)(hf:en<up D.h+ (8+up (1+s.size))):
 Calls prog 78 #[g,.string s] w (Got (.returned (.tuple #[(0:Int),(9:Int)])) (aa [Rk gI g fr en D,av gI S]) F w):=by
 have so:=On.refl hb
 have Sw:=jD hn
 have T9:=wt s oM w
 rw[hn]at T9
 have h1:=h8.lo
 have hle:=h8.le
 have hu1:=ee D.h
 have hu2:=ee (1+s.size)
 have T0:=λw=>xl D.h oM w
 have Sm:=λw=>xl (1+s.size) oM w
 rw[show((1+s.size:Nat):Int)=1+ (s.size:Int)by omega]at Sm
 have hc:=λw1 (h:On F w (aa [Rk gI g fr en D,av gI S]) w1)=>(show Blk w1 g 123 (cm gI fr en (D.h:Int) (D.l:Int))from h.ab 0 rfl)
 replace⟨so,T9,T0,Sm,hc⟩:=iE so T9 T0 Sm hc
 generalize up (1+s.size)=u2 at *
 generalize up D.h=u1 at *
 clear hb hn h8
 go_enter func78,ntmps78
 go_wp2_with fail
 refine mo T9.out λw1 h=>?_
 have M0:=so.out.below h
 have c3:w1.cell? (g,3)=some ((D.h:Int):Vl):=(hc.out _ M0).cell 3
 have c2:w1.cell? (g,2)=some ((en:Int):Vl):=(hc.out _ M0).cell 2
 replace M0:=hid M0
 clear h
 go_wp2_with fail
 refine(T0.out _).mono ?_
 rintro e w2 ⟨rfl,rfl⟩
 go_wp2_with fail
 go_quiet ((go_at_call 120;exact Calls.quiet_of_same (Sm.out _)))
 go_wp2
 go_ret2
 exact⟨rfl,M0.out.drewN _⟩
theorem xq(hb: (aa [Rk gI g fr en D,av gI S]).holds w F)(h8:At8 S D fr en)(s:ByteArray)(hn:Dc.ea s.data.toList=true)(hf: ¬en<up D.h+ (8+up (1+s.size)))(R7:D.shut S=true):
 Calls prog 78 #[g,.string s] w (Got (.returned (.tuple #[(0:Int),(5:Int)])) (aa [Rk gI g fr en D,av gI S]) F w):=by
 have so:=On.refl hb
 have Sw:=jD hn
 have T9:=wt s oM w
 rw[hn]at T9
 have h1:=h8.lo
 have hle:=h8.le
 have hu1:=ee D.h
 have hu2:=ee (1+s.size)
 have T0:=λw=>xl D.h oM w
 have Sm:=λw=>xl (1+s.size) oM w
 rw[show((1+s.size:Nat):Int)=1+ (s.size:Int)by omega]at Sm
 have hc:=λw1 (h:On F w (aa [Rk gI g fr en D,av gI S]) w1)=>(show Blk w1 g 123 (cm gI fr en (D.h:Int) (D.l:Int))from h.ab 0 rfl)
 have WB:D.rg<=5:=by rcases h8.ok.rg with e|e<;>omega
 have Rl:=λw1 (h:On F w (aa [Rk gI g fr en D,av gI S]) w1) (n:Nat)=>(by
  obtain⟨gb,hi⟩:=h.img 1 rfl
  have:=nn (w:=w1.drewN n) (hi.drewN n) (fr:Int)
  rw[h8.ok.region fr (by rw[h8.fr];exact Nat.le_refl _) (by rw[h8.lim];omega)]at this
  exact this:Calls prog 122 #[gI,(fr:Int)] (w1.drewN n) (ax (D.rg:Int) (w1.drewN n)))
 have Rx:=λw1 (h:On F w (aa [Rk gI g fr en D,av gI S]) w1) (n:Nat)=>(by
  obtain⟨gb,hi⟩:=h.img 1 rfl
  have:=Db (w:=w1.drewN n) (hi.drewN n) 0 D.rg WB
  rw[h8.ok.may,if_pos R7]at this
  exact this:Calls prog 121 #[gI,(0:Int),(D.rg:Int)] (w1.drewN n) (ax (.int .i64 1) (w1.drewN n)))
 have hjJ:bits .and .i64 1 2=0:=by decide
 replace⟨so,T9,T0,Sm,hc,Rl,Rx⟩:=iG so T9 T0 Sm hc Rl Rx
 generalize up (1+s.size)=u2 at *
 generalize up D.h=u1 at *
 clear hb hn h8 R7
 go_enter func78,ntmps78
 go_wp2_with fail
 refine mo T9.out λw1 h=>?_
 have M0:=so.out.below h
 have c3:w1.cell? (g,3)=some ((D.h:Int):Vl):=(hc.out _ M0).cell 3
 have c2:w1.cell? (g,2)=some ((en:Int):Vl):=(hc.out _ M0).cell 2
 replace M0:=hid M0
 clear h
 go_wp2_with fail
 refine(T0.out _).mono ?_
 rintro e w2 ⟨rfl,rfl⟩
 go_wp2_with fail
 go_quiet ((go_at_call 120;exact Calls.quiet_of_same (Sm.out _)))
 have BY:=M0.out.drewN nq
 obtain⟨w3,Sx⟩: ∃w3,w2.drewN nq=w3:=⟨_,rfl⟩
 rw[Sx]at BY⊢
 have c0:w3.cell? (g,0)=some (gI:Vl):=(hc.out _ BY).cell 0
 have c1:w3.cell? (g,1)=some ((fr:Int):Vl):=(hc.out _ BY).cell 1
 replace Rl:=hid (Rl.out _ BY)
 replace Rx:=hid (Rx.out _ BY)
 replace BY:=hid BY
 clear c2 c3 M0 Sx
 go_wp2_with fail
 go_quiet ((first| (go_at_call 122;exact Calls.quiet_of_same (Rl.out _)) | (go_at_call 121;exact Calls.quiet_of_same (Rx.out _))))
 go_wp2
 go_ret2
 exact⟨rfl,BY.out.drewN _⟩
theorem Ej(hb: (aa [Rk gI g fr en D,av gI S]).holds w F)(h8:At8 S D fr en)(s:ByteArray)(hn:Dc.ea s.data.toList=true)(hf: ¬en<up D.h+ (8+up (1+s.size)))(R7:D.shut S=false):
 Calls prog 78 #[g,.string s] w (Got (.returned (.tuple #[((up D.h+ (8+up (1+s.size)):Nat):Int),(0:Int)])) (aa [Rk gI g fr en { D with h:=up D.h+ (8+up (1+s.size)),l:=up D.h },av gI (S.put D.h (D.eW s.data.toList))]) F w):=by
 have so:=BP hb
 have Sw:=jD hn
 have R9:s.data.toList.length=s.size:=by rw[Lib.size_eq]
 have T9:=wt s oM w
 rw[hn]at T9
 have h1:=h8.lo
 have hle:=h8.le
 have hu1:=ee D.h
 have hu2:=ee (1+s.size)
 have T0:=λw=>xl D.h oM w
 have Sm:=λw=>xl (1+s.size) oM w
 rw[show((1+s.size:Nat):Int)=1+ (s.size:Int)by omega]at Sm
 have hc:=λw1 l (h:On F w (ec gI g fr en D S l) w1)=>AP l h
 have WB:D.rg<=5:=by rcases h8.ok.rg with e|e<;>omega
 have Rl:=λw1 (h:On F w (ec gI g fr en D S []) w1) (n:Nat)=>(by
  unfold ec at h
  obtain⟨gb,hi⟩:=h.img 1 rfl
  rw[Img.fK]at hi
  have:=nn (w:=w1.drewN n) (hi.drewN n) (fr:Int)
  rw[h8.ok.region fr (by rw[h8.fr];exact Nat.le_refl _) (by rw[h8.lim];omega)]at this
  exact this:Calls prog 122 #[gI,(fr:Int)] (w1.drewN n) (ax (D.rg:Int) (w1.drewN n)))
 have Rx:=λw1 (h:On F w (ec gI g fr en D S []) w1) (n:Nat)=>(by
  unfold ec at h
  obtain⟨gb,hi⟩:=h.img 1 rfl
  rw[Img.fK]at hi
  have:=Db (w:=w1.drewN n) (hi.drewN n) 0 D.rg WB
  rw[h8.ok.may,if_neg (by rw[R7];decide)]at this
  exact this:Calls prog 121 #[gI,(0:Int),(D.rg:Int)] (w1.drewN n) (ax (.int .i64 3) (w1.drewN n)))
 have hjJ:bits .and .i64 3 2=2:=by decide
 obtain⟨za,hza⟩: ∃za:List UInt8,za=List.replicate (up D.h-D.h) 0:=⟨_,rfl⟩
 have hzl:za.length=up D.h-D.h:=by rw[hza];simp
 have Ss:=λw1 (h:On F w (ec gI g fr en D S []) w1)=>sE h8 R7 [] _ rfl (by simp;omega) h
 simp only[List.length_nil,Nat.add_zero,List.nil_append]at Ss
 rw[<-hza]at Ss
 have ZT:V64 (D.l:Int):=by have:=h8.ok.l;rw[h8.lim]at this;unfold V64;omega
 have Wt:=λw1 (h:On F w (ec gI g fr en D S za) w1)=>AM h8 R7 za (D.l:Int) ZT (by rw[hzl];omega) (by rw[hzl];omega) h
 have Ug: (za++toB (D.l:Int)).length=up D.h-D.h+8:=by simp[aI,hzl]
 have SI:=λw1 (h:On F w (ec gI g fr en D S (za++toB (D.l:Int))) w1)=>pQ h8 R7 (za++toB (D.l:Int)) (UInt8.ofNat (s.size+32)) (by rw[Ug];omega) h
 have Sv: (((UInt8.ofNat (s.size+32)).toNat:Nat):Int)= (s.size:Int) +32:=by rw[UInt8.toNat_ofNat'];omega
 rw[Sv]at SI
 obtain⟨l3,hl3⟩: ∃l3:List UInt8,l3=za++toB (D.l:Int)++ [UInt8.ofNat (s.size+32)]:=⟨_,rfl⟩
 have ZO:l3.length=up D.h-D.h+9:=by rw[hl3,List.length_append,Ug];rfl
 rw[<-hl3]at SI
 have hcn:=λw1 (j:Nat) (hj:j<s.size) (h:On F w (ec gI g fr en D S (l3++s.data.toList.take j)) w1)=>pQ h8 R7 (l3++s.data.toList.take j) (s.data.toList.getD j 0) (by rw[List.length_append,ZO,List.length_take,R9];omega) h
 have Wy: ∀j,j<s.size->(l3++s.data.toList.take j)++ [s.data.toList.getD j 0]=l3++s.data.toList.take (j+1):=λj hj=>by
  rw[List.append_assoc,List.take_succ_eq_append_getElem (by rw[R9];exact hj),List.getD_eq_getElem?_getD,List.getElem?_eq_getElem (by rw[R9];exact hj)]
  rfl
 have ZL: (l3++s.data.toList).length=up D.h-D.h+9+s.size:=by rw[List.length_append,ZO,R9]
 have We:=λw1 (h:On F w (ec gI g fr en D S (l3++s.data.toList)) w1)=>sE h8 R7 (l3++s.data.toList) (up (1+s.size) - (1+s.size)) (by rw[ZL];unfold up at *;omega) (by rw[ZL];omega) h
 have Uy:l3++s.data.toList++List.replicate (up (1+s.size) - (1+s.size)) 0=D.eW s.data.toList:=by
  unfold Dc.eW
  rw[hl3,hza,R9]
  simp[List.append_assoc]
 rw[Uy]at We
 have ZD: (D.eW s.data.toList).length=up D.h-D.h+ (8+up (1+s.size)):=by rw[Dc.qZ,R9]
 have R4:=λw1 (h:On F w (ec gI g fr en D S (D.eW s.data.toList)) w1)=>(by
  unfold ec at h
  rw[ZD]at h
  have h2:=h.setAt 0 rfl 4 (.int .i64 (up D.h:Nat))
  have e:laidB D (up D.h-D.h+ (8+up (1+s.size)))= { D with h:=up D.h+ (8+up (1+s.size)) }:=by unfold laidB;congr 1;omega
  rw[e]at h2
  exact h2:On F w (aa [Rk gI g fr en { D with h:=up D.h+ (8+up (1+s.size)),l:=up D.h },av gI (S.put D.h (D.eW s.data.toList))]) (w1.setCell (g,4) (.int .i64 (up D.h:Nat))))
 have V3:=λ(j:Nat) (h:j<s.size)=>gp s j h
 generalize D.eW s.data.toList=lf at *
 have hhf:D.h+lf.length=up D.h+ (8+up (1+s.size)):=by rw[ZD];omega
 replace⟨so,T9,T0,Sm,hc,Rl,Rx,Ss,Wt,SI,hcn,Wy⟩:=iL so T9 T0 Sm hc Rl Rx Ss Wt SI hcn Wy
 replace⟨We,R4,V3,hhf,R9⟩:=iE We R4 V3 hhf R9
 generalize up (1+s.size)=u2 at *
 generalize up D.h=u1 at *
 clear hb hn h8 R7 hza hzl ZT Ug Sv hl3 ZO ZL Uy ZD
 go_enter func78,ntmps78
 go_wp2_with fail
 refine mo T9.out λw1 h=>?_
 have M0:=so.out.below h
 obtain⟨c0,c1,c2,c3,c4,f4⟩:=hc.out _ _ M0
 replace M0:=hid M0
 clear h
 simp only[List.length_nil,Nat.add_zero]at c3
 go_wp2_with fail
 refine(T0.out _).mono ?_
 rintro e w2 ⟨rfl,rfl⟩
 go_wp2_with fail
 go_quiet ((go_at_call 120;exact Calls.quiet_of_same (Sm.out _)))
 have BY:=M0.out.drewN nq
 obtain⟨w3,Sx⟩: ∃w3,w2.drewN nq=w3:=⟨_,rfl⟩
 rw[Sx]at BY⊢
 clear c0 c1 c2 c3 c4 f4 M0 Sx
 obtain⟨c0,c1,c2,c3,c4,f4⟩:=hc.out _ _ BY
 replace Rl:=hid (Rl.out _ BY)
 replace Rx:=hid (Rx.out _ BY)
 replace BY:=hid BY
 go_wp2_with fail
 go_quiet ((first| (go_at_call 122;exact Calls.quiet_of_same (Rl.out _)) | (go_at_call 121;exact Calls.quiet_of_same (Rx.out _))))
 have Rb:=BY.out.drewN nq
 obtain⟨w4,Zq⟩: ∃w4,w3.drewN nq=w4:=⟨_,rfl⟩
 rw[Zq]at Rb⊢
 clear c0 c1 c2 c3 c4 f4 BY Zq
 replace Ss:=hid (Ss.out _ Rb)
 clear Rb
 go_wp2_with fail
 refine mo Ss.out λw5 h5=>?_
 obtain⟨c0,c1,c2,c3,c4,f4⟩:=hc.out _ _ h5
 replace Wt:=hid (Wt.out _ h5)
 clear h5
 go_wp2_with fail
 refine mo Wt.out λw6 h6=>?_
 replace SI:=hid (SI.out _ h6)
 clear h6 c0 c1 c2 c3 c4 f4
 go_wp2_with fail
 refine mo SI.out λw7 h7=>?_
 replace h7:=hid h7
 have X6:decide ((en:Int) - (u1:Int) <8+ (u2:Int))=false:=decide_eq_false oM
 go_wp2_with fail
 go_loopg [60] s.size (λk t wr=> ∃j:Nat,j+k=s.size∧t = .int .i64 (j:Int)∧On F w (ec gI g fr en D S (l3++s.data.toList.take j)) wr)
 case atStart=>exact⟨0,by omega,rfl,by rw[List.take_zero,List.append_nil];exact h7.out⟩
 case round=>
  obtain⟨j,hj,rfl,hj7⟩:=hrel
  by_cases RQ:j<s.size
  ·have hq:=hcn.out _ j RQ hj7
   have hx:=V3.out j RQ wr
   rw[Wy.out j RQ]at hq
   generalize s.data.toList.getD j 0=c at *
   replace⟨hq,hj7⟩:=iB hq hj7
   go_wp2_with fail
   refine mo hq.out λw8 h8=>?_
   replace h8:=hid h8
   go_wp2
   go_roundg (gk-1)
   case measure=>omega
   case rel=>exact⟨j+1,by omega,by go_num,h8.out⟩
  ·have TJ:j=s.size:=by omega
   subst TJ
   rw[List.take_of_length_le (by rw[R9.out];exact Nat.le_refl _)]at hj7
   replace We:=hid (We.out _ hj7)
   have hfw:decide ((s.size:Int) < (s.size:Int))=false:=by simp
   clear hj7
   go_wp2_with fail
   refine mo We.out λw8 h8=>?_
   obtain⟨c0,c1,c2,c3,c4,f4⟩:=hc.out _ _ h8
   replace R4:=hid (R4.out _ h8)
   rw[hhf.out]at c3
   clear h8
   go_wp2
   go_ret2
   exact⟨rfl,R4.out⟩
theorem HU(hb: (aa [Rk gI g fr en D,av gI S]).holds w F)(h8:At8 S D fr en)(s:ByteArray)(hsz:s.size<=9223372036854775807):
 Calls prog 78 #[g,.string s] w (Got (.returned (.tuple #[(D.jo S s.data.toList),(D.bU S s.data.toList)])) (aa [Rk gI g fr en (D.cg S s.data.toList),av gI (D.bQ S s.data.toList)]) F w):=by
 have R9:s.data.toList.length=s.size:=by rw[Lib.size_eq]
 have hF:D.bU S s.data.toList=if Dc.ea s.data.toList=false then 15 else if en<up D.h+ (8+up (1+s.size))then 9 else if D.shut S=true then 5 else 0:=by
  unfold Dc.bU
  rw[h8.lim,R9]
 unfold Dc.jo Dc.cg Dc.bQ
 rw[hF]
 by_cases h1:Dc.ea s.data.toList=false
 ·rw[if_pos h1,if_neg (by decide),if_neg (by decide),if_neg (by decide)]
  exact Ca hb s hsz h1
 rw[if_neg h1]
 have h1':Dc.ea s.data.toList=true:=by simpa using h1
 by_cases h2:en<up D.h+ (8+up (1+s.size))
 ·rw[if_pos h2,if_neg (by decide),if_neg (by decide),if_neg (by decide)]
  exact xA hb h8 s h1' h2
 rw[if_neg h2]
 by_cases h3:D.shut S=true
 ·rw[if_pos h3,if_neg (by decide),if_neg (by decide),if_neg (by decide)]
  exact xq hb h8 s h1' h2 h3
 ·rw[if_neg h3,if_pos rfl,if_pos rfl,if_pos rfl,R9]
  exact Ej hb h8 s h1' h2 (by simpa using h3)
end
def Dc.bO(S:Img)(D:Dc)(t:UInt8->UInt8):Img:=if D.l=0∨D.shut S=true then S else S.put (D.l+8) [t (S.b.getD (D.l+8) 0)]
def Dd(f:FuncId)(t:UInt8->UInt8):Prop:= ∀(c:UInt8) (w:World),Calls prog f #[.int .u8 (c.toNat:Int)] w (ax (.int .u8 ((t c).toNat:Int)) w)
section
variable {w w1:World}{F:Nat->Prop}{g gI fr en:Nat}{D:Dc}{S:Img}
theorem ns(h:On F w (aa [Rk gI g fr en D,av gI S]) w1):w1.cell? (g,0)=some (gI:Vl)∧w1.cell? (g,1)=some ((fr:Int):Vl)∧w1.cell? (g,2)=some ((en:Int):Vl)∧
 w1.cell? (g,3)=some ((D.h:Int):Vl)∧w1.cell? (g,4)=some ((D.l:Int):Vl):=by
 have hs:Blk w1 g 123 (cm gI fr en (D.h:Int) (D.l:Int)):=h.ab 0 rfl
 exact⟨hs.cell 0,hs.cell 1,hs.cell 2,hs.cell 3,hs.cell 4⟩
theorem Ay(hb: (aa [Rk gI g fr en D,av gI S]).holds w F)(f:FuncId)(h0:D.l=0):
 Calls prog 129 #[g,.func (.func f) #[] #[]] w (Got (.returned (.tuple #[])) (aa [Rk gI g fr en D,av gI S]) F w):=by
 have so:=On.refl hb
 obtain⟨c0,c1,c2,c3,c4⟩:=ns so
 rw[h0]at c4
 replace so:=hid so
 clear hb h0
 go_enter func129,ntmps129
 go_wp2
 go_end0
 exact⟨rfl,so.out⟩
theorem zT(hb: (aa [Rk gI g fr en D,av gI S]).holds w F)(h8:At8 S D fr en)(f:FuncId)(t:UInt8->UInt8)(ht:Dd f t)(eg: ∀args w,(callFunc f args).run prog w = .ok (.enter f args) w)(h0:D.l≠0):
 Calls prog 129 #[g,.func (.func f) #[] #[]] w (Got (.returned (.tuple #[])) (aa [Rk gI g fr en D,av gI (D.bO S t)]) F w):=by
 have so:=On.refl hb
 have hl:D.l % 8=0∧fr<=D.l∧D.l+16<=en:=by
  rcases h8.ok.l with h|h
  ·exact absurd h h0
  ·rw[h8.fr,h8.lim]at h;exact h
 have hle:=h8.le
 have Ul:=h8.ok.Na (D.l+8) (by rw[h8.fr];omega) (by rw[h8.lim];omega)
 have Rr:=h8.ok.Nh (D.l+8) (by rw[h8.fr];omega) (by rw[h8.lim];omega)
 rw[show((D.l+8:Nat):Int)= (D.l:Int) +8 by omega]at Ul Rr
 have Sv:=λw1 (h:On F w (aa [Rk gI g fr en D,av gI S]) w1)=>(by
  obtain⟨gb,hi⟩:=h.img 1 rfl
  have:=Cf hi 0 ((D.l:Int) +8)
  rw[Ul.1,Ul.2]at this
  exact this:Calls prog 134 #[gI,(0:Int),((D.l:Int) +8:Int)] w1 (ax (.tuple #[.int .u8 (((S.b.getD (D.l+8) 0).toNat:Nat):Int),(0:Int)]) w1))
 have htc:=λw=>ht (S.b.getD (D.l+8) 0) w
 have ON:=λw1 (h:On F w (aa [Rk gI g fr en D,av gI S]) w1)=>h.bG 1 rfl (λF' ha=>jQ ha 0 ((D.l:Int) +8) (t (S.b.getD (D.l+8) 0)))
 have e2:S.aS 0 ((D.l:Int) +8) (t (S.b.getD (D.l+8) 0))=D.bO S t:=by
  unfold Img.aS Dc.bO
  rw[show(D.l:Int) +8= ((D.l+8:Nat):Int)by omega,h8.ok.aO (D.l+8) 1 (by rw[h8.fr];omega) (by rw[h8.lim];omega) oM true]
  have e3: ((D.l+8:Nat):Int).toNat=D.l+8:=by omega
  cases D.shut S<;>simp[h0]
  rw[<-e3]
  congr 1
 rw[e2]at ON
 have Sb:=λw1 (h:On F w (aa [Rk gI g fr en D,av gI S]) w1)=>ns h
 generalize S.bV 0 ((D.l:Int) +8) true=bf at *
 generalize t (S.b.getD (D.l+8) 0)=tc at *
 generalize S.b.getD (D.l+8) 0=bc at *
 generalize D.bO S t=S' at *
 have haP:=λw1 (h:On F w (aa [Rk gI g fr en D,av gI S]) w1)=>(ON w1 h:Calls prog 149 #[gI,(0:Int),((D.l:Int) +8:Int),.int .u8 (tc.toNat:Int)] w1 (Got (.returned bf) (aa [Rk gI g fr en D,av gI S']) F w))
 clear ON
 obtain⟨c0,c1,c2,c3,c4⟩:=ns so
 have hz: ((D.l:Int) ==0)=false:=by simpa using h0
 obtain⟨ZM,Ug,hl3⟩:=hl
 replace⟨so,Sv,htc,haP,Sb,ht⟩:=iF so Sv htc haP Sb ht
 replace eg:=eg
 clear hb h8 Ul Rr e2 h0 ZM
 go_enter func129,ntmps129
 go_wp2_with fail
 have hwr:IntKind.i64.wrap ((D.l:Int) +8)= (D.l:Int) +8:=IntWalk.i64_in _ oM
 have hfy:=hid (Sv.out _ so.out.drew)
 go_region_held (λw'=>w'.cell? (g,0)=some (gI:Vl)∧w'.cell? (g,4)=some ((D.l:Int):Vl)) (go_keep)
  ((go_at_call 134;refine hfy.out.mono ?_;rintro e w1 ⟨rfl,rfl⟩))
 go_wp2_with fail
 go_quiet (fail)
 have BY:=so.out.drew.drewN nq
 obtain⟨w4,Zq⟩: ∃w4,w.drew.drewN nq=w4:=⟨_,rfl⟩
 rw[Zq]at BY⊢
 clear c0 c1 c2 c3 c4 Zq so hfy
 obtain⟨c0,c1,c2,c3,c4⟩:=Sb.out _ BY
 have hsd:=hid (haP.out _ BY.drew)
 have htd:=hid (htc.out w4.drew)
 replace BY:=hid BY
 go_wp2_with fail
 go_region_held (λw'=>w'.cell? (g,0)=some (gI:Vl)∧w'.cell? (g,4)=some ((D.l:Int):Vl)) (go_keep)
  ((first
    | (go_at_call 149;refine mo hsd.out λw5 h5=>?_;obtain⟨m0,m1,m2,m3,m4⟩:=ns h5;replace h5:=hid h5)
    | ((with_reducible refine htd.out.mono ?_);rintro e w5 ⟨rfl,rfl⟩)))
 go_wp2
 go_end0
 exact⟨rfl,h5.out⟩
theorem CK(hb: (aa [Rk gI g fr en D,av gI S]).holds w F)(h8:At8 S D fr en)(f:FuncId)(t:UInt8->UInt8)(ht:Dd f t)(eg: ∀args w,(callFunc f args).run prog w = .ok (.enter f args) w):
 Calls prog 129 #[g,.func (.func f) #[] #[]] w (Got (.returned (.tuple #[])) (aa [Rk gI g fr en D,av gI (D.bO S t)]) F w):=by
 by_cases h0:D.l=0
 ·have e:D.bO S t=S:=by unfold Dc.bO;rw[if_pos (.inl h0)]
  rw[e]
  exact Ay hb f h0
 ·exact zT hb h8 f t ht eg h0
def eH(b:UInt8):UInt8:=b &&& 223
def lp(b:UInt8):UInt8:=b ||| 64
theorem BC:Dd 130 eH:=by
 intro c w
 have e:bits .andNot .u8 (c.toNat:Int) 32= (((eH c).toNat:Nat):Int):=by
  have h:=u8_andNot_nat c.toNat 32 c.toNat_lt oM
  rw[show((32:Nat):Int)=32 from rfl]at h
  rw[h]
  unfold eH
  rw[UInt8.toNat_and]
  rfl
 replace e:=hid e
 go_enter func130,ntmps130
 go_wp2
 go_ret
 exact⟨by rw[<-e.out];rfl,rfl⟩
theorem DR:Dd 131 lp:=by
 intro c w
 have e:bits .or .u8 (c.toNat:Int) 64= (((lp c).toNat:Nat):Int):=by
  have h:=u8_or_nat c.toNat 64 c.toNat_lt oM
  rw[show((64:Nat):Int)=64 from rfl]at h
  rw[h]
  unfold lp
  rw[UInt8.toNat_or]
  rfl
 replace e:=hid e
 go_enter func131,ntmps131
 go_wp2
 go_ret
 exact⟨by rw[<-e.out];rfl,rfl⟩
theorem N4(hb: (aa [Rk gI g fr en D,av gI S]).holds w F)(h8:At8 S D fr en):
 Calls prog 80 #[g] w (Got (.returned (.tuple #[])) (aa [Rk gI g fr en D,av gI (D.bO S eH)]) F w):=by
 have h:=CK hb h8 130 eH BC (λ_ _=>by kernel_rfl)
 replace h:=hid h
 clear hb h8
 go_enter func80,ntmps80
 go_wp2_with fail
 refine mo h.out λw1 h1=>?_
 replace h1:=hid h1
 go_wp2
 go_end0
 exact⟨rfl,h1.out⟩
theorem zI(hb: (aa [Rk gI g fr en D,av gI S]).holds w F)(h8:At8 S D fr en):
 Calls prog 82 #[g] w (Got (.returned (.tuple #[])) (aa [Rk gI g fr en D,av gI (D.bO S lp)]) F w):=by
 have h:=CK hb h8 131 lp DR (λ_ _=>by kernel_rfl)
 replace h:=hid h
 clear hb h8
 go_enter func82,ntmps82
 go_wp2_with fail
 refine mo h.out λw1 h1=>?_
 replace h1:=hid h1
 go_wp2
 go_end0
 exact⟨rfl,h1.out⟩
