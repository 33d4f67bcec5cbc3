/- Chapter 5: the document's Base, Unsigned, Print. Conditions: a base from 2 to 36 where digits are asked for. -/
import Derived.Test.YteaijdgnagkllaaGreatDoorZd04
open Go.Proofs.Tryz
namespace Go.Proofs.YteaijdgnagkllaaGreatDoor
set_option linter.unusedVariables false
set_option linter.unusedSimpArgs false
set_option maxHeartbeats 8000000
open Go.RowKit Go.Lib
def DigRel(b u0:Nat)(R:List UInt8)(k:Nat)(l:List UInt8):Prop:=(l = []∧k=u0)∨(l≠[]∧((k=0∧l=R)∨(0<k∧digitsU b k++l=R)))
theorem DigRel.next{b u0:Nat}(hb:2<=b){R:List UInt8}{k:Nat}{l:List UInt8}(h:digitsU b k++l=R):DigRel b u0 R (k/b) (digC (k % b)::l):=by
 obtain⟨h1,h2⟩:=digits_step hb l R h
 refine .inr ⟨by simp,?_⟩
 rcases Nat.eq_zero_or_pos (k/b)with h0|h0
 ·exact .inl ⟨h0,h1 h0⟩
 ·exact .inr ⟨h0,h2 h0⟩
def digR(r:Int):Int:=if 48<=r∧r<=57 then r-48 else if 97<=r∧r<=122 then r-87 else if 65<=r∧r<=90 then r-55 else 36
theorem digR_byte(c:UInt8):digR c.toNat=digV c:=by
 unfold digR digV
 repeat' split
 all_goals omega
theorem digR_big(r:Int)(h:128<=r):digR r=36:=by
 unfold digR
 rw[if_neg oM,if_neg oM,if_neg oM]
theorem digV_big(c:UInt8)(h:128<=c.toNat):digV c=36:=by
 unfold digV
 rw[if_neg oM,if_neg oM,if_neg oM]
theorem digit_walk(r:Int)(h0:0<=r)(h1:r<=2147483647)(w:World):Calls prog 182 #[.int .i32 r] w (Same (.int .u64 (digR r)) w):=by
 have hd: (48<=r∧r<=57)∨(97<=r∧r<=122)∨(65<=r∧r<=90)∨(r<48∨(57<r∧r<65)∨(90<r∧r<97)∨122<r):=by omega
 rcases hd with h|h|h|h|h|h|h
 all_goals
  have e:digR r= (if 48<=r∧r<=57 then r-48 else if 97<=r∧r<=122 then r-87 else if 65<=r∧r<=90 then r-55 else 36):=rfl
 ·rw[if_pos h]at e
  obtain⟨q1,q2⟩:=h
  rw[e];clear e
  go_enter func182,ntmps182
  go_wp2
  all_goals go_ret
  all_goals exact⟨rfl,rfl⟩
 ·rw[if_neg oM,if_pos h]at e
  obtain⟨q1,q2⟩:=h
  rw[e];clear e
  have t1:decide (r<=57)=false:=by simp;omega
  have hs:r-32-65+10=r-87:=by omega
  go_enter func182,ntmps182
  go_wp2
  all_goals go_ret
  all_goals first|exact⟨rfl,rfl⟩ |exact⟨by rw[<-hs];rfl,rfl⟩
 ·rw[if_neg oM,if_neg oM,if_pos h]at e
  obtain⟨q1,q2⟩:=h
  rw[e];clear e
  have t1:decide (r<=57)=false:=by simp;omega
  have t2:decide (97<=r)=false:=by simp;omega
  have hs:r-65+10=r-55:=by omega
  go_enter func182,ntmps182
  go_wp2
  all_goals go_ret
  all_goals first|exact⟨rfl,rfl⟩ |exact⟨by rw[<-hs];rfl,rfl⟩
 all_goals
  rw[if_neg oM,if_neg oM,if_neg oM]at e
  rw[e];clear e
  first|obtain⟨q1,q2⟩:=h|skip
  go_enter func182,ntmps182
  go_wp2
  all_goals first| (go_ret;exact⟨rfl,rfl⟩) | (exfalso;simp at *;omega)
theorem sizeN_none{b:Nat}{n:Nat}{c:UInt8}{l:List UInt8}(h:b<=digV c∨(18446744073709551615-digV c) /b<n):sizeN b n (c::l)=none:=by rw[sizeN,if_pos h]
theorem sizeN_next{b:Nat}{n:Nat}{c:UInt8}{l:List UInt8}(h: ¬b<=digV c)(h2: ¬(18446744073709551615-digV c) /b<n):sizeN b n (c::l)=sizeN b (n*b+digV c) l:=by rw[sizeN,if_neg oM]
def topQ(b d:Nat):Nat:=(18446744073709551615-d) /b
theorem topQ_int(b d:Nat)(hd:d<=36): ((18446744073709551615:Int) - (d:Int)) / (b:Int)= ((topQ b d:Nat):Int):=by
 unfold topQ
 have: ((18446744073709551615:Int) - (d:Int))= (((18446744073709551615-d:Nat)):Int):=by omega
 rw[this]
 simp
theorem topQ_ok{b d n:Nat}(hb:2<=b)(h: ¬topQ b d<n)(hd:d<=36):n*b+d<=18446744073709551615:=by
 unfold topQ at h
 rw[Nat.div_lt_iff_lt_mul oM]at h
 omega
def SizeRel(b:Nat)(l:List UInt8)(j n:Nat):Prop:=sizeN b 0 l=sizeN b n (l.drop j)
theorem sizeB_of_none{b:Nat}{l:List UInt8}(h:sizeN b 0 l=none):sizeB b l= (0,false):=by unfold sizeB;rw[h]
theorem sizeB_of_some{b:Nat}{l:List UInt8}{n:Nat}(h:sizeN b 0 l=some n):sizeB b l= (n,!l.isEmpty):=by unfold sizeB;rw[h]
theorem drop_cons(l:List UInt8)(j:Nat)(h:j<l.length):l.drop j=l.getD j 0::l.drop (j+1):=by
 rw[List.drop_eq_getElem_cons h]
 simp[List.getD,h]
theorem s_iter_kept(w:World)(s:ByteArray)(pos:Nat):Kept Nob w (w.iter s pos):=(Kept.refl _ _).alloc _
def Fresh'(v:Value)(w:World)(e:Ending)(w':World):Prop:=e = .returned v∧Kept Nob w w'
set_option maxRecDepth 100000 in
theorem size_walk(s:ByteArray)(hs:s.size<=9223372036854775807)(b:Nat)(h2:2<=b)(h36:b<=36)(w:World):
 Calls prog 147 #[.string s,.int .u64 (b:Int)] w (Fresh' (.tuple #[.int .u64 ((sizeB b s.data.toList).1:Nat),.bool (sizeB b s.data.toList).2]) w):=by
 have hl:s.data.toList.length=s.size:=by rw[Array.length_toList];rfl
 replace hl:=hid hl
 go_enter func147,ntmps147
 go_wp2
 go_loopw [6] (λu wr=> ∃j n:Nat,wr=w.iter s j∧u = .int .u64 n∧n<=18446744073709551615∧SizeRel b s.data.toList j n) (λ_ wr=>s.size-wr.iterPos w.heap.size)
 case atStart=>exact⟨0,0,rfl,rfl,by omega,rfl⟩
 case round=>
  obtain⟨j,n,rfl,rfl,hn,hR⟩:=hrel
  by_cases hlt:j<s.size
  ·have hnx: ∀ty,(Instr.next (.pointer w.heap.size) true ty).run prog (w.iter s j)=_:=λty=>run_next_any w s j ty hlt
   unfold SizeRel at hR
   rw[drop_cons _ _ (by rw[hl.out];exact hlt)]at hR
   have hcj:s.data.toList.getD j 0=s[j]'hlt:=by
    have h3:j<s.data.size:=hlt
    rw[List.getD_eq_getElem?_getD,Array.getElem?_toList,Array.getElem?_eq_getElem h3]
    rfl
   have hrune: ((s[j]'hlt).toNat<128∧Utf8.decode s j= ((s[j]'hlt).toNat,1))∨(128<=(s[j]'hlt).toNat∧128<=(Utf8.decode s j).1):=by
    by_cases hh: (s[j]'hlt).toNat<128
    ·exact .inl ⟨hh,decode_ascii s j hlt hh⟩
    ·exact .inr ⟨by omega,(decode_high s j hlt oM).1⟩
   have hmax:=decode_le s j
   rw[hcj]at hR
   generalize s[j]'hlt=c at *
   generalize Utf8.decode s j=rk at *
   obtain⟨r,k⟩:=rk
   clear hcj
   have hdw:=λw=>digit_walk (r:Int) oM (by simp only at hmax;omega) w
   have e1:=λh=>sizeN_none (b:=b) (n:=n) (c:=c) (l:=s.data.toList.drop (j+1)) h
   simp only at hrune hmax hnx
   rcases hrune with⟨hlo,hrk⟩ | ⟨hhi,hr⟩
   ·injection hrk with hr hk
    subst hr
    subst hk
    rw[digR_byte]at hdw
    have hdl:=digV_le c
    have hq:=topQ_int b (digV c) hdl
    have e2:=λh h2=>sizeN_next (b:=b) (n:=n) (c:=c) (l:=s.data.toList.drop (j+1)) h h2
    have hok:=λh=>topQ_ok (b:=b) (d:=digV c) (n:=n) h2 h hdl
    have hqd: (18446744073709551615-digV c) /b=topQ b (digV c):=rfl
    rw[hqd]at e1 e2
    generalize topQ b (digV c)=q at *
    generalize digV c=d at *
    replace hdw:=hid hdw
    replace hok:=hid hok
    clear hqd hmax
    replace hR:=hid hR
    by_cases hd:b<=d
    ·have hdb:decide ((b:Int)<=(d:Int))=true:=by simp;omega
     have hdb':decide (b<=d)=true:=by simp;omega
     have hfin:=hid (sizeB_of_none (hR.out.trans (e1 (.inl hd))))
     clear e1 e2 hq
     go_wp2_with (go_at_call 182;refine(hdw.out _).mono ?_;rintro e w3 ⟨rfl,rfl⟩)
     go_ret2
     exact⟨by rw[hfin.out];rfl,s_iter_kept _ _ _⟩
    ·have hdb:decide ((b:Int)<=(d:Int))=false:=by simp;omega
     have hdb':decide (b<=d)=false:=by simp;omega
     by_cases ht:q<n
     ·have hfin:=hid (sizeB_of_none (hR.out.trans (e1 (.inr ht))))
      have htb:decide ((q:Int) < (n:Int))=true:=by simp;omega
      have htb':decide (q<n)=true:=by simp;omega
      clear e1 e2
      go_wp2_with (go_at_call 182;refine(hdw.out _).mono ?_;rintro e w3 ⟨rfl,rfl⟩)
      go_ret2
      exact⟨by rw[hfin.out];rfl,s_iter_kept _ _ _⟩
     ·have hnx2:SizeRel b s.data.toList (j+1) (n*b+d):=hR.out.trans (e2 hd ht)
      have hb:=hok.out ht
      have htb:decide ((q:Int) < (n:Int))=false:=by simp;omega
      have htb':decide (q<n)=false:=by simp;omega
      clear e1 e2
      replace hnx2:=hid hnx2
      go_wp2_with (go_at_call 182;refine(hdw.out _).mono ?_;rintro e w3 ⟨rfl,rfl⟩)
      go_roundw
      case rel=>exact⟨j+1,n*b+d,rfl,by go_num,hb,hnx2.out⟩
      case measure=>simp;omega
   ·rw[digR_big _ oM]at hdw
    have hv:=digV_big c hhi
    have hfin:=hid (sizeB_of_none (hR.trans (e1 (.inl oM))))
    have hdb:decide ((b:Int)<=36)=true:=by simp;omega
    replace hdw:=hid hdw
    clear e1 hv hR
    go_wp2_with (go_at_call 182;refine(hdw.out _).mono ?_;rintro e w3 ⟨rfl,rfl⟩)
    go_ret2
    exact⟨by rw[hfin.out];rfl,s_iter_kept _ _ _⟩
  ·have hnx: ∀ty,(Instr.next (.pointer w.heap.size) true ty).run prog (w.iter s j)=_:=λty=>run_next_end w s j ty hlt
   have hall:s.data.toList.drop j = []:=List.drop_of_length_le (by rw[hl.out];omega)
   unfold SizeRel at hR
   rw[hall]at hR
   have hfin:=sizeB_of_some hR
   have hem: (!s.data.toList.isEmpty)= !s.toList.isEmpty:=by rw[show s.toList=s.data.toList from ByteArray.toList_eq s]
   rw[hem]at hfin
   replace hfin:=hid hfin
   clear hem hall hR
   go_wp2
   all_goals go_ret2
   all_goals exact⟨by rw[hfin.out];rfl,s_iter_kept _ _ _⟩
end Go.Proofs.YteaijdgnagkllaaGreatDoor
