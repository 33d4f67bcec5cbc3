/- Chapter 5: reading a number, on both sides. Conditions: as written. -/
import Derived.Test.YteaijdgnagkllaaGreatDoorZd08
import Derived.Test.YteaijdgnagkllaaGreatDoorZShelf
open Go.Proofs.Tryz
namespace Go.Proofs.YteaijdgnagkllaaGreatDoor
set_option linter.unusedVariables false
set_option linter.unusedSimpArgs false
set_option maxHeartbeats 8000000
open Go.RowKit Go.Lib
theorem base_walk(n:Int)(w:World):Calls prog 43 #[n] w (Same (.bool (decide (2<=n) &&decide (n<=36))) w):=by
 rcases Int.lt_or_le n 2 with h|h
 ·have e: (decide (2<=n) &&decide (n<=36))=false:=by simp;omega
  rw[e]
  go_enter func43,ntmps43
  go_wp2
  all_goals go_ret
  all_goals exact⟨rfl,rfl⟩
 ·rcases Int.lt_or_le 36 n with h2|h2
  ·have e: (decide (2<=n) &&decide (n<=36))=false:=by simp;omega
   have e2:decide (n<=36)=false:=by simp;omega
   rw[e]
   go_enter func43,ntmps43
   go_wp2
   all_goals go_ret
   all_goals exact⟨rfl,rfl⟩
  ·have e: (decide (2<=n) &&decide (n<=36))=true:=by simp;omega
   rw[e]
   go_enter func43,ntmps43
   go_wp2
   all_goals go_ret
   all_goals exact⟨rfl,rfl⟩
theorem bytes_ext{a b:ByteArray}(h:a.data.toList=b.data.toList):a=b:=by
 cases a;cases b;simpa [Array.toList_inj]using h
theorem isEmpty_sizeN(s:ByteArray):s.toList.isEmpty=decide (s.size=0):=by
 have h:s.toList=s.data.toList:=ByteArray.toList_eq s
 have h2:s.data.toList.length=s.size:=by rw[Array.length_toList];rfl
 rw[h,<-h2]
 cases s.data.toList<;>simp
theorem size_data(s:ByteArray):s.data.toList.length=s.size:=by rw[Array.length_toList];rfl
theorem quoted_cases(s:ByteArray): (quotedB s.data.toList=false∧((s.size:Int) ==3)=false)∨
 (s.size=3∧quotedB s.data.toList=false∧(((s.data.toList.getD 0 0).toNat:Int) ==39)=false)∨
 (s.size=3∧quotedB s.data.toList= (((s.data.toList.getD 2 0).toNat:Int) ==39)∧(((s.data.toList.getD 0 0).toNat:Int) ==39)=true):=by
 have h39: ∀c:UInt8,(c==39)= ((c.toNat:Int) ==39):=by
  intro c
  rw[Bool.eq_iff_iff]
  simp only[beq_iff_eq]
  constructor
  ·rintro rfl;rfl
  ·intro h;apply UInt8.toNat_inj.1;have: (39:UInt8).toNat=39:=rfl;omega
 unfold quotedB
 rw[size_data,h39,h39]
 generalize s.data.toList.getD 0 0=c0
 generalize s.data.toList.getD 2 0=c2
 by_cases h3:s.size=3
 ·have e3: (s.size==3)=true:=by simpa using h3
  rw[e3]
  cases h0: ((c0.toNat:Int) ==39)
  ·exact .inr (.inl ⟨h3,rfl,rfl⟩)
  ·exact .inr (.inr ⟨h3,rfl,rfl⟩)
 ·have e3: (s.size==3)=false:=by simpa using h3
  rw[e3]
  exact .inl ⟨rfl,by rw[beq_eq_false_iff_ne];omega⟩
theorem mark_idx(c:UInt8):Lib.indexByte [36,37,35] ((c.toNat:Int).toNat.toUInt8)=if c=36 then 0 else if c=37 then 1 else if c=35 then 2 else -1:=by
 have e: ((c.toNat:Int).toNat.toUInt8)=c:=by simp
 rw[e]
 by_cases h1:c=36
 ·subst h1;decide
 ·by_cases h2:c=37
  ·subst h2;decide
  ·by_cases h3:c=35
   ·subst h3;decide
   ·have n1: ((36:UInt8) ==c)=false:=by rw[beq_eq_false_iff_ne];exact λh=>h1 h.symm
    have n2: ((37:UInt8) ==c)=false:=by rw[beq_eq_false_iff_ne];exact λh=>h2 h.symm
    have n3: ((35:UInt8) ==c)=false:=by rw[beq_eq_false_iff_ne];exact λh=>h3 h.symm
    simp[Lib.indexByte,n1,n2,n3,h1,h2,h3]
theorem arr_idx0(w:World): (Instr.index 240 (.agg #[(16:Int),(2:Int),(10:Int)]) (.int .i64 0)).run prog w = .ok (.int .i64 16) w:=by kernel_rfl
theorem arr_idx1(w:World): (Instr.index 240 (.agg #[(16:Int),(2:Int),(10:Int)]) (.int .i64 1)).run prog w = .ok (.int .i64 2) w:=by kernel_rfl
theorem arr_idx2(w:World): (Instr.index 240 (.agg #[(16:Int),(2:Int),(10:Int)]) (.int .i64 2)).run prog w = .ok (.int .i64 10) w:=by kernel_rfl
theorem idx_lit0(s:ByteArray)(h:0<s.size)(w:World): (Instr.index 9 (.string s) (.int .i64 0)).run prog w = .ok (.int .u8 ((s.data.toList.getD 0 0).toNat:Int)) w:=idx_str s 0 h w
theorem idx_lit1(s:ByteArray)(h:1<s.size)(w:World): (Instr.index 9 (.string s) (.int .i64 1)).run prog w = .ok (.int .u8 ((s.data.toList.getD 1 0).toNat:Int)) w:=idx_str s 1 h w
theorem idx_lit2(s:ByteArray)(h:2<s.size)(w:World): (Instr.index 9 (.string s) (.int .i64 2)).run prog w = .ok (.int .u8 ((s.data.toList.getD 2 0).toNat:Int)) w:=idx_str s 2 h w
theorem bodyN_pos{b:Nat}{l:List UInt8}(h:l.head? ≠some 45):bodyN b l= (wrap64 ((sizeB b l).1:Int),(sizeB b l).2):=by unfold bodyN;rw[if_neg h]
theorem bodyN_no{b:Nat}{l:List UInt8}(h: (sizeB b l).2=false∨9223372036854775808< (sizeB b l).1):bodyN b (45::l)= (0,false):=by unfold bodyN;rw[if_pos (by rfl)];exact if_pos h
theorem bodyN_yes{b:Nat}{l:List UInt8}(h: (sizeB b l).2=true)(h2: (sizeB b l).1<=9223372036854775808):bodyN b (45::l)= (wrap64 (-((sizeB b l).1:Int)),true):=by
 unfold bodyN
 rw[if_pos (by rfl)]
 refine if_neg ?_
 intro e
 rcases e with e|e
 ·have e': (sizeB b l).2=false:=e
  rw[h]at e';cases e'
 ·have e':9223372036854775808< (sizeB b l).1:=e
  omega
theorem parse_bad{l:List UInt8}{b:Int}(h:b<2∨36<b):parseN l b= (0,false):=by unfold parseN;rw[if_pos h]
theorem parse_quoted{l:List UInt8}{b:Int}(h: ¬(b<2∨36<b))(hq:quotedB l=true):parseN l b= (((l.getD 1 0).toNat:Int),true):=by unfold parseN;rw[if_neg h,if_pos hq]
theorem parse_rest{l:List UInt8}{b:Int}(h: ¬(b<2∨36<b))(hq:quotedB l=false):parseN l b= (if l.head? = some 36 then bodyN 16 l.tail else if l.head? = some 37 then bodyN 2 l.tail else if l.head? = some 35 then bodyN 10 l.tail else bodyN b.toNat l):=by unfold parseN;rw[if_neg h,if_neg (by simp[hq])]
theorem sizeB_false{b:Nat}{l:List UInt8}(h: (sizeB b l).2=false): (sizeB b l).1=0:=by
 unfold sizeB at h⊢
 cases hs:sizeN b 0 l with
 | none=>rfl
 | some n=>
   rw[hs]at h
   simp only[Bool.not_eq_false',List.isEmpty_iff]at h⊢
   subst h
   simpa [sizeN]using hs.symm
set_option maxRecDepth 100000 in
theorem parse_walk(s:ByteArray)(hs:s.size<=9223372036854775807)(b:Int)(w:World):
 Calls prog 99 #[.string s,b] w (Fresh' (.tuple #[.int .i64 (parseN s.data.toList b).1,.bool (parseN s.data.toList b).2]) w):=by
 have hbw:=base_walk b w
 by_cases hb:b<2∨36<b
 ·rw[parse_bad hb]
  have e: (decide (2<=b) &&decide (b<=36))=false:=by simp;omega
  rw[e]at hbw
  replace hbw:=hid hbw
  go_enter func99,ntmps99
  go_wp2_with (go_at_call 43;refine hbw.out.mono ?_;rintro e w3 ⟨rfl,rfl⟩)
  go_ret2
  exact⟨rfl,Kept.refl _ _⟩
 ·have e: (decide (2<=b) &&decide (b<=36))=true:=by simp;omega
  rw[e]at hbw
  replace hbw:=hid hbw
  replace e:=hid e
  have hqc:=quoted_cases s
  have hl:=size_data s
  have hq1:quotedB s.data.toList=true->parseN s.data.toList b= (((s.data.toList.getD 1 0).toNat:Int),true):=λh=>parse_quoted hb h
  have hq1s:quotedB s.data.toList=true->s.size=3:=by
   intro h
   rcases quoted_cases s with⟨h1,_⟩ | ⟨h1,_⟩ | ⟨h1,_⟩
   ·rw[h]at h1;cases h1
   ·exact h1
   ·exact h1
  have hq2:quotedB s.data.toList=false->_:=λh=>parse_rest hb h
  obtain⟨⟨R1,R2⟩,hR⟩: ∃x,parseN s.data.toList b=x:=⟨_,rfl⟩
  rw[hR]at hq1 hq2⊢
  replace hR:=hid hR
  replace hl:=hid hl
  generalize hq:quotedB s.data.toList=q at *
  replace hq:=hid hq
  replace hq1:=hid hq1
  replace hq1s:=hid hq1s
  replace hq2:=hid hq2
  replace hqc:=hid hqc
  obtain⟨hb2,hb36⟩:2<=b∧b<=36:=by omega
  clear hb e
  go_enter func99,ntmps99
  go_upto_region 3 with(go_at_call 43;refine hbw.out.mono ?_;rintro e w3 ⟨rfl,rfl⟩)
  go_cut [25] (λx wx=>x = .bool q∧w3=wx)
  case first=>
   rcases hqc.out with⟨hqf,h3⟩ | ⟨h3,hqf,h0⟩ | ⟨h3,hqe,h0⟩
   ·subst hqf
    go_wp2
    go_meet
    exact⟨rfl,rfl⟩
   ·subst hqf
    have i0:=λw=>idx_lit0 s oM w
    have h3b: ((s.size:Int) ==3)=true:=by rw[h3];rfl
    generalize s.data.toList.getD 0 0=c0 at *
    clear h3
    go_wp2
    go_meet
    exact⟨rfl,rfl⟩
   ·have i0:=λw=>idx_lit0 s oM w
    have i2:=λw=>idx_lit2 s oM w
    have h3b: ((s.size:Int) ==3)=true:=by rw[h3];rfl
    generalize s.data.toList.getD 0 0=c0 at *
    generalize s.data.toList.getD 2 0=c2 at *
    replace hqe:=hid hqe
    clear h3
    go_wp2
    go_meet
    exact⟨by rw[hqe.out],rfl⟩
  case rest=>
   obtain⟨rfl,rfl⟩:=hcut
   cases q
   ·have hbody:=hid (hq2.out rfl)
    clear hq2 hq1 hq1s hqc hq
    go_upto_if 30 with fail
    go_cut [0,1] (λx y wx=> ∃(l':List UInt8) (b':Nat),x = .string ⟨l'.toArray⟩ ∧y = .int .i64 b'∧(R1,R2)=bodyN b' l'∧2<=b'∧b'<=36∧l'.length<=s.size∧Kept Nob w3 wx)
    case first=>
     have hemp:=isEmpty_sizeN s
     by_cases h0:s.size=0
     ·have e1:s.toList.isEmpty=true:=by rw[hemp];simpa using h0
      have e2: (!s.toList.isEmpty)=false:=by rw[e1];rfl
      have hnil:s.data.toList = []:=List.eq_nil_of_length_eq_zero (by rw[hl.out];exact h0)
      have hfin: (R1,R2)=bodyN b.toNat s.data.toList:=by rw[hbody.out,hnil];rfl
      clear hemp hnil h0
      replace hfin:=hid hfin
      rw[e2]
      go_wp2
      go_meet
      exact⟨s.data.toList,b.toNat,rfl,by rw[Int.toNat_of_nonneg oM],hfin.out,by omega,by omega,by rw[hl.out];exact Nat.le_refl _,Kept.refl _ _⟩
     ·have e1:s.toList.isEmpty=false:=by rw[hemp];simpa using h0
      have e2: (!s.toList.isEmpty)=true:=by rw[e1];rfl
      have i0:=λw=>idx_lit0 s oM w
      obtain⟨c0,r0,hcons⟩: ∃c0 r0,s.data.toList=c0::r0:=by
       cases h:s.data.toList with
       | nil=>have:=hl.out;rw[h]at this;simp at this;omega
       | cons c r=>exact⟨c,r,rfl⟩
      have hc0:s.data.toList.getD 0 0=c0:=by rw[hcons];rfl
      have hbd:=hbody.out
      have hll:=hl.out
      rw[hcons]at hbd hll
      simp only[List.head?_cons,List.tail_cons,Option.some.injEq]at hbd
      rw[hc0]at i0
      have hib:=λw=>Tryz.strings_IndexByte ⟨#[36,37,35]⟩ (c0.toNat:Int) w
      replace hib:=hid hib
      have hcut1:s.extract 1 s.size= ⟨r0.toArray⟩:=by
       apply bytes_ext
       rw[Lib.extract_to_end s 1,hcons]
       rfl
      rw[show({ data:=#[36,37,35] }:ByteArray).data.toList = [36,37,35]from rfl,mark_idx]at hib
      have hcase: ((c0=36∧(0:Int)= (if c0=36 then 0 else if c0=37 then 1 else if c0=35 then 2 else -1)∧(R1,R2)=bodyN 16 r0)∨(c0=37∧(1:Int)= (if c0=36 then 0 else if c0=37 then 1 else if c0=35 then 2 else -1)∧(R1,R2)=bodyN 2 r0)∨(c0=35∧(2:Int)= (if c0=36 then 0 else if c0=37 then 1 else if c0=35 then 2 else -1)∧(R1,R2)=bodyN 10 r0))∨
       ((-1:Int)= (if c0=36 then 0 else if c0=37 then 1 else if c0=35 then 2 else -1)∧(R1,R2)=bodyN b.toNat (c0::r0)):=by
       by_cases h1:c0=36
       ·rw[if_pos h1]at hbd⊢;exact .inl (.inl ⟨h1,rfl,hbd⟩)
       ·rw[if_neg h1]at hbd⊢
        by_cases h2:c0=37
        ·rw[if_pos h2]at hbd⊢;exact .inl (.inr (.inl ⟨h2,rfl,hbd⟩))
        ·rw[if_neg h2]at hbd⊢
         by_cases h3:c0=35
         ·rw[if_pos h3]at hbd⊢;exact .inl (.inr (.inr ⟨h3,rfl,hbd⟩))
         ·rw[if_neg h3]at hbd⊢;exact .inr ⟨rfl,hbd⟩
      have hsz: (0:Int) < (s.size:Int):=by omega
      have hcc:=c0.toNat_lt
      generalize (if c0=36 then(0:Int)else if c0=37 then 1 else if c0=35 then 2 else -1)=K at *
      replace hib:=hid hib
      replace hcons:=hid hcons
      replace hll:=hid hll
      rw[e2]
      clear e1 e2 hemp h0 hc0 hbd hbody
      rcases hcase with(⟨-,rfl,hfin⟩ | ⟨-,rfl,hfin⟩ | ⟨-,rfl,hfin⟩) | ⟨rfl,hfin⟩
      rotate_right
      ·replace hfin:=hid hfin
       go_wp2_with (go_at_call 145;refine(hib.out _).mono ?_;rintro e w4 ⟨rfl,rfl⟩)
       go_meet
       exact⟨c0::r0,b.toNat,by rw[<-hcons.out],by rw[Int.toNat_of_nonneg oM],hfin.out,by omega,by omega,Nat.le_of_eq hll.out,Kept.refl _ _⟩
      all_goals
       replace hfin:=hid hfin
       have a0:=arr_idx0
       have a1:=arr_idx1
       have a2:=arr_idx2
       have hs1: (1:Int)<=(s.size:Int):=by omega
       go_wp2_with (go_at_call 145;refine(hib.out _).mono ?_;rintro e w4 ⟨rfl,rfl⟩)
       go_quiet (fail)
       go_wp2
       go_meet
       exact⟨r0,_,rfl,by first|rfl,hfin.out,by omega,by omega,by have:=hll.out;simp at this;omega,(Kept.refl _ _).drewN _⟩
    case rest=>
     obtain⟨l',b',rfl,rfl,hR',hb2',hb36',hl',hk⟩:=hcut
     clear hbw hbody hR
     replace hR':=hid hR'
     replace hk:=hid hk
     have hcp:=λw=>Tryz.strings_CutPrefix ⟨l'.toArray⟩ ⟨#[45]⟩ w
     rw[show({ data:=l'.toArray }:ByteArray).data.toList=l' from rfl,show({ data:=#[45] }:ByteArray).data.toList = [45]from rfl]at hcp
     by_cases hm:l'.head? = some 45
     ·obtain⟨r,rfl⟩: ∃r,l'=45::r:=by
       cases l' with
       | nil=>cases hm
       | cons c r=>have:c=45:=by simpa using hm
                   exact⟨r,by rw[this]⟩
      rw[show Lib.trimPrefix (45::r) [45]=r by simp[Lib.trimPrefix,Lib.hasPrefix],show Lib.hasPrefix (45::r) [45]=true by simp[Lib.hasPrefix]]at hcp
      have hrl:r.length<s.size:=by simp at hl';omega
      have hsw:=λw=>size_walk ⟨r.toArray⟩ (by simp[ByteArray.size];omega) b' hb2' hb36' w
      rw[show({ data:=r.toArray }:ByteArray).data.toList=r from rfl]at hsw
      have hno:=bodyN_no (b:=b') (l:=r)
      have hyes:=bodyN_yes (b:=b') (l:=r)
      have hlt:=sizeB_lt hb2' r
      generalize sizeB b' r=q at *
      obtain⟨n,ok⟩:=q
      simp only at hno hyes hlt hsw
      replace hcp:=hid hcp
      replace hsw:=hid hsw
      replace hno:=hid hno
      replace hyes:=hid hyes
      clear hm
      by_cases hok:ok=false∨9223372036854775808<n
      ·have hfin:=hR'.out.trans (hno.out hok)
       injection hfin with r1 r2
       subst r1
       subst r2
       have hoks:ok=false∨(ok=true∧decide ((9223372036854775808:Int) < (n:Int))=true):=by
        cases ok
        ·exact .inl rfl
        ·refine .inr ⟨rfl,?_⟩
         rcases hok with h|h
         ·cases h
         ·simp;omega
       clear hok hR' hno hyes hlt
       rcases hoks with rfl| ⟨rfl,hbig⟩
       all_goals
        go_wp2_with (first
         | (go_at_call 146;refine(hcp.out _).mono ?_;rintro e w4 ⟨rfl,rfl⟩)
         | (go_at_call 147;refine mo (hsw.out _) λw5 hk5=>?_))
        go_ret2
        exact⟨rfl,hk.out.trans hk5⟩
      ·have hok1:ok=true:=by cases ok<;>simp at hok⊢
       subst hok1
       have hn63:n<=9223372036854775808:=by omega
       have hfin:=hR'.out.trans (hyes.out rfl hn63)
       injection hfin with r1 r2
       subst r1
       subst r2
       have hbig:decide ((9223372036854775808:Int) < (n:Int))=false:=by simp;omega
       have hneg:wrap64 (-wrap64 (n:Int))=wrap64 (-(n:Int)):=by unfold wrap64;omega
       replace hneg:=hid hneg
       clear hok hR' hno hyes hlt
       go_wp2_with (first
        | (go_at_call 146;refine(hcp.out _).mono ?_;rintro e w4 ⟨rfl,rfl⟩)
        | (go_at_call 147;refine mo (hsw.out _) λw5 hk5=>?_))
       go_ret2
       exact⟨by rw[<-hneg.out];rfl,hk.out.trans hk5⟩
     ·have hpf:Lib.hasPrefix l' [45]=false:=by
       unfold Lib.hasPrefix
       cases l' with
       | nil=>rfl
       | cons c r=>
         have:c≠45:=λh=>hm (by rw[h];rfl)
         simp[List.isPrefixOf]
         exact λh=>this h.symm
      rw[show Lib.trimPrefix l' [45]=l' by unfold Lib.trimPrefix;rw[hpf];rfl,hpf]at hcp
      have hsw:=λw=>size_walk ⟨l'.toArray⟩ (by simp[ByteArray.size];omega) b' hb2' hb36' w
      rw[show({ data:=l'.toArray }:ByteArray).data.toList=l' from rfl]at hsw
      have hfin:=hR'.out.trans (bodyN_pos hm)
      injection hfin with r1 r2
      have hff:=sizeB_false (b:=b') (l:=l')
      subst r1
      subst r2
      have hlt:=sizeB_lt hb2' l'
      generalize sizeB b' l'=q at *
      obtain⟨n,ok⟩:=q
      simp only at hsw hff hlt
      replace hcp:=hid hcp
      replace hsw:=hid hsw
      clear hm hpf hR'
      cases ok
      ·have hn0:=hff rfl
       subst hn0
       go_wp2_with (first
        | (go_at_call 146;refine(hcp.out _).mono ?_;rintro e w4 ⟨rfl,rfl⟩)
        | (go_at_call 147;refine mo (hsw.out _) λw5 hk5=>?_))
       go_ret2
       exact⟨by rw[show wrap64 ((0:Nat):Int)=0 from by unfold wrap64;omega];rfl,hk.out.trans hk5⟩
      ·clear hff
       go_wp2_with (first
        | (go_at_call 146;refine(hcp.out _).mono ?_;rintro e w4 ⟨rfl,rfl⟩)
        | (go_at_call 147;refine mo (hsw.out _) λw5 hk5=>?_))
       go_ret2
       exact⟨rfl,hk.out.trans hk5⟩
   ·have h3:=hq1s.out rfl
    have i1:=λw=>idx_lit1 s oM w
    have hfin:=hq1.out rfl
    injection hfin with r1 r2
    subst r1
    subst r2
    clear hR
    generalize s.data.toList.getD 1 0=c1 at *
    have hc:=c1.toNat_lt
    clear h3
    go_wp2
    go_ret2
    exact⟨rfl,Kept.refl _ _⟩
end Go.Proofs.YteaijdgnagkllaaGreatDoor
