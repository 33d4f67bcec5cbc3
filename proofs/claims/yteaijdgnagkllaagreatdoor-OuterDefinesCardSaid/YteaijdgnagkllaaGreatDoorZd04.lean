/- The plain specification of chapter 5 (numbers as texts): digits by a base. No condition. -/
import Derived.Test.YteaijdgnagkllaaGreatDoorZd03
import Derived.Lib.ItoaNum
namespace Go.Proofs.YteaijdgnagkllaaGreatDoor
set_option linter.unusedVariables false
set_option linter.unusedSimpArgs false
open Go.RowKit Go.Lib
def digC(k:Nat):UInt8:=UInt8.ofNat (if k<10 then 48+k else 55+k)
def digitsU(b u:Nat):List UInt8:=
 if h:u<b∨b<2 then [digC u]else digitsU b (u/b)++ [digC (u % b)]
termination_by u
decreasing_by exact Nat.div_lt_self oM oM
theorem digitsU_small{b u:Nat}(h:u<b):digitsU b u = [digC u]:=by rw[digitsU,dif_pos (.inl h)]
theorem digitsU_big{b u:Nat}(hb:2<=b)(h:b<=u):digitsU b u=digitsU b (u/b)++ [digC (u % b)]:=by rw[digitsU,dif_neg oM]
theorem digitsU_ne(b u:Nat):digitsU b u≠[]:=by
 rw[digitsU]
 split<;>simp
theorem digitsU_len{b:Nat}(hb:2<=b): ∀(n u:Nat),u<b ^ (n+1)->(digitsU b u).length<=n+1
 | 0,u,h=>by rw[digitsU_small (by simpa using h)];simp
 | n+1,u,h=>by
   rcases Nat.lt_or_ge u b with h1|h1
   ·rw[digitsU_small h1];simp
   ·rw[digitsU_big hb h1,List.length_append]
    have:u/b<b ^ (n+1):=by
     rw[Nat.div_lt_iff_lt_mul oM]
     rw[Nat.pow_succ]at h
     exact h
    have:=digitsU_len hb n (u/b) this
    simp
    omega
theorem digitsU_64{b u:Nat}(hb:2<=b)(hu:u<18446744073709551616): (digitsU b u).length<=64:=by
 refine digitsU_len hb 63 u ?_
 have h1: (2:Nat) ^ 64<=b ^ 64:=Nat.pow_le_pow_left hb 64
 have h2: (2:Nat) ^ 64=18446744073709551616:=by decide
 show u<b ^ 64
 omega
theorem digits_step{b u:Nat}(hb:2<=b)(s r:List UInt8)(h:digitsU b u++s=r): (u/b=0->digC (u % b)::s=r)∧(0<u/b->digitsU b (u/b)++digC (u % b)::s=r):=by
 constructor
 ·intro h0
  have hlt:u<b:=by
   rcases Nat.lt_or_ge u b with h1|h1
   ·exact h1
   ·have:=Nat.div_pos h1 oM;omega
  rw[digitsU_small hlt]at h
  rw[Nat.mod_eq_of_lt hlt]
  exact h
 ·intro h0
  have hge:b<=u:=by
   rcases Nat.lt_or_ge u b with h1|h1
   ·rw[Nat.div_eq_of_lt h1]at h0;omega
   ·exact h1
  rw[digitsU_big hb hge]at h
  simpa using h
def printB(n:Int)(b:Nat):List UInt8:=if 0<=n then digitsU b n.toNat else 45::digitsU b n.natAbs
def digV(c:UInt8):Nat:=
 if 48<=c.toNat∧c.toNat<=57 then c.toNat-48 else if 65<=c.toNat∧c.toNat<=90 then c.toNat-55
 else if 97<=c.toNat∧c.toNat<=122 then c.toNat-87 else 36
def sizeN(b:Nat):Nat->List UInt8->Option Nat
 | n,[]=>some n
 | n,c::l=>if b<=digV c∨(18446744073709551615-digV c) /b<n then none else sizeN b (n*b+digV c) l
def sizeB(b:Nat)(l:List UInt8):Nat×Bool:=
 match sizeN b 0 l with
 | none=>(0,false)
 | some n=>(n,!l.isEmpty)
def bodyN(b:Nat)(l:List UInt8):Int×Bool:=
 if l.head? = some 45 then
  (if(sizeB b l.tail).2=false∨9223372036854775808< (sizeB b l.tail).1 then(0,false)else(wrap64 (-((sizeB b l.tail).1:Int)),true))
 else(wrap64 ((sizeB b l).1:Int),(sizeB b l).2)
def quotedB(l:List UInt8):Bool:=l.length==3&&l.getD 0 0==39&&l.getD 2 0==39
def parseN(l:List UInt8)(b:Int):Int×Bool:=
 if b<2∨36<b then(0,false)
 else if quotedB l=true then((l.getD 1 0).toNat,true)
 else if l.head? = some 36 then bodyN 16 l.tail
 else if l.head? = some 37 then bodyN 2 l.tail
 else if l.head? = some 35 then bodyN 10 l.tail
 else bodyN b.toNat l
def valB(b n:Nat)(l:List UInt8):Nat:=l.foldl (λn c=>n*b+digV c) n
theorem digV_le(c:UInt8):digV c<=36:=by
 unfold digV
 repeat' split
 all_goals omega
theorem digC_nat{k:Nat}(h:k<36): (digC k).toNat=if k<10 then 48+k else 55+k:=by
 unfold digC
 split<;>simp[UInt8.toNat_ofNat']<;>omega
theorem digV_digC{k:Nat}(h:k<36):digV (digC k)=k:=by
 have:=digC_nat h
 unfold digV
 split at this<;>repeat' split
 all_goals omega
theorem valB_ge{b:Nat}(hb:1<=b): ∀(l:List UInt8) (n:Nat),n<=valB b n l
 | [],n=>Nat.le_refl _
 | c::l,n=>by
   have h:=valB_ge hb l (n*b+digV c)
   have h2:n*1<=n*b:=Nat.mul_le_mul_left n hb
   unfold valB at *
   simp only[List.foldl_cons]
   omega
theorem valB_append(b n:Nat)(l m:List UInt8):valB b n (l++m)=valB b (valB b n l) m:=by simp[valB]
theorem sizeN_eq{b:Nat}(hb:2<=b): ∀(l:List UInt8) (n:Nat),n<18446744073709551616->
 sizeN b n l=if(∀c∈l,digV c<b)∧valB b n l<18446744073709551616 then some (valB b n l)else none
 | [],n,hn=>by simp[sizeN,valB,hn]
 | c::l,n,hn=>by
   have hd:=digV_le c
   have hq: (18446744073709551615-digV c) /b<n↔18446744073709551616<=n*b+digV c:=by
    rw[Nat.div_lt_iff_lt_mul oM]
    omega
   by_cases h1:b<=digV c
   ·rw[sizeN,if_pos (.inl h1),if_neg]
    intro h
    have:=h.1 c (by simp)
    omega
   ·by_cases h2: (18446744073709551615-digV c) /b<n
    ·rw[sizeN,if_pos (.inr h2),if_neg]
     intro h
     have h3:=h.2
     have h4:=hq.1 h2
     have h5:=valB_ge (b:=b) oM l (n*b+digV c)
     have h6:valB b n (c::l)=valB b (n*b+digV c) l:=by simp[valB]
     omega
    ·have h4:n*b+digV c<18446744073709551616:=by
      have:=mt hq.2 h2
      omega
     rw[sizeN,if_neg oM,sizeN_eq hb l _ h4]
     have h6:valB b n (c::l)=valB b (n*b+digV c) l:=by simp[valB]
     rw[h6]
     congr 1
     simp only[List.mem_cons,forall_eq_or_imp,eq_iff_iff]
     constructor
     ·rintro⟨a,c⟩;exact⟨⟨by omega,a⟩,c⟩
     ·rintro⟨⟨_,a⟩,c⟩;exact⟨a,c⟩
theorem sizeB_eq{b:Nat}(hb:2<=b)(l:List UInt8)(hl:l≠[])(hd: ∀c∈l,digV c<b)(hv:valB b 0 l<18446744073709551616):sizeB b l= (valB b 0 l,true):=by
 unfold sizeB
 rw[sizeN_eq hb l 0 oM,if_pos ⟨hd,hv⟩]
 cases l with
 | nil=>exact absurd rfl hl
 | cons c l=>rfl
theorem sizeB_lt{b:Nat}(hb:2<=b)(l:List UInt8): (sizeB b l).1<18446744073709551616:=by
 unfold sizeB
 rw[sizeN_eq hb l 0 oM]
 split
 ·simp
 ·rename_i h
  split at h
  ·rename_i h2;injection h with h;subst h;exact h2.2
  ·cases h
theorem digits_dig{b:Nat}(hb:2<=b)(hb36:b<=36)(u:Nat): ∀c∈digitsU b u,∃k,k<b∧c=digC k:=by
 induction u using Nat.strongRecOn with
 | ind u ih=>
   by_cases h:u<b
   ·rw[digitsU_small h]
    intro c hc
    exact⟨u,h,by simpa using hc⟩
   ·rw[digitsU_big hb oM]
    intro c hc
    rcases List.mem_append.1 hc with hc|hc
    ·exact ih (u/b) (Nat.div_lt_self oM oM) c hc
    ·exact⟨u % b,Nat.mod_lt _ oM,by simpa using hc⟩
theorem digits_val{b:Nat}(hb:2<=b)(hb36:b<=36)(u:Nat): ∀n,valB b n (digitsU b u)=n*b ^ (digitsU b u).length+u:=by
 induction u using Nat.strongRecOn with
 | ind u ih=>
   intro n
   by_cases h:u<b
   ·rw[digitsU_small h]
    simp[valB,digV_digC (show u<36 by omega)]
   ·rw[digitsU_big hb oM,valB_append,ih (u/b) (Nat.div_lt_self oM oM)]
    have hm:u % b<b:=Nat.mod_lt _ oM
    simp only[valB,List.foldl_cons,List.foldl_nil,digV_digC (show u % b<36 by omega),List.length_append,List.length_cons,List.length_nil,Nat.zero_add,Nat.pow_succ]
    have:=Nat.div_add_mod u b
    rw[Nat.add_mul,<-Nat.mul_assoc,Nat.mul_comm (u/b) b]
    omega
theorem digits_lt36{b:Nat}(hb:2<=b)(hb36:b<=36)(u:Nat): ∀c∈digitsU b u,digV c<b∧48<=c.toNat:=by
 intro c hc
 obtain⟨k,hk,rfl⟩:=digits_dig hb hb36 u c hc
 rw[digV_digC oM,digC_nat oM]
 refine⟨hk,?_⟩
 split<;>omega
theorem digits_size{b:Nat}(hb:2<=b)(hb36:b<=36)(u:Nat)(hu:u<18446744073709551616):sizeB b (digitsU b u)= (u,true):=by
 have h:=digits_val hb hb36 u 0
 simp only[Nat.zero_mul,Nat.zero_add]at h
 rw[sizeB_eq hb _ (digitsU_ne b u) (λc hc=>(digits_lt36 hb hb36 u c hc).1) oM,h]
def NoMark(l:List UInt8):Prop:= ∀c∈l,48<=c.toNat
theorem NoMark.head{l:List UInt8}(h:NoMark l)(x:UInt8)(hx:x.toNat<48):l.head? ≠some x:=by
 cases l with
 | nil=>simp
 | cons c l=>
   intro e
   have:c=x:=by simpa using e
   have:=h c (by simp)
   subst_vars
   omega
theorem body_plain{b:Nat}{l:List UInt8}(h:NoMark l):bodyN b l= (wrap64 ((sizeB b l).1:Int),(sizeB b l).2):=by
 unfold bodyN
 rw[if_neg (h.head 45 (by decide))]
theorem body_neg{b:Nat}{l:List UInt8}{n:Nat}(h:sizeB b l= (n,true))(hn:n<=9223372036854775808):bodyN b (45::l)= (wrap64 (-(n:Int)),true):=by
 unfold bodyN
 simp only[List.head?_cons,List.tail_cons,h,if_true]
 rw[if_neg]
 simp
 omega
theorem parse_plain{b:Int}(h2:2<=b)(h36:b<=36){l:List UInt8}(h:NoMark l):parseN l b=bodyN b.toNat l:=by
 unfold parseN
 have hq:quotedB l=false:=by
  unfold quotedB
  cases l with
  | nil=>rfl
  | cons c l=>
    have:=h c (by simp)
    have hc: (c==39)=false:=by
     rw[beq_eq_false_iff_ne];rintro rfl;revert this;decide
    simp[hc]
 rw[if_neg oM,if_neg (by simp[hq]),if_neg (h.head 36 (by decide)),if_neg (h.head 37 (by decide)),if_neg (h.head 35 (by decide))]
theorem parse_neg{b:Int}(h2:2<=b)(h36:b<=36)(l:List UInt8):parseN (45::l) b=bodyN b.toNat (45::l):=by
 unfold parseN
 have hq:quotedB (45::l)=false:=by simp[quotedB]
 rw[if_neg oM,if_neg (by simp[hq])]
 simp
theorem wrap64_id{n:Int}(h : -9223372036854775808<=n∧n<=9223372036854775807):wrap64 n=n:=by unfold wrap64;omega
theorem body_print{n:Int}(h : -9223372036854775808<=n∧n<=9223372036854775807){b:Nat}(hb:2<=b)(hb36:b<=36):bodyN b (printB n b)= (n,true):=by
 unfold printB
 split
 ·rw[body_plain (λc hc=>(digits_lt36 hb hb36 _ c hc).2),digits_size hb hb36 _ oM]
  rw[wrap64_id oM]
  simp;omega
 ·rw[body_neg (digits_size hb hb36 n.natAbs oM) oM,wrap64_id oM]
  simp;omega
theorem parse_print{n:Int}(h : -9223372036854775808<=n∧n<=9223372036854775807){b:Int}(hb:2<=b)(hb36:b<=36):parseN (printB n b.toNat) b= (n,true):=by
 have hbody:=body_print h (b:=b.toNat) oM oM
 unfold printB at *
 split
 ·rename_i h0
  rw[if_pos h0]at hbody
  rw[parse_plain hb hb36 (λc hc=>(digits_lt36 oM oM _ c hc).2),hbody]
 ·rename_i h0
  rw[if_neg h0]at hbody
  rw[parse_neg hb hb36,hbody]
theorem NoMark.append{l m:List UInt8}(h:NoMark l)(k:NoMark m):NoMark (l++m):=λc hc=>by
 rcases List.mem_append.1 hc with hc|hc
 ·exact h c hc
 ·exact k c hc
theorem print_len{b:Nat}(hb:2<=b){n:Int}(hn : -9223372036854775808<=n∧n<=9223372036854775807): (printB n b).length<=65:=by
 unfold printB
 split
 ·have:=digitsU_64 hb (show n.toNat<18446744073709551616 by omega);omega
 ·have:=digitsU_64 hb (show n.natAbs<18446744073709551616 by omega);simp;omega
end Go.Proofs.YteaijdgnagkllaaGreatDoor
