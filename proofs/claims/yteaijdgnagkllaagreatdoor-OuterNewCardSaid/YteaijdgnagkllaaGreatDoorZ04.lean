/- The plain specification of chapter 5 (numbers as texts): digits by a base. No condition. -/
import Derived.Test.YteaijdgnagkllaaGreatDoorZ03
import Derived.Lib.ItoaNum
namespace Go.Proofs.YteaijdgnagkllaaGreatDoor
set_option linter.unusedVariables false
set_option linter.unusedSimpArgs false
open Go.RowKit Go.Lib
def digC(k:Nat):UInt8:=UInt8.ofNat (if k<10 then 48+k else 55+k)
def digitsU(b u:Nat):List UInt8:=
 if h:u<b∨b<2 then [digC u]else digitsU b (u/b)++ [digC (u % b)]
termination_by u
decreasing_by exact Nat.div_lt_self oM oM
theorem digitsU_small{b u:Nat}(h:u<b):digitsU b u = [digC u]:=by rw[digitsU,dif_pos (.inl h)]
theorem digitsU_big{b u:Nat}(hb:2<=b)(h:b<=u):digitsU b u=digitsU b (u/b)++ [digC (u % b)]:=by rw[digitsU,dif_neg oM]
theorem digitsU_ne(b u:Nat):digitsU b u≠[]:=by
 rw[digitsU]
 split<;>simp
theorem digitsU_len{b:Nat}(hb:2<=b): ∀(n u:Nat),u<b ^ (n+1)->(digitsU b u).length<=n+1
 | 0,u,h=>by rw[digitsU_small (by simpa using h)];simp
 | n+1,u,h=>by
   rcases Nat.lt_or_ge u b with h1|h1
   ·rw[digitsU_small h1];simp
   ·rw[digitsU_big hb h1,List.length_append]
    have:u/b<b ^ (n+1):=by
     rw[Nat.div_lt_iff_lt_mul oM]
     rw[Nat.pow_succ]at h
     exact h
    have:=digitsU_len hb n (u/b) this
    simp
    omega
theorem digitsU_64{b u:Nat}(hb:2<=b)(hu:u<18446744073709551616): (digitsU b u).length<=64:=by
 refine digitsU_len hb 63 u ?_
 have h1: (2:Nat) ^ 64<=b ^ 64:=Nat.pow_le_pow_left hb 64
 have h2: (2:Nat) ^ 64=18446744073709551616:=by decide
 show u<b ^ 64
 omega
theorem digits_step{b u:Nat}(hb:2<=b)(s r:List UInt8)(h:digitsU b u++s=r): (u/b=0->digC (u % b)::s=r)∧(0<u/b->digitsU b (u/b)++digC (u % b)::s=r):=by
 constructor
 ·intro h0
  have hlt:u<b:=by
   rcases Nat.lt_or_ge u b with h1|h1
   ·exact h1
   ·have:=Nat.div_pos h1 oM;omega
  rw[digitsU_small hlt]at h
  rw[Nat.mod_eq_of_lt hlt]
  exact h
 ·intro h0
  have hge:b<=u:=by
   rcases Nat.lt_or_ge u b with h1|h1
   ·rw[Nat.div_eq_of_lt h1]at h0;omega
   ·exact h1
  rw[digitsU_big hb hge]at h
  simpa using h
def printB(n:Int)(b:Nat):List UInt8:=if 0<=n then digitsU b n.toNat else 45::digitsU b n.natAbs
def digV(c:UInt8):Nat:=
 if 48<=c.toNat∧c.toNat<=57 then c.toNat-48 else if 65<=c.toNat∧c.toNat<=90 then c.toNat-55
 else if 97<=c.toNat∧c.toNat<=122 then c.toNat-87 else 36
def sizeN(b:Nat):Nat->List UInt8->Option Nat
 | n,[]=>some n
 | n,c::l=>if b<=digV c∨(18446744073709551615-digV c) /b<n then none else sizeN b (n*b+digV c) l
def sizeB(b:Nat)(l:List UInt8):Nat×Bool:=
 match sizeN b 0 l with
 | none=>(0,false)
 | some n=>(n,!l.isEmpty)
def bodyN(b:Nat)(l:List UInt8):Int×Bool:=
 if l.head? = some 45 then
  (if(sizeB b l.tail).2=false∨9223372036854775808< (sizeB b l.tail).1 then(0,false)else(wrap64 (-((sizeB b l.tail).1:Int)),true))
 else(wrap64 ((sizeB b l).1:Int),(sizeB b l).2)
def quotedB(l:List UInt8):Bool:=l.length==3&&l.getD 0 0==39&&l.getD 2 0==39
def parseN(l:List UInt8)(b:Int):Int×Bool:=
 if b<2∨36<b then(0,false)
 else if quotedB l=true then((l.getD 1 0).toNat,true)
 else if l.head? = some 36 then bodyN 16 l.tail
 else if l.head? = some 37 then bodyN 2 l.tail
 else if l.head? = some 35 then bodyN 10 l.tail
 else bodyN b.toNat l
def valB(b n:Nat)(l:List UInt8):Nat:=l.foldl (λn c=>n*b+digV c) n
theorem digV_le(c:UInt8):digV c<=36:=by
 unfold digV
 repeat' split
 all_goals omega
theorem valB_ge{b:Nat}(hb:1<=b): ∀(l:List UInt8) (n:Nat),n<=valB b n l
 | [],n=>Nat.le_refl _
 | c::l,n=>by
   have h:=valB_ge hb l (n*b+digV c)
   have h2:n*1<=n*b:=Nat.mul_le_mul_left n hb
   unfold valB at *
   simp only[List.foldl_cons]
   omega
theorem sizeN_eq{b:Nat}(hb:2<=b): ∀(l:List UInt8) (n:Nat),n<18446744073709551616->
 sizeN b n l=if(∀c∈l,digV c<b)∧valB b n l<18446744073709551616 then some (valB b n l)else none
 | [],n,hn=>by simp[sizeN,valB,hn]
 | c::l,n,hn=>by
   have hd:=digV_le c
   have hq: (18446744073709551615-digV c) /b<n↔18446744073709551616<=n*b+digV c:=by
    rw[Nat.div_lt_iff_lt_mul oM]
    omega
   by_cases h1:b<=digV c
   ·rw[sizeN,if_pos (.inl h1),if_neg]
    intro h
    have:=h.1 c (by simp)
    omega
   ·by_cases h2: (18446744073709551615-digV c) /b<n
    ·rw[sizeN,if_pos (.inr h2),if_neg]
     intro h
     have h3:=h.2
     have h4:=hq.1 h2
     have h5:=valB_ge (b:=b) oM l (n*b+digV c)
     have h6:valB b n (c::l)=valB b (n*b+digV c) l:=by simp[valB]
     omega
    ·have h4:n*b+digV c<18446744073709551616:=by
      have:=mt hq.2 h2
      omega
     rw[sizeN,if_neg oM,sizeN_eq hb l _ h4]
     have h6:valB b n (c::l)=valB b (n*b+digV c) l:=by simp[valB]
     rw[h6]
     congr 1
     simp only[List.mem_cons,forall_eq_or_imp,eq_iff_iff]
     constructor
     ·rintro⟨a,c⟩;exact⟨⟨by omega,a⟩,c⟩
     ·rintro⟨⟨_,a⟩,c⟩;exact⟨a,c⟩
theorem sizeB_lt{b:Nat}(hb:2<=b)(l:List UInt8): (sizeB b l).1<18446744073709551616:=by
 unfold sizeB
 rw[sizeN_eq hb l 0 oM]
 split
 ·simp
 ·rename_i h
  split at h
  ·rename_i h2;injection h with h;subst h;exact h2.2
  ·cases h
def NoMark(l:List UInt8):Prop:= ∀c∈l,48<=c.toNat
theorem NoMark.head{l:List UInt8}(h:NoMark l)(x:UInt8)(hx:x.toNat<48):l.head? ≠some x:=by
 cases l with
 | nil=>simp
 | cons c l=>
   intro e
   have:c=x:=by simpa using e
   have:=h c (by simp)
   subst_vars
   omega
theorem NoMark.append{l m:List UInt8}(h:NoMark l)(k:NoMark m):NoMark (l++m):=λc hc=>by
 rcases List.mem_append.1 hc with hc|hc
 ·exact h c hc
 ·exact k c hc
theorem print_len{b:Nat}(hb:2<=b){n:Int}(hn : -9223372036854775808<=n∧n<=9223372036854775807): (printB n b).length<=65:=by
 unfold printB
 split
 ·have:=digitsU_64 hb (show n.toNat<18446744073709551616 by omega);omega
 ·have:=digitsU_64 hb (show n.natAbs<18446744073709551616 by omega);simp;omega
end Go.Proofs.YteaijdgnagkllaaGreatDoor
