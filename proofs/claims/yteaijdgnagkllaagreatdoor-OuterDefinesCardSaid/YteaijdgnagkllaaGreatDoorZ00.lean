/- The division of two words by one, by halves of a word, in plain words: that the search for a half of the quotient ends at it. No condition but those written. -/
import Derived.Lib.Mul64
import Derived.Lib.BitFns
import Derived.Laws.BitsLemmas
import Derived.Laws.Bits64b
namespace Go.Proofs.YteaijdgnagkllaaGreatDoor
set_option linter.unusedVariables false
set_option linter.unusedSimpArgs false
namespace Div
structure Seek(y1 y0 u2 u1 q r:Nat):Prop where
 lo:2147483648<=y1
 hi:y1<4294967296
 hy0:y0<4294967296
 hu1:u1<4294967296
 hu2:u2<y1*4294967296+y0
 sum:q*y1+r=u2
 up: (u2*4294967296+u1) / (y1*4294967296+y0)<=q
 most:q<=4294967297
 hr:r<4294967296
section
variable {y1 y0 u2 u1 q r:Nat}
theorem mul_y(q y1 y0:Nat):q* (y1*4294967296+y0)=q*y1*4294967296+q*y0:=by rw[Nat.mul_add,Nat.mul_assoc]
theorem quot_lt(h:Seek y1 y0 u2 u1 q r): (u2*4294967296+u1) / (y1*4294967296+y0) <4294967296:=by
 have h1:=h.hu2
 have h2:=h.hu1
 refine Nat.div_lt_of_lt_mul ?_
 rw[Nat.mul_comm]
 omega
theorem seek_start(lo:2147483648<=y1)(hi:y1<4294967296)(h0:y0<4294967296)(h1:u1<4294967296)(h2:u2<y1*4294967296+y0):Seek y1 y0 u2 u1 (u2/y1) (u2-u2/y1*y1):=by
 have hm:=Nat.div_add_mod' u2 y1
 have hr:=Nat.mod_lt u2 (show 0<y1 by omega)
 refine⟨lo,hi,h0,h1,h2,by omega,?_,?_,by omega⟩
 ·rw[Nat.le_div_iff_mul_le (by omega)]
  have h3:=Nat.div_mul_le_self (u2*4294967296+u1) (y1*4294967296+y0)
  rw[mul_y]at h3
  generalize (u2*4294967296+u1) / (y1*4294967296+y0)*y1=m at *
  generalize (u2*4294967296+u1) / (y1*4294967296+y0)*y0=p at *
  omega
 ·rcases Nat.lt_or_ge (u2/y1) 4294967298 with h|h
  ·omega
  ·have h3:=Nat.mul_le_mul_right y1 h
   generalize u2/y1*y1=m at *
   omega
theorem seek_more(h:Seek y1 y0 u2 u1 q r)(hc:4294967296<=q∨4294967296*r+u1<q*y0): (u2*4294967296+u1) / (y1*4294967296+y0) <q:=by
 rcases hc with hc|hc
 ·have:=quot_lt h
  omega
 ·have h1:=h.sum
  rw[Nat.div_lt_iff_lt_mul (by have:=h.lo;omega),mul_y]
  generalize q*y1=m at *
  generalize q*y0=p at *
  omega
theorem seek_stop(h:Seek y1 y0 u2 u1 q r)(hc:q*y0<=4294967296*r+u1):q= (u2*4294967296+u1) / (y1*4294967296+y0):=by
 refine Nat.le_antisymm ?_ h.up
 rw[Nat.le_div_iff_mul_le (by have:=h.lo;omega),mul_y]
 have h1:=h.sum
 generalize q*y1=m at *
 generalize q*y0=p at *
 omega
theorem pred_mul(q y:Nat)(h:0<q): (q-1)*y+y=q*y:=by
 obtain⟨k,rfl⟩: ∃k,q=k+1:=⟨q-1,by omega⟩
 rw[Nat.add_sub_cancel,Nat.succ_mul]
theorem seek_break(h:Seek y1 y0 u2 u1 q r)(hc:4294967296<=q∨4294967296*r+u1<q*y0)(hb:4294967296<=r+y1):q-1= (u2*4294967296+u1) / (y1*4294967296+y0):=by
 have h0:=seek_more h hc
 have hq:0<q:=Nat.lt_of_le_of_lt (Nat.zero_le _) h0
 refine Nat.le_antisymm ?_ (by omega)
 rw[Nat.le_div_iff_mul_le (by have:=h.lo;omega),mul_y]
 have h1:=h.sum
 have h2:=pred_mul q y1 hq
 have h3: (q-1)*y0<=4294967296*4294967295:=Nat.mul_le_mul (by have:=h.most;omega) (by have:=h.hy0;omega)
 generalize q*y1=m at *
 generalize (q-1)*y1=m' at *
 generalize (q-1)*y0=p at *
 omega
theorem seek_next(h:Seek y1 y0 u2 u1 q r)(hc:4294967296<=q∨4294967296*r+u1<q*y0)(hb:r+y1<4294967296):Seek y1 y0 u2 u1 (q-1) (r+y1):=by
 have h0:=seek_more h hc
 have hq:0<q:=Nat.lt_of_le_of_lt (Nat.zero_le _) h0
 have h2:=pred_mul q y1 hq
 have h1:=h.sum
 exact⟨h.lo,h.hi,h.hy0,h.hu1,h.hu2,by omega,by omega,by have:=h.most;omega,hb⟩
end
theorem two_steps(u2 a b y:Nat)(h0:0<y): (u2*4294967296*4294967296+a*4294967296+b) /y= (u2*4294967296+a) /y*4294967296+ ((u2*4294967296+a) % y*4294967296+b) /y∧
 (u2*4294967296*4294967296+a*4294967296+b) % y= ((u2*4294967296+a) % y*4294967296+b) % y:=by
 have h1:=Nat.div_add_mod' (u2*4294967296+a) y
 have e:u2*4294967296*4294967296+a*4294967296+b= ((u2*4294967296+a) % y*4294967296+b) + (u2*4294967296+a) /y*4294967296*y:=by
  have h2: (u2*4294967296+a) /y*4294967296*y= (u2*4294967296+a) /y*y*4294967296:=by rw[Nat.mul_assoc,Nat.mul_comm 4294967296 y,<-Nat.mul_assoc]
  rw[h2]
  generalize (u2*4294967296+a) /y*y=m at *
  omega
 have hq:=congrArg (λn=>n/y) e
 have hr:=congrArg (λn=>n % y) e
 simp only[Nat.add_mul_div_right _ _ h0,Nat.add_mul_mod_self_right]at hq hr
 exact⟨by rw[hq,Nat.add_comm],hr⟩
theorem both_left(n y k:Nat)(h0:0<y)(hk:0<k):n*k/ (y*k)=n/y∧n*k % (y*k)=n % y*k:=by
 refine⟨Nat.mul_div_mul_right _ _ hk,?_⟩
 rw[Nat.mul_mod_mul_right]
theorem spread(hi lo K P:Nat): (hi*K+lo)*P=hi*P*K+lo*P:=by rw[Nat.add_mul,Nat.mul_right_comm]
theorem turn_mul(y P K:Nat):y*P*K=y*K*P:=Nat.mul_right_comm _ _ _
theorem glue(a b c K l:Nat)(h3:b*K+l=c):a*K+c= (a+b)*K+l:=by rw[<-h3,Nat.add_mul,Nat.add_assoc]
theorem moved_left(hi lo s:Nat)(hs:s<=64): (hi*18446744073709551616+lo)*2 ^ s= (hi*2 ^ s+lo/2 ^ (64-s))*18446744073709551616+lo*2 ^ s % 18446744073709551616:=by
 have h1: (18446744073709551616:Nat)=2 ^ (64-s)*2 ^ s:=by rw[<-Nat.pow_add,show 64-s+s=64 by omega]
 have h2:lo*2 ^ s/18446744073709551616=lo/2 ^ (64-s):=by
  conv=>lhs;rw[h1]
  exact Nat.mul_div_mul_right _ _ (Nat.two_pow_pos s)
 have h3:=Nat.div_add_mod' (lo*2 ^ s) 18446744073709551616
 rw[h2]at h3
 have h4:=spread hi lo 18446744073709551616 (2 ^ s)
 exact h4.trans (glue _ _ _ _ _ h3)
theorem div_all(hi lo y s:Nat)(h:hi<y)(hlo:lo<18446744073709551616)(hs:s<=64):
 hi*2 ^ s+lo/2 ^ (64-s) <y*2 ^ s∧
 (hi*18446744073709551616+lo) /y= ((hi*2 ^ s+lo/2 ^ (64-s))*4294967296+lo*2 ^ s % 18446744073709551616/4294967296) / (y*2 ^ s)*4294967296
  + (((hi*2 ^ s+lo/2 ^ (64-s))*4294967296+lo*2 ^ s % 18446744073709551616/4294967296) % (y*2 ^ s)*4294967296+lo*2 ^ s % 18446744073709551616 % 4294967296) / (y*2 ^ s)∧
 (((hi*2 ^ s+lo/2 ^ (64-s))*4294967296+lo*2 ^ s % 18446744073709551616/4294967296) % (y*2 ^ s)*4294967296+lo*2 ^ s % 18446744073709551616 % 4294967296) % (y*2 ^ s) /2 ^ s= (hi*18446744073709551616+lo) % y:=by
 have hm:=moved_left hi lo s hs
 have hp:0<2 ^ s:=Nat.two_pow_pos s
 have hN: (hi*18446744073709551616+lo)*2 ^ s<y*2 ^ s*18446744073709551616:=by
  have h5:=turn_mul y (2 ^ s) 18446744073709551616
  refine Nat.lt_of_lt_of_eq ?_ h5.symm
  refine Nat.mul_lt_mul_of_pos_right ?_ hp
  omega
 rw[hm]at hN
 obtain⟨b1,b2⟩:=both_left (hi*18446744073709551616+lo) y (2 ^ s) (by omega) hp
 rw[hm]at b1 b2
 have hy:0<y*2 ^ s:=Nat.mul_pos (by omega) hp
 generalize hi*2 ^ s+lo/2 ^ (64-s)=u2 at *
 generalize lo*2 ^ s % 18446744073709551616=l at *
 have h64:=two_steps u2 (l/4294967296) (l % 4294967296) (y*2 ^ s) hy
 have e:u2*4294967296*4294967296+l/4294967296*4294967296+l % 4294967296=u2*18446744073709551616+l:=by omega
 rw[e]at h64
 refine⟨?_,?_,?_⟩
 ·generalize y*2 ^ s=z at *
  omega
 ·rw[<-h64.1,b1]
 ·rw[<-h64.2,b2,Nat.mul_div_cancel _ hp]
open Go.Lib
theorem len_range: ∀(f x:Nat),x≠0->x<2 ^ f->2 ^ bitLenAux f x<=2*x∧x<2 ^ bitLenAux f x∧bitLenAux f x<=f
 | 0,x,h0,h=>by simp at h;omega
 | f+1,x,h0,h=>by
   unfold bitLenAux
   rw[if_neg h0]
   by_cases h2:x/2=0
   ·have hz:bitLenAux f (x/2)=0:=by
     rw[h2]
     cases f with
     | zero=>rfl
     | succ f=>unfold bitLenAux;rw[if_pos rfl]
    rw[hz]
    show 2 ^ 1<=2*x∧x<2 ^ 1∧_
    omega
   ·have ih:=len_range f (x/2) h2 (by rw[Nat.pow_succ]at h;omega)
    rw[Nat.pow_add]
    generalize 2 ^ bitLenAux f (x/2)=p at *
    have: (2:Nat) ^ 1=2:=rfl
    rw[this]
    omega
def lead(y:Nat):Nat:=64-bitLen y
theorem lead_norm(y:Nat)(h0:y≠0)(hy:y<18446744073709551616):lead y<=63∧9223372036854775808<=y*2 ^ lead y∧y*2 ^ lead y<18446744073709551616∧(64- (bitLen y:Int))= (lead y:Int):=by
 obtain⟨h1,h2,h3⟩:=len_range 64 y h0 hy
 have h4:bitLenAux 64 y=bitLen y:=rfl
 rw[h4]at h1 h2 h3
 have h5:1<=bitLen y:=by
  rcases Nat.eq_zero_or_pos (bitLen y)with h|h
  ·rw[h]at h2;simp at h2;omega
  ·exact h
 have e:2 ^ bitLen y*2 ^ lead y=18446744073709551616:=by
  rw[<-Nat.pow_add]
  unfold lead
  rw[show bitLen y+ (64-bitLen y)=64 by omega]
 refine⟨by unfold lead;omega,?_,?_,by unfold lead;omega⟩
 ·have:=Nat.mul_le_mul_right (2 ^ lead y) h1
  rw[e,Nat.mul_assoc]at this
  generalize y*2 ^ lead y=z at *
  omega
 ·have:=Nat.mul_lt_mul_of_pos_right h2 (Nat.two_pow_pos (lead y))
  rw[e]at this
  exact this
theorem or_low(a b s:Nat)(h:b<2 ^ s)(h1:a*2 ^ s+b<18446744073709551616):bits .or .u64 ((a*2 ^ s:Nat):Int) (b:Int)= ((a*2 ^ s+b:Nat):Int):=by
 have h2:=bits_or_u64_nat (a*2 ^ s) b (by omega) (by omega)
 rw[h2,Nat.mul_comm,Nat.two_pow_add_eq_or_of_lt h]
end Div
end Go.Proofs.YteaijdgnagkllaaGreatDoor
