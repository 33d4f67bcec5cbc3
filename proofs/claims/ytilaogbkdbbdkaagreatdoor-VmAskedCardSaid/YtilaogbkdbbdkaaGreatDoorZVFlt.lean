/- Chapter 2. No condition. -/
import Derived.Test.YtilaogbkdbbdkaaGreatDoorOm
import Derived.Laws.FloatArith
namespace Go.Proofs.YtilaogbkdbbdkaaGreatDoor
set_option linter.unusedVariables false
open Go Ieee
namespace Flt
def DI(d:Datum)(n:Int):Prop:= ∃(s:Bool) (m k:Nat),d = .number s m (-(k:Int))∧signed s m 0=n*2 ^ k
def IsI(b:Nat)(n:Int):Prop:=DI (double.read b) n
theorem sg0(s:Bool)(m:Nat):signed s m 0=if s then -(m:Int)else(m:Int):=by unfold signed;simp
theorem sgU(s:Bool)(m u:Nat):signed s m u=signed s m 0*2 ^ u:=by
 rw[sg0]
 unfold signed
 rw[Nat.shiftLeft_eq]
 cases s<;>simp[Int.neg_mul]
theorem rF{N:Nat}(hN:N≠0)(k:Nat): (N*2 ^ k).log2=N.log2+k:=by
 have h0:N*2 ^ k≠0:=Nat.mul_ne_zero hN (Nat.ne_of_gt (Nat.pow_pos oM))
 have h1:2 ^ N.log2<=N:=(Nat.le_log2 hN).1 (Nat.le_refl _)
 have h2:N<2 ^ (N.log2+1):=(Nat.log2_lt hN).1 oM
 refine Nat.le_antisymm ?_ ?_
 ·have: (N*2 ^ k).log2<N.log2+k+1:=by
   rw[Nat.log2_lt h0,show N.log2+k+1= (N.log2+1) +k by omega,Nat.pow_add]
   exact(Nat.mul_lt_mul_right (Nat.pow_pos oM)).2 h2
  omega
 ·rw[Nat.le_log2 h0,Nat.pow_add]
  exact Nat.mul_le_mul_right _ h1
theorem o9(way:Toward)(s:Bool)(K d:Nat)(hd:d<=(K*2 ^ d).log2+2):way.cut s (K*2 ^ d) d=K:=by
 unfold Toward.cut
 rw[Nat.min_eq_left hd]
 have hp:0<2 ^ d:=Nat.pow_pos oM
 have h1: (1 <<< d)=2 ^ d:=by rw[Nat.shiftLeft_eq,Nat.one_mul]
 rw[h1]
 have h2:K*2 ^ d/2 ^ d=K:=Nat.mul_div_cancel _ hp
 have h3:K*2 ^ d % 2 ^ d=0:=Nat.mul_mod_left _ _
 simp only[h2,h3]
 have h4: (2 ^ d==2*0)=false:=by simp
 cases way<;>simp[h4]
theorem GO(way:Toward)(s:Bool)(d:Nat):way.cut s 0 d=0:=by
 unfold Toward.cut
 have hp:0<1 <<< min d ((0:Nat).log2+2):=by rw[Nat.shiftLeft_eq];exact Nat.mul_pos oM (Nat.pow_pos oM)
 cases way<;>simp
theorem uH(s:Bool)(g:Nat)(hg:g<9223372036854775808):double.read (double.word s g)= (if g<4503599627370496 then .number s g (-1074)
 else if g<9218868437227405312 then .number s (4503599627370496+g % 4503599627370496) (-1074+ (g/4503599627370496-1:Nat))
 else if g=9218868437227405312 then .infinity s
 else .nan s (g-9218868437227405312)):=by
 have e1:double.signWeight=9223372036854775808:=by decide
 have e2:double.binade=4503599627370496:=by decide
 have e3:double.infRung=9218868437227405312:=by decide
 have e4:double.leastPlace = -1074:=by decide
 unfold Format.read Format.word
 simp only[e1,e2,e3,e4]
 cases s
 ·have h1:g/9223372036854775808=0:=Nat.div_eq_of_lt hg
  have h2:g % 9223372036854775808=g:=Nat.mod_eq_of_lt hg
  simp[h1,h2]
 ·have h1: (9223372036854775808+g) /9223372036854775808=1:=by omega
  have h2: (9223372036854775808+g) % 9223372036854775808=g:=by omega
  simp[h1,h2]
theorem Q2(B L K:Nat)(h1:B<=K)(h2:K<B+B): ((L+1022)*B+K) % B=K-B∧((L+1022)*B+K) /B=L+1023:=by
 obtain⟨r,rfl⟩: ∃r,K=B+r:=⟨K-B,by omega⟩
 have hr:r<B:=by omega
 have e: (L+1022)*B+ (B+r)=r+B* (L+1023):=by rw[Nat.mul_comm B,show L+1023= (L+1022) +1 by omega,Nat.add_mul (L+1022) 1 B,Nat.one_mul];omega
 rw[e,Nat.add_mul_mod_self_left,Nat.add_mul_div_left _ _ (by omega:0<B),Nat.mod_eq_of_lt hr,Nat.div_eq_of_lt hr]
 omega
theorem K8(B L K:Nat)(hL:L<=52)(h2:K<B+B): (L+1022)*B+K<1076*B:=by
 have h: (L+1022)*B<=1074*B:=Nat.mul_le_mul_right _ oM
 have e:1076*B=1074*B+ (B+B):=by rw[show 1076=1074+2 by rfl,Nat.add_mul];omega
 omega
theorem xI(s:Bool)(L K:Nat)(hL:L<=52)(h1:4503599627370496<=K)(h2:K<9007199254740992):
 double.read (double.word s (min ((L+1022)*4503599627370496+K) 9218868437227405312))= .number s K (-((52-L:Nat):Int)):=by
 have a1:=Q2 4503599627370496 L K h1 h2
 have a2: (L+1022)*4503599627370496+K<4845873199050653696:=K8 4503599627370496 L K hL h2
 have a3:4503599627370496<=(L+1022)*4503599627370496+K:=Nat.le_trans h1 (Nat.le_add_left _ _)
 generalize (L+1022)*4503599627370496+K=g at *
 have e1:min g 9218868437227405312=g:=Nat.min_eq_left oM
 rw[e1,uH s g oM,if_neg oM,if_pos oM,a1.1,a1.2]
 have h5:4503599627370496+ (K-4503599627370496)=K:=by omega
 have h6: (-1074:Int) + ((L+1023-1:Nat):Int)= -((52-L:Nat):Int):=by omega
 rw[h5,h6]
theorem Hk(s:Bool)(N k:Nat)(hN:N<9007199254740992):DI (double.read (double.write (.number s (N*2 ^ k) (-(k:Int))))) (if s then -(N:Int)else N):=by
 have e2:double.binade=4503599627370496:=by decide
 have e3:double.infRung=9218868437227405312:=by decide
 have e4:double.leastPlace = -1074:=by decide
 have e5:double.fractionBits=52:=rfl
 show DI (double.read (double.nearest s (N*2 ^ k) (-(k:Int)))) _
 by_cases h0:N=0
 ·subst h0
  unfold Format.nearest
  rw[if_pos (by simp),uH s 0 oM,if_pos oM]
  have hz: (if s=true then -((0:Nat):Int)else((0:Nat):Int))=0:=by cases s<;>rfl
  exact⟨s,0,1074,rfl,by rw[sg0,hz,Int.zero_mul]⟩
 have hm:N*2 ^ k≠0:=Nat.mul_ne_zero h0 (Nat.ne_of_gt (Nat.pow_pos oM))
 unfold Format.nearest
 rw[if_neg hm]
 simp only[e2,e3,e4,e5,rF h0 k]
 obtain⟨L,hL⟩: ∃L,N.log2=L:=⟨_,rfl⟩
 have hL1:2 ^ L<=N:=by rw[<-hL];exact(Nat.le_log2 h0).1 (Nat.le_refl _)
 have hL2:N<2 ^ (L+1):=by rw[<-hL];exact(Nat.log2_lt h0).1 oM
 have hL3:L<=52:=by
  have:N.log2<53:=(Nat.log2_lt h0).2 hN
  omega
 rw[hL]
 have Uy:max (-(k:Int) + ((L+k:Nat):Int) - ((52:Nat):Int)) (-1074)= (L:Int) -52:=by omega
 rw[Uy]
 have hK:Toward.even.cut s ((N*2 ^ k) <<< (-(k:Int) - ((L:Int) -52)).toNat) ((L:Int) -52 - -(k:Int)).toNat=N*2 ^ (52-L):=by
  by_cases hc:k<=52-L
  ·have h1: (-(k:Int) - ((L:Int) -52)).toNat=52-L-k:=by omega
   have h2: ((L:Int) -52 - -(k:Int)).toNat=0:=by omega
   rw[h1,h2,Nat.shiftLeft_eq,Nat.mul_assoc,<-Nat.pow_add,show k+ (52-L-k)=52-L by omega]
   have:=o9 .even s (N*2 ^ (52-L)) 0 oM
   rwa[Nat.pow_zero,Nat.mul_one]at this
  ·have h1: (-(k:Int) - ((L:Int) -52)).toNat=0:=by omega
   have h2: ((L:Int) -52 - -(k:Int)).toNat=k- (52-L):=by omega
   rw[h1,h2,Nat.shiftLeft_zero]
   have h3:N*2 ^ k= (N*2 ^ (52-L))*2 ^ (k- (52-L)):=by rw[Nat.mul_assoc,<-Nat.pow_add,show 52-L+ (k- (52-L))=k by omega]
   have h4: (N*2 ^ k).log2=L+k:=by rw[rF h0,hL]
   rw[h3]
   refine o9 .even s _ _ ?_
   rw[<-h3,h4]
   omega
 rw[hK]
 have Zr:4503599627370496<=N*2 ^ (52-L):=by
  have:2 ^ L*2 ^ (52-L)<=N*2 ^ (52-L):=Nat.mul_le_mul_right _ hL1
  rw[<-Nat.pow_add,show L+ (52-L)=52 by omega]at this
  omega
 have SS:N*2 ^ (52-L) <9007199254740992:=by
  have:N*2 ^ (52-L) <2 ^ (L+1)*2 ^ (52-L):=(Nat.mul_lt_mul_right (Nat.pow_pos oM)).2 hL2
  rw[<-Nat.pow_add,show L+1+ (52-L)=53 by omega]at this
  omega
 have hsg:signed s (N*2 ^ (52-L)) 0= (if s then -(N:Int)else N)*2 ^ (52-L):=by
  rw[sg0]
  cases s<;>simp[Int.neg_mul]
 generalize N*2 ^ (52-L)=K at *
 have h1: ((L:Int) -52 - -1074).toNat=L+1022:=by omega
 rw[h1]
 exact⟨s,K,52-L,xI s L K hL3 Zr SS,hsg⟩
theorem lJ(s:Bool)(n:Int)(k:Nat)(hs:s=decide (n<0)∨n=0)(hn:n.natAbs<9007199254740992):IsI (double.write (.number s (n.natAbs*2 ^ k) (-(k:Int)))) n:=by
 have h:=Hk s n.natAbs k hn
 have e: (if s then -(n.natAbs:Int)else(n.natAbs:Int))=n:=by
  rcases hs with rfl|rfl
  ·by_cases h0:n<0
   ·simp[h0];omega
   ·simp[h0];omega
  ·simp
 rw[e]at h
 exact h
theorem of_int(n:Int)(hn:n.natAbs<9007199254740992):IsI (floatOfInt .f64 n) n:=by
 have h:=lJ (decide (n<0)) n 0 (.inl rfl) hn
 rw[Nat.pow_zero,Nat.mul_one]at h
 exact h
theorem jN(k:Nat): (0:Int) <2 ^ k:=Int.pow_pos oM
theorem DI.opposite{d:Datum}{n:Int}(h:DI d n):DI d.opposite (-n):=by
 obtain⟨s,m,k,rfl,h⟩:=h
 refine⟨!s,m,k,rfl,?_⟩
 rw[Int.neg_mul,<-h,sg0,sg0]
 cases s<;>simp
theorem DI.sum{d e:Datum}{a b:Int}(h1:DI d a)(h2:DI e b)(hb: (a+b).natAbs<9007199254740992): ∃r,(d.sum e).map double.write=some r∧IsI r (a+b):=by
 obtain⟨s,m,k,rfl,h1⟩:=h1
 obtain⟨t,n,l,rfl,h2⟩:=h2
 obtain⟨q,hq⟩: ∃q:Nat,min (-(k:Int)) (-(l:Int))= -(q:Int)∧k<=q∧l<=q:=⟨max k l,by omega,by omega,by omega⟩
 have ht:signed s m (-(k:Int) - -(q:Int)).toNat+signed t n (-(l:Int) - -(q:Int)).toNat= (a+b)*2 ^ q:=by
  rw[sgU,sgU t,h1,h2,show(-(k:Int) - -(q:Int)).toNat=q-k by omega,show(-(l:Int) - -(q:Int)).toNat=q-l by omega,Int.mul_assoc,Int.mul_assoc,<-Int.pow_add,<-Int.pow_add,show k+ (q-k)=q by omega,show l+ (q-l)=q by omega,Int.add_mul]
 refine⟨_,rfl,?_⟩
 show IsI (double.write (.number (if signed s m (-(k:Int) -min (-(k:Int)) (-(l:Int))).toNat+signed t n (-(l:Int) -min (-(k:Int)) (-(l:Int))).toNat=0 then s&&t else decide (signed s m (-(k:Int) -min (-(k:Int)) (-(l:Int))).toNat+signed t n (-(l:Int) -min (-(k:Int)) (-(l:Int))).toNat<0)) (signed s m (-(k:Int) -min (-(k:Int)) (-(l:Int))).toNat+signed t n (-(l:Int) -min (-(k:Int)) (-(l:Int))).toNat).natAbs (min (-(k:Int)) (-(l:Int))))) _
 rw[hq.1,ht]
 have e1: ((a+b)*2 ^ q).natAbs= (a+b).natAbs*2 ^ q:=by rw[Int.natAbs_mul,Int.natAbs_pow];rfl
 rw[e1]
 refine lJ _ _ _ ?_ hb
 by_cases h0:a+b=0
 ·exact .inr h0
 ·refine .inl ?_
  have hp:=jN q
  rw[if_neg (by intro h;rcases Int.mul_eq_zero.1 h with h|h<;>omega)]
  by_cases hn:a+b<0
  ·rw[decide_eq_true hn,decide_eq_true]
   exact Int.mul_neg_of_neg_of_pos hn hp
  ·rw[decide_eq_false hn,decide_eq_false]
   have:0<=(a+b)*2 ^ q:=Int.mul_nonneg oM oM
   omega
theorem DI.product{d e:Datum}{a b:Int}(h1:DI d a)(h2:DI e b)(hb: (a*b).natAbs<9007199254740992): ∃r,(d.product e).map double.write=some r∧IsI r (a*b):=by
 obtain⟨s,m,k,rfl,h1⟩:=h1
 obtain⟨t,n,l,rfl,h2⟩:=h2
 refine⟨_,rfl,?_⟩
 show IsI (double.write (.number (s ^^ t) (m*n) (-(k:Int) + -(l:Int)))) _
 have e0 : -(k:Int) + -(l:Int)= -((k+l:Nat):Int):=by omega
 have ha: (m:Int)=a.natAbs*2 ^ k:=by
  have: (signed s m 0).natAbs=m:=by rw[sg0];cases s<;>simp
  rw[h1,Int.natAbs_mul,Int.natAbs_pow]at this
  rw[<-this]
  simp
 have RJ: (n:Int)=b.natAbs*2 ^ l:=by
  have: (signed t n 0).natAbs=n:=by rw[sg0];cases t<;>simp
  rw[h2,Int.natAbs_mul,Int.natAbs_pow]at this
  rw[<-this]
  simp
 have e1:m*n= (a*b).natAbs*2 ^ (k+l):=by
  apply Int.ofNat.inj
  show((m*n:Nat):Int)= (((a*b).natAbs*2 ^ (k+l):Nat):Int)
  rw[Int.natAbs_mul]
  push_cast
  rw[ha,RJ,Int.pow_add]
  rw[Int.mul_assoc,Int.mul_assoc]
  congr 1
  rw[<-Int.mul_assoc,<-Int.mul_assoc,Int.mul_comm (2 ^ k)]
 rw[e0,e1]
 refine lJ _ _ _ ?_ hb
 by_cases h0:a*b=0
 ·exact .inr h0
 ·refine .inl ?_
  have WJ:a≠0:=λh=>h0 (by rw[h,Int.zero_mul])
  have RV:b≠0:=λh=>h0 (by rw[h,Int.mul_zero])
  have hs:s=decide (a<0):=by
   have hp:=jN k
   rw[sg0]at h1
   cases s
   ·have:0<=a*2 ^ k:=by rw[<-h1];simp
    have: ¬a<0:=λh=>by have:=Int.mul_neg_of_neg_of_pos h hp;omega
    simp[this]
   ·have h5:a*2 ^ k<=0:=by rw[<-h1];simp
    have:a<0:=by
     rcases Int.lt_trichotomy a 0 with h|h|h
     ·exact h
     ·exact absurd h WJ
     ·have:=Int.mul_pos h hp;omega
    simp[this]
  have ht:t=decide (b<0):=by
   have hp:=jN l
   rw[sg0]at h2
   cases t
   ·have:0<=b*2 ^ l:=by rw[<-h2];simp
    have: ¬b<0:=λh=>by have:=Int.mul_neg_of_neg_of_pos h hp;omega
    simp[this]
   ·have h5:b*2 ^ l<=0:=by rw[<-h2];simp
    have:b<0:=by
     rcases Int.lt_trichotomy b 0 with h|h|h
     ·exact h
     ·exact absurd h RV
     ·have:=Int.mul_pos h hp;omega
    simp[this]
  subst hs ht
  by_cases h3:a<0<;>by_cases h4:b<0
  ·have:=Int.mul_pos_of_neg_of_neg h3 h4
   simp[h3,h4];omega
  ·have:=Int.mul_neg_of_neg_of_pos h3 (show 0<b by omega)
   simp[h3,h4,this]
  ·have:=Int.mul_neg_of_pos_of_neg (show 0<a by omega) h4
   simp[h3,h4,this]
  ·have:=Int.mul_pos (show 0<a by omega) (show 0<b by omega)
   simp[h3,h4];omega
theorem DI.order{d e:Datum}{a b:Int}(h1:DI d a)(h2:DI e b):d.order e=some (compare a b):=by
 obtain⟨s,m,k,rfl,h1⟩:=h1
 obtain⟨t,n,l,rfl,h2⟩:=h2
 obtain⟨q,hq⟩: ∃q:Nat,min (-(k:Int)) (-(l:Int))= -(q:Int)∧k<=q∧l<=q:=⟨max k l,by omega,by omega,by omega⟩
 show some (compare (signed s m (-(k:Int) -min (-(k:Int)) (-(l:Int))).toNat) (signed t n (-(l:Int) -min (-(k:Int)) (-(l:Int))).toNat))=_
 rw[hq.1,sgU,sgU t,h1,h2,show(-(k:Int) - -(q:Int)).toNat=q-k by omega,show(-(l:Int) - -(q:Int)).toNat=q-l by omega,Int.mul_assoc,Int.mul_assoc,<-Int.pow_add,<-Int.pow_add,show k+ (q-k)=q by omega,show l+ (q-l)=q by omega]
 have hp:=jN q
 congr 1
 rw[Int.compare_eq_ite_lt,Int.compare_eq_ite_lt]
 have e1:a*2 ^ q<b*2 ^ q↔a<b:=⟨λh=>Int.lt_of_mul_lt_mul_right h oM,λh=>Int.mul_lt_mul_of_pos_right h hp⟩
 have e2:b*2 ^ q<a*2 ^ q↔b<a:=⟨λh=>Int.lt_of_mul_lt_mul_right h oM,λh=>Int.mul_lt_mul_of_pos_right h hp⟩
 simp only[e1,e2]
theorem DI.integral{d:Datum}{a:Int}(h:DI d a): ∃s,d.integral .zero = .number s a.natAbs 0∧(s=decide (a<0)∨a=0):=by
 obtain⟨s,m,k,rfl,h⟩:=h
 have hm:m=a.natAbs*2 ^ k:=by
  have h3: (signed s m 0).natAbs=m:=by rw[sg0];cases s<;>simp
  rw[h,Int.natAbs_mul,Int.natAbs_pow]at h3
  exact h3.symm
 refine⟨s,?_,?_⟩
 ·show Datum.number s (Toward.zero.cut s (m <<< (-(k:Int)).toNat) (- -(k:Int)).toNat) 0=_
  have e1: (-(k:Int)).toNat=0:=by omega
  have e2: (- -(k:Int)).toNat=k:=by omega
  rw[e1,e2,Nat.shiftLeft_zero,hm]
  congr 1
  by_cases h0:a.natAbs=0
  ·rw[h0,Nat.zero_mul];exact GO _ _ _
  ·exact o9 _ _ _ _ (by rw[rF h0];omega)
 ·by_cases h0:a=0
  ·exact .inr h0
  ·refine .inl ?_
   have hp:=jN k
   rw[sg0]at h
   cases s
   ·have:0<=a*2 ^ k:=by rw[<-h];simp
    have: ¬a<0:=λh=>by have:=Int.mul_neg_of_neg_of_pos h hp;omega
    simp[this]
   ·have h5:a*2 ^ k<=0:=by rw[<-h];simp
    have:a<0:=by
     rcases Int.lt_trichotomy a 0 with h|h|h
     ·exact h
     ·exact absurd h h0
     ·have:=Int.mul_pos h hp;omega
    simp[this]
theorem DI.toInt{d:Datum}{a:Int}(h:DI d a):d.toInt .zero=some a:=by
 obtain⟨s,h1,h2⟩:=h.integral
 unfold Datum.toInt
 rw[h1]
 show some (signed s a.natAbs 0)=some a
 rw[sg0]
 congr 1
 rcases h2 with rfl|rfl
 ·by_cases h0:a<0
  ·simp[h0];omega
  ·simp[h0];omega
 ·simp
theorem IsI.Qf{b:Nat}{a:Int}(h:IsI b a)(ha:a.natAbs<9007199254740992):IsI (double.write ((double.read b).integral .zero)) a:=by
 obtain⟨s,h1,h2⟩:=DI.integral h
 rw[h1]
 have h3:=lJ s a 0 h2 ha
 rw[Nat.pow_zero,Nat.mul_one]at h3
 exact h3
theorem GM(b:Nat):double.read (b % 9223372036854775808)=match double.read b with | .number _ m p=> .number false m p | .infinity _=> .infinity false | .nan _ t=> .nan false t:=by
 have e1:double.signWeight=9223372036854775808:=by decide
 unfold Format.read
 simp only[e1]
 have h1:b % 9223372036854775808/9223372036854775808=0:=Nat.div_eq_of_lt (Nat.mod_lt _ oM)
 have h2:b % 9223372036854775808 % 9223372036854775808=b % 9223372036854775808:=Nat.mod_mod _ _
 simp only[h1,h2]
 have h3: (0 % 2==1)=false:=rfl
 rw[h3]
 split
 ·rfl
 split
 ·rfl
 split
 ·rfl
 ·rfl
theorem IsI.abs{b:Nat}{a:Int}(h:IsI b a):IsI (b % 9223372036854775808) (a.natAbs:Int):=by
 obtain⟨s,m,k,e,h⟩:=h
 have hm:m=a.natAbs*2 ^ k:=by
  have h3: (signed s m 0).natAbs=m:=by rw[sg0];cases s<;>simp
  rw[h,Int.natAbs_mul,Int.natAbs_pow]at h3
  exact h3.symm
 refine⟨false,m,k,by rw[GM,e],?_⟩
 rw[sg0,hm]
 simp
theorem IsI.neg{b:Nat}{a:Int}(h:IsI b a)(hb:b<2 ^ 64):IsI (b ^^^ 9223372036854775808) (-a):=by
 have e1:double.signWeight=9223372036854775808:=by decide
 have hx: (b ^^^ 9223372036854775808) % 9223372036854775808=b % 9223372036854775808∧((b ^^^ 9223372036854775808) /9223372036854775808 % 2==1)= !(b/9223372036854775808 % 2==1):=by
  constructor
  ·have:=Nat.xor_mod_two_pow (a:=b) (b:=2 ^ 63) (n:=63)
   simpa using this
  ·have h5: (b ^^^ 9223372036854775808).testBit 63= !(b.testBit 63):=by
    rw[Nat.testBit_xor,show(9223372036854775808:Nat)=2 ^ 63 by rfl,Nat.testBit_two_pow_self];cases b.testBit 63<;>rfl
   rw[Nat.testBit_eq_decide_div_mod_eq,Nat.testBit_eq_decide_div_mod_eq]at h5
   have h6: ∀n:Nat,(n==1)=decide (n=1):=λn=>rfl
   rw[h6,h6]
   exact h5
 have hr:double.read (b ^^^ 9223372036854775808)= (double.read b).opposite:=by
  unfold Format.read
  simp only[e1,hx.1,hx.2]
  split
  ·rfl
  split
  ·rfl
  split
  ·rfl
  ·rfl
 unfold IsI
 rw[hr]
 exact DI.opposite h
