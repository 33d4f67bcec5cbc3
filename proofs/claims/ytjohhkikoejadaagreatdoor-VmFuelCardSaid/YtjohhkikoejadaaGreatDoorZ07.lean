/- The plain specification of chapter 5 (numbers as texts): digits by a base. No condition. -/
import Derived.Test.YtjohhkikoejadaaGreatDoorOm
import Derived.Test.YtjohhkikoejadaaGreatDoorZ03
import Derived.Lib.ItoaNum
import Derived.Laws.BitsLemmas
import Derived.Laws.BitsAllLaws
import Derived.Test.YtjohhkikoejadaaGreatDoorZ02
import Derived.Lib.LaidTab
import Derived.Lib.Case
namespace Go.Proofs.YtjohhkikoejadaaGreatDoor
set_option linter.unusedVariables false
open Go.RowKit Go.Lib
def pE(k:Nat) :UInt8:=UInt8.ofNat (if k<10 then 48+k else 55+k)
def bm(b u:Nat) :List UInt8:=
 if h:u<b∨b<2 then [pE u]else bm b (u/b) ++ [pE (u % b)]
termination_by u
decreasing_by exact Nat.div_lt_self oM oM
theorem eC{b u:Nat}(h:u<b) :bm b u = [pE u]:=by rw[bm,dif_pos (.inl h)]
theorem iN{b u:Nat}(hb:2<=b)(h:b<=u) :bm b u=bm b (u/b) ++ [pE (u % b)]:=by rw[bm,dif_neg oM]
theorem AV(b u:Nat) :bm b u≠[]:=by
 rw[bm]
 split<;>simp
theorem oE{b:Nat}(hb:2<=b) : ∀(n u:Nat),u<b ^ (n+1)->(bm b u).length<=n+1
 | 0,u,h=>by rw[eC (by simpa using h)];simp
 | n+1,u,h=>by
   rcases Nat.lt_or_ge u b with h1|h1
   ·rw[eC h1];simp
   ·rw[iN hb h1,List.length_append]
    have:u/b<b ^ (n+1):=by
     rw[Nat.div_lt_iff_lt_mul oM]
     rw[Nat.pow_succ]at h
     exact h
    have:=oE hb n (u/b) this
    simp
    omega
theorem fB{b u:Nat}(hb:2<=b)(hu:u<18446744073709551616) : (bm b u).length<=64:=by
 refine oE hb 63 u ?_
 have h1: (2:Nat) ^ 64<=b ^ 64:=Nat.pow_le_pow_left hb 64
 have h2: (2:Nat) ^ 64=18446744073709551616:=by decide
 show u<b ^ 64
 omega
theorem wB{b u:Nat}(hb:2<=b)(s r:List UInt8)(h:bm b u++s=r) : (u/b=0->pE (u % b) ::s=r)∧(0<u/b->bm b (u/b) ++pE (u % b) ::s=r):=by
 constructor
 ·intro h0
  have hlt:u<b:=by
   rcases Nat.lt_or_ge u b with h1|h1
   ·exact h1
   ·have:=Nat.div_pos h1 oM;omega
  rw[eC hlt]at h
  rw[Nat.mod_eq_of_lt hlt]
  exact h
 ·intro h0
  have hge:b<=u:=by
   rcases Nat.lt_or_ge u b with h1|h1
   ·rw[Nat.div_eq_of_lt h1]at h0;omega
   ·exact h1
  rw[iN hb hge]at h
  simpa using h
def ky(n:Int) :Nat:=(n % 18446744073709551616).toNat
def oD(n:Int)(b:Nat) :List UInt8:=bm b (ky n)
def nK(n:Int)(b:Nat) :List UInt8:=if 0<=n then bm b n.toNat else 45::bm b n.natAbs
def Lk(c:UInt8) :Nat:=
 if 48<=c.toNat∧c.toNat<=57 then c.toNat-48 else if 65<=c.toNat∧c.toNat<=90 then c.toNat-55
 else if 97<=c.toNat∧c.toNat<=122 then c.toNat-87 else 36
theorem wH{k:Nat}(h:k<36) : (pE k).toNat=if k<10 then 48+k else 55+k:=by
 unfold pE
 split<;>simp[UInt8.toNat_ofNat'] <;>omega
theorem DY{k:Nat}(h:k<36) :Lk (pE k) =k:=by
 have:=wH h
 unfold Lk
 split at this<;>repeat' split
 all_goals omega
theorem Ay{b:Nat}(hb:2<=b)(hb36:b<=36)(u:Nat) : ∀c∈bm b u,∃k,k<b∧c=pE k:=by
 induction u using Nat.strongRecOn with
 | ind u ih=>
   by_cases h:u<b
   ·rw[eC h]
    intro c hc
    exact⟨u,h,by simpa using hc⟩
   ·rw[iN hb oM]
    intro c hc
    rcases List.mem_append.1 hc with hc|hc
    ·exact ih (u/b) (Nat.div_lt_self oM oM) c hc
    ·exact⟨u % b,Nat.mod_lt _ oM,by simpa using hc⟩
theorem yG{b:Nat}(hb:2<=b)(hb36:b<=36)(u:Nat) : ∀c∈bm b u,Lk c<b∧48<=c.toNat:=by
 intro c hc
 obtain⟨k,hk,rfl⟩:=Ay hb hb36 u c hc
 rw[DY oM,wH oM]
 refine⟨hk,?_⟩
 split<;>omega
def iS(l:List UInt8) :Prop:= ∀c∈l,48<=c.toNat
theorem iS.head{l:List UInt8}(h:iS l)(x:UInt8)(hx:x.toNat<48) :l.head? ≠some x:=by
 cases l with
 | nil=>simp
 | cons c l=>
   intro e
   have:c=x:=by simpa using e
   have:=h c (by simp)
   subst_vars
   omega
theorem iS.append{l m:List UInt8}(h:iS l)(k:iS m) :iS (l++m):=λc hc=>by
 rcases List.mem_append.1 hc with hc|hc
 ·exact h c hc
 ·exact k c hc
theorem iS.digits{b:Nat}(hb:2<=b)(hb36:b<=36)(u:Nat) :iS (bm b u):=λc hc=>(yG hb hb36 _ c hc).2
theorem iS.Gy(k:Nat) :iS (List.replicate k 48):=λc hc=>by
 have:c=48:=(List.mem_replicate.1 hc).2
 subst this
 decide
theorem uB{b:Nat}(hb:2<=b){n:Int}(hn : -9223372036854775808<=n∧n<=9223372036854775807) : (nK n b).length<=65:=by
 unfold nK
 split
 ·have:=fB hb (show n.toNat<18446744073709551616 by omega);omega
 ·have:=fB hb (show n.natAbs<18446744073709551616 by omega);simp;omega
def leN:List UInt8->Nat
 | []=>0
 | x::l=>x.toNat+256*leN l
def ofB(l:List UInt8) :Int:=wrap64 (leN l:Nat)
def kv(v:Int)(i:Nat) :UInt8:=UInt8.ofNat ((v/ (256:Int) ^ i) % 256).toNat
def toB(v:Int) :List UInt8:=(List.range 8).map (kv v)
theorem aJ(v:Int) : (toB v).length=8:=by simp[toB]
theorem Ak : ∀l:List UInt8,leN l<256 ^ l.length
 | []=>by simp[leN]
 | x::l=>by
   have h1:=Ak l
   have h2:x.toNat<256:=x.toNat_lt
   simp only[leN,List.length_cons,Nat.pow_succ]
   omega
theorem lT : ∀l m:List UInt8,leN (l++m) =leN l+256 ^ l.length*leN m
 | [],m=>by simp[leN]
 | x::l,m=>by
   simp only[List.cons_append,leN,lT l m,List.length_cons,Nat.pow_succ]
   rw[Nat.mul_add,<-Nat.mul_assoc,Nat.mul_comm 256 (256 ^ l.length),Nat.add_assoc]
def cK(b:List UInt8)(k:Nat)(l:List UInt8) :List UInt8:=b.take k++ (l++b.drop (k+l.length))
theorem kJ(b:List UInt8)(k:Nat)(l:List UInt8)(h:k+l.length<=b.length) : (cK b k l).length=b.length:=by
 unfold cK
 simp
 omega
structure Img where
 k:Nat
 s:Nat
 u:Nat
 d:Nat
 r:Nat
 b:List UInt8
 op:Bool
 cl:Bool
namespace Img
variable (S:Img)
def beg:Nat->Nat
 | 2=>S.k
 | 3=>S.k+S.s
 | 4=>S.k+S.s+S.u
 | 5=>S.k+S.s+S.u+S.d
 | 6=>S.k+S.s+S.u+S.d+S.r
 | _=>0
structure Ok:Prop where
 len:S.b.length=S.beg 6
 small:S.beg 6<=143360
def region(a:Int) :Nat:=
 if a<0 then 0 else if a<S.beg 2 then 1 else if a<S.beg 3 then 2 else if a<S.beg 4 then 3 else if a<S.beg 5 then 4 else if a<S.beg 6 then 5 else 0
def may(m:Int)(r:Nat) :Int:=
 if r<1∨5<r∨m<0∨2<m then 0
 else if m=0 then(if r=1∧S.cl=true then 1 else 3)
 else if r=1∨(r=2∧(m=2∨S.op=true))then 1
 else if r=3 then 3 else 0
def lets(m:Int)(r:Nat)(w:Bool) :Bool:=if w then S.may m r==3 else S.may m r != 0
def aS(m a:Int)(n:Nat)(w:Bool) :Bool:=n==0|| (S.region a != 0&&decide ((n:Int)<=S.beg (S.region a+1) -a) &&S.lets m (S.region a) w)
def bytes(a:Int)(n:Nat) :List UInt8:=(S.b.drop a.toNat).take n
def az(m a:Int)(w:Bool) :Int:=if a % 8≠0 then 6 else if S.aS m a 8 w=true then 0 else 5
def aR(m a:Int) :Int:=if S.az m a false=0 then ofB (S.bytes a 8)else 0
def put(a:Nat)(l:List UInt8) :Img:={ S with b:=cK S.b a l }
def setCell(m a v:Int) :Img:=if S.az m a true=0 then S.put a.toNat (toB v)else S
def cZ(m a n:Int) :Int:=if n<0 then 19 else if S.aS m a n.toNat false=true then 0 else 5
def text(m a n:Int) :ByteArray:=if S.cZ m a n=0 then⟨(S.bytes a n.toNat).toArray⟩else⟨#[]⟩
def ud:Int:=if S.cl=true then 5 else 0
def opened:Img:=if S.cl=true then S else { S with op:=true }
def eA:Img:={ S with cl:=true }
def part(r:Nat) :ByteArray:=if 1<=r∧r<=5 then⟨((S.b.drop (S.beg r)).take (S.beg (r+1) -S.beg r)).toArray⟩else⟨#[]⟩
theorem dm{i j:Nat}(hi:1<=i)(hij:i<=j)(hj:j<=6) :S.beg i<=S.beg j:=by
 have h1:i=1∨i=2∨i=3∨i=4∨i=5∨i=6:=by omega
 have h2:j=1∨j=2∨j=3∨j=4∨j=5∨j=6:=by omega
 rcases h1 with rfl|rfl|rfl|rfl|rfl|rfl<;>rcases h2 with rfl|rfl|rfl|rfl|rfl|rfl<;>simp[beg] <;>omega
theorem tQ(a:Int) :S.region a<=5:=by unfold region;repeat' split
                                     all_goals omega
theorem eu{j:Nat}{a:Int}(h0:0<=a)(h1:1<=j)(h5:j<=5)(hlo: (S.beg j:Int)<=a)(hhi:a<S.beg (j+1)) :S.region a=j:=by
 have hj:j=1∨j=2∨j=3∨j=4∨j=5:=by omega
 unfold region
 rcases hj with rfl|rfl|rfl|rfl|rfl<;>simp only[beg]at * <;> repeat' split
 all_goals omega
theorem iq{a:Int}(h:a<0∨(S.beg 6:Int)<=a) :S.region a=0:=by
 unfold region
 simp only[beg]at *
 repeat' split
 all_goals omega
theorem oa{a:Int}(h:S.region a≠0) :0<=a∧(S.beg (S.region a) :Int)<=a∧a<S.beg (S.region a+1)∧(S.beg (S.region a+1))<=S.beg 6∧1<=S.region a∧S.region a<=5:=by
 by_cases h0:a<0
 ·exact absurd (S.iq (.inl h0)) h
 by_cases h6: (S.beg 6:Int)<=a
 ·exact absurd (S.iq (.inr h6)) h
 have hj : ∃j,1<=j∧j<=5∧(S.beg j:Int)<=a∧a<S.beg (j+1):=by
  by_cases h2:a<S.beg 2
  ·exact⟨1,by omega,by omega,by simp only[beg];omega,h2⟩
  by_cases h3:a<S.beg 3
  ·exact⟨2,by omega,by omega,by omega,h3⟩
  by_cases h4:a<S.beg 4
  ·exact⟨3,by omega,by omega,by omega,h4⟩
  by_cases h5:a<S.beg 5
  ·exact⟨4,by omega,by omega,by omega,h5⟩
  ·exact⟨5,by omega,by omega,by omega,by have:S.beg (5+1) =S.beg 6:=rfl;omega⟩
 obtain⟨j,h1,h5,hlo,hhi⟩:=hj
 rw[S.eu oM h1 h5 hlo hhi]
 exact⟨by omega,hlo,hhi,S.dm oM oM oM,h1,h5⟩
theorem mh{m a:Int}{n:Nat}{w:Bool}(h:S.aS m a n w=true)(hn:n≠0) :0<=a∧a+n<=S.beg 6:=by
 unfold aS at h
 simp[hn]at h
 have:=S.oa h.1.1
 omega
end Img
namespace Vm
def ja(S:Img)(fr i:Nat) :Int:=S.aR 0 ((fr:Int) +8* (i:Int))
def sset(S:Img)(fr i:Nat)(v:Int) :Img:=S.setCell 0 ((fr:Int) +8* (i:Int)) v
def bJ(S:Img)(fr d:Nat) :List Int->Img
 | []=>S
 | x::l=>bJ (sset S fr d x) fr (d+1) l
theorem qm(fr:Nat)(x:Int) : ∀(l:List Int) (S:Img) (d:Nat),bJ S fr d (l ++ [x]) =sset (bJ S fr d l) fr (d+l.length) x
 | [],S,d=>rfl
 | y::l,S,d=>by
   show bJ (sset S fr d y) fr (d+1) (l ++ [x]) =sset (bJ (sset S fr d y) fr (d+1) l) fr (d+ (l.length+1)) x
   rw[qm fr x l,show d+1+l.length=d+ (l.length+1)by omega]
def jY(S:Img)(fr d:Nat)(n:Int) :Int:=if 0<=n∧n<d then ja S fr (d-1-n.toNat)else 0
structure Alike(S S':Img) :Prop where
 k:S'.k=S.k
 s:S'.s=S.s
 u:S'.u=S.u
 d:S'.d=S.d
 r:S'.r=S.r
 op:S'.op=S.op
 cl:S'.cl=S.cl
theorem Alike.refl(S:Img) :Alike S S:=⟨rfl,rfl,rfl,rfl,rfl,rfl,rfl⟩
theorem Alike.trans{S T U:Img}(h:Alike S T)(g:Alike T U) :Alike S U:=
 ⟨g.k.trans h.k,g.s.trans h.s,g.u.trans h.u,g.d.trans h.d,g.r.trans h.r,g.op.trans h.op,g.cl.trans h.cl⟩
theorem Alike.symm{S T:Img}(h:Alike S T) :Alike T S:=⟨h.k.symm,h.s.symm,h.u.symm,h.d.symm,h.r.symm,h.op.symm,h.cl.symm⟩
theorem Alike.put(S:Img)(a:Nat)(l:List UInt8) :Alike S (S.put a l):=⟨rfl,rfl,rfl,rfl,rfl,rfl,rfl⟩
theorem Alike.setCell(S:Img)(m a v:Int) :Alike S (S.setCell m a v):=by
 unfold Img.setCell
 split
 ·exact Alike.put _ _ _
 ·exact Alike.refl S
theorem Alike.beg{S T:Img}(h:Alike S T)(i:Nat) :T.beg i=S.beg i:=by
 unfold Img.beg
 rw[h.k,h.s,h.u,h.d,h.r]
theorem Alike.sset(S:Img)(fr i:Nat)(v:Int) :Alike S (sset S fr i v):=Alike.setCell _ _ _ _
theorem Alike.bJ(fr:Nat) : ∀(l:List Int) (S:Img) (d:Nat),Alike S (bJ S fr d l)
 | [],S,d=>Alike.refl S
 | x::l,S,d=>(Alike.sset S fr d x).trans (Alike.bJ fr l _ _)
theorem kh{α:Type}(n:Nat)(a:α) :List.replicate n a ++ [a] =List.replicate (n+1) a:=by rw[List.replicate_succ']
structure Pl where
 fr:Nat
 rm:Nat
 un:Int
 ov:Int
structure Pl.Ok(p:Pl) :Prop where
 fr:p.fr<=143360
 rm:p.rm<=512
end Vm
namespace Img
variable (S:Img)
def bR(m a:Int)(w:Bool) :Int:=if S.aS m a 1 w=true then 0 else 5
def gU(m a:Int) :UInt8:=if S.aS m a 1 false=true then S.b.getD a.toNat 0 else 0
def aV(m a:Int)(b:UInt8) :Img:=if S.aS m a 1 true=true then S.put a.toNat [b]else S
end Img
theorem j5(b:List UInt8)(k:Nat)(l m:List UInt8)(h:k+l.length<=b.length) :cK (cK b k l) (k+l.length) m=cK b k (l++m):=by
 unfold cK
 have h1: (b.take k).length=k:=by simp;omega
 have e1: (b.take k++ (l++b.drop (k+l.length))).take (k+l.length) =b.take k++l:=by
  rw[<-List.append_assoc,List.take_append_of_le_length (by simp;omega),List.take_of_length_le (by simp;omega)]
 have e2: (b.take k++ (l++b.drop (k+l.length))).drop (k+l.length+m.length) =b.drop (k+ (l++m).length):=by
  rw[<-List.append_assoc,List.drop_append,List.drop_eq_nil_of_le (by simp;omega),List.nil_append,List.drop_drop]
  congr 1
  simp
  omega
 rw[e1,e2]
 simp[List.append_assoc]
theorem rz(b:List UInt8)(k:Nat) :cK b k [] =b:=by
 unfold cK
 simp
theorem Img.gG(S:Img)(k:Nat)(l m:List UInt8)(h:k+l.length<=S.b.length) : (S.put k l).put (k+l.length) m=S.put k (l++m):=by
 unfold Img.put
 rw[j5 _ _ _ _ h]
theorem Img.fP(S:Img)(k:Nat) :S.put k [] =S:=by
 unfold Img.put
 rw[rz]
namespace Vm
def up(n:Nat) :Nat:=(n+7) /8*8
def eb(c:UInt8) :Bool:=decide (32<c.toNat)
structure Dc where
 rg:Nat
 h:Nat
 l:Nat
namespace Dc
variable (S:Img)(D:Dc)
def fr:Nat:=S.beg D.rg+8
def lim:Nat:=S.beg (D.rg+1)
def shut:Bool:=S.cl&&D.rg==1
structure Ok:Prop where
 rg:D.rg=1∨D.rg=3
 lo:D.fr S<=D.h
 hi:D.h<=D.lim S
 l:D.l=0∨(D.l % 8=0∧D.fr S<=D.l∧D.l+16<=D.lim S)
 al:D.lim S % 8=0∧S.beg D.rg % 8=0
 room:S.beg D.rg+256<=D.lim S
def bo:Int:=if D.lim S<D.h+8 then 9 else if D.h % 8≠0 then 6 else if D.shut S=true then 5 else 0
def bp(v:Int) :Img:=if D.bo S=0 then S.put D.h (toB v)else S
def bq:Dc:=if D.bo S=0 then { D with h:=D.h+8 } else D
def cF:Int:=if D.lim S<=D.h then 9 else if D.shut S=true then 5 else 0
def di(b:UInt8) :Img:=if D.cF S=0 then S.put D.h [b]else S
def dR:Dc:=if D.cF S=0 then { D with h:=D.h+1 } else D
def fm:Int:=if D.h % 8≠0∧D.shut S=true then 5 else 0
def fp:Img:=if D.fm S=0 then S.put D.h (List.replicate (up D.h-D.h) 0)else S
def gZ:Dc:=if D.fm S=0 then { D with h:=up D.h } else D
def iy(n:Int) :Int:=if n< (D.fr S:Int) -D.h∨(D.lim S:Int) -D.h<n then 9 else 0
def ie(n:Int) :Dc:=if D.iy S n=0 then { D with h:=((D.h:Int) +n).toNat } else D
def dJ(n:List UInt8) :Bool:=decide (1<=n.length) &&decide (n.length<=31) &&n.all eb
def bZ(n:List UInt8) :Int:=
 if dJ n=false then 15 else if D.lim S<up D.h+ (8+up (1+n.length))then 9 else if D.shut S=true then 5 else 0
def fi(n:List UInt8) :List UInt8:=
 List.replicate (up D.h-D.h) 0++ (toB D.l++ (UInt8.ofNat (n.length+32) :: (n++List.replicate (up (1+n.length) - (1+n.length)) 0)))
def cB(n:List UInt8) :Img:=if D.bZ S n=0 then S.put D.h (D.fi n)else S
def cz(n:List UInt8) :Dc:=if D.bZ S n=0 then { D with h:=up D.h+ (8+up (1+n.length)),l:=up D.h } else D
def iD(n:List UInt8) :Int:=if D.bZ S n=0 then(up D.h+ (8+up (1+n.length)) :Nat)else 0
def ct(off on:UInt8) :Img:=if D.l=0∨D.shut S=true then S else S.put (D.l+8) [S.b.getD (D.l+8) 0 &&& ~~~off ||| on]
end Dc
structure Wd where
 name:List UInt8
 head:Nat
 xt:Nat
 imm:Bool
 hid:Bool
 inl:Bool
def cL(S:Img)(D:Dc)(a:Int) :Option (Wd×Int):=
 if a % 8≠0∨a<D.fr S∨(D.lim S:Int) <a+16 then none
 else
  let p:=a.toNat
  let b:=S.b.getD (p+8) 0
  let n:=b.toNat % 32
  if n=0∨D.lim S<up (p+9+n)then none
  else some (⟨(S.b.drop (p+9)).take n,p,up (p+9+n),b.toNat/64 % 2==1,b.toNat/32 % 2==1,b.toNat/128==1⟩,ofB ((S.b.drop p).take 8))
def wordsF(S:Img)(D:Dc) :Nat->Int->List Wd
 | 0,_=>[]
 | k+1,a=>
   match cL S D a with
   | none=>[]
   | some (w,next)=>if a<=next then [w]else w::wordsF S D k next
def words(S:Img)(D:Dc) :List Wd:=wordsF S D (D.l+1) D.l
def sI(c:UInt8) :UInt8:=if 65<=c.toNat∧c.toNat<=90 then c+32 else c
def xF(l:List UInt8) :List UInt8:=l.map sI
def j9(a b:List UInt8) :Bool:=decide (xF a=xF b)
def nf(S:Img)(D:Dc)(n:List UInt8) :Option Wd:=(words S D).find? λw=> !w.hid&&j9 w.name n
theorem ed(n:Nat) :n<=up n∧up n<=n+7∧up n % 8=0:=by unfold up;omega
theorem NX(n:Nat)(h:n % 8=0) :up n=n:=by unfold up;omega
end Vm
theorem Ew(b l:List UInt8)(k i:Nat)(h:k+l.length<=b.length) : (cK b k l).getD i 0=if k<=i∧i<k+l.length then l.getD (i-k) 0 else b.getD i 0:=by
 unfold cK
 rw[List.getD_eq_getElem?_getD,List.getElem?_append]
 have h1: (b.take k).length=k:=by simp;omega
 rw[h1]
 by_cases hik:i<k
 ·rw[if_pos hik,if_neg oM,List.getElem?_take,if_pos hik,List.getD_eq_getElem?_getD]
 rw[if_neg hik,List.getElem?_append]
 by_cases hl:i-k<l.length
 ·rw[if_pos hl,if_pos oM,List.getD_eq_getElem?_getD]
 ·rw[if_neg hl,if_neg oM,List.getElem?_drop,List.getD_eq_getElem?_getD]
  congr 2
  omega
theorem uv(b c:List UInt8)(i j n:Nat)(hi:i+n<=b.length)(hj:j+n<=c.length)(h : ∀k,k<n->b.getD (i+k) 0=c.getD (j+k) 0) : (b.drop i).take n= (c.drop j).take n:=by
 apply List.ext_getElem
 ·simp;omega
 ·intro k h1 h2
  have hk:k<n:=by simp at h1;omega
  have e:=h k hk
  rw[List.getD_eq_getElem?_getD,List.getD_eq_getElem?_getD,List.getElem?_eq_getElem oM,List.getElem?_eq_getElem oM]at e
  simpa using e
namespace Img
variable (S:Img)
theorem jw(k:Nat)(l:List UInt8)(h:k+l.length<=S.b.length) : (S.put k l).b.length=S.b.length:=kJ _ _ _ h
theorem ir(k i:Nat)(l:List UInt8)(h:k+l.length<=S.b.length) : (S.put k l).b.getD i 0=if k<=i∧i<k+l.length then l.getD (i-k) 0 else S.b.getD i 0:=Ew _ _ _ _ h
theorem lK(k a n:Nat)(l:List UInt8)(h:k+l.length<=S.b.length)(ha:a+n<=S.b.length)(hf:a+n<=k∨k+l.length<=a) : (S.put k l).bytes (a:Int) n=S.bytes (a:Int) n:=by
 unfold Img.bytes
 refine uv _ _ _ _ _ (by rw[S.jw k l h];simpa using ha) (by simpa using ha) λj hj=> ?_
 rw[S.ir k _ l h,if_neg (by simp;omega)]
theorem mX(k j n:Nat)(l:List UInt8)(h:k+l.length<=S.b.length)(hj:j+n<=l.length) : (S.put k l).bytes ((k+j:Nat) :Int) n= (l.drop j).take n:=by
 unfold Img.bytes
 refine uv _ _ _ _ _ (by rw[S.jw k l h];simp;omega) hj λi hi=> ?_
 rw[S.ir k _ l h,if_pos (by simp;omega)]
 congr 1
 simp
 omega
end Img
theorem yZ(v m:Int)(hm:0<m) :v % (m*256) =v % m+m* (v/m % 256):=by
 have h1:v=m* (v/m) +v % m:=(Int.mul_ediv_add_emod v m).symm
 have h2:v/m=256* (v/m/256) +v/m % 256:=(Int.mul_ediv_add_emod (v/m) 256).symm
 have h3:=Int.emod_nonneg v (show m≠0 by omega)
 have h4:=Int.emod_lt_of_pos v hm
 generalize v % m=r at *
 generalize v/m=q at *
 have h5:0<=q % 256∧q % 256<256:=by omega
 generalize q % 256=p at *
 generalize q/256=t at *
 have h6:m*0<=m*p:=Int.mul_le_mul_of_nonneg_left h5.1 oM
 have h7:m* (p+1)<=m*256:=Int.mul_le_mul_of_nonneg_left oM oM
 have e:v= (r+m*p) + (m*256)*t:=by
  rw[h1,h2,Int.mul_add,Int.mul_assoc]
  omega
 rw[Int.mul_add,Int.mul_one]at h7
 rw[e,Int.add_mul_emod_self_left,Int.emod_eq_of_lt oM oM]
theorem JG(v:Int)(n:Nat) : (leN ((List.range n).map (kv v)) :Int) =v % (256:Int) ^ n:=by
 induction n with
 | zero=>simp[leN]
 | succ n ih=>
   have hp: (0:Int) <256 ^ n:=Int.pow_pos oM
   have hb: ((kv v n).toNat:Int) =v/ (256:Int) ^ n % 256:=by
    unfold kv
    have h1:0<=v/ (256:Int) ^ n % 256:=Int.emod_nonneg _ oM
    have h2:v/ (256:Int) ^ n % 256<256:=Int.emod_lt_of_pos _ oM
    rw[UInt8.toNat_ofNat',Nat.mod_eq_of_lt oM]
    omega
   rw[List.range_succ,List.map_append,lT,Int.pow_succ,yZ v _ hp,<-hb,<-ih]
   simp[leN]
theorem IU(v:Int) : (leN (toB v) :Int) =v % 18446744073709551616:=by
 have h:=JG v 8
 rw[show((256:Int) ^ 8) =18446744073709551616 from rfl]at h
 exact h
theorem B8(v:Int)(h : -9223372036854775808<=v∧v<=9223372036854775807) :ofB (toB v) =v:=by
 unfold ofB
 rw[IU]
 unfold wrap64
 omega
namespace Vm
theorem Alike.az{S T:Img}(h:Alike S T)(m a:Int)(w:Bool) :T.az m a w=S.az m a w:=by
 have hr:T.region a=S.region a:=by
  unfold Img.region
  rw[h.beg,h.beg,h.beg,h.beg,h.beg]
 have hm : ∀r,T.may m r=S.may m r:=λr=>by
  unfold Img.may
  rw[h.op,h.cl]
 unfold Img.az Img.aS Img.lets
 rw[hr,hm,h.beg]
theorem Alike.aS{S T:Img}(h:Alike S T)(m a:Int)(n:Nat)(w:Bool) :T.aS m a n w=S.aS m a n w:=by
 have hr:T.region a=S.region a:=by
  unfold Img.region
  rw[h.beg,h.beg,h.beg,h.beg,h.beg]
 have hm : ∀r,T.may m r=S.may m r:=λr=>by
  unfold Img.may
  rw[h.op,h.cl]
 unfold Img.aS Img.lets
 rw[hr,hm,h.beg]
theorem lH(S:Img)(hS:S.Ok)(m a:Int)(k:Nat)(l:List UInt8)(h:k+l.length<=S.beg 6)(hf:a+8<=k∨((k+l.length:Nat) :Int)<=a) : (S.put k l).aR m a=S.aR m a:=by
 unfold Img.aR
 rw[(Alike.put S k l).az]
 by_cases hc:S.az m a false=0
 ·rw[if_pos hc,if_pos hc]
  have hin:S.aS m a 8 false=true:=by
   unfold Img.az at hc
   repeat' split at hc
   all_goals first|assumption|omega
  obtain⟨h0,h1⟩:=S.mh hin oM
  obtain⟨n,rfl⟩ : ∃n:Nat,a=n:=⟨a.toNat,by omega⟩
  rw[S.lK k n 8 l (by rw[hS.len];exact h) (by rw[hS.len];omega) oM]
 ·rw[if_neg hc,if_neg hc]
theorem vS(S:Img)(hS:S.Ok)(m:Int)(k j:Nat)(l:List UInt8)(h:k+l.length<=S.beg 6)(hj:j+8<=l.length)(hc:S.az m ((k+j:Nat) :Int) false=0) : (S.put k l).aR m ((k+j:Nat) :Int) =ofB ((l.drop j).take 8):=by
 unfold Img.aR
 rw[(Alike.put S k l).az,if_pos hc,S.mX k j 8 l (by rw[hS.len];exact h) hj]
theorem cV{S:Img}(hS:S.Ok)(k:Nat)(l:List UInt8)(h:k+l.length<=S.beg 6) : (S.put k l).Ok:=by
 have hb : ∀i,(S.put k l).beg i=S.beg i:=λi=>(Alike.put S k l).beg i
 refine⟨?_,?_⟩
 ·rw[hb,S.jw k l (by rw[hS.len];exact h)]
  exact hS.len
 ·rw[hb]
  exact hS.small
namespace Dc
variable {S T:Img}{D:Dc}
theorem xd(h:Alike S T) :D.fr T=D.fr S:=by unfold fr;rw[h.beg]
theorem iW(h:Alike S T) :D.lim T=D.lim S:=by unfold lim;rw[h.beg]
theorem qs(h:Alike S T) :D.shut T=D.shut S:=by unfold shut;rw[h.cl]
theorem Ok.alike(h:D.Ok S)(ha:Alike S T) :D.Ok T:=
 ⟨h.rg,by rw[xd ha];exact h.lo,by rw[iW ha];exact h.hi,by rw[xd ha,iW ha];exact h.l,by rw[iW ha,ha.beg];exact h.al,by rw[iW ha,ha.beg];exact h.room⟩
theorem Ok.all(h:D.Ok S) :D.lim S<=S.beg 6:=by
 unfold lim
 rcases h.rg with e|e<;>rw[e] <;>exact S.dm oM oM oM
theorem Ok.le(h:D.Ok S)(hS:S.Ok) :D.lim S<=143360:=Nat.le_trans h.all hS.small
theorem Ok.with(h:D.Ok S)(n m:Nat)(h1:D.fr S<=n)(h2:n<=D.lim S)(h3:m=0∨(m % 8=0∧D.fr S<=m∧m+16<=D.lim S)) : ({ D with h:=n,l:=m }:Dc).Ok S:=⟨h.rg,h1,h2,h3,h.al,h.room⟩
theorem Ok.region(h:D.Ok S)(a:Nat)(h1:D.fr S<=a)(h2:a<D.lim S) :S.region (a:Int) =D.rg:=by
 have h3:S.beg D.rg<=a:=by unfold fr at h1;omega
 refine S.eu oM ?_ ?_ oM (by unfold lim at h2;omega)
 ·rcases h.rg with e|e<;>omega
 ·rcases h.rg with e|e<;>omega
theorem Ok.may(h:D.Ok S) :S.may 0 D.rg=if D.shut S=true then 1 else 3:=by
 unfold Img.may shut
 rcases h.rg with e|e<;>rw[e] <;>simp
theorem Ok.aS(h:D.Ok S)(a n:Nat)(h1:D.fr S<=a)(h2:a+n<=D.lim S)(hn:n≠0)(w:Bool) :S.aS 0 (a:Int) n w= (!w|| !D.shut S):=by
 have hr:=h.region a h1 oM
 unfold Img.aS Img.lets
 rw[hr,h.may]
 have h3: (D.rg != 0) =true:=by rcases h.rg with e|e<;>rw[e] <;>rfl
 have h4:decide ((n:Int)<=(S.beg (D.rg+1) :Int) - (a:Int)) =true:=decide_eq_true (by unfold lim at h2;omega)
 have h5: (n==0) =false:=by simpa using hn
 rw[h3,h4,h5]
 cases w<;>cases D.shut S<;>simp
theorem Ok.Nc(h:D.Ok S)(a:Nat)(h1:D.fr S<=a)(h2:a+8<=D.lim S) :S.az 0 (a:Int) true=if a % 8≠0 then 6 else if D.shut S=true then 5 else 0:=by
 unfold Img.az
 rw[h.aS a 8 h1 h2 oM true]
 have e: ((a:Int) % 8≠0)↔a % 8≠0:=by omega
 simp only[e]
 cases D.shut S<;>simp
theorem Ok.KL(h:D.Ok S)(a:Nat)(h1:D.fr S<=a)(h2:a+1<=D.lim S) :S.bR 0 (a:Int) true=if D.shut S=true then 5 else 0:=by
 unfold Img.bR
 rw[h.aS a 1 h1 h2 oM true]
 cases D.shut S<;>simp
theorem Ok.KI(h:D.Ok S)(a:Nat)(h1:D.fr S<=a)(h2:a+1<=D.lim S) :S.bR 0 (a:Int) false=0∧S.gU 0 (a:Int) =S.b.getD a 0:=by
 unfold Img.bR Img.gU
 rw[h.aS a 1 h1 h2 oM false]
 simp
theorem qo(h:D.bo S=0) :D.h+8<=D.lim S∧D.h % 8=0∧D.shut S=false:=by
 unfold bo at h
 by_cases h1:D.lim S<D.h+8
 ·rw[if_pos h1]at h;cases h
 rw[if_neg h1]at h
 by_cases h2:D.h % 8≠0
 ·rw[if_pos h2]at h;cases h
 rw[if_neg h2]at h
 by_cases h3:D.shut S=true
 ·rw[if_pos h3]at h;cases h
 exact⟨by omega,by omega,by simpa using h3⟩
theorem kg(D:Dc)(S:Img)(v:Int) :Alike S (D.bp S v):=by
 unfold bp
 split
 ·exact Alike.put _ _ _
 ·exact Alike.refl _
theorem rn(hS:S.Ok)(h:D.Ok S)(v:Int) : (D.bp S v).Ok∧(D.bq S).Ok (D.bp S v):=by
 refine⟨?_,Ok.alike ?_ (kg D S v)⟩
 ·unfold bp
  split
  ·rename_i h1
   have:=qo h1
   exact cV hS _ _ (by rw[aJ];have:=h.all;omega)
  ·exact hS
 ·unfold bq
  split
  ·rename_i h1
   have:=qo h1
   exact h.with _ _ (by have:=h.lo;omega) oM h.l
  ·exact h
theorem oY(h:D.cF S=0) :D.h+1<=D.lim S∧D.shut S=false:=by
 unfold cF at h
 by_cases h1:D.lim S<=D.h
 ·rw[if_pos h1]at h;cases h
 rw[if_neg h1]at h
 by_cases h3:D.shut S=true
 ·rw[if_pos h3]at h;cases h
 exact⟨by omega,by simpa using h3⟩
theorem mu(D:Dc)(S:Img)(b:UInt8) :Alike S (D.di S b):=by
 unfold di
 split
 ·exact Alike.put _ _ _
 ·exact Alike.refl _
theorem uk(hS:S.Ok)(h:D.Ok S)(b:UInt8) : (D.di S b).Ok∧(D.dR S).Ok (D.di S b):=by
 refine⟨?_,Ok.alike ?_ (mu D S b)⟩
 ·unfold di
  split
  ·rename_i h1
   have:=oY h1
   exact cV hS _ _ (by have:=h.all;simp;omega)
  ·exact hS
 ·unfold dR
  split
  ·rename_i h1
   have:=oY h1
   exact h.with _ _ (by have:=h.lo;omega) oM h.l
  ·exact h
theorem Ok.up(h:D.Ok S) :Vm.up D.h<=D.lim S:=by
 have h1:=h.hi
 have h2:=h.al.1
 unfold Vm.up
 omega
theorem oH(D:Dc)(S:Img) :Alike S (D.fp S):=by
 unfold fp
 split
 ·exact Alike.put _ _ _
 ·exact Alike.refl _
theorem xw(hS:S.Ok)(h:D.Ok S) : (D.fp S).Ok∧(D.gZ S).Ok (D.fp S):=by
 have h1:=h.up
 have h2:=ed D.h
 refine⟨?_,Ok.alike ?_ (oH D S)⟩
 ·unfold fp
  split
  ·exact cV hS _ _ (by have:=h.all;simp;omega)
  ·exact hS
 ·unfold gZ
  split
  ·exact h.with _ _ (by have:=h.lo;omega) h1 h.l
  ·exact h
theorem HI(h:D.Ok S)(n:Int) : (D.ie S n).Ok S:=by
 unfold ie iy
 by_cases hc:n< (D.fr S:Int) -D.h∨(D.lim S:Int) -D.h<n
 ·rw[if_pos hc,if_neg oM]
  exact h
 ·rw[if_neg hc,if_pos rfl]
  have:=h.lo
  exact h.with _ _ oM oM h.l
theorem oR{n:List UInt8}(h:D.bZ S n=0) :dJ n=true∧Vm.up D.h+ (8+Vm.up (1+n.length))<=D.lim S∧D.shut S=false:=by
 unfold bZ at h
 by_cases h1:dJ n=false
 ·rw[if_pos h1]at h;cases h
 rw[if_neg h1]at h
 by_cases h2:D.lim S<Vm.up D.h+ (8+Vm.up (1+n.length))
 ·rw[if_pos h2]at h;cases h
 rw[if_neg h2]at h
 by_cases h3:D.shut S=true
 ·rw[if_pos h3]at h;cases h
 exact⟨by simpa using h1,by omega,by simpa using h3⟩
theorem vZ{n:List UInt8}(h:dJ n=true) :1<=n.length∧n.length<=31:=by
 unfold dJ at h
 simp at h
 omega
theorem pW(D:Dc)(n:List UInt8) : (D.fi n).length=Vm.up D.h-D.h+ (8+Vm.up (1+n.length)):=by
 have:=ed (1+n.length)
 unfold fi
 simp[aJ]
 omega
theorem mV(D:Dc)(S:Img)(n:List UInt8) :Alike S (D.cB S n):=by
 unfold cB
 split
 ·exact Alike.put _ _ _
 ·exact Alike.refl _
theorem C4(hS:S.Ok)(h:D.Ok S)(n:List UInt8) : (D.cB S n).Ok∧(D.cz S n).Ok (D.cB S n):=by
 have h2:=ed D.h
 refine⟨?_,Ok.alike ?_ (mV D S n)⟩
 ·unfold cB
  split
  ·rename_i h1
   have:=oR h1
   exact cV hS _ _ (by rw[pW];have:=h.all;omega)
  ·exact hS
 ·unfold cz
  split
  ·rename_i h1
   obtain⟨h3,h4,h5⟩:=oR h1
   have h6:=vZ h3
   have h7:=ed (1+n.length)
   have h8:=h.lo
   exact h.with _ _ oM oM (.inr ⟨by omega,by omega,by omega⟩)
  ·exact h
theorem l8(D:Dc)(S:Img)(off on:UInt8) :Alike S (D.ct S off on):=by
 unfold ct
 split
 ·exact Alike.refl _
 ·exact Alike.put _ _ _
theorem BN(hS:S.Ok)(h:D.Ok S)(off on:UInt8) : (D.ct S off on).Ok∧D.Ok (D.ct S off on):=by
 refine⟨?_,h.alike (l8 D S off on)⟩
 unfold ct
 split
 ·exact hS
 ·rename_i h1
  have h2:=h.l
  have h3:=h.all
  exact cV hS _ _ (by simp;omega)
end Dc
end Vm
def dr(k:Nat) :UInt8:=UInt8.ofNat (if k<10 then 48+k else 87+k)
def bj(b u:Nat) :List UInt8:=
 if h:u<b∨b<2 then [dr u]else bj b (u/b) ++ [dr (u % b)]
termination_by u
decreasing_by exact Nat.div_lt_self oM oM
theorem fM{b u:Nat}(h:u<b) :bj b u = [dr u]:=by rw[bj,dif_pos (.inl h)]
theorem iG{b u:Nat}(hb:2<=b)(h:b<=u) :bj b u=bj b (u/b) ++ [dr (u % b)]:=by rw[bj,dif_neg oM]
theorem iE(b u:Nat) : (bj b u).length= (bm b u).length:=by
 induction u using Nat.strongRecOn with
 | ind u ih=>
   by_cases h:u<b∨b<2
   ·rw[bj,dif_pos h,bm,dif_pos h];rfl
   ·rw[bj,dif_neg h,bm,dif_neg h]
    simp[ih (u/b) (Nat.div_lt_self oM oM)]
theorem yJ : ∀k:Fin 36,Lib.toUpperA [dr k.val] = [pE k.val]:=by decide +kernel
theorem tW : ∀k:Fin 36,(dr k.val).toNat<128:=by decide +kernel
theorem qP{b:Nat}(hb:2<=b)(h36:b<=36)(u:Nat) :Lib.toUpperA (bj b u) =bm b u:=by
 induction u using Nat.strongRecOn with
 | ind u ih=>
   by_cases h:u<b
   ·rw[fM h,eC h]
    exact yJ ⟨u,by omega⟩
   ·rw[iG hb oM,iN hb oM]
    have h1:=ih (u/b) (Nat.div_lt_self oM oM)
    have h2:=yJ ⟨u % b,by have:=Nat.mod_lt u (show 0<b by omega);omega⟩
    unfold Lib.toUpperA at *
    rw[List.map_append,h1,h2]
theorem po{b:Nat}(hb:2<=b)(h36:b<=36)(u:Nat) : ∀c∈bj b u,c.toNat<128:=by
 induction u using Nat.strongRecOn with
 | ind u ih=>
   intro c hc
   by_cases h:u<b
   ·rw[fM h]at hc
    have:=tW ⟨u,by omega⟩
    simp at hc
    rw[hc];exact this
   ·rw[iG hb oM]at hc
    rcases List.mem_append.1 hc with hc|hc
    ·exact ih (u/b) (Nat.div_lt_self oM oM) c hc
    ·have:=tW ⟨u % b,by have:=Nat.mod_lt u (show 0<b by omega);omega⟩
     simp at hc
     rw[hc];exact this
def oh(b:Nat) :Bool:=b==2||b==4||b==8||b==16||b==32
theorem Gc : ∀b:Fin 37,2<=b.val->(bits BinOp.and IntKind.i64 (b.val:Int) ((b.val:Int) -1) ==0) =oh b.val:=by decide +kernel
theorem Ce(b:Nat)(h2:2<=b)(h36:b<=36)(w:World) :Calls Tryz.prog 248 #[(b:Int)] w (aA (.bool (oh b)) w):=by
 have h:=Gc ⟨b,by omega⟩ h2
 simp only at h
 go_enter Tryz.func248,Tryz.ntmps248
 go_wp2
 go_ret
 exact⟨by rw[<-h];rfl,rfl⟩
def oP:List Int:=[0,1,56,2,57,49,28,3,61,58,42,50,38,29,17,4,62,47,59,36,45,43,51,22,53,39,33,30,24,18,12,5,63,55,48,27,60,41,37,16,46,35,44,21,52,32,23,11,54,26,40,15,34,20,31,10,25,14,19,9,13,8,7,6]
def Bruijn(w:World) :Prop:=Lib.TabIs Tryz.prog w "math/bits.deBruijn64tab" .u8 oP
theorem Cs:Tryz.prog.globalNamed "math/bits.deBruijn64tab" = some 9:=by kernel_rfl
theorem Bruijn.cell{w:World}(h:Bruijn w)(i:Nat)(hi:i<64) :w.cell? ⟨9,i,none⟩ =some (.int .u8 (oP.getD i 0)):=Lib.TabIs.cell h Cs i hi
def oG(b:Nat) :Nat:=if b=2 then 1 else if b=4 then 2 else if b=8 then 3 else if b=16 then 4 else 5
set_option maxRecDepth 100000 in
theorem Kf(b:Nat)(h:oh b=true)(w:World)(hB:Bruijn w) :Calls Tryz.prog 258 #[.int .u64 (b:Int)] w (aA ((oG b:Nat) :Int) w):=by
 have hb:b=2∨b=4∨b=8∨b=16∨b=32:=by simpa [oh,or_assoc]using h
 clear h
 rcases hb with rfl|rfl|rfl|rfl|rfl
 ·have c:=hB.cell 1 oM
  rw[show oP.getD 1 0=1 from rfl]at c
  have hz:IntKind.u64.wrap (bits BinOp.and IntKind.u64 2 (IntKind.u64.wrap (-2))*285870213051353865) /288230376151711744=1:=by decide +kernel
  replace hB:=hid hB
  go_enter Tryz.func258,Tryz.ntmps258
  go_wp2
  go_ret
  exact⟨rfl,rfl⟩
 ·have c:=hB.cell 3 oM
  rw[show oP.getD 3 0=2 from rfl]at c
  have hz:IntKind.u64.wrap (bits BinOp.and IntKind.u64 4 (IntKind.u64.wrap (-4))*285870213051353865) /288230376151711744=3:=by decide +kernel
  replace hB:=hid hB
  go_enter Tryz.func258,Tryz.ntmps258
  go_wp2
  go_ret
  exact⟨rfl,rfl⟩
 ·have c:=hB.cell 7 oM
  rw[show oP.getD 7 0=3 from rfl]at c
  have hz:IntKind.u64.wrap (bits BinOp.and IntKind.u64 8 (IntKind.u64.wrap (-8))*285870213051353865) /288230376151711744=7:=by decide +kernel
  replace hB:=hid hB
  go_enter Tryz.func258,Tryz.ntmps258
  go_wp2
  go_ret
  exact⟨rfl,rfl⟩
 ·have c:=hB.cell 15 oM
  rw[show oP.getD 15 0=4 from rfl]at c
  have hz:IntKind.u64.wrap (bits BinOp.and IntKind.u64 16 (IntKind.u64.wrap (-16))*285870213051353865) /288230376151711744=15:=by decide +kernel
  replace hB:=hid hB
  go_enter Tryz.func258,Tryz.ntmps258
  go_wp2
  go_ret
  exact⟨rfl,rfl⟩
 ·have c:=hB.cell 31 oM
  rw[show oP.getD 31 0=5 from rfl]at c
  have hz:IntKind.u64.wrap (bits BinOp.and IntKind.u64 32 (IntKind.u64.wrap (-32))*285870213051353865) /288230376151711744=31:=by decide +kernel
  replace hB:=hid hB
  go_enter Tryz.func258,Tryz.ntmps258
  go_wp2
  go_ret
  exact⟨rfl,rfl⟩
theorem Fm(b:Nat)(h:oh b=true)(w:World)(hB:Bruijn w) :Calls Tryz.prog 249 #[.int .u64 (b:Int)] w (aA ((oG b:Nat) :Int) w):=by
 have hw:=hid (Kf b h w hB)
 replace h:=hid h
 replace hB:=hid hB
 go_enter Tryz.func249,Tryz.ntmps249
 go_wp2_with (go_at_call 258;refine hw.out.mono ?_;rintro e w1 ⟨rfl,rfl⟩)
 go_ret
 exact⟨rfl,rfl⟩
end Go.Proofs.YtjohhkikoejadaaGreatDoor
