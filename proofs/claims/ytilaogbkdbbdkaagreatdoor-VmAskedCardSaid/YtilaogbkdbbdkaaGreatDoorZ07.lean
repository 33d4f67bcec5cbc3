/- The plain specification of chapter 5 (numbers as texts). No condition. -/
import Derived.Test.YtilaogbkdbbdkaaGreatDoorZ03
import Derived.Lib.ItoaNum
import Derived.Test.YtilaogbkdbbdkaaGreatDoorZVFlt
open Go.Proofs.Tryz
namespace Go.Proofs.YtilaogbkdbbdkaaGreatDoor
set_option linter.unusedVariables false
open Go.RowKit Go.Lib
def zb(k:Nat):UInt8:=UInt8.ofNat (if k<10 then 48+k else 55+k)
def cd(b u:Nat):List UInt8:=
 if h:u<b∨b<2 then [zb u]else cd b (u/b)++ [zb (u % b)]
termination_by u
decreasing_by exact Nat.div_lt_self oM oM
theorem gh{b u:Nat}(h:u<b):cd b u = [zb u]:=by rw[cd,dif_pos (.inl h)]
theorem kU{b u:Nat}(hb:2<=b)(h:b<=u):cd b u=cd b (u/b)++ [zb (u % b)]:=by rw[cd,dif_neg oM]
theorem AU(b u:Nat):cd b u≠[]:=by
 rw[cd]
 split<;>simp
theorem qh{b:Nat}(hb:2<=b): ∀(n u:Nat),u<b ^ (n+1)->(cd b u).length<=n+1
 | 0,u,h=>by rw[gh (by simpa using h)];simp
 | n+1,u,h=>by
   rcases Nat.lt_or_ge u b with h1|h1
   ·rw[gh h1];simp
   ·rw[kU hb h1,List.length_append]
    have:u/b<b ^ (n+1):=by
     rw[Nat.div_lt_iff_lt_mul oM]
     rw[Nat.pow_succ]at h
     exact h
    have:=qh hb n (u/b) this
    simp
    omega
theorem fZ{b u:Nat}(hb:2<=b)(hu:u<18446744073709551616): (cd b u).length<=64:=by
 refine qh hb 63 u ?_
 have h1: (2:Nat) ^ 64<=b ^ 64:=Nat.pow_le_pow_left hb 64
 have h2: (2:Nat) ^ 64=18446744073709551616:=by decide
 show u<b ^ 64
 omega
theorem wS{b u:Nat}(hb:2<=b)(s r:List UInt8)(h:cd b u++s=r): (u/b=0->zb (u % b)::s=r)∧(0<u/b->cd b (u/b)++zb (u % b)::s=r):=by
 constructor
 ·intro h0
  have Rd:u<b:=by
   rcases Nat.lt_or_ge u b with h1|h1
   ·exact h1
   ·have:=Nat.div_pos h1 oM;omega
  rw[gh Rd]at h
  rw[Nat.mod_eq_of_lt Rd]
  exact h
 ·intro h0
  have Ud:b<=u:=by
   rcases Nat.lt_or_ge u b with h1|h1
   ·rw[Nat.div_eq_of_lt h1]at h0;omega
   ·exact h1
  rw[kU hb Ud]at h
  simpa using h
def lh(n:Int):Nat:=(n % 18446744073709551616).toNat
def oz(n:Int)(b:Nat):List UInt8:=cd b (lh n)
def ph(n:Int)(b:Nat):List UInt8:=if 0<=n then cd b n.toNat else 45::cd b n.natAbs
def pC(l:List UInt8):Prop:= ∀c∈l,48<=c.toNat
theorem pC.head{l:List UInt8}(h:pC l)(x:UInt8)(hx:x.toNat<48):l.head? ≠some x:=by
 cases l with
 | nil=>simp
 | cons c l=>
   intro e
   have:c=x:=by simpa using e
   have:=h c (by simp)
   subst_vars
   omega
theorem pC.append{l m:List UInt8}(h:pC l)(k:pC m):pC (l++m):=λc hc=>by
 rcases List.mem_append.1 hc with hc|hc
 ·exact h c hc
 ·exact k c hc
theorem vi{b:Nat}(hb:2<=b){n:Int}(hn : -9223372036854775808<=n∧n<=9223372036854775807): (ph n b).length<=65:=by
 unfold ph
 split
 ·have:=fZ hb (show n.toNat<18446744073709551616 by omega);omega
 ·have:=fZ hb (show n.natAbs<18446744073709551616 by omega);simp;omega
def leN:List UInt8->Nat
 | []=>0
 | x::l=>x.toNat+256*leN l
def ofB(l:List UInt8):Int:=wrap64 (leN l:Nat)
def lF(v:Int)(i:Nat):UInt8:=UInt8.ofNat ((v/ (256:Int) ^ i) % 256).toNat
def toB(v:Int):List UInt8:=(List.range 8).map (lF v)
theorem aI(v:Int): (toB v).length=8:=by simp[toB]
theorem Gy: ∀l:List UInt8,leN l<256 ^ l.length
 | []=>by simp[leN]
 | x::l=>by
   have h1:=Gy l
   have h2:x.toNat<256:=x.toNat_lt
   simp only[leN,List.length_cons,Nat.pow_succ]
   omega
theorem mK: ∀l m:List UInt8,leN (l++m)=leN l+256 ^ l.length*leN m
 | [],m=>by simp[leN]
 | x::l,m=>by
   simp only[List.cons_append,leN,mK l m,List.length_cons,Nat.pow_succ]
   rw[Nat.mul_add,<-Nat.mul_assoc,Nat.mul_comm 256 (256 ^ l.length),Nat.add_assoc]
def cK(b:List UInt8)(k:Nat)(l:List UInt8):List UInt8:=b.take k++ (l++b.drop (k+l.length))
theorem lv(b:List UInt8)(k:Nat)(l:List UInt8)(h:k+l.length<=b.length): (cK b k l).length=b.length:=by
 unfold cK
 simp
 omega
structure Img where
 k:Nat
 s:Nat
 u:Nat
 d:Nat
 r:Nat
 b:List UInt8
 op:Bool
 cl:Bool
namespace Img
variable (S:Img)
def beg:Nat->Nat
 | 2=>S.k
 | 3=>S.k+S.s
 | 4=>S.k+S.s+S.u
 | 5=>S.k+S.s+S.u+S.d
 | 6=>S.k+S.s+S.u+S.d+S.r
 | _=>0
structure Ok:Prop where
 len:S.b.length=S.beg 6
 small:S.beg 6<=143360
def region(a:Int):Nat:=
 if a<0 then 0 else if a<S.beg 2 then 1 else if a<S.beg 3 then 2 else if a<S.beg 4 then 3 else if a<S.beg 5 then 4 else if a<S.beg 6 then 5 else 0
def may(m:Int)(r:Nat):Int:=
 if r<1∨5<r∨m<0∨2<m then 0
 else if m=0 then(if r=1∧S.cl=true then 1 else 3)
 else if r=1∨(r=2∧(m=2∨S.op=true))then 1
 else if r=3 then 3 else 0
def lets(m:Int)(r:Nat)(w:Bool):Bool:=if w then S.may m r==3 else S.may m r != 0
def aO(m a:Int)(n:Nat)(w:Bool):Bool:=n==0|| (S.region a != 0&&decide ((n:Int)<=S.beg (S.region a+1) -a) &&S.lets m (S.region a) w)
def bytes(a:Int)(n:Nat):List UInt8:=(S.b.drop a.toNat).take n
def ay(m a:Int)(w:Bool):Int:=if a % 8≠0 then 6 else if S.aO m a 8 w=true then 0 else 5
def aP(m a:Int):Int:=if S.ay m a false=0 then ofB (S.bytes a 8)else 0
def put(a:Nat)(l:List UInt8):Img:={ S with b:=cK S.b a l }
def setCell(m a v:Int):Img:=if S.ay m a true=0 then S.put a.toNat (toB v)else S
def cD(m a n:Int):Int:=if n<0 then 19 else if S.aO m a n.toNat false=true then 0 else 5
def text(m a n:Int):ByteArray:=if S.cD m a n=0 then⟨(S.bytes a n.toNat).toArray⟩else⟨#[]⟩
def vf:Int:=if S.cl=true then 5 else 0
def opened:Img:=if S.cl=true then S else { S with op:=true }
def eR:Img:={ S with cl:=true }
def part(r:Nat):ByteArray:=if 1<=r∧r<=5 then⟨((S.b.drop (S.beg r)).take (S.beg (r+1) -S.beg r)).toArray⟩else⟨#[]⟩
theorem bN{i j:Nat}(hi:1<=i)(WS:i<=j)(hj:j<=6):S.beg i<=S.beg j:=by
 have h1:i=1∨i=2∨i=3∨i=4∨i=5∨i=6:=by omega
 have h2:j=1∨j=2∨j=3∨j=4∨j=5∨j=6:=by omega
 rcases h1 with rfl|rfl|rfl|rfl|rfl|rfl<;>rcases h2 with rfl|rfl|rfl|rfl|rfl|rfl<;>simp[beg]<;>omega
theorem vg(a:Int):S.region a<=5:=by unfold region;repeat' split
                                    all_goals omega
theorem dn{j:Nat}{a:Int}(h0:0<=a)(h1:1<=j)(h5:j<=5)(Sg: (S.beg j:Int)<=a)(ZA:a<S.beg (j+1)):S.region a=j:=by
 have hj:j=1∨j=2∨j=3∨j=4∨j=5:=by omega
 unfold region
 rcases hj with rfl|rfl|rfl|rfl|rfl<;>simp only[beg]at * <;> repeat' split
 all_goals omega
theorem jQk{a:Int}(h:a<0∨(S.beg 6:Int)<=a):S.region a=0:=by
 unfold region
 simp only[beg]at *
 repeat' split
 all_goals omega
theorem lT{a:Int}(h:S.region a≠0):0<=a∧(S.beg (S.region a):Int)<=a∧a<S.beg (S.region a+1)∧(S.beg (S.region a+1))<=S.beg 6∧1<=S.region a∧S.region a<=5:=by
 by_cases h0:a<0
 ·exact absurd (S.jQk (.inl h0)) h
 by_cases h6: (S.beg 6:Int)<=a
 ·exact absurd (S.jQk (.inr h6)) h
 have hj: ∃j,1<=j∧j<=5∧(S.beg j:Int)<=a∧a<S.beg (j+1):=by
  by_cases h2:a<S.beg 2
  ·exact⟨1,by omega,by omega,by simp only[beg];omega,h2⟩
  by_cases h3:a<S.beg 3
  ·exact⟨2,by omega,by omega,by omega,h3⟩
  by_cases h4:a<S.beg 4
  ·exact⟨3,by omega,by omega,by omega,h4⟩
  by_cases h5:a<S.beg 5
  ·exact⟨4,by omega,by omega,by omega,h5⟩
  ·exact⟨5,by omega,by omega,by omega,by have:S.beg (5+1)=S.beg 6:=rfl;omega⟩
 obtain⟨j,h1,h5,Sg,ZA⟩:=hj
 rw[S.dn oM h1 h5 Sg ZA]
 exact⟨by omega,Sg,ZA,S.bN oM oM oM,h1,h5⟩
theorem lz{m a:Int}{n:Nat}{w:Bool}(h:S.aO m a n w=true)(hn:n≠0):0<=a∧a+n<=S.beg 6:=by
 unfold aO at h
 simp[hn]at h
 have:=S.lT h.1.1
 omega
end Img
namespace Vm
def gv(S:Img)(fr i:Nat):Int:=S.aP 0 ((fr:Int) +8* (i:Int))
def fh(S:Img)(fr i:Nat)(v:Int):Img:=S.setCell 0 ((fr:Int) +8* (i:Int)) v
def aY(S:Img)(fr d:Nat):List Int->Img
 | []=>S
 | x::l=>aY (fh S fr d x) fr (d+1) l
theorem mD(fr:Nat)(x:Int): ∀(l:List Int) (S:Img) (d:Nat),aY S fr d (l ++ [x])=fh (aY S fr d l) fr (d+l.length) x
 | [],S,d=>rfl
 | y::l,S,d=>by
   show aY (fh S fr d y) fr (d+1) (l ++ [x])=fh (aY (fh S fr d y) fr (d+1) l) fr (d+ (l.length+1)) x
   rw[mD fr x l,show d+1+l.length=d+ (l.length+1)by omega]
def lc(S:Img)(fr d:Nat)(n:Int):Int:=if 0<=n∧n<d then gv S fr (d-1-n.toNat)else 0
structure Alike(S S':Img):Prop where
 k:S'.k=S.k
 s:S'.s=S.s
 u:S'.u=S.u
 d:S'.d=S.d
 r:S'.r=S.r
 op:S'.op=S.op
 cl:S'.cl=S.cl
theorem Alike.refl(S:Img):Alike S S:=⟨rfl,rfl,rfl,rfl,rfl,rfl,rfl⟩
theorem Alike.trans{S T U:Img}(h:Alike S T)(g:Alike T U):Alike S U:=
 ⟨g.k.trans h.k,g.s.trans h.s,g.u.trans h.u,g.d.trans h.d,g.r.trans h.r,g.op.trans h.op,g.cl.trans h.cl⟩
theorem Alike.symm{S T:Img}(h:Alike S T):Alike T S:=⟨h.k.symm,h.s.symm,h.u.symm,h.d.symm,h.r.symm,h.op.symm,h.cl.symm⟩
theorem Alike.put(S:Img)(a:Nat)(l:List UInt8):Alike S (S.put a l):=⟨rfl,rfl,rfl,rfl,rfl,rfl,rfl⟩
theorem Alike.setCell(S:Img)(m a v:Int):Alike S (S.setCell m a v):=by
 unfold Img.setCell
 split
 ·exact Alike.put _ _ _
 ·exact Alike.refl S
theorem Alike.beg{S T:Img}(h:Alike S T)(i:Nat):T.beg i=S.beg i:=by
 unfold Img.beg
 rw[h.k,h.s,h.u,h.d,h.r]
theorem Alike.fh(S:Img)(fr i:Nat)(v:Int):Alike S (fh S fr i v):=Alike.setCell _ _ _ _
theorem Alike.aY(fr:Nat): ∀(l:List Int) (S:Img) (d:Nat),Alike S (aY S fr d l)
 | [],S,d=>Alike.refl S
 | x::l,S,d=>(Alike.fh S fr d x).trans (Alike.aY fr l _ _)
theorem iV{α:Type}(n:Nat)(a:α):List.replicate n a ++ [a]=List.replicate (n+1) a:=by rw[List.replicate_succ']
structure Pl where
 fr:Nat
 rm:Nat
 un:Int
 ov:Int
structure Pl.Ok(p:Pl):Prop where
 fr:p.fr<=143360
 rm:p.rm<=512
end Vm
namespace Img
variable (S:Img)
def bV(m a:Int)(w:Bool):Int:=if S.aO m a 1 w=true then 0 else 5
def iN(m a:Int):UInt8:=if S.aO m a 1 false=true then S.b.getD a.toNat 0 else 0
def aS(m a:Int)(b:UInt8):Img:=if S.aO m a 1 true=true then S.put a.toNat [b]else S
end Img
theorem lA(b:List UInt8)(k:Nat)(l m:List UInt8)(h:k+l.length<=b.length):cK (cK b k l) (k+l.length) m=cK b k (l++m):=by
 unfold cK
 have h1: (b.take k).length=k:=by simp;omega
 have e1: (b.take k++ (l++b.drop (k+l.length))).take (k+l.length)=b.take k++l:=by
  rw[<-List.append_assoc,List.take_append_of_le_length (by simp;omega),List.take_of_length_le (by simp;omega)]
 have e2: (b.take k++ (l++b.drop (k+l.length))).drop (k+l.length+m.length)=b.drop (k+ (l++m).length):=by
  rw[<-List.append_assoc,List.drop_append,List.drop_eq_nil_of_le (by simp;omega),List.nil_append,List.drop_drop]
  congr 1
  simp
  omega
 rw[e1,e2]
 simp[List.append_assoc]
theorem rC(b:List UInt8)(k:Nat):cK b k []=b:=by
 unfold cK
 simp
theorem Img.iU(S:Img)(k:Nat)(l m:List UInt8)(h:k+l.length<=S.b.length): (S.put k l).put (k+l.length) m=S.put k (l++m):=by
 unfold Img.put
 rw[lA _ _ _ _ h]
theorem Img.fK(S:Img)(k:Nat):S.put k []=S:=by
 unfold Img.put
 rw[rC]
namespace Vm
def up(n:Nat):Nat:=(n+7) /8*8
def eG(c:UInt8):Bool:=decide (32<c.toNat)
structure Dc where
 rg:Nat
 h:Nat
 l:Nat
namespace Dc
variable (S:Img)(D:Dc)
def fr:Nat:=S.beg D.rg+8
def lim:Nat:=S.beg (D.rg+1)
def shut:Bool:=S.cl&&D.rg==1
structure Ok:Prop where
 rg:D.rg=1∨D.rg=3
 lo:D.fr S<=D.h
 hi:D.h<=D.lim S
 l:D.l=0∨(D.l % 8=0∧D.fr S<=D.l∧D.l+16<=D.lim S)
 al:D.lim S % 8=0∧S.beg D.rg % 8=0
 room:S.beg D.rg+256<=D.lim S
def bm:Int:=if D.lim S<D.h+8 then 9 else if D.h % 8≠0 then 6 else if D.shut S=true then 5 else 0
def bi(v:Int):Img:=if D.bm S=0 then S.put D.h (toB v)else S
def bw:Dc:=if D.bm S=0 then { D with h:=D.h+8 } else D
def cA:Int:=if D.lim S<=D.h then 9 else if D.shut S=true then 5 else 0
def de(b:UInt8):Img:=if D.cA S=0 then S.put D.h [b]else S
def eA:Dc:=if D.cA S=0 then { D with h:=D.h+1 } else D
def fF:Int:=if D.h % 8≠0∧D.shut S=true then 5 else 0
def fj:Img:=if D.fF S=0 then S.put D.h (List.replicate (up D.h-D.h) 0)else S
def iP:Dc:=if D.fF S=0 then { D with h:=up D.h } else D
def hU(n:Int):Int:=if n< (D.fr S:Int) -D.h∨(D.lim S:Int) -D.h<n then 9 else 0
def jQf(n:Int):Dc:=if D.hU S n=0 then { D with h:=((D.h:Int) +n).toNat } else D
def ea(n:List UInt8):Bool:=decide (1<=n.length) &&decide (n.length<=31) &&n.all eG
def bU(n:List UInt8):Int:=
 if ea n=false then 15 else if D.lim S<up D.h+ (8+up (1+n.length))then 9 else if D.shut S=true then 5 else 0
def eW(n:List UInt8):List UInt8:=
 List.replicate (up D.h-D.h) 0++ (toB D.l++ (UInt8.ofNat (n.length+32):: (n++List.replicate (up (1+n.length) - (1+n.length)) 0)))
def bQ(n:List UInt8):Img:=if D.bU S n=0 then S.put D.h (D.eW n)else S
def cg(n:List UInt8):Dc:=if D.bU S n=0 then { D with h:=up D.h+ (8+up (1+n.length)),l:=up D.h } else D
def jo(n:List UInt8):Int:=if D.bU S n=0 then(up D.h+ (8+up (1+n.length)):Nat)else 0
def cy(off on:UInt8):Img:=if D.l=0∨D.shut S=true then S else S.put (D.l+8) [S.b.getD (D.l+8) 0 &&& ~~~off ||| on]
end Dc
structure Wd where
 name:List UInt8
 head:Nat
 xt:Nat
 imm:Bool
 hid:Bool
 inl:Bool
def eB(S:Img)(D:Dc)(a:Int):Option (Wd×Int):=
 if a % 8≠0∨a<D.fr S∨(D.lim S:Int) <a+16 then none
 else
  let p:=a.toNat
  let b:=S.b.getD (p+8) 0
  let n:=b.toNat % 32
  if n=0∨D.lim S<up (p+9+n)then none
  else some (⟨(S.b.drop (p+9)).take n,p,up (p+9+n),b.toNat/64 % 2==1,b.toNat/32 % 2==1,b.toNat/128==1⟩,ofB ((S.b.drop p).take 8))
def eI(S:Img)(D:Dc):Nat->Int->List Wd
 | 0,_=>[]
 | k+1,a=>
   match eB S D a with
   | none=>[]
   | some (w,next)=>if a<=next then [w]else w::eI S D k next
def words(S:Img)(D:Dc):List Wd:=eI S D (D.l+1) D.l
def tA(c:UInt8):UInt8:=if 65<=c.toNat∧c.toNat<=90 then c+32 else c
def xm(l:List UInt8):List UInt8:=l.map tA
def kY(a b:List UInt8):Bool:=decide (xm a=xm b)
def gV(S:Img)(D:Dc)(n:List UInt8):Option Wd:=(words S D).find? λw=> !w.hid&&kY w.name n
theorem ee(n:Nat):n<=up n∧up n<=n+7∧up n % 8=0:=by unfold up;omega
theorem P8(n:Nat)(h:n % 8=0):up n=n:=by unfold up;omega
end Vm
theorem FL(b l:List UInt8)(k i:Nat)(h:k+l.length<=b.length): (cK b k l).getD i 0=if k<=i∧i<k+l.length then l.getD (i-k) 0 else b.getD i 0:=by
 unfold cK
 rw[List.getD_eq_getElem?_getD,List.getElem?_append]
 have h1: (b.take k).length=k:=by simp;omega
 rw[h1]
 by_cases hik:i<k
 ·rw[if_pos hik,if_neg oM,List.getElem?_take,if_pos hik,List.getD_eq_getElem?_getD]
 rw[if_neg hik,List.getElem?_append]
 by_cases hl:i-k<l.length
 ·rw[if_pos hl,if_pos oM,List.getD_eq_getElem?_getD]
 ·rw[if_neg hl,if_neg oM,List.getElem?_drop,List.getD_eq_getElem?_getD]
  congr 2
  omega
theorem jR(b c:List UInt8)(i j n:Nat)(hi:i+n<=b.length)(hj:j+n<=c.length)(h: ∀k,k<n->b.getD (i+k) 0=c.getD (j+k) 0): (b.drop i).take n= (c.drop j).take n:=by
 apply List.ext_getElem
 ·simp;omega
 ·intro k h1 h2
  have hk:k<n:=by simp at h1;omega
  have e:=h k hk
  rw[List.getD_eq_getElem?_getD,List.getD_eq_getElem?_getD,List.getElem?_eq_getElem oM,List.getElem?_eq_getElem oM]at e
  simpa using e
namespace Img
variable (S:Img)
theorem iz(k:Nat)(l:List UInt8)(h:k+l.length<=S.b.length): (S.put k l).b.length=S.b.length:=lv _ _ _ h
theorem dZ(k i:Nat)(l:List UInt8)(h:k+l.length<=S.b.length): (S.put k l).b.getD i 0=if k<=i∧i<k+l.length then l.getD (i-k) 0 else S.b.getD i 0:=FL _ _ _ _ h
theorem mm(k a n:Nat)(l:List UInt8)(h:k+l.length<=S.b.length)(ha:a+n<=S.b.length)(hf:a+n<=k∨k+l.length<=a): (S.put k l).bytes (a:Int) n=S.bytes (a:Int) n:=by
 unfold Img.bytes
 refine jR _ _ _ _ _ (by rw[S.iz k l h];simpa using ha) (by simpa using ha) λj hj=> ?_
 rw[S.dZ k _ l h,if_neg (by simp;omega)]
theorem kg(k j n:Nat)(l:List UInt8)(h:k+l.length<=S.b.length)(hj:j+n<=l.length): (S.put k l).bytes ((k+j:Nat):Int) n= (l.drop j).take n:=by
 unfold Img.bytes
 refine jR _ _ _ _ _ (by rw[S.iz k l h];simp;omega) hj λi hi=> ?_
 rw[S.dZ k _ l h,if_pos (by simp;omega)]
 congr 1
 simp
 omega
end Img
theorem Bz(v m:Int)(hm:0<m):v % (m*256)=v % m+m* (v/m % 256):=by
 have h1:v=m* (v/m) +v % m:=(Int.mul_ediv_add_emod v m).symm
 have h2:v/m=256* (v/m/256) +v/m % 256:=(Int.mul_ediv_add_emod (v/m) 256).symm
 have h3:=Int.emod_nonneg v (show m≠0 by omega)
 have h4:=Int.emod_lt_of_pos v hm
 generalize v % m=r at *
 generalize v/m=q at *
 have h5:0<=q % 256∧q % 256<256:=by omega
 generalize q % 256=p at *
 generalize q/256=t at *
 have h6:m*0<=m*p:=Int.mul_le_mul_of_nonneg_left h5.1 oM
 have h7:m* (p+1)<=m*256:=Int.mul_le_mul_of_nonneg_left oM oM
 have e:v= (r+m*p) + (m*256)*t:=by
  rw[h1,h2,Int.mul_add,Int.mul_assoc]
  omega
 rw[Int.mul_add,Int.mul_one]at h7
 rw[e,Int.add_mul_emod_self_left,Int.emod_eq_of_lt oM oM]
theorem Kw(v:Int)(n:Nat): (leN ((List.range n).map (lF v)):Int)=v % (256:Int) ^ n:=by
 induction n with
 | zero=>simp[leN]
 | succ n ih=>
   have hp: (0:Int) <256 ^ n:=Int.pow_pos oM
   have hb: ((lF v n).toNat:Int)=v/ (256:Int) ^ n % 256:=by
    unfold lF
    have h1:0<=v/ (256:Int) ^ n % 256:=Int.emod_nonneg _ oM
    have h2:v/ (256:Int) ^ n % 256<256:=Int.emod_lt_of_pos _ oM
    rw[UInt8.toNat_ofNat',Nat.mod_eq_of_lt oM]
    omega
   rw[List.range_succ,List.map_append,mK,Int.pow_succ,Bz v _ hp,<-hb,<-ih]
   simp[leN]
theorem Le(v:Int): (leN (toB v):Int)=v % 18446744073709551616:=by
 have h:=Kw v 8
 rw[show((256:Int) ^ 8)=18446744073709551616 from rfl]at h
 exact h
theorem vK(v:Int)(h : -9223372036854775808<=v∧v<=9223372036854775807):ofB (toB v)=v:=by
 unfold ofB
 rw[Le]
 unfold wrap64
 omega
namespace Vm
theorem Alike.ay{S T:Img}(h:Alike S T)(m a:Int)(w:Bool):T.ay m a w=S.ay m a w:=by
 have hr:T.region a=S.region a:=by
  unfold Img.region
  rw[h.beg,h.beg,h.beg,h.beg,h.beg]
 have hm: ∀r,T.may m r=S.may m r:=λr=>by
  unfold Img.may
  rw[h.op,h.cl]
 unfold Img.ay Img.aO Img.lets
 rw[hr,hm,h.beg]
theorem Alike.aO{S T:Img}(h:Alike S T)(m a:Int)(n:Nat)(w:Bool):T.aO m a n w=S.aO m a n w:=by
 have hr:T.region a=S.region a:=by
  unfold Img.region
  rw[h.beg,h.beg,h.beg,h.beg,h.beg]
 have hm: ∀r,T.may m r=S.may m r:=λr=>by
  unfold Img.may
  rw[h.op,h.cl]
 unfold Img.aO Img.lets
 rw[hr,hm,h.beg]
theorem mv(S:Img)(hS:S.Ok)(m a:Int)(k:Nat)(l:List UInt8)(h:k+l.length<=S.beg 6)(hf:a+8<=k∨((k+l.length:Nat):Int)<=a): (S.put k l).aP m a=S.aP m a:=by
 unfold Img.aP
 rw[(Alike.put S k l).ay]
 by_cases hc:S.ay m a false=0
 ·rw[if_pos hc,if_pos hc]
  have Se:S.aO m a 8 false=true:=by
   unfold Img.ay at hc
   repeat' split at hc
   all_goals first|assumption|omega
  obtain⟨h0,h1⟩:=S.lz Se oM
  obtain⟨n,rfl⟩: ∃n:Nat,a=n:=⟨a.toNat,by omega⟩
  rw[S.mm k n 8 l (by rw[hS.len];exact h) (by rw[hS.len];omega) oM]
 ·rw[if_neg hc,if_neg hc]
theorem vJ(S:Img)(hS:S.Ok)(m:Int)(k j:Nat)(l:List UInt8)(h:k+l.length<=S.beg 6)(hj:j+8<=l.length)(hc:S.ay m ((k+j:Nat):Int) false=0): (S.put k l).aP m ((k+j:Nat):Int)=ofB ((l.drop j).take 8):=by
 unfold Img.aP
 rw[(Alike.put S k l).ay,if_pos hc,S.kg k j 8 l (by rw[hS.len];exact h) hj]
theorem cY{S:Img}(hS:S.Ok)(k:Nat)(l:List UInt8)(h:k+l.length<=S.beg 6): (S.put k l).Ok:=by
 have hb: ∀i,(S.put k l).beg i=S.beg i:=λi=>(Alike.put S k l).beg i
 refine⟨?_,?_⟩
 ·rw[hb,S.iz k l (by rw[hS.len];exact h)]
  exact hS.len
 ·rw[hb]
  exact hS.small
namespace Dc
variable {S T:Img}{D:Dc}
theorem yW(h:Alike S T):D.fr T=D.fr S:=by unfold fr;rw[h.beg]
theorem jE(h:Alike S T):D.lim T=D.lim S:=by unfold lim;rw[h.beg]
theorem sH(h:Alike S T):D.shut T=D.shut S:=by unfold shut;rw[h.cl]
theorem Ok.alike(h:D.Ok S)(ha:Alike S T):D.Ok T:=
 ⟨h.rg,by rw[yW ha];exact h.lo,by rw[jE ha];exact h.hi,by rw[yW ha,jE ha];exact h.l,by rw[jE ha,ha.beg];exact h.al,by rw[jE ha,ha.beg];exact h.room⟩
theorem Ok.all(h:D.Ok S):D.lim S<=S.beg 6:=by
 unfold lim
 rcases h.rg with e|e<;>rw[e]<;>exact S.bN oM oM oM
theorem Ok.le(h:D.Ok S)(hS:S.Ok):D.lim S<=143360:=Nat.le_trans h.all hS.small
theorem Ok.with(h:D.Ok S)(n m:Nat)(h1:D.fr S<=n)(h2:n<=D.lim S)(h3:m=0∨(m % 8=0∧D.fr S<=m∧m+16<=D.lim S)): ({ D with h:=n,l:=m }:Dc).Ok S:=⟨h.rg,h1,h2,h3,h.al,h.room⟩
theorem Ok.region(h:D.Ok S)(a:Nat)(h1:D.fr S<=a)(h2:a<D.lim S):S.region (a:Int)=D.rg:=by
 have h3:S.beg D.rg<=a:=by unfold fr at h1;omega
 refine S.dn oM ?_ ?_ oM (by unfold lim at h2;omega)
 ·rcases h.rg with e|e<;>omega
 ·rcases h.rg with e|e<;>omega
theorem Ok.may(h:D.Ok S):S.may 0 D.rg=if D.shut S=true then 1 else 3:=by
 unfold Img.may shut
 rcases h.rg with e|e<;>rw[e]<;>simp
theorem Ok.aO(h:D.Ok S)(a n:Nat)(h1:D.fr S<=a)(h2:a+n<=D.lim S)(hn:n≠0)(w:Bool):S.aO 0 (a:Int) n w= (!w|| !D.shut S):=by
 have hr:=h.region a h1 oM
 unfold Img.aO Img.lets
 rw[hr,h.may]
 have h3: (D.rg != 0)=true:=by rcases h.rg with e|e<;>rw[e]<;>rfl
 have h4:decide ((n:Int)<=(S.beg (D.rg+1):Int) - (a:Int))=true:=decide_eq_true (by unfold lim at h2;omega)
 have h5: (n==0)=false:=by simpa using hn
 rw[h3,h4,h5]
 cases w<;>cases D.shut S<;>simp
theorem Ok.QG(h:D.Ok S)(a:Nat)(h1:D.fr S<=a)(h2:a+8<=D.lim S):S.ay 0 (a:Int) true=if a % 8≠0 then 6 else if D.shut S=true then 5 else 0:=by
 unfold Img.ay
 rw[h.aO a 8 h1 h2 oM true]
 have e: ((a:Int) % 8≠0)↔a % 8≠0:=by omega
 simp only[e]
 cases D.shut S<;>simp
theorem Ok.Nh(h:D.Ok S)(a:Nat)(h1:D.fr S<=a)(h2:a+1<=D.lim S):S.bV 0 (a:Int) true=if D.shut S=true then 5 else 0:=by
 unfold Img.bV
 rw[h.aO a 1 h1 h2 oM true]
 cases D.shut S<;>simp
theorem Ok.Na(h:D.Ok S)(a:Nat)(h1:D.fr S<=a)(h2:a+1<=D.lim S):S.bV 0 (a:Int) false=0∧S.iN 0 (a:Int)=S.b.getD a 0:=by
 unfold Img.bV Img.iN
 rw[h.aO a 1 h1 h2 oM false]
 simp
theorem qO(h:D.bm S=0):D.h+8<=D.lim S∧D.h % 8=0∧D.shut S=false:=by
 unfold bm at h
 by_cases h1:D.lim S<D.h+8
 ·rw[if_pos h1]at h;cases h
 rw[if_neg h1]at h
 by_cases h2:D.h % 8≠0
 ·rw[if_pos h2]at h;cases h
 rw[if_neg h2]at h
 by_cases h3:D.shut S=true
 ·rw[if_pos h3]at h;cases h
 exact⟨by omega,by omega,by simpa using h3⟩
theorem kW(D:Dc)(S:Img)(v:Int):Alike S (D.bi S v):=by
 unfold bi
 split
 ·exact Alike.put _ _ _
 ·exact Alike.refl _
theorem rR(hS:S.Ok)(h:D.Ok S)(v:Int): (D.bi S v).Ok∧(D.bw S).Ok (D.bi S v):=by
 refine⟨?_,Ok.alike ?_ (kW D S v)⟩
 ·unfold bi
  split
  ·rename_i h1
   have:=qO h1
   exact cY hS _ _ (by rw[aI];have:=h.all;omega)
  ·exact hS
 ·unfold bw
  split
  ·rename_i h1
   have:=qO h1
   exact h.with _ _ (by have:=h.lo;omega) oM h.l
  ·exact h
theorem qg(h:D.cA S=0):D.h+1<=D.lim S∧D.shut S=false:=by
 unfold cA at h
 by_cases h1:D.lim S<=D.h
 ·rw[if_pos h1]at h;cases h
 rw[if_neg h1]at h
 by_cases h3:D.shut S=true
 ·rw[if_pos h3]at h;cases h
 exact⟨by omega,by simpa using h3⟩
theorem nj(D:Dc)(S:Img)(b:UInt8):Alike S (D.de S b):=by
 unfold de
 split
 ·exact Alike.put _ _ _
 ·exact Alike.refl _
theorem uy(hS:S.Ok)(h:D.Ok S)(b:UInt8): (D.de S b).Ok∧(D.eA S).Ok (D.de S b):=by
 refine⟨?_,Ok.alike ?_ (nj D S b)⟩
 ·unfold de
  split
  ·rename_i h1
   have:=qg h1
   exact cY hS _ _ (by have:=h.all;simp;omega)
  ·exact hS
 ·unfold eA
  split
  ·rename_i h1
   have:=qg h1
   exact h.with _ _ (by have:=h.lo;omega) oM h.l
  ·exact h
theorem Ok.up(h:D.Ok S):Vm.up D.h<=D.lim S:=by
 have h1:=h.hi
 have h2:=h.al.1
 unfold Vm.up
 omega
theorem pR(D:Dc)(S:Img):Alike S (D.fj S):=by
 unfold fj
 split
 ·exact Alike.put _ _ _
 ·exact Alike.refl _
theorem yA(hS:S.Ok)(h:D.Ok S): (D.fj S).Ok∧(D.iP S).Ok (D.fj S):=by
 have h1:=h.up
 have h2:=ee D.h
 refine⟨?_,Ok.alike ?_ (pR D S)⟩
 ·unfold fj
  split
  ·exact cY hS _ _ (by have:=h.all;simp;omega)
  ·exact hS
 ·unfold iP
  split
  ·exact h.with _ _ (by have:=h.lo;omega) h1 h.l
  ·exact h
theorem Jc(h:D.Ok S)(n:Int): (D.jQf S n).Ok S:=by
 unfold jQf hU
 by_cases hc:n< (D.fr S:Int) -D.h∨(D.lim S:Int) -D.h<n
 ·rw[if_pos hc,if_neg oM]
  exact h
 ·rw[if_neg hc,if_pos rfl]
  have:=h.lo
  exact h.with _ _ oM oM h.l
theorem pS{n:List UInt8}(h:D.bU S n=0):ea n=true∧Vm.up D.h+ (8+Vm.up (1+n.length))<=D.lim S∧D.shut S=false:=by
 unfold bU at h
 by_cases h1:ea n=false
 ·rw[if_pos h1]at h;cases h
 rw[if_neg h1]at h
 by_cases h2:D.lim S<Vm.up D.h+ (8+Vm.up (1+n.length))
 ·rw[if_pos h2]at h;cases h
 rw[if_neg h2]at h
 by_cases h3:D.shut S=true
 ·rw[if_pos h3]at h;cases h
 exact⟨by simpa using h1,by omega,by simpa using h3⟩
theorem wU{n:List UInt8}(h:ea n=true):1<=n.length∧n.length<=31:=by
 unfold ea at h
 simp at h
 omega
theorem qZ(D:Dc)(n:List UInt8): (D.eW n).length=Vm.up D.h-D.h+ (8+Vm.up (1+n.length)):=by
 have:=ee (1+n.length)
 unfold eW
 simp[aI]
 omega
theorem np(D:Dc)(S:Img)(n:List UInt8):Alike S (D.bQ S n):=by
 unfold bQ
 split
 ·exact Alike.put _ _ _
 ·exact Alike.refl _
theorem FD(hS:S.Ok)(h:D.Ok S)(n:List UInt8): (D.bQ S n).Ok∧(D.cg S n).Ok (D.bQ S n):=by
 have h2:=ee D.h
 refine⟨?_,Ok.alike ?_ (np D S n)⟩
 ·unfold bQ
  split
  ·rename_i h1
   have:=pS h1
   exact cY hS _ _ (by rw[qZ];have:=h.all;omega)
  ·exact hS
 ·unfold cg
  split
  ·rename_i h1
   obtain⟨h3,h4,h5⟩:=pS h1
   have h6:=wU h3
   have h7:=ee (1+n.length)
   have h8:=h.lo
   exact h.with _ _ oM oM (.inr ⟨by omega,by omega,by omega⟩)
  ·exact h
theorem nf(D:Dc)(S:Img)(off on:UInt8):Alike S (D.cy S off on):=by
 unfold cy
 split
 ·exact Alike.refl _
 ·exact Alike.put _ _ _
theorem CC(hS:S.Ok)(h:D.Ok S)(off on:UInt8): (D.cy S off on).Ok∧D.Ok (D.cy S off on):=by
 refine⟨?_,h.alike (nf D S off on)⟩
 unfold cy
 split
 ·exact hS
 ·rename_i h1
  have h2:=h.l
  have h3:=h.all
  exact cY hS _ _ (by simp;omega)
end Dc
end Vm
set_option maxRecDepth 100000
open Go.RowKit Go.Lib Flt
namespace Vm
structure IC(b:Nat)(n:Int):Prop where
 i:IsI b n
 lt:b<18446744073709551616
 sm:n.natAbs<9007199254740992
def inP(n:Int):Bool:=decide (n.natAbs<=16777216)
theorem cN{n:Int}(h:inP n=true):n.natAbs<=16777216:=of_decide_eq_true h
theorem nG{d:Ieee.Datum}:Ieee.double.write d<18446744073709551616:=by
 have:=Ieee.Format.write_lt Ieee.double d
 have e: (2:Nat) ^ Ieee.double.width=18446744073709551616:=by decide
 omega
theorem tU(n:Int)(h:n.natAbs<9007199254740992):IC (floatOfInt .f64 n) n:=⟨of_int n h,nG (d:= .number (decide (n<0)) n.natAbs 0),h⟩
theorem ic0:IC 0 0:=by
 have h:=tU 0 (by decide)
 have e:floatOfInt .f64 0=0:=by decide
 rwa[e]at h
theorem ic1:IC 4607182418800017408 1:=by
 have h:=tU 1 (by decide)
 have e:floatOfInt .f64 1=4607182418800017408:=by decide
 rwa[e]at h
theorem Qy:IC 13830554455654793216 (-1):=by
 have h:=tU (-1) (by decide)
 have e:floatOfInt .f64 (-1)=13830554455654793216:=by decide
 rwa[e]at h
theorem Qr:IC 4715268809856909312 16777216:=by
 have h:=tU 16777216 (by decide)
 have e:floatOfInt .f64 16777216=4715268809856909312:=by decide
 rwa[e]at h
theorem o8{x y:Nat}{a b:Int}(h1:IC x a)(h2:IC y b)(h: (a+b).natAbs<9007199254740992): ∃r,floatBits .add .f64 x y=some r∧IC r (a+b):=by
 obtain⟨r,hr,hi⟩:=DI.sum h1.i h2.i h
 have e:floatBits .add .f64 x y=some r:=hr
 exact⟨r,e,hi,by
  rcases hs: (Ieee.double.read x).sum (Ieee.double.read y)with _|d
  ·rw[hs]at hr;cases hr
  ·rw[hs]at hr;cases hr;exact nG,h⟩
theorem vW{x y:Nat}{a b:Int}(h1:IC x a)(h2:IC y b)(h: (a-b).natAbs<9007199254740992): ∃r,floatBits .sub .f64 x y=some r∧IC r (a-b):=by
 obtain⟨r,hr,hi⟩:=DI.sum h1.i (DI.opposite h2.i) (by rw[<-Int.sub_eq_add_neg];exact h)
 rw[<-Int.sub_eq_add_neg]at hi
 have e:floatBits .sub .f64 x y=some r:=hr
 exact⟨r,e,hi,by
  rcases hs: (Ieee.double.read x).sum (Ieee.double.read y).opposite with _|d
  ·rw[hs]at hr;cases hr
  ·rw[hs]at hr;cases hr;exact nG,h⟩
theorem kV{x y:Nat}{a b:Int}(h1:IC x a)(h2:IC y b)(h: (a*b).natAbs<9007199254740992): ∃r,floatBits .mul .f64 x y=some r∧IC r (a*b):=by
 obtain⟨r,hr,hi⟩:=DI.product h1.i h2.i h
 have e:floatBits .mul .f64 x y=some r:=hr
 exact⟨r,e,hi,by
  rcases hs: (Ieee.double.read x).product (Ieee.double.read y)with _|d
  ·rw[hs]at hr;cases hr
  ·rw[hs]at hr;cases hr;exact nG,h⟩
theorem PF{x:Nat}{a:Int}(h:IC x a):IC (x ^^^ 9223372036854775808) (-a):=⟨IsI.neg h.i h.lt,by
 have h1:=h.lt
 exact Nat.xor_lt_two_pow (n:=64) h1 oM,by have:=h.sm;omega⟩
theorem yC{x y:Nat}{a b:Int}(h1:IC x a)(h2:IC y b):FloatKind.f64.format.order x y=some (compare a b):=DI.order h1.i h2.i
theorem IQ{x:Nat}{a:Int}(h:IC x a):floatToIntVal .f64 x .i64=some a:=by
 unfold floatToIntVal
 have e: (FloatKind.f64.decode x).toInt .zero=some a:=DI.toInt h.i
 rw[e]
 have h1:=h.sm
 have h2:IntKind.i64.min = -9223372036854775808:=by decide
 have h3:IntKind.i64.max=9223372036854775807:=by decide
 simp only[h2,h3]
 rw[if_pos oM]
theorem Jy{x:Nat}{a:Int}(h:IC x a): ∃r,FloatKind.f64.encode ((FloatKind.f64.decode x).integral .zero)=r∧IC r a:=⟨_,rfl,IsI.Qf h.i h.sm,nG,h.sm⟩
theorem NW{x:Nat}{a:Int}(h:IC x a):IC (x % 9223372036854775808) (a.natAbs:Int):=⟨IsI.abs h.i,by omega,by have:=h.sm;simpa using this⟩
theorem cmp_eq(a:Int):compare a a = .eq:=by rw[Int.compare_eq_ite_lt];simp
theorem xL(P:Program)(x:Nat)(w:World)(s:Bool)(m:Nat)(p:Int)(hd:FloatKind.f64.decode x = .number s m p):
 (Extern.MathFloor.toIntegral "math.archTrunc" .zero #[.float .f64 x]).run P w = .ok (.float .f64 (FloatKind.f64.encode ((Ieee.Datum.number s m p).integral .zero))) w:=by
 obtain⟨A,hA⟩: ∃A:Bool->Nat->Sem Value,Extern.MathFloor.toIntegral "math.archTrunc" .zero #[.float .f64 x]= (match FloatKind.f64.decode x with
  | .nan s t=>A s t
  | d=>pure (.float .f64 (FloatKind.f64.encode (d.integral .zero)))):=⟨_,rfl⟩
 rw[hA,hd]
 rfl
theorem Em{x:Nat}{a:Int}(h:IC x a)(w:World):Calls prog 309 #[.float .f64 x] w (λe w'=> ∃r,e = .returned (.float .f64 r)∧IC r a∧w'=w):=by
 obtain⟨r,hr,hi⟩:=Jy h
 have Wi: (callFunc 346 #[.float .f64 x]).run prog w = .ok (.value (.float .f64 r)) w:=by
  rw[run_callFunc_extern func346 kR kR kR (e:=Extern.MathFloor.toIntegral "math.archTrunc" .zero) kR]
  obtain⟨s,m,k,hd,_⟩:=h.i
  have Wm:FloatKind.f64.decode x = .number s m (-(k:Int)):=hd
  have h3:=xL prog x w s m _ Wm
  rw[Wm]at hr
  rw[hr]at h3
  rw[h3]
  rfl
 replace hi:=Lib.hid hi
 clear h hr
 replace Wi:=Lib.hid Wi
 go_enter func309,ntmps309
 go_wp2_with fail
 rw[Wi.out]
 clear Wi
 go_wp2_with fail
 go_ret
 exact⟨r,rfl,hi.out,rfl⟩
theorem LW{x:Nat}{a:Int}(h:IC x a)(w:World):Calls prog 310 #[.float .f64 x] w (λe w'=> ∃r,e = .returned (.float .f64 r)∧IC r (a.natAbs:Int)∧w'=w):=by
 have hi:=NW h
 have h1: (callFunc 349 #[.float .f64 x]).run prog w = .ok (.value (.int .u64 (x:Int))) w:=by
  rw[run_callFunc_extern func349 kR kR kR (e:=Extern.MathFloatBits.float64bits) kR]
  rfl
 have h3:bits .andNot .u64 (x:Int) 9223372036854775808= ((x % 9223372036854775808:Nat):Int):=by
  have h4:=u64_andNot_nat x 9223372036854775808 h.lt oM
  have h5:x &&& (18446744073709551615-9223372036854775808)=x % 9223372036854775808:=Nat.and_two_pow_sub_one_eq_mod x 63
  rw[h5]at h4
  exact h4
 have h2: (callFunc 348 #[.int .u64 ((x % 9223372036854775808:Nat):Int)]).run prog w = .ok (.value (.float .f64 (x % 9223372036854775808))) w:=by
  rw[run_callFunc_extern func348 kR kR kR (e:=Extern.MathFloatBits.float64frombits) kR]
  rfl
 generalize x % 9223372036854775808=y at *
 replace hi:=Lib.hid hi
 clear h
 go_enter func310,ntmps310
 go_wp2
 go_ret
 exact⟨y,rfl,hi.out,rfl⟩
theorem tW{x:Nat}{a:Int}(h:IC x a)(w:World):Calls prog 253 #[.float .f64 x] w (ax (.bool (inP a)) w):=by
 have ht:=Lib.hid (λw=>Em h w)
 have hab:=Lib.hid (λw=>LW h w)
 have hc:inP a=decide (a.natAbs<=16777216):=rfl
 go_enter func253,ntmps253
 go_wp2_with fail
 refine(ht.out _).mono ?_
 rintro e w1 ⟨r,rfl,hr,rfl⟩
 simp only[]
 have o1: (FloatKind.f64.format.order x r==some .eq)=true:=by rw[yC h hr,cmp_eq];rfl
 go_wp2_with fail
 refine(hab.out _).mono ?_
 rintro e w2 ⟨q,rfl,hq,rfl⟩
 simp only[]
 have o2: (FloatKind.f64.format.order q 4715268809856909312==some .lt||FloatKind.f64.format.order q 4715268809856909312==some .eq)=inP a:=by
  rw[yC hq Qr,Int.compare_eq_ite_lt,hc]
  by_cases h1:a.natAbs<=16777216
  ·rw[decide_eq_true h1]
   by_cases h2: (a.natAbs:Int) <16777216
   ·rw[if_pos h2];rfl
   ·rw[if_neg h2,if_neg oM];rfl
  ·rw[decide_eq_false h1,if_neg oM,if_pos oM];rfl
 go_wp2
 go_ret
 exact⟨rfl,rfl⟩
theorem oT{x y:Nat}{a b:Int}(h1:IC x a)(h2:IC y b)(w:World):Calls prog 213 #[.complex .f64 x y] w (ax (.bool (inP a&&inP b)) w):=by
 have k1:=Lib.hid (λw=>tW h1 w)
 have k2:=Lib.hid (λw=>tW h2 w)
 clear h1 h2
 rcases ha:inP a with _|_
 ·rw[ha]at k1
  clear ha
  go_enter func213,ntmps213
  go_wp2_with fail
  refine(k1.out _).mono ?_
  rintro e w1 ⟨rfl,rfl⟩
  simp only[]
  go_wp2
  go_ret
  exact⟨rfl,rfl⟩
 ·rw[ha]at k1
  clear ha
  generalize inP b=o at *
  go_enter func213,ntmps213
  go_wp2_with fail
  refine(k1.out _).mono ?_
  rintro e w1 ⟨rfl,rfl⟩
  simp only[]
  go_wp2_with fail
  refine(k2.out _).mono ?_
  rintro e w1 ⟨rfl,rfl⟩
  simp only[]
  go_wp2
  go_ret
  exact⟨by simp,rfl⟩
def Oq(a b:Int)(w:World)(e:Ending)(w':World):Prop:= ∃r i,e = .returned (.complex .f64 r i)∧IC r a∧IC i b∧w'=w
theorem D1{x y:Nat}{a b:Int}(h1:IC x a)(h2:IC y b)(w:World):Calls prog 252 #[.complex .f64 x y] w (Oq a b w):=by
 obtain⟨r,hr,kr⟩:=o8 h1 ic0 (by rw[Int.add_zero];exact h1.sm)
 obtain⟨i,hi,ki⟩:=o8 h2 ic0 (by rw[Int.add_zero];exact h2.sm)
 rw[Int.add_zero]at kr ki
 have f1: ∀(t:TypeId) (w:World),(binOp .add t (.float .f64 x) (.float .f64 0)).run prog w = .ok (.float .f64 r) w:=λt w=>run_float_arith w .add t .f64 x 0 r hr
 have f2: ∀(t:TypeId) (w:World),(binOp .add t (.float .f64 y) (.float .f64 0)).run prog w = .ok (.float .f64 i) w:=λt w=>run_float_arith w .add t .f64 y 0 i hi
 replace kr:=Lib.hid kr
 replace ki:=Lib.hid ki
 clear h1 h2 hr hi
 go_enter func252,ntmps252
 go_wp2
 go_ret
 exact⟨r,i,rfl,kr.out,ki.out,rfl⟩
theorem lS{x y:Nat}{a b:Int}(h1:IC x a)(h2:IC y b)(ha:inP a=true)(hb:inP b=true)(w:World):Calls prog 173 #[.complex .f64 x y] w (ax (.tuple #[a,b,(0:Int)]) w):=by
 have hr:=oT h1 h2 w
 rw[ha,hb]at hr
 have f1: ∀(w:World),(convert 253 3 (.float .f64 x)).run prog w = .ok (.int .i64 a) w:=λw=>run_convert_float_int w 253 3 .f64 .i64 x a kR underlying3 (IQ h1)
 have f2: ∀(w:World),(convert 253 3 (.float .f64 y)).run prog w = .ok (.int .i64 b) w:=λw=>run_convert_float_int w 253 3 .f64 .i64 y b kR underlying3 (IQ h2)
 replace hr:=Lib.hid hr
 clear h1 h2 ha hb
 go_enter func173,ntmps173
 go_wp2_with fail
 refine hr.out.mono ?_
 rintro e w1 ⟨rfl,rfl⟩
 simp only[]
 go_wp2
 exact bodyPost_ret (v:= .tuple #[a,b,(0:Int)]) (by simp[results,results173,go_sem]) rfl ⟨rfl,rfl⟩
theorem NM(v:Value)(w:World):Calls prog 251 #[.nilIface,.iface 67 (.int .i64 1)] w (ax (.bool false) w):=by
 have heq: ∀w:World,(binOp .eql 280 .nilIface (.iface 67 (.int .i64 1))).run prog w = .ok (.bool false) w:=λw=>rfl
 go_enter func251,ntmps251
 go_wp2
 go_ret
 exact⟨rfl,rfl⟩
def dT(a b:Int)(w:World)(e:Ending)(w':World):Prop:=
 if(inP a&&inP b)=true then∃r i,e = .returned (.tuple #[.complex .f64 r i,(0:Int)])∧IC r a∧IC i b∧Below w.heap.size w w'
 else e = .returned (.tuple #[.complex .f64 0 0,(8:Int)])∧Below w.heap.size w w'
theorem lD{x y:Nat}{a b:Int}(h1:IC x a)(h2:IC y b)(w:World):Calls prog 211 #[.complex .f64 x y,.nilIface] w (dT a b w):=by
 have hr:=Lib.hid (λw=>oT h1 h2 w)
 have hc:=Lib.hid (λw=>D1 h1 h2 w)
 have hn:=Lib.hid (λw=>NM .nilIface w)
 unfold dT
 clear h1 h2
 rcases ho: (inP a&&inP b)with _|_
 ·rw[ho]at hr
  simp only[Bool.false_eq_true,if_false]
  go_enter func211,ntmps211
  go_wp2_with fail
  refine(hn.out _).mono ?_
  rintro e w1 ⟨rfl,rfl⟩
  simp only[]
  go_wp2_with fail
  refine(hr.out _).mono ?_
  rintro e w1 ⟨rfl,rfl⟩
  simp only[]
  go_wp2
  go_ret2
  exact⟨rfl,Below.refl _ _⟩
 ·rw[ho]at hr
  simp only[if_true]
  go_enter func211,ntmps211
  go_wp2_with fail
  refine(hn.out _).mono ?_
  rintro e w1 ⟨rfl,rfl⟩
  simp only[]
  go_wp2_with fail
  refine(hr.out _).mono ?_
  rintro e w1 ⟨rfl,rfl⟩
  simp only[]
  go_wp2_with fail
  refine(hc.out _).mono ?_
  rintro e w1 ⟨r,i,rfl,kr,ki,rfl⟩
  simp only[]
  go_wp2
  go_ret2
  exact⟨r,i,rfl,kr,ki,Below.refl _ _⟩
