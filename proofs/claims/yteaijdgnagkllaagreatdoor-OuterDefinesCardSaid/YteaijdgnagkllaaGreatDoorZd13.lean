/- The plain specification of chapter 3 (image) and of cells as bytes (chapter 1): one for the program and for the document's answer. No condition. -/
import Derived.Test.YteaijdgnagkllaaGreatDoorZd03
open Go.Proofs.Tryz
namespace Go.Proofs.YteaijdgnagkllaaGreatDoor
set_option linter.unusedVariables false
set_option linter.unusedSimpArgs false
set_option maxHeartbeats 8000000
open Go.RowKit Go.Lib
def leN:List UInt8->Nat
 | []=>0
 | x::l=>x.toNat+256*leN l
def ofB(l:List UInt8):Int:=wrap64 (leN l:Nat)
def byteAt(v:Int)(i:Nat):UInt8:=UInt8.ofNat ((v/ (256:Int) ^ i) % 256).toNat
def toB(v:Int):List UInt8:=(List.range 8).map (byteAt v)
theorem toB_len(v:Int): (toB v).length=8:=by simp[toB]
theorem leN_lt: ∀l:List UInt8,leN l<256 ^ l.length
 | []=>by simp[leN]
 | x::l=>by
   have h1:=leN_lt l
   have h2:x.toNat<256:=x.toNat_lt
   simp only[leN,List.length_cons,Nat.pow_succ]
   omega
theorem leN_append: ∀l m:List UInt8,leN (l++m)=leN l+256 ^ l.length*leN m
 | [],m=>by simp[leN]
 | x::l,m=>by
   simp only[List.cons_append,leN,leN_append l m,List.length_cons,Nat.pow_succ]
   rw[Nat.mul_add,<-Nat.mul_assoc,Nat.mul_comm 256 (256 ^ l.length),Nat.add_assoc]
def putL(b:List UInt8)(k:Nat)(l:List UInt8):List UInt8:=b.take k++ (l++b.drop (k+l.length))
theorem putL_len(b:List UInt8)(k:Nat)(l:List UInt8)(h:k+l.length<=b.length): (putL b k l).length=b.length:=by
 unfold putL
 simp
 omega
structure Img where
 k:Nat
 s:Nat
 u:Nat
 d:Nat
 r:Nat
 b:List UInt8
 op:Bool
 cl:Bool
namespace Img
variable (S:Img)
def beg:Nat->Nat
 | 2=>S.k
 | 3=>S.k+S.s
 | 4=>S.k+S.s+S.u
 | 5=>S.k+S.s+S.u+S.d
 | 6=>S.k+S.s+S.u+S.d+S.r
 | _=>0
structure Ok:Prop where
 len:S.b.length=S.beg 6
 small:S.beg 6<=143360
def region(a:Int):Nat:=
 if a<0 then 0 else if a<S.beg 2 then 1 else if a<S.beg 3 then 2 else if a<S.beg 4 then 3 else if a<S.beg 5 then 4 else if a<S.beg 6 then 5 else 0
def may(m:Int)(r:Nat):Int:=
 if r<1∨5<r∨m<0∨2<m then 0
 else if m=0 then(if r=1∧S.cl=true then 1 else 3)
 else if r=1∨(r=2∧(m=2∨S.op=true))then 1
 else if r=3 then 3 else 0
def lets(m:Int)(r:Nat)(w:Bool):Bool:=if w then S.may m r==3 else S.may m r != 0
def rowOk(m a:Int)(n:Nat)(w:Bool):Bool:=n==0|| (S.region a != 0&&decide ((n:Int)<=S.beg (S.region a+1) -a) &&S.lets m (S.region a) w)
def bytes(a:Int)(n:Nat):List UInt8:=(S.b.drop a.toNat).take n
def cellF(m a:Int)(w:Bool):Int:=if a % 8≠0 then 6 else if S.rowOk m a 8 w=true then 0 else 5
def cellV(m a:Int):Int:=if S.cellF m a false=0 then ofB (S.bytes a 8)else 0
def put(a:Nat)(l:List UInt8):Img:={ S with b:=putL S.b a l }
def setCell(m a v:Int):Img:=if S.cellF m a true=0 then S.put a.toNat (toB v)else S
def textF(m a n:Int):Int:=if n<0 then 19 else if S.rowOk m a n.toNat false=true then 0 else 5
def text(m a n:Int):ByteArray:=if S.textF m a n=0 then⟨(S.bytes a n.toNat).toArray⟩else⟨#[]⟩
def openF:Int:=if S.cl=true then 5 else 0
def opened:Img:=if S.cl=true then S else { S with op:=true }
def sealed:Img:={ S with cl:=true }
def part(r:Nat):ByteArray:=if 1<=r∧r<=5 then⟨((S.b.drop (S.beg r)).take (S.beg (r+1) -S.beg r)).toArray⟩else⟨#[]⟩
theorem beg_mono{i j:Nat}(hi:1<=i)(hij:i<=j)(hj:j<=6):S.beg i<=S.beg j:=by
 have h1:i=1∨i=2∨i=3∨i=4∨i=5∨i=6:=by omega
 have h2:j=1∨j=2∨j=3∨j=4∨j=5∨j=6:=by omega
 rcases h1 with rfl|rfl|rfl|rfl|rfl|rfl<;>rcases h2 with rfl|rfl|rfl|rfl|rfl|rfl<;>simp[beg]<;>omega
theorem region_eq{j:Nat}{a:Int}(h0:0<=a)(h1:1<=j)(h5:j<=5)(hlo: (S.beg j:Int)<=a)(hhi:a<S.beg (j+1)):S.region a=j:=by
 have hj:j=1∨j=2∨j=3∨j=4∨j=5:=by omega
 unfold region
 rcases hj with rfl|rfl|rfl|rfl|rfl<;>simp only[beg]at * <;> repeat' split
 all_goals omega
theorem region_out{a:Int}(h:a<0∨(S.beg 6:Int)<=a):S.region a=0:=by
 unfold region
 simp only[beg]at *
 repeat' split
 all_goals omega
theorem region_in{a:Int}(h:S.region a≠0):0<=a∧(S.beg (S.region a):Int)<=a∧a<S.beg (S.region a+1)∧(S.beg (S.region a+1))<=S.beg 6∧1<=S.region a∧S.region a<=5:=by
 by_cases h0:a<0
 ·exact absurd (S.region_out (.inl h0)) h
 by_cases h6: (S.beg 6:Int)<=a
 ·exact absurd (S.region_out (.inr h6)) h
 have hj: ∃j,1<=j∧j<=5∧(S.beg j:Int)<=a∧a<S.beg (j+1):=by
  by_cases h2:a<S.beg 2
  ·exact⟨1,by omega,by omega,by simp only[beg];omega,h2⟩
  by_cases h3:a<S.beg 3
  ·exact⟨2,by omega,by omega,by omega,h3⟩
  by_cases h4:a<S.beg 4
  ·exact⟨3,by omega,by omega,by omega,h4⟩
  by_cases h5:a<S.beg 5
  ·exact⟨4,by omega,by omega,by omega,h5⟩
  ·exact⟨5,by omega,by omega,by omega,by have:S.beg (5+1)=S.beg 6:=rfl;omega⟩
 obtain⟨j,h1,h5,hlo,hhi⟩:=hj
 rw[S.region_eq oM h1 h5 hlo hhi]
 exact⟨by omega,hlo,hhi,S.beg_mono oM oM oM,h1,h5⟩
theorem row_in{m a:Int}{n:Nat}{w:Bool}(h:S.rowOk m a n w=true)(hn:n≠0):0<=a∧a+n<=S.beg 6:=by
 unfold rowOk at h
 simp[hn]at h
 have:=S.region_in h.1.1
 omega
end Img
namespace Vm
def sget(S:Img)(fr i:Nat):Int:=S.cellV 0 ((fr:Int) +8* (i:Int))
def sset(S:Img)(fr i:Nat)(v:Int):Img:=S.setCell 0 ((fr:Int) +8* (i:Int)) v
def spush(S:Img)(fr d:Nat):List Int->Img
 | []=>S
 | x::l=>spush (sset S fr d x) fr (d+1) l
theorem spush_snoc(fr:Nat)(x:Int): ∀(l:List Int) (S:Img) (d:Nat),spush S fr d (l ++ [x])=sset (spush S fr d l) fr (d+l.length) x
 | [],S,d=>rfl
 | y::l,S,d=>by
   show spush (sset S fr d y) fr (d+1) (l ++ [x])=sset (spush (sset S fr d y) fr (d+1) l) fr (d+ (l.length+1)) x
   rw[spush_snoc fr x l,show d+1+l.length=d+ (l.length+1)by omega]
def stopv(S:Img)(fr d:Nat)(n:Int):Int:=if 0<=n∧n<d then sget S fr (d-1-n.toNat)else 0
structure Alike(S S':Img):Prop where
 k:S'.k=S.k
 s:S'.s=S.s
 u:S'.u=S.u
 d:S'.d=S.d
 r:S'.r=S.r
 op:S'.op=S.op
 cl:S'.cl=S.cl
theorem Alike.refl(S:Img):Alike S S:=⟨rfl,rfl,rfl,rfl,rfl,rfl,rfl⟩
theorem Alike.trans{S T U:Img}(h:Alike S T)(g:Alike T U):Alike S U:=
 ⟨g.k.trans h.k,g.s.trans h.s,g.u.trans h.u,g.d.trans h.d,g.r.trans h.r,g.op.trans h.op,g.cl.trans h.cl⟩
theorem Alike.symm{S T:Img}(h:Alike S T):Alike T S:=⟨h.k.symm,h.s.symm,h.u.symm,h.d.symm,h.r.symm,h.op.symm,h.cl.symm⟩
theorem Alike.put(S:Img)(a:Nat)(l:List UInt8):Alike S (S.put a l):=⟨rfl,rfl,rfl,rfl,rfl,rfl,rfl⟩
theorem Alike.setCell(S:Img)(m a v:Int):Alike S (S.setCell m a v):=by
 unfold Img.setCell
 split
 ·exact Alike.put _ _ _
 ·exact Alike.refl S
theorem Alike.beg{S T:Img}(h:Alike S T)(i:Nat):T.beg i=S.beg i:=by
 unfold Img.beg
 rw[h.k,h.s,h.u,h.d,h.r]
theorem Alike.sset(S:Img)(fr i:Nat)(v:Int):Alike S (sset S fr i v):=Alike.setCell _ _ _ _
theorem Alike.spush(fr:Nat): ∀(l:List Int) (S:Img) (d:Nat),Alike S (spush S fr d l)
 | [],S,d=>Alike.refl S
 | x::l,S,d=>(Alike.sset S fr d x).trans (Alike.spush fr l _ _)
theorem replicate_snoc{α:Type}(n:Nat)(a:α):List.replicate n a ++ [a]=List.replicate (n+1) a:=by rw[List.replicate_succ']
structure Pl where
 fr:Nat
 rm:Nat
 un:Int
 ov:Int
structure Pl.Ok(p:Pl):Prop where
 fr:p.fr<=143360
 rm:p.rm<=512
end Vm
namespace Img
variable (S:Img)
def byteF(m a:Int)(w:Bool):Int:=if S.rowOk m a 1 w=true then 0 else 5
def byteV(m a:Int):UInt8:=if S.rowOk m a 1 false=true then S.b.getD a.toNat 0 else 0
def setByte(m a:Int)(b:UInt8):Img:=if S.rowOk m a 1 true=true then S.put a.toNat [b]else S
end Img
theorem putL_append(b:List UInt8)(k:Nat)(l m:List UInt8)(h:k+l.length<=b.length):putL (putL b k l) (k+l.length) m=putL b k (l++m):=by
 unfold putL
 have h1: (b.take k).length=k:=by simp;omega
 have e1: (b.take k++ (l++b.drop (k+l.length))).take (k+l.length)=b.take k++l:=by
  rw[<-List.append_assoc,List.take_append_of_le_length (by simp;omega),List.take_of_length_le (by simp;omega)]
 have e2: (b.take k++ (l++b.drop (k+l.length))).drop (k+l.length+m.length)=b.drop (k+ (l++m).length):=by
  rw[<-List.append_assoc,List.drop_append,List.drop_eq_nil_of_le (by simp;omega),List.nil_append,List.drop_drop]
  congr 1
  simp
  omega
 rw[e1,e2]
 simp[List.append_assoc]
theorem putL_nil(b:List UInt8)(k:Nat):putL b k []=b:=by
 unfold putL
 simp
theorem Img.put_append(S:Img)(k:Nat)(l m:List UInt8)(h:k+l.length<=S.b.length): (S.put k l).put (k+l.length) m=S.put k (l++m):=by
 unfold Img.put
 rw[putL_append _ _ _ _ h]
theorem Img.put_nil(S:Img)(k:Nat):S.put k []=S:=by
 unfold Img.put
 rw[putL_nil]
namespace Vm
def up(n:Nat):Nat:=(n+7) /8*8
def isHigh(c:UInt8):Bool:=decide (32<c.toNat)
structure Dc where
 rg:Nat
 h:Nat
 l:Nat
namespace Dc
variable (S:Img)(D:Dc)
def fr:Nat:=S.beg D.rg+8
def lim:Nat:=S.beg (D.rg+1)
def shut:Bool:=S.cl&&D.rg==1
structure Ok:Prop where
 rg:D.rg=1∨D.rg=3
 lo:D.fr S<=D.h
 hi:D.h<=D.lim S
 l:D.l=0∨(D.l % 8=0∧D.fr S<=D.l∧D.l+16<=D.lim S)
 al:D.lim S % 8=0∧S.beg D.rg % 8=0
 room:S.beg D.rg+256<=D.lim S
def commaF:Int:=if D.lim S<D.h+8 then 9 else if D.h % 8≠0 then 6 else if D.shut S=true then 5 else 0
def commaS(v:Int):Img:=if D.commaF S=0 then S.put D.h (toB v)else S
def commaD:Dc:=if D.commaF S=0 then { D with h:=D.h+8 } else D
def ccommaF:Int:=if D.lim S<=D.h then 9 else if D.shut S=true then 5 else 0
def ccommaS(b:UInt8):Img:=if D.ccommaF S=0 then S.put D.h [b]else S
def ccommaD:Dc:=if D.ccommaF S=0 then { D with h:=D.h+1 } else D
def nameB(n:List UInt8):Bool:=decide (1<=n.length) &&decide (n.length<=31) &&n.all isHigh
def createF(n:List UInt8):Int:=
 if nameB n=false then 15 else if D.lim S<up D.h+ (8+up (1+n.length))then 9 else if D.shut S=true then 5 else 0
def headB(n:List UInt8):List UInt8:=
 List.replicate (up D.h-D.h) 0++ (toB D.l++ (UInt8.ofNat (n.length+32):: (n++List.replicate (up (1+n.length) - (1+n.length)) 0)))
def createS(n:List UInt8):Img:=if D.createF S n=0 then S.put D.h (D.headB n)else S
def createD(n:List UInt8):Dc:=if D.createF S n=0 then { D with h:=up D.h+ (8+up (1+n.length)),l:=up D.h } else D
def createV(n:List UInt8):Int:=if D.createF S n=0 then(up D.h+ (8+up (1+n.length)):Nat)else 0
def flagS(off on:UInt8):Img:=if D.l=0∨D.shut S=true then S else S.put (D.l+8) [S.b.getD (D.l+8) 0 &&& ~~~off ||| on]
end Dc
structure Wd where
 name:List UInt8
 head:Nat
 xt:Nat
 imm:Bool
 hid:Bool
 inl:Bool
def headW(S:Img)(D:Dc)(a:Int):Option (Wd×Int):=
 if a % 8≠0∨a<D.fr S∨(D.lim S:Int) <a+16 then none
 else
  let p:=a.toNat
  let b:=S.b.getD (p+8) 0
  let n:=b.toNat % 32
  if n=0∨D.lim S<up (p+9+n)then none
  else some (⟨(S.b.drop (p+9)).take n,p,up (p+9+n),b.toNat/64 % 2==1,b.toNat/32 % 2==1,b.toNat/128==1⟩,ofB ((S.b.drop p).take 8))
def wordsF(S:Img)(D:Dc):Nat->Int->List Wd
 | 0,_=>[]
 | k+1,a=>
   match headW S D a with
   | none=>[]
   | some (w,next)=>if a<=next then [w]else w::wordsF S D k next
def words(S:Img)(D:Dc):List Wd:=wordsF S D (D.l+1) D.l
def lowC(c:UInt8):UInt8:=if 65<=c.toNat∧c.toNat<=90 then c+32 else c
def lowS(l:List UInt8):List UInt8:=l.map lowC
def sameB(a b:List UInt8):Bool:=decide (lowS a=lowS b)
def findW(S:Img)(D:Dc)(n:List UInt8):Option Wd:=(words S D).find? λw=> !w.hid&&sameB w.name n
theorem up_ge(n:Nat):n<=up n∧up n<=n+7∧up n % 8=0:=by unfold up;omega
theorem up_id(n:Nat)(h:n % 8=0):up n=n:=by unfold up;omega
end Vm
theorem putL_getD(b l:List UInt8)(k i:Nat)(h:k+l.length<=b.length): (putL b k l).getD i 0=if k<=i∧i<k+l.length then l.getD (i-k) 0 else b.getD i 0:=by
 unfold putL
 rw[List.getD_eq_getElem?_getD,List.getElem?_append]
 have h1: (b.take k).length=k:=by simp;omega
 rw[h1]
 by_cases hik:i<k
 ·rw[if_pos hik,if_neg oM,List.getElem?_take,if_pos hik,List.getD_eq_getElem?_getD]
 rw[if_neg hik,List.getElem?_append]
 by_cases hl:i-k<l.length
 ·rw[if_pos hl,if_pos oM,List.getD_eq_getElem?_getD]
 ·rw[if_neg hl,if_neg oM,List.getElem?_drop,List.getD_eq_getElem?_getD]
  congr 2
  omega
theorem slice_ext(b c:List UInt8)(i j n:Nat)(hi:i+n<=b.length)(hj:j+n<=c.length)(h: ∀k,k<n->b.getD (i+k) 0=c.getD (j+k) 0): (b.drop i).take n= (c.drop j).take n:=by
 apply List.ext_getElem
 ·simp;omega
 ·intro k h1 h2
  have hk:k<n:=by simp at h1;omega
  have e:=h k hk
  rw[List.getD_eq_getElem?_getD,List.getD_eq_getElem?_getD,List.getElem?_eq_getElem oM,List.getElem?_eq_getElem oM]at e
  simpa using e
namespace Img
variable (S:Img)
theorem put_len(k:Nat)(l:List UInt8)(h:k+l.length<=S.b.length): (S.put k l).b.length=S.b.length:=putL_len _ _ _ h
theorem put_getD(k i:Nat)(l:List UInt8)(h:k+l.length<=S.b.length): (S.put k l).b.getD i 0=if k<=i∧i<k+l.length then l.getD (i-k) 0 else S.b.getD i 0:=putL_getD _ _ _ _ h
theorem bytes_put_far(k a n:Nat)(l:List UInt8)(h:k+l.length<=S.b.length)(ha:a+n<=S.b.length)(hf:a+n<=k∨k+l.length<=a): (S.put k l).bytes (a:Int) n=S.bytes (a:Int) n:=by
 unfold Img.bytes
 refine slice_ext _ _ _ _ _ (by rw[S.put_len k l h];simpa using ha) (by simpa using ha) λj hj=> ?_
 rw[S.put_getD k _ l h,if_neg (by simp;omega)]
theorem bytes_put_in(k j n:Nat)(l:List UInt8)(h:k+l.length<=S.b.length)(hj:j+n<=l.length): (S.put k l).bytes ((k+j:Nat):Int) n= (l.drop j).take n:=by
 unfold Img.bytes
 refine slice_ext _ _ _ _ _ (by rw[S.put_len k l h];simp;omega) hj λi hi=> ?_
 rw[S.put_getD k _ l h,if_pos (by simp;omega)]
 congr 1
 simp
 omega
end Img
theorem emod_split(v m:Int)(hm:0<m):v % (m*256)=v % m+m* (v/m % 256):=by
 have h1:v=m* (v/m) +v % m:=(Int.mul_ediv_add_emod v m).symm
 have h2:v/m=256* (v/m/256) +v/m % 256:=(Int.mul_ediv_add_emod (v/m) 256).symm
 have h3:=Int.emod_nonneg v (show m≠0 by omega)
 have h4:=Int.emod_lt_of_pos v hm
 generalize v % m=r at *
 generalize v/m=q at *
 have h5:0<=q % 256∧q % 256<256:=by omega
 generalize q % 256=p at *
 generalize q/256=t at *
 have h6:m*0<=m*p:=Int.mul_le_mul_of_nonneg_left h5.1 oM
 have h7:m* (p+1)<=m*256:=Int.mul_le_mul_of_nonneg_left oM oM
 have e:v= (r+m*p) + (m*256)*t:=by
  rw[h1,h2,Int.mul_add,Int.mul_assoc]
  omega
 rw[Int.mul_add,Int.mul_one]at h7
 rw[e,Int.add_mul_emod_self_left,Int.emod_eq_of_lt oM oM]
theorem leN_map(v:Int)(n:Nat): (leN ((List.range n).map (byteAt v)):Int)=v % (256:Int) ^ n:=by
 induction n with
 | zero=>simp[leN]
 | succ n ih=>
   have hp: (0:Int) <256 ^ n:=Int.pow_pos oM
   have hb: ((byteAt v n).toNat:Int)=v/ (256:Int) ^ n % 256:=by
    unfold byteAt
    have h1:0<=v/ (256:Int) ^ n % 256:=Int.emod_nonneg _ oM
    have h2:v/ (256:Int) ^ n % 256<256:=Int.emod_lt_of_pos _ oM
    rw[UInt8.toNat_ofNat',Nat.mod_eq_of_lt oM]
    omega
   rw[List.range_succ,List.map_append,leN_append,Int.pow_succ,emod_split v _ hp,<-hb,<-ih]
   simp[leN]
theorem leN_toB(v:Int): (leN (toB v):Int)=v % 18446744073709551616:=by
 have h:=leN_map v 8
 rw[show((256:Int) ^ 8)=18446744073709551616 from rfl]at h
 exact h
theorem ofB_toB(v:Int)(h : -9223372036854775808<=v∧v<=9223372036854775807):ofB (toB v)=v:=by
 unfold ofB
 rw[leN_toB]
 unfold wrap64
 omega
namespace Vm
theorem Alike.cellF{S T:Img}(h:Alike S T)(m a:Int)(w:Bool):T.cellF m a w=S.cellF m a w:=by
 have hr:T.region a=S.region a:=by
  unfold Img.region
  rw[h.beg,h.beg,h.beg,h.beg,h.beg]
 have hm: ∀r,T.may m r=S.may m r:=λr=>by
  unfold Img.may
  rw[h.op,h.cl]
 unfold Img.cellF Img.rowOk Img.lets
 rw[hr,hm,h.beg]
theorem Alike.rowOk{S T:Img}(h:Alike S T)(m a:Int)(n:Nat)(w:Bool):T.rowOk m a n w=S.rowOk m a n w:=by
 have hr:T.region a=S.region a:=by
  unfold Img.region
  rw[h.beg,h.beg,h.beg,h.beg,h.beg]
 have hm: ∀r,T.may m r=S.may m r:=λr=>by
  unfold Img.may
  rw[h.op,h.cl]
 unfold Img.rowOk Img.lets
 rw[hr,hm,h.beg]
theorem cellV_put_far(S:Img)(hS:S.Ok)(m a:Int)(k:Nat)(l:List UInt8)(h:k+l.length<=S.beg 6)(hf:a+8<=k∨((k+l.length:Nat):Int)<=a): (S.put k l).cellV m a=S.cellV m a:=by
 unfold Img.cellV
 rw[(Alike.put S k l).cellF]
 by_cases hc:S.cellF m a false=0
 ·rw[if_pos hc,if_pos hc]
  have hin:S.rowOk m a 8 false=true:=by
   unfold Img.cellF at hc
   repeat' split at hc
   all_goals first|assumption|omega
  obtain⟨h0,h1⟩:=S.row_in hin oM
  obtain⟨n,rfl⟩: ∃n:Nat,a=n:=⟨a.toNat,by omega⟩
  rw[S.bytes_put_far k n 8 l (by rw[hS.len];exact h) (by rw[hS.len];omega) oM]
 ·rw[if_neg hc,if_neg hc]
theorem cellV_put_in(S:Img)(hS:S.Ok)(m:Int)(k j:Nat)(l:List UInt8)(h:k+l.length<=S.beg 6)(hj:j+8<=l.length)(hc:S.cellF m ((k+j:Nat):Int) false=0): (S.put k l).cellV m ((k+j:Nat):Int)=ofB ((l.drop j).take 8):=by
 unfold Img.cellV
 rw[(Alike.put S k l).cellF,if_pos hc,S.bytes_put_in k j 8 l (by rw[hS.len];exact h) hj]
theorem put_ok{S:Img}(hS:S.Ok)(k:Nat)(l:List UInt8)(h:k+l.length<=S.beg 6): (S.put k l).Ok:=by
 have hb: ∀i,(S.put k l).beg i=S.beg i:=λi=>(Alike.put S k l).beg i
 refine⟨?_,?_⟩
 ·rw[hb,S.put_len k l (by rw[hS.len];exact h)]
  exact hS.len
 ·rw[hb]
  exact hS.small
namespace Dc
variable {S T:Img}{D:Dc}
theorem fr_alike(h:Alike S T):D.fr T=D.fr S:=by unfold fr;rw[h.beg]
theorem lim_alike(h:Alike S T):D.lim T=D.lim S:=by unfold lim;rw[h.beg]
theorem shut_alike(h:Alike S T):D.shut T=D.shut S:=by unfold shut;rw[h.cl]
theorem Ok.alike(h:D.Ok S)(ha:Alike S T):D.Ok T:=
 ⟨h.rg,by rw[fr_alike ha];exact h.lo,by rw[lim_alike ha];exact h.hi,by rw[fr_alike ha,lim_alike ha];exact h.l,by rw[lim_alike ha,ha.beg];exact h.al,by rw[lim_alike ha,ha.beg];exact h.room⟩
theorem Ok.all(h:D.Ok S):D.lim S<=S.beg 6:=by
 unfold lim
 rcases h.rg with e|e<;>rw[e]<;>exact S.beg_mono oM oM oM
theorem Ok.le(h:D.Ok S)(hS:S.Ok):D.lim S<=143360:=Nat.le_trans h.all hS.small
theorem Ok.with(h:D.Ok S)(n m:Nat)(h1:D.fr S<=n)(h2:n<=D.lim S)(h3:m=0∨(m % 8=0∧D.fr S<=m∧m+16<=D.lim S)): ({ D with h:=n,l:=m }:Dc).Ok S:=⟨h.rg,h1,h2,h3,h.al,h.room⟩
theorem Ok.region(h:D.Ok S)(a:Nat)(h1:D.fr S<=a)(h2:a<D.lim S):S.region (a:Int)=D.rg:=by
 have h3:S.beg D.rg<=a:=by unfold fr at h1;omega
 refine S.region_eq oM ?_ ?_ oM (by unfold lim at h2;omega)
 ·rcases h.rg with e|e<;>omega
 ·rcases h.rg with e|e<;>omega
theorem Ok.may(h:D.Ok S):S.may 0 D.rg=if D.shut S=true then 1 else 3:=by
 unfold Img.may shut
 rcases h.rg with e|e<;>rw[e]<;>simp
theorem Ok.rowOk(h:D.Ok S)(a n:Nat)(h1:D.fr S<=a)(h2:a+n<=D.lim S)(hn:n≠0)(w:Bool):S.rowOk 0 (a:Int) n w= (!w|| !D.shut S):=by
 have hr:=h.region a h1 oM
 unfold Img.rowOk Img.lets
 rw[hr,h.may]
 have h3: (D.rg != 0)=true:=by rcases h.rg with e|e<;>rw[e]<;>rfl
 have h4:decide ((n:Int)<=(S.beg (D.rg+1):Int) - (a:Int))=true:=decide_eq_true (by unfold lim at h2;omega)
 have h5: (n==0)=false:=by simpa using hn
 rw[h3,h4,h5]
 cases w<;>cases D.shut S<;>simp
theorem Ok.cellW(h:D.Ok S)(a:Nat)(h1:D.fr S<=a)(h2:a+8<=D.lim S):S.cellF 0 (a:Int) true=if a % 8≠0 then 6 else if D.shut S=true then 5 else 0:=by
 unfold Img.cellF
 rw[h.rowOk a 8 h1 h2 oM true]
 have e: ((a:Int) % 8≠0)↔a % 8≠0:=by omega
 simp only[e]
 cases D.shut S<;>simp
theorem Ok.byteW(h:D.Ok S)(a:Nat)(h1:D.fr S<=a)(h2:a+1<=D.lim S):S.byteF 0 (a:Int) true=if D.shut S=true then 5 else 0:=by
 unfold Img.byteF
 rw[h.rowOk a 1 h1 h2 oM true]
 cases D.shut S<;>simp
theorem Ok.byteR(h:D.Ok S)(a:Nat)(h1:D.fr S<=a)(h2:a+1<=D.lim S):S.byteF 0 (a:Int) false=0∧S.byteV 0 (a:Int)=S.b.getD a 0:=by
 unfold Img.byteF Img.byteV
 rw[h.rowOk a 1 h1 h2 oM false]
 simp
theorem comma_zero(h:D.commaF S=0):D.h+8<=D.lim S∧D.h % 8=0∧D.shut S=false:=by
 unfold commaF at h
 by_cases h1:D.lim S<D.h+8
 ·rw[if_pos h1]at h;cases h
 rw[if_neg h1]at h
 by_cases h2:D.h % 8≠0
 ·rw[if_pos h2]at h;cases h
 rw[if_neg h2]at h
 by_cases h3:D.shut S=true
 ·rw[if_pos h3]at h;cases h
 exact⟨by omega,by omega,by simpa using h3⟩
theorem alike_comma(D:Dc)(S:Img)(v:Int):Alike S (D.commaS S v):=by
 unfold commaS
 split
 ·exact Alike.put _ _ _
 ·exact Alike.refl _
theorem ok_comma(hS:S.Ok)(h:D.Ok S)(v:Int): (D.commaS S v).Ok∧(D.commaD S).Ok (D.commaS S v):=by
 refine⟨?_,Ok.alike ?_ (alike_comma D S v)⟩
 ·unfold commaS
  split
  ·rename_i h1
   have:=comma_zero h1
   exact put_ok hS _ _ (by rw[toB_len];have:=h.all;omega)
  ·exact hS
 ·unfold commaD
  split
  ·rename_i h1
   have:=comma_zero h1
   exact h.with _ _ (by have:=h.lo;omega) oM h.l
  ·exact h
theorem Ok.up(h:D.Ok S):Vm.up D.h<=D.lim S:=by
 have h1:=h.hi
 have h2:=h.al.1
 unfold Vm.up
 omega
theorem create_zero{n:List UInt8}(h:D.createF S n=0):nameB n=true∧Vm.up D.h+ (8+Vm.up (1+n.length))<=D.lim S∧D.shut S=false:=by
 unfold createF at h
 by_cases h1:nameB n=false
 ·rw[if_pos h1]at h;cases h
 rw[if_neg h1]at h
 by_cases h2:D.lim S<Vm.up D.h+ (8+Vm.up (1+n.length))
 ·rw[if_pos h2]at h;cases h
 rw[if_neg h2]at h
 by_cases h3:D.shut S=true
 ·rw[if_pos h3]at h;cases h
 exact⟨by simpa using h1,by omega,by simpa using h3⟩
theorem name_len{n:List UInt8}(h:nameB n=true):1<=n.length∧n.length<=31:=by
 unfold nameB at h
 simp at h
 omega
theorem head_len(D:Dc)(n:List UInt8): (D.headB n).length=Vm.up D.h-D.h+ (8+Vm.up (1+n.length)):=by
 have:=up_ge (1+n.length)
 unfold headB
 simp[toB_len]
 omega
theorem alike_create(D:Dc)(S:Img)(n:List UInt8):Alike S (D.createS S n):=by
 unfold createS
 split
 ·exact Alike.put _ _ _
 ·exact Alike.refl _
theorem ok_create(hS:S.Ok)(h:D.Ok S)(n:List UInt8): (D.createS S n).Ok∧(D.createD S n).Ok (D.createS S n):=by
 have h2:=up_ge D.h
 refine⟨?_,Ok.alike ?_ (alike_create D S n)⟩
 ·unfold createS
  split
  ·rename_i h1
   have:=create_zero h1
   exact put_ok hS _ _ (by rw[head_len];have:=h.all;omega)
  ·exact hS
 ·unfold createD
  split
  ·rename_i h1
   obtain⟨h3,h4,h5⟩:=create_zero h1
   have h6:=name_len h3
   have h7:=up_ge (1+n.length)
   have h8:=h.lo
   exact h.with _ _ oM oM (.inr ⟨by omega,by omega,by omega⟩)
  ·exact h
theorem alike_flag(D:Dc)(S:Img)(off on:UInt8):Alike S (D.flagS S off on):=by
 unfold flagS
 split
 ·exact Alike.refl _
 ·exact Alike.put _ _ _
theorem ok_flag(hS:S.Ok)(h:D.Ok S)(off on:UInt8): (D.flagS S off on).Ok∧D.Ok (D.flagS S off on):=by
 refine⟨?_,h.alike (alike_flag D S off on)⟩
 unfold flagS
 split
 ·exact hS
 ·rename_i h1
  have h2:=h.l
  have h3:=h.all
  exact put_ok hS _ _ (by simp;omega)
end Dc
end Vm
theorem i64_and255(n:Int):bits .and .i64 n 255=n % 256:=by
 have h255: (BitVec.ofInt 64 255).toNat=2 ^ 8-1:=by decide
 have key: (BitVec.ofInt 64 n &&& BitVec.ofInt 64 255).toNat= (n % ((2 ^ 64:Nat):Int)).toNat % 2 ^ 8:=by
  rw[BitVec.toNat_and,BitVec.toNat_ofInt,h255,Nat.and_two_pow_sub_one_eq_mod]
 show IntKind.i64.wrap ((BitVec.ofInt 64 n &&& BitVec.ofInt 64 255).toNat:Nat)=n % 256
 rw[key,IntKind.wrap_i64]
 omega
theorem unpack_walk(v:Int)(w:World):Calls prog 98 #[v] w (Same (.tuple #[.int .i64 (Code.unpack v).1,.int .i64 (Code.unpack v).2.1,.bool (Code.unpack v).2.2]) w):=by
 have h255:=Lib.hid (i64_and255 v)
 obtain⟨b,hb⟩: ∃b,Code.right (v % 256) (v/256)=b:=⟨_,rfl⟩
 have hb:=Lib.hid hb
 have hu:Code.unpack v=if b=true then(v % 256,v/256,true)else(0,0,false):=by unfold Code.unpack Code.unOp Code.unArg;rw[hb.out]
 rw[hu]
 clear hu
 cases b
 all_goals
  go_enter func98,ntmps98
  go_wp2_with fail
  refine(by rw[h255.out];exact right_walk (v % 256) (v/256) w:Calls prog 144 #[(bits .and .i64 v 255:Int),(v/256:Int)] w (Same (.bool (Code.right (v % 256) (v/256))) w)).mono ?_
  rintro e w1 ⟨rfl,rfl⟩
  rw[hb.out]
  go_wp2
  go_ret3
  exact⟨by first|rfl| (rw[<-h255.out];rfl),rfl⟩
theorem Code.pack_unpack(v:Int): (∃p q,Code.unpack v= (p,q,true)∧Code.right p q=true∧v=256*q+p)∨Code.unpack v= (0,0,false):=by
 unfold Code.unpack
 cases h:Code.right (Code.unOp v) (Code.unArg v)
 ·right;simp
 ·left
  refine⟨_,_,rfl,h,?_⟩
  unfold Code.unOp Code.unArg
  omega
def imgCells(gb:Nat)(S:Img):Array Value:=
 #[(S.k:Int),(S.s:Int),(S.u:Int),(S.d:Int),(S.r:Int),
   .int .i64 0,.int .i64 0,.int .i64 (S.beg 2:Int),.int .i64 (S.beg 3:Int),.int .i64 (S.beg 4:Int),.int .i64 (S.beg 5:Int),.int .i64 (S.beg 6:Int),
   .slice gb (S.beg 6) (S.beg 6),.bool S.op,.bool S.cl]
structure IRep(w:World)(g gb:Nat)(S:Img):Prop where
 blk:Blk w g 138 (imgCells gb S)
 row:Blk w gb 5 (bcells S.b).toArray
 ok:S.Ok
theorem IRep.beg_cell{w:World}{g gb:Nat}{S:Img}(h:IRep w g gb S)(i:Nat)(hi:i<=6):w.cell? ⟨g,5+i,none⟩=some ((S.beg i:Int):Vl):=by
 rw[h.blk.cell]
 have:i=0∨i=1∨i=2∨i=3∨i=4∨i=5∨i=6:=by omega
 rcases this with rfl|rfl|rfl|rfl|rfl|rfl|rfl<;>rfl
theorem IRep.all_cell{w:World}{g gb:Nat}{S:Img}(h:IRep w g gb S):w.cell? (g,12)=some (.slice gb (S.beg 6) (S.beg 6)):=by rw[h.blk.cell];rfl
theorem IRep.op_cell{w:World}{g gb:Nat}{S:Img}(h:IRep w g gb S):w.cell? (g,13)=some (.bool S.op):=by rw[h.blk.cell];rfl
theorem IRep.cl_cell{w:World}{g gb:Nat}{S:Img}(h:IRep w g gb S):w.cell? (g,14)=some (.bool S.cl):=by rw[h.blk.cell];rfl
theorem i_may{w:World}{g gb:Nat}{S:Img}(h:IRep w g gb S)(m:Int)(r:Nat)(hr:r<=5):Calls prog 84 #[g,m,(r:Int)] w (Same (S.may m r) w):=by
 have hop:=h.op_cell
 have hcl:=h.cl_cell
 clear h
 have hr:r=0∨r=1∨r=2∨r=3∨r=4∨r=5:=by omega
 have hm:m=0∨m=1∨m=2∨((m==0)=false∧(m==1)=false∧(m==2)=false):=by
  simp only[beq_eq_false_iff_ne]
  omega
 rcases hr with rfl|rfl|rfl|rfl|rfl|rfl
 all_goals
  rcases hm with rfl|rfl|rfl| ⟨hm0,hm1,hm2⟩
  all_goals
   go_enter func84,ntmps84
   go_wp2
   all_goals go_ret
   all_goals refine⟨congrArg (λn=>Ending.returned (.int .i64 n)) ?_,rfl⟩
   all_goals first
    | rfl
    | (simp[Img.may, *];done)
    | (simp only[beq_eq_false_iff_ne]at *;unfold Img.may;rw[if_pos oM];done)
theorem i_region{w:World}{g gb:Nat}{S:Img}(h:IRep w g gb S)(a:Int):Calls prog 83 #[g,a] w (Same (S.region a:Int) w):=by
 by_cases ha:a<0
 ·rw[S.region_out (.inl ha)]
  clear h
  go_enter func83,ntmps83
  go_wp2
  all_goals go_ret
  all_goals exact⟨rfl,rfl⟩
 ·have ha0:0<=a:=by omega
  have hb:=Lib.hid h.beg_cell
  clear h ha
  go_enter func83,ntmps83
  go_wp2
  go_loop [5] (λi=> ∃j:Nat,1<=j∧j<=6∧i = .int .i64 j∧(S.beg j:Int)<=a) (λi=>7- (RowKit.intOf i).toNat)
  case atStart=>exact⟨1,by omega,by omega,rfl,by simp[Img.beg];omega⟩
  case round=>
   obtain⟨j,hj1,hj6,rfl,hlo⟩:=hrel
   by_cases hlt:j<6
   ·have hcell:=hb.out (j+1) oM
    by_cases hhi:a< (S.beg (j+1):Int)
    ·have hr:=Lib.hid (S.region_eq ha0 hj1 oM hlo hhi)
     go_wp2
     go_ret
     exact⟨by rw[hr.out];rfl,rfl⟩
    ·go_wp2
     go_round
     case rel=>exact⟨j+1,by omega,by omega,by go_num,by omega⟩
     case measure=>simp[RowKit.intOf];omega
   ·obtain rfl:j=6:=by omega
    have hr:=Lib.hid (S.region_out (.inr hlo))
    go_wp2
    go_ret
    exact⟨by rw[hr.out];rfl,rfl⟩
theorem i_span{w:World}{g gb:Nat}{S:Img}(h:IRep w g gb S)(r:Nat)(h1:1<=r)(h5:r<=5):Calls prog 58 #[g,(r:Int)] w
 λe w'=>e = .returned (.tuple #[(S.beg r:Int),(S.beg (r+1):Int)])∧∃n,w'=w.drewN n:=by
 have ha:=h.beg_cell r oM
 have hb:=h.beg_cell (r+1) oM
 clear h
 generalize S.beg r=x at *
 generalize S.beg (r+1)=y at *
 have hr:r=1∨r=2∨r=3∨r=4∨r=5:=by omega
 clear h1 h5
 rcases hr with rfl|rfl|rfl|rfl|rfl
 all_goals
  go_enter func58,ntmps58
  go_wp2
  go_quiet (fail)
  go_wp2
  go_ret2
  exact⟨rfl,nq,rfl⟩
def rowV(S:Img)(gb:Nat)(m a:Int)(n:Nat)(wr:Bool):Value:=
 if n=0 then .tuple #[.slice none 0 0,.bool true]else if S.rowOk m a n wr=true then .tuple #[.slice (some ⟨gb,a.toNat,none⟩) n n,.bool true]else .tuple #[.slice none 0 0,.bool false]
def rightOf(wr:Bool):Int:=if wr then 2 else 1
theorem may_cases(S:Img)(m:Int)(r:Nat):S.may m r=0∨S.may m r=1∨S.may m r=3:=by
 unfold Img.may
 repeat' split
 all_goals simp
theorem lets_bits(S:Img)(m:Int)(r:Nat)(wr:Bool): (bits .and .i64 (S.may m r) (rightOf wr) ==0)= !S.lets m r wr:=by
 unfold Img.lets rightOf
 rcases may_cases S m r with h|h|h<;>rw[h]<;>cases wr<;>decide
theorem i_row{w:World}{g gb:Nat}{S:Img}(h:IRep w g gb S)(m a:Int)(n:Nat)(hn:n<=9223372036854775807)(wr:Bool):
 Calls prog 51 #[g,m,a,(n:Int),(rightOf wr)] w (Same (rowV S gb m a n wr) w):=by
 unfold rowV
 by_cases h0:n=0
 ·subst h0
  rw[if_pos rfl]
  clear hn h
  go_enter func51,ntmps51
  go_wp2
  go_ret2
  exact⟨rfl,rfl⟩
 rw[if_neg h0]
 have hreg:=Lib.hid (i_region h a)
 have hn0: ((n:Int) ==0)=false:=by rw[beq_eq_false_iff_ne];omega
 by_cases hr:S.region a=0
 ·have hk:S.rowOk m a n wr=false:=by unfold Img.rowOk;simp[h0,hr]
  rw[hk]
  rw[hr]at hreg
  clear h hr hk
  go_enter func51,ntmps51
  go_wp2_with fail
  refine hreg.out.mono ?_
  rintro e w1 ⟨rfl,rfl⟩
  go_wp2
  go_ret2
  exact⟨rfl,rfl⟩
 obtain⟨ha0,hlo,hhi,h6,hr1,hr5⟩:=S.region_in hr
 have hcell:=h.beg_cell (S.region a+1) oM
 have hall:=h.all_cell
 have hmay:=Lib.hid (i_may h m (S.region a) hr5)
 have hsm:=h.ok.small
 have hlet:=lets_bits S m (S.region a) wr
 have hkk:S.rowOk m a n wr= (decide ((n:Int)<=S.beg (S.region a+1) -a) &&S.lets m (S.region a) wr):=by
  unfold Img.rowOk
  rw[show(n==0)=false by simpa using h0,show(S.region a != 0)=true by simpa using hr,Bool.false_or,Bool.true_and]
 rw[hkk]
 clear h hkk
 generalize S.region a=r at *
 generalize S.beg (r+1)=z at *
 generalize S.beg 6=N at *
 generalize S.may m r=x at *
 generalize rightOf wr=y at *
 have hr0: ((r:Int) ==0)=false:=by rw[beq_eq_false_iff_ne];omega
 replace hlet:=Lib.hid hlet
 replace hr1:=Lib.hid hr1
 by_cases hle: (n:Int)<=z-a
 ·cases hl:S.lets m r wr
  ·replace hlet: (bits .and .i64 x y==0)=true:=by rw[hlet.out,hl];rfl
   have hle2:decide ((z:Int) -a< (n:Int))=false:=by rw[decide_eq_false_iff_not];omega
   simp only[Bool.and_false,Bool.false_eq_true,if_false]
   clear hl hle
   go_enter func51,ntmps51
   go_wp2_with fail
   refine hreg.out.mono ?_
   rintro e w1 ⟨rfl,rfl⟩
   go_wp2_with fail
   refine hmay.out.mono ?_
   rintro e w1 ⟨rfl,rfl⟩
   go_wp2
   go_ret2
   exact⟨rfl,rfl⟩
  ·replace hlet: (bits .and .i64 x y==0)=false:=by rw[hlet.out,hl];rfl
   obtain⟨k,rfl⟩:=Int.eq_ofNat_of_zero_le ha0
   have hle2:decide ((z:Int) - (k:Int) < (n:Int))=false:=by rw[decide_eq_false_iff_not];omega
   have hkn:k+n-k=n:=by omega
   simp only[Bool.and_true,decide_eq_true hle,if_true]
   clear hl
   go_enter func51,ntmps51
   go_wp2_with fail
   refine hreg.out.mono ?_
   rintro e w1 ⟨rfl,rfl⟩
   go_wp2_with fail
   refine hmay.out.mono ?_
   rintro e w1 ⟨rfl,rfl⟩
   go_wp2
   go_ret2
   refine⟨congrArg Ending.returned ?_,rfl⟩
   show Value.tuple #[Value.slice (some ⟨gb,k,none⟩) (k+n-k) (k+n-k),.bool true]=_
   rw[hkn]
   rfl
 ·have hkf: (decide ((n:Int)<=z-a))=false:=by simpa using hle
  simp only[hkf,Bool.false_and,Bool.false_eq_true,if_false]
  clear hkf
  go_enter func51,ntmps51
  go_wp2_with fail
  refine hreg.out.mono ?_
  rintro e w1 ⟨rfl,rfl⟩
  go_wp2
  go_ret2
  exact⟨rfl,rfl⟩
theorem or_add(x c p e:Nat)(hp:2 ^ e=p)(hx:x<p)(hp56:p<=72057594037927936)(hc:c<256):bits .or .i64 (wrap64 (x:Int)) (wrap64 ((p*c:Nat):Int))=wrap64 ((x+p*c:Nat):Int):=by
 have hc2:p*c<=72057594037927936*255:=Nat.mul_le_mul hp56 oM
 have n1: (BitVec.ofInt 64 (wrap64 (x:Int))).toNat=x:=by
  rw[BitVec.toNat_ofInt];unfold wrap64;omega
 have n2: (BitVec.ofInt 64 (wrap64 ((p*c:Nat):Int))).toNat=p*c:=by
  rw[BitVec.toNat_ofInt];unfold wrap64
  generalize p*c=y at *
  omega
 have hor: (BitVec.ofInt 64 (wrap64 (x:Int)) ||| BitVec.ofInt 64 (wrap64 ((p*c:Nat):Int))).toNat=x+p*c:=by
  rw[BitVec.toNat_or,n1,n2,Nat.or_comm,<-hp,<-Nat.two_pow_add_eq_or_of_lt (by rw[hp];exact hx),Nat.add_comm]
 show IntKind.i64.wrap ((BitVec.ofInt 64 (wrap64 (x:Int)) ||| BitVec.ofInt 64 (wrap64 ((p*c:Nat):Int))).toNat:Nat)=_
 rw[hor,IntKind.wrap_i64]
 unfold wrap64
 omega
theorem or_step(x c j:Nat)(hj:j<8)(hx:x<256 ^ j)(hc:c<256):bits .or .i64 (wrap64 (x:Int)) (wrap64 (wrap64 (c:Int)*2 ^ (8*j)))=wrap64 ((x+256 ^ j*c:Nat):Int):=by
 have hw:wrap64 (c:Int)=c:=by unfold wrap64;omega
 have hpow: (256:Nat) ^ j=2 ^ (8*j):=by rw[Nat.pow_mul]
 have hci: ((c:Int)*2 ^ (8*j))= ((256 ^ j*c:Nat):Int):=by rw[hpow,Int.natCast_mul,Int.natCast_pow,Int.mul_comm];rfl
 have h56:256 ^ j<=72057594037927936:=by
  have h7: (256:Nat) ^ j<=256 ^ 7:=Nat.pow_le_pow_right (by decide) oM
  have h8: (256:Nat) ^ 7=72057594037927936:=by decide
  omega
 rw[hw,hci]
 exact or_add x c (256 ^ j) (8*j) hpow.symm hx h56 hc
theorem leN_snoc(l:List UInt8)(j:Nat)(hj:j<l.length):leN (l.take (j+1))=leN (l.take j) +256 ^ j* (l.getD j 0).toNat:=by
 have:l.take (j+1)=l.take j ++ [l.getD j 0]:=by
  rw[List.take_succ_eq_append_getElem hj,List.getD_eq_getElem?_getD,List.getElem?_eq_getElem hj]
  rfl
 rw[this,leN_append,List.length_take,Nat.min_eq_left oM]
 simp[leN]
def partOf(l:List UInt8)(j:Nat):Int:=wrap64 (leN (l.take j):Nat)
set_option maxRecDepth 100000 in
theorem of_walk(l:List UInt8)(hl:l.length=8)(w:World):Calls prog 125 #[.agg (bcells l).toArray] w λe w'=>e = .returned (ofB l)∧Below w.heap.size w w':=by
 have hcell: ∀j,j<8->(w.alloc (.cells (bcells l).toArray 158)).cell? (w.heap.size,j)=some (.int .u8 ((l.getD j 0).toNat:Int)):=by
  intro j hj
  rw[(Blk.new w _ _).cell]
  have:j<l.length:=by omega
  simp[bcells,List.getD,this]
 replace hcell:=Lib.hid hcell
 go_enter func125,ntmps125
 go_wp2
 go_loop [3,5] (λa i=> ∃j:Nat,j<=8∧i = .int .i64 j∧a = .int .i64 (partOf l j)) (λ_ i=>8- (RowKit.intOf i).toNat)
 case atStart=>exact⟨0,by omega,rfl,by unfold partOf;simp[leN,wrap64]⟩
 case round=>
  obtain⟨j,hj8,rfl,rfl⟩:=hrel
  by_cases hlt:j<8
  ·have hget:=hcell.out j hlt
   have hsn:=leN_snoc l j oM
   have hlt2:=leN_lt (l.take j)
   rw[List.length_take,Nat.min_eq_left oM]at hlt2
   obtain⟨c,hc⟩: ∃c,l.getD j 0=c:=⟨_,rfl⟩
   rw[hc]at hget hsn
   have hst:=or_step (leN (l.take j)) c.toNat j hlt hlt2 c.toNat_lt
   rw[<-hsn]at hst
   replace hst:bits .or .i64 (partOf l j) (wrap64 (wrap64 (c.toNat:Int)*2 ^ (8*j)))=partOf l (j+1):=hst
   clear hsn hlt2 hc
   go_wp2
   go_round
   case rel=>exact⟨j+1,by omega,by go_num,rfl⟩
   case measure=>simp[RowKit.intOf];omega
  ·obtain rfl:j=8:=by omega
   go_wp2
   go_ret
   refine⟨?_,(Below.refl _ _).alloc (Nat.le_refl _) _⟩
   have:partOf l 8=ofB l:=by unfold partOf ofB;rw[List.take_of_length_le oM]
   show Ending.returned (Value.int .i64 (partOf l 8))=_
   rw[this]
def filled(v:Int)(j:Nat):Array Value:=(bcells (((List.range j).map (byteAt v))++List.replicate (8-j) 0)).toArray
theorem byteAt_nat(v:Int)(i:Nat): ((byteAt v i).toNat:Int)=v/2 ^ (8*i) % 256:=by
 unfold byteAt
 have: (256:Int) ^ i=2 ^ (8*i):=by rw[show(256:Int)=2 ^ 8 by decide,<-Int.pow_mul]
 rw[this]
 generalize v/2 ^ (8*i)=x
 rw[UInt8.toNat_ofNat']
 omega
theorem filled_at(v:Int)(j:Nat)(hj:j<8): (filled v j)[j]? = some (.int .u8 0):=by
 have:j=0∨j=1∨j=2∨j=3∨j=4∨j=5∨j=6∨j=7:=by omega
 rcases this with rfl|rfl|rfl|rfl|rfl|rfl|rfl|rfl<;>rfl
theorem filled_set(v:Int)(j:Nat)(hj:j<8): (filled v j).setIfInBounds j (.int .u8 (v/2 ^ (8*j) % 256))=filled v (j+1):=by
 rw[<-byteAt_nat]
 have:j=0∨j=1∨j=2∨j=3∨j=4∨j=5∨j=6∨j=7:=by omega
 rcases this with rfl|rfl|rfl|rfl|rfl|rfl|rfl|rfl<;>rfl
def Eight(w:World)(g:Nat)(x:Nat->Value):Prop:=
 (w.cell? (g,0)=some (x 0)∧w.cell? (g,1)=some (x 1)∧w.cell? (g,2)=some (x 2)∧w.cell? (g,3)=some (x 3)∧w.cell? (g,4)=some (x 4)∧w.cell? (g,5)=some (x 5)∧w.cell? (g,6)=some (x 6)∧w.cell? (g,7)=some (x 7))
theorem eight_of{w:World}{g:Nat}{t:TypeId}{l:List UInt8}(h:Blk w g t (bcells l).toArray)(hl:l.length=8):Eight w g (λi=> .int .u8 ((l.getD i 0).toNat:Int)):=by
 have key: ∀i,i<8->w.cell? ⟨g,i,none⟩=some (.int .u8 ((l.getD i 0).toNat:Int)):=by
  intro i hi
  rw[h.cell]
  have:i<l.length:=by omega
  simp[bcells,List.getD,this]
 exact⟨key 0 oM,key 1 oM,key 2 oM,key 3 oM,key 4 oM,key 5 oM,key 6 oM,key 7 oM⟩
def tn(v:Int)(i:Nat):Int:=(((toB v).getD i 0).toNat:Int)
theorem tn_all(v:Int): (#[.int .u8 (tn v 0),.int .u8 (tn v 1),.int .u8 (tn v 2),.int .u8 (tn v 3),.int .u8 (tn v 4),.int .u8 (tn v 5),.int .u8 (tn v 6),.int .u8 (tn v 7)]:Array Value)= (bcells (toB v)).toArray:=rfl
set_option maxRecDepth 100000 in
theorem bytes_walk(v:Int)(hv : -9223372036854775808<=v∧v<=9223372036854775807)(w:World):Calls prog 64 #[v] w λe w'=>e = .returned (.agg (bcells (toB v)).toArray)∧Below w.heap.size w w':=by
 go_enter func64,ntmps64
 go_wp2
 go_loopw [5] (λi wr=> ∃j:Nat,j<=8∧i = .int .i64 j∧Blk wr (w.heap.size+1) 158 (filled v j)∧Blk wr w.heap.size 158 (filled v 0)∧Below w.heap.size w wr) (λi _=>8- (RowKit.intOf i).toNat)
 case atStart=>
  exact⟨0,by omega,rfl,Blk.new' (by simp),(Blk.new _ _ _).alloc _,((Below.refl _ _).alloc (Nat.le_refl _) _).alloc (by simp) _⟩
 case round=>
  obtain⟨j,hj8,rfl,hb,hb0,hbl⟩:=hrel
  by_cases hlt:j<8
  ·have hc:wr.cell? ⟨w.heap.size+1,j,none⟩=some (.int .u8 0):=by rw[hb.cell,filled_at v j hlt]
   have hf:=hb.frozen j
   have hb1:=hb.set_ j (.int .u8 (v/2 ^ (8*j) % 256))
   rw[filled_set v j hlt]at hb1
   have hb2:=hb0.far (p:=⟨w.heap.size+1,j,none⟩) (by simp) (.int .u8 (v/2 ^ (8*j) % 256))
   replace hb1:=Lib.hid hb1
   replace hb2:=Lib.hid hb2
   clear hb hb0
   replace hbl:=Lib.hid hbl
   go_wp2
   go_roundw
   case rel=>exact⟨j+1,by omega,by go_num,hb1.out,hb2.out,hbl.out.setCell (by simp) _⟩
   case measure=>simp[RowKit.intOf];omega
  ·obtain rfl:j=8:=by omega
   have hb':Blk wr (w.heap.size+1) 158 (bcells (toB v)).toArray:=hb
   have e8:Eight wr (w.heap.size+1) (λi=> .int .u8 (tn v i)):=eight_of hb' (toB_len v)
   obtain⟨c0,c1,c2,c3,c4,c5,c6,c7⟩:=e8
   obtain⟨d0,d1,d2,d3,d4,d5,d6,d7⟩:=eight_of (l:=List.replicate 8 0) hb0 (by simp)
   have f0:=hb0.frozen 0
   have f1:=hb0.frozen 1
   have f2:=hb0.frozen 2
   have f3:=hb0.frozen 3
   have f4:=hb0.frozen 4
   have f5:=hb0.frozen 5
   have f6:=hb0.frozen 6
   have f7:=hb0.frozen 7
   clear hb hb0 hb'
   replace hbl:=Lib.hid hbl
   go_wp2
   refine bodyPost_ret (v:= .agg #[.int .u8 (tn v 0),.int .u8 (tn v 1),.int .u8 (tn v 2),.int .u8 (tn v 3),.int .u8 (tn v 4),.int .u8 (tn v 5),.int .u8 (tn v 6),.int .u8 (tn v 7)]) (by simp[results,results64,go_sem,d0,d1,d2,d3,d4,d5,d6,d7]) rfl ⟨by rw[tn_all],?_⟩
   exact(((((((hbl.out.setCell (Nat.le_refl _) _).setCell (Nat.le_refl _) _).setCell (Nat.le_refl _) _).setCell (Nat.le_refl _) _).setCell (Nat.le_refl _) _).setCell (Nat.le_refl _) _).setCell (Nat.le_refl _) _).setCell (Nat.le_refl _) _
theorem arr8{w:World}(a:Addr): (Instr.arrayAt 158 (.slice (some a) 8 8)).run prog w = .ok (.pointer (some a)) w:=by
 simp[Instr.arrayAt,go_sem,run_underlying underlying158]
theorem bcells8(l:List UInt8)(hl:l.length=8): (bcells l).toArray=#[.int .u8 ((l.getD 0 0).toNat:Int),.int .u8 ((l.getD 1 0).toNat:Int),.int .u8 ((l.getD 2 0).toNat:Int),.int .u8 ((l.getD 3 0).toNat:Int),.int .u8 ((l.getD 4 0).toNat:Int),.int .u8 ((l.getD 5 0).toNat:Int),.int .u8 ((l.getD 6 0).toNat:Int),.int .u8 ((l.getD 7 0).toNat:Int)]:=by
 match l,hl with
 | [a,b,c,d,e,f,g,h],_=>rfl
theorem i64_and7(n:Int):bits .and .i64 n 7=n % 8:=by
 have h7: (BitVec.ofInt 64 7).toNat=2 ^ 3-1:=by decide
 have key: (BitVec.ofInt 64 n &&& BitVec.ofInt 64 7).toNat= (n % ((2 ^ 64:Nat):Int)).toNat % 2 ^ 3:=by
  rw[BitVec.toNat_and,BitVec.toNat_ofInt,h7,Nat.and_two_pow_sub_one_eq_mod]
 show IntKind.i64.wrap ((BitVec.ofInt 64 n &&& BitVec.ofInt 64 7).toNat:Nat)=n % 8
 rw[key,IntKind.wrap_i64]
 omega
theorem IRep.byte{w:World}{g gb:Nat}{S:Img}(h:IRep w g gb S)(i:Nat)(hi:i<S.beg 6):w.cell? (gb,i)=some (.int .u8 ((S.b.getD i 0).toNat:Int)):=by
 rw[h.row.cell]
 have:i<S.b.length:=by rw[h.ok.len];exact hi
 simp[bcells,List.getD,this]
theorem bytes_getD(S:Img)(k n i:Nat)(hi:i<n): (S.bytes (k:Int) n).getD i 0=S.b.getD (k+i) 0:=by
 unfold Img.bytes
 simp[List.getD,hi]
theorem bytes_len(S:Img)(hS:S.Ok)(k n:Nat)(h:k+n<=S.beg 6): (S.bytes (k:Int) n).length=n:=by
 unfold Img.bytes
 simp[hS.len]
 omega
theorem i_cell_mis(p:Value)(m a:Int)(w:World)(hal:a % 8≠0):Calls prog 79 #[p,m,a] w (Same (.tuple #[(0:Int),(6:Int)]) w):=by
 have hal1: (bits .and .i64 a 7==0)=false:=by rw[beq_eq_false_iff_ne,i64_and7];exact hal
 clear hal
 go_enter func79,ntmps79
 go_wp2
 go_ret2
 exact⟨rfl,rfl⟩
theorem i_cell_no(p:Value)(m a:Int)(w:World)(hal:a % 8=0)(hrow:Calls prog 51 #[p,m,a,(8:Int),(1:Int)] w (Same (.tuple #[.slice none 0 0,.bool false]) w)):
 Calls prog 79 #[p,m,a] w (Same (.tuple #[(0:Int),(5:Int)]) w):=by
 have hal1:bits .and .i64 a 7=0:=by rw[i64_and7];exact hal
 replace hrow:=Lib.hid hrow
 clear hal
 go_enter func79,ntmps79
 go_wp2_with fail
 refine hrow.out.mono ?_
 rintro e w1 ⟨rfl,rfl⟩
 go_wp2
 go_ret2
 exact⟨rfl,rfl⟩
set_option maxRecDepth 100000 in
theorem i_cell_yes(p:Value)(m:Int)(gb k:Nat)(l:List UInt8)(hl:l.length=8)(w:World)(hal: (k:Int) % 8=0)(hrow:Calls prog 51 #[p,m,(k:Int),(8:Int),(1:Int)] w (Same (.tuple #[.slice (some ⟨gb,k,none⟩) 8 8,.bool true]) w))
 (hb: ∀i,i<8->w.cell? ⟨gb,k+i,none⟩=some (.int .u8 ((l.getD i 0).toNat:Int))):
 Calls prog 79 #[p,m,(k:Int)] w λe w'=>e = .returned (.tuple #[(ofB l),(0:Int)])∧Below w.heap.size w w':=by
 have hal1:bits .and .i64 (k:Int) 7=0:=by rw[i64_and7];exact hal
 have hof:=of_walk l hl w
 rw[bcells8 _ hl]at hof
 generalize ofB l=z at *
 have c0:w.cell? (gb,k)=some (.int .u8 ((l.getD 0 0).toNat:Int)):=hb 0 oM
 have c1:=hb 1 oM
 have c2:=hb 2 oM
 have c3:=hb 3 oM
 have c4:=hb 4 oM
 have c5:=hb 5 oM
 have c6:=hb 6 oM
 have c7:=hb 7 oM
 clear hb
 generalize ((l.getD 0 0).toNat:Int)=x0 at *
 generalize ((l.getD 1 0).toNat:Int)=x1 at *
 generalize ((l.getD 2 0).toNat:Int)=x2 at *
 generalize ((l.getD 3 0).toNat:Int)=x3 at *
 generalize ((l.getD 4 0).toNat:Int)=x4 at *
 generalize ((l.getD 5 0).toNat:Int)=x5 at *
 generalize ((l.getD 6 0).toNat:Int)=x6 at *
 generalize ((l.getD 7 0).toNat:Int)=x7 at *
 have harr:= @arr8 w ⟨gb,k,none⟩
 replace hrow:=Lib.hid hrow
 replace hof:=Lib.hid hof
 clear hal hl
 go_enter func79,ntmps79
 go_wp2_with fail
 refine hrow.out.mono ?_
 rintro e w1 ⟨rfl,rfl⟩
 go_wp2_with fail
 refine mo hof.out λw2 hb=>?_
 replace hb:=Lib.hid hb
 go_wp2
 go_ret2
 exact⟨rfl,hb.out⟩
theorem i_row_of{w:World}{g gb:Nat}{S:Img}(h:IRep w g gb S)(m a:Int)(n:Nat)(hn:n≠0)(hn2:n<=9223372036854775807)(wr:Bool):
 (S.rowOk m a n wr=false∧Calls prog 51 #[g,m,a,(n:Int),(rightOf wr)] w (Same (.tuple #[.slice none 0 0,.bool false]) w))∨
 (S.rowOk m a n wr=true∧∃k:Nat,a=k∧k+n<=S.beg 6∧Calls prog 51 #[g,m,(k:Int),(n:Int),(rightOf wr)] w (Same (.tuple #[.slice (some ⟨gb,k,none⟩) n n,.bool true]) w)):=by
 have hrow:=i_row h m a n hn2 wr
 unfold rowV at hrow
 rw[if_neg hn]at hrow
 cases hk:S.rowOk m a n wr
 ·rw[hk]at hrow
  exact .inl ⟨rfl,by simpa using hrow⟩
 ·obtain⟨h0,h1⟩:=S.row_in hk hn
  obtain⟨k,rfl⟩:=Int.eq_ofNat_of_zero_le h0
  rw[hk,if_pos rfl]at hrow
  exact .inr ⟨rfl,k,rfl,by omega,hrow⟩
theorem i_cell{w:World}{g gb:Nat}{S:Img}(h:IRep w g gb S)(m a:Int):
 Calls prog 79 #[g,m,a] w λe w'=>e = .returned (.tuple #[(S.cellV m a),(S.cellF m a false)])∧Below w.heap.size w w':=by
 by_cases hal:a % 8=0
 ·have h80: (8:Nat)≠0:=by omega
  have h8: (8:Nat)<=9223372036854775807:=by omega
  rcases i_row_of h m a 8 h80 h8 false with⟨hk,hrow⟩ | ⟨hk,k,rfl,hle,hrow⟩
  ·have hF:S.cellF m a false=5:=by unfold Img.cellF;simp[hal,hk]
   have hV:S.cellV m a=0:=by unfold Img.cellV;simp[hF]
   rw[hF,hV]
   exact(i_cell_no _ m a w hal hrow).mono λe w' h=>⟨h.1,by rw[h.2];exact Below.refl _ _⟩
  ·have hF:S.cellF m k false=0:=by unfold Img.cellF;simp[hal,hk]
   have hV:S.cellV m k=ofB (S.bytes k 8):=by unfold Img.cellV;simp[hF]
   rw[hF,hV]
   exact i_cell_yes _ m gb k (S.bytes k 8) (bytes_len S h.ok k 8 hle) w hal hrow (λi hi=>by rw[bytes_getD S k 8 i hi];exact h.byte (k+i) oM)
 ·have hF:S.cellF m a false=6:=by unfold Img.cellF;simp[hal]
  have hV:S.cellV m a=0:=by unfold Img.cellV;simp[hF]
  rw[hF,hV]
  exact(i_cell_mis _ m a w hal).mono λe w' h=>⟨h.1,by rw[h.2];exact Below.refl _ _⟩
end Go.Proofs.YteaijdgnagkllaaGreatDoor
