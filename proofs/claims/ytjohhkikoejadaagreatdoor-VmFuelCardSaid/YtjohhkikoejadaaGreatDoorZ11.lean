/- Chapter 7: packing and unpacking. Conditions: the numbers are of their kind (int). -/
import Derived.Test.YtjohhkikoejadaaGreatDoorOm
import Derived.Test.YtjohhkikoejadaaGreatDoorZ02
import Derived.Test.YtjohhkikoejadaaGreatDoorZ03
import Derived.Laws.BitsLemmas
import Derived.OwnWalk
import Derived.Test.YtjohhkikoejadaaGreatDoorZ07
import Derived.Deep.RegionHeld
import Derived.Laws.CopyOwn
namespace Go.Proofs.YtjohhkikoejadaaGreatDoor
set_option linter.unusedVariables false
set_option maxHeartbeats 8000000
open Go.RowKit Go.Lib
theorem Au(n:Int) :bits .and .i64 n 255=n % 256:=by
 have h255: (BitVec.ofInt 64 255).toNat=2 ^ 8-1:=by decide
 have key: (BitVec.ofInt 64 n &&& BitVec.ofInt 64 255).toNat= (n % ((2 ^ 64:Nat) :Int)).toNat % 2 ^ 8:=by
  rw[BitVec.toNat_and,BitVec.toNat_ofInt,h255,Nat.and_two_pow_sub_one_eq_mod]
 show IntKind.i64.wrap ((BitVec.ofInt 64 n &&& BitVec.ofInt 64 255).toNat:Nat) =n % 256
 rw[key,IntKind.wrap_i64]
 omega
theorem CI(x y:Int)(hx : -36028797018963968<=x∧x<36028797018963968)(hy:0<=y∧y<256) :bits .or .i64 (wrap64 (x*256)) y=256*x+y:=by
 have hw:wrap64 (x*256) =x*256:=by unfold wrap64;omega
 rw[hw]
 have hm: ((x*256) % ((2 ^ 64:Nat) :Int)).toNat=2 ^ 8* (x % ((2 ^ 56:Nat) :Int)).toNat:=by omega
 have hn: (y % ((2 ^ 64:Nat) :Int)).toNat<2 ^ 8:=by omega
 have key: (BitVec.ofInt 64 (x*256) ||| BitVec.ofInt 64 y).toNat= ((x*256) % ((2 ^ 64:Nat) :Int)).toNat+ (y % ((2 ^ 64:Nat) :Int)).toNat:=by
  rw[BitVec.toNat_or,BitVec.toNat_ofInt,BitVec.toNat_ofInt,hm,Nat.two_pow_add_eq_or_of_lt hn]
 show IntKind.i64.wrap ((BitVec.ofInt 64 (x*256) ||| BitVec.ofInt 64 y).toNat:Nat) =256*x+y
 rw[key,IntKind.wrap_i64]
 omega
theorem Code.sR{op a:Int}(h:Code.right op a=true) : (1<=op∧op<=106)∧ -36028797018963968<=a∧a<36028797018963968:=by
 rw[Code.ny]at h
 omega
theorem Ku(op a:Int)(w:World)(h:Code.right op a=false) :Calls Tryz.prog 174 #[op,a] w (aA (.tuple #[(0:Int),.bool false]) w):=by
 go_enter Tryz.func174,Tryz.ntmps174
 go_wp2_with fail
 refine(l9 op a w).mono ?_
 rintro e w1 ⟨rfl,rfl⟩
 rw[h]
 go_wp2
 go_ret2
 exact⟨rfl,rfl⟩
theorem HK(op a:Int)(w:World)(h:Code.right op a=true) :Calls Tryz.prog 174 #[op,a] w (aA (.tuple #[(256*a+op:Int),.bool true]) w):=by
 have hx:=Code.sR h
 rw[<-CI a op hx.2 oM]
 clear hx
 go_enter Tryz.func174,Tryz.ntmps174
 go_wp2_with fail
 refine(l9 op a w).mono ?_
 rintro e w1 ⟨rfl,rfl⟩
 rw[h]
 go_wp2
 go_ret2
 exact⟨rfl,rfl⟩
theorem dt(v:Int)(w:World) :Calls Tryz.prog 86 #[v] w (aA (.tuple #[.int .i64 (Code.unpack v).1,.int .i64 (Code.unpack v).2.1,.bool (Code.unpack v).2.2]) w):=by
 have h255:=hid (Au v)
 obtain⟨b,hb⟩ : ∃b,Code.right (v % 256) (v/256) =b:=⟨_,rfl⟩
 have hb:=hid hb
 have hu:Code.unpack v=if b=true then(v % 256,v/256,true)else(0,0,false):=by unfold Code.unpack Code.unOp Code.uj;rw[hb.out]
 rw[hu]
 clear hu
 cases b
 all_goals
  go_enter Tryz.func86,Tryz.ntmps86
  go_wp2_with fail
  refine(by rw[h255.out];exact l9 (v % 256) (v/256) w:Calls Tryz.prog 126 #[(bits .and .i64 v 255:Int),(v/256:Int)] w (aA (.bool (Code.right (v % 256) (v/256))) w)).mono ?_
  rintro e w1 ⟨rfl,rfl⟩
  rw[hb.out]
  go_wp2
  go_ret3
  exact⟨by first|rfl| (rw[<-h255.out];rfl),rfl⟩
theorem Code.xJ(v:Int) : (∃p q,Code.unpack v= (p,q,true)∧Code.right p q=true∧v=256*q+p)∨Code.unpack v= (0,0,false):=by
 unfold Code.unpack
 cases h:Code.right (Code.unOp v) (Code.uj v)
 ·right;simp
 ·left
  refine⟨_,_,rfl,h,?_⟩
  unfold Code.unOp Code.uj
  omega
def gQ(gb:Nat)(S:Img) :Array Value:=
 #[(S.k:Int),(S.s:Int),(S.u:Int),(S.d:Int),(S.r:Int),
   .int .i64 0,.int .i64 0,.int .i64 (S.beg 2:Int),.int .i64 (S.beg 3:Int),.int .i64 (S.beg 4:Int),.int .i64 (S.beg 5:Int),.int .i64 (S.beg 6:Int),
   .slice gb (S.beg 6) (S.beg 6),.bool S.op,.bool S.cl]
structure bU(w:World)(g gb:Nat)(S:Img) :Prop where
 blk:Blk w g 128 (gQ gb S)
 row:Blk w gb 5 (ag S.b).toArray
 ok:S.Ok
theorem bU.mS{w:World}{g gb:Nat}{S:Img}(h:bU w g gb S)(i:Nat)(hi:i<=6) :w.cell? ⟨g,5+i,none⟩ =some ((S.beg i:Int) :Vl):=by
 rw[h.blk.cell]
 have:i=0∨i=1∨i=2∨i=3∨i=4∨i=5∨i=6:=by omega
 rcases this with rfl|rfl|rfl|rfl|rfl|rfl|rfl<;>rfl
theorem bU.mN{w:World}{g gb:Nat}{S:Img}(h:bU w g gb S) :w.cell? (g,12) =some (.slice gb (S.beg 6) (S.beg 6)):=by rw[h.blk.cell];rfl
theorem bU.mI{w:World}{g gb:Nat}{S:Img}(h:bU w g gb S) :w.cell? (g,13) =some (.bool S.op):=by rw[h.blk.cell];rfl
theorem bU.gh{w:World}{g gb:Nat}{S:Img}(h:bU w g gb S) :w.cell? (g,14) =some (.bool S.cl):=by rw[h.blk.cell];rfl
theorem BX{w:World}{g gb:Nat}{S:Img}(h:bU w g gb S)(m:Int)(r:Nat)(hr:r<=5) :Calls Tryz.prog 112 #[g,m,(r:Int)] w (aA (S.may m r) w):=by
 have hop:=h.mI
 have hcl:=h.gh
 clear h
 have hr:r=0∨r=1∨r=2∨r=3∨r=4∨r=5:=by omega
 have hm:m=0∨m=1∨m=2∨((m==0) =false∧(m==1) =false∧(m==2) =false):=by
  simp only[beq_eq_false_iff_ne]
  omega
 rcases hr with rfl|rfl|rfl|rfl|rfl|rfl
 all_goals
  rcases hm with rfl|rfl|rfl| ⟨hm0,hm1,hm2⟩
  all_goals
   go_enter Tryz.func112,Tryz.ntmps112
   go_wp2
   all_goals go_ret
   all_goals refine⟨congrArg (λn=>Ending.returned (.int .i64 n)) ?_,rfl⟩
   all_goals first
    | rfl
    | (simp[Img.may, *];done)
    | (simp only[beq_eq_false_iff_ne]at *;unfold Img.may;rw[if_pos oM];done)
theorem mT{w:World}{g gb:Nat}{S:Img}(h:bU w g gb S)(a:Int) :Calls Tryz.prog 113 #[g,a] w (aA (S.region a:Int) w):=by
 by_cases ha:a<0
 ·rw[S.iq (.inl ha)]
  clear h
  go_enter Tryz.func113,Tryz.ntmps113
  go_wp2
  all_goals go_ret
  all_goals exact⟨rfl,rfl⟩
 ·have ha0:0<=a:=by omega
  have hb:=hid h.mS
  clear h ha
  go_enter Tryz.func113,Tryz.ntmps113
  go_wp2
  go_loop [5] (λi=> ∃j:Nat,1<=j∧j<=6∧i = .int .i64 j∧(S.beg j:Int)<=a) (λi=>7- (RowKit.intOf i).toNat)
  case atStart=>exact⟨1,by omega,by omega,rfl,by simp[Img.beg];omega⟩
  case round=>
   obtain⟨j,hj1,hj6,rfl,hlo⟩:=hrel
   by_cases hlt:j<6
   ·have hcell:=hb.out (j+1) oM
    by_cases hhi:a< (S.beg (j+1) :Int)
    ·have hr:=hid (S.eu ha0 hj1 oM hlo hhi)
     go_wp2
     go_ret
     exact⟨by rw[hr.out];rfl,rfl⟩
    ·go_wp2
     go_round
     case rel=>exact⟨j+1,by omega,by omega,by go_num,by omega⟩
     case measure=>simp[RowKit.intOf];omega
   ·obtain rfl:j=6:=by omega
    have hr:=hid (S.iq (.inr hlo))
    go_wp2
    go_ret
    exact⟨by rw[hr.out];rfl,rfl⟩
theorem jA{w:World}{g gb:Nat}{S:Img}(h:bU w g gb S)(r:Nat)(h1:1<=r)(h5:r<=5) :Calls Tryz.prog 48 #[g,(r:Int)] w
 λe w'=>e = .returned (.tuple #[(S.beg r:Int),(S.beg (r+1) :Int)])∧∃n,w'=w.drewN n:=by
 have ha:=h.mS r oM
 have hb:=h.mS (r+1) oM
 clear h
 generalize S.beg r=x at *
 generalize S.beg (r+1) =y at *
 have hr:r=1∨r=2∨r=3∨r=4∨r=5:=by omega
 clear h1 h5
 rcases hr with rfl|rfl|rfl|rfl|rfl
 all_goals
  go_enter Tryz.func48,Tryz.ntmps48
  go_wp2
  go_quiet (fail)
  go_wp2
  go_ret2
  exact⟨rfl,nq,rfl⟩
theorem AO(p:Value)(r:Int)(hr:r<1∨5<r)(w:World) :Calls Tryz.prog 48 #[p,r] w (aA (.tuple #[(0:Int),(0:Int)]) w):=by
 go_enter Tryz.func48,Tryz.ntmps48
 go_wp2
 all_goals go_ret2
 all_goals exact⟨rfl,rfl⟩
def G8(S:Img)(gb:Nat)(m a:Int)(n:Nat)(wr:Bool) :Value:=
 if n=0 then .tuple #[.slice none 0 0,.bool true]else if S.aS m a n wr=true then .tuple #[.slice (some ⟨gb,a.toNat,none⟩) n n,.bool true]else .tuple #[.slice none 0 0,.bool false]
def ej(wr:Bool) :Int:=if wr then 2 else 1
theorem tN(S:Img)(m:Int)(r:Nat) :S.may m r=0∨S.may m r=1∨S.may m r=3:=by
 unfold Img.may
 repeat' split
 all_goals simp
theorem EB(S:Img)(m:Int)(r:Nat)(wr:Bool) : (bits .and .i64 (S.may m r) (ej wr) ==0) = !S.lets m r wr:=by
 unfold Img.lets ej
 rcases tN S m r with h|h|h<;>rw[h] <;>cases wr<;>decide
theorem wT{w:World}{g gb:Nat}{S:Img}(h:bU w g gb S)(m a:Int)(n:Nat)(hn:n<=9223372036854775807)(wr:Bool) :
 Calls Tryz.prog 79 #[g,m,a,(n:Int),(ej wr)] w (aA (G8 S gb m a n wr) w):=by
 unfold G8
 by_cases h0:n=0
 ·subst h0
  rw[if_pos rfl]
  clear hn h
  go_enter Tryz.func79,Tryz.ntmps79
  go_wp2
  go_ret2
  exact⟨rfl,rfl⟩
 rw[if_neg h0]
 have hreg:=hid (mT h a)
 have hn0: ((n:Int) ==0) =false:=by rw[beq_eq_false_iff_ne];omega
 by_cases hr:S.region a=0
 ·have hk:S.aS m a n wr=false:=by unfold Img.aS;simp[h0,hr]
  rw[hk]
  rw[hr]at hreg
  clear h hr hk
  go_enter Tryz.func79,Tryz.ntmps79
  go_wp2_with fail
  refine hreg.out.mono ?_
  rintro e w1 ⟨rfl,rfl⟩
  go_wp2
  go_ret2
  exact⟨rfl,rfl⟩
 obtain⟨ha0,hlo,hhi,h6,hr1,hr5⟩:=S.oa hr
 have hcell:=h.mS (S.region a+1) oM
 have hall:=h.mN
 have hmay:=hid (BX h m (S.region a) hr5)
 have hsm:=h.ok.small
 have hlet:=EB S m (S.region a) wr
 have hkk:S.aS m a n wr= (decide ((n:Int)<=S.beg (S.region a+1) -a) &&S.lets m (S.region a) wr):=by
  unfold Img.aS
  rw[show(n==0) =false by simpa using h0,show(S.region a != 0) =true by simpa using hr,Bool.false_or,Bool.true_and]
 rw[hkk]
 clear h hkk
 generalize S.region a=r at *
 generalize S.beg (r+1) =z at *
 generalize S.beg 6=N at *
 generalize S.may m r=x at *
 generalize ej wr=y at *
 have hr0: ((r:Int) ==0) =false:=by rw[beq_eq_false_iff_ne];omega
 replace hlet:=hid hlet
 replace hr1:=hid hr1
 by_cases hle: (n:Int)<=z-a
 ·cases hl:S.lets m r wr
  ·replace hlet: (bits .and .i64 x y==0) =true:=by rw[hlet.out,hl];rfl
   have hle2:decide ((z:Int) -a< (n:Int)) =false:=by rw[decide_eq_false_iff_not];omega
   simp only[Bool.and_false,Bool.false_eq_true,if_false]
   clear hl hle
   go_enter Tryz.func79,Tryz.ntmps79
   go_wp2_with fail
   refine hreg.out.mono ?_
   rintro e w1 ⟨rfl,rfl⟩
   go_wp2_with fail
   refine hmay.out.mono ?_
   rintro e w1 ⟨rfl,rfl⟩
   go_wp2
   go_ret2
   exact⟨rfl,rfl⟩
  ·replace hlet: (bits .and .i64 x y==0) =false:=by rw[hlet.out,hl];rfl
   obtain⟨k,rfl⟩:=Int.eq_ofNat_of_zero_le ha0
   have hle2:decide ((z:Int) - (k:Int) < (n:Int)) =false:=by rw[decide_eq_false_iff_not];omega
   have hkn:k+n-k=n:=by omega
   simp only[Bool.and_true,decide_eq_true hle,if_true]
   clear hl
   go_enter Tryz.func79,Tryz.ntmps79
   go_wp2_with fail
   refine hreg.out.mono ?_
   rintro e w1 ⟨rfl,rfl⟩
   go_wp2_with fail
   refine hmay.out.mono ?_
   rintro e w1 ⟨rfl,rfl⟩
   go_wp2
   go_ret2
   refine⟨congrArg Ending.returned ?_,rfl⟩
   show Value.tuple #[Value.slice (some ⟨gb,k,none⟩) (k+n-k) (k+n-k),.bool true] =_
   rw[hkn]
   rfl
 ·have hkf: (decide ((n:Int)<=z-a)) =false:=by simpa using hle
  simp only[hkf,Bool.false_and,Bool.false_eq_true,if_false]
  clear hkf
  go_enter Tryz.func79,Tryz.ntmps79
  go_wp2_with fail
  refine hreg.out.mono ?_
  rintro e w1 ⟨rfl,rfl⟩
  go_wp2
  go_ret2
  exact⟨rfl,rfl⟩
theorem LS(x c p e:Nat)(hp:2 ^ e=p)(hx:x<p)(hp56:p<=72057594037927936)(hc:c<256) :bits .or .i64 (wrap64 (x:Int)) (wrap64 ((p*c:Nat) :Int)) =wrap64 ((x+p*c:Nat) :Int):=by
 have hc2:p*c<=72057594037927936*255:=Nat.mul_le_mul hp56 oM
 have n1: (BitVec.ofInt 64 (wrap64 (x:Int))).toNat=x:=by
  rw[BitVec.toNat_ofInt];unfold wrap64;omega
 have n2: (BitVec.ofInt 64 (wrap64 ((p*c:Nat) :Int))).toNat=p*c:=by
  rw[BitVec.toNat_ofInt];unfold wrap64
  generalize p*c=y at *
  omega
 have hor: (BitVec.ofInt 64 (wrap64 (x:Int)) ||| BitVec.ofInt 64 (wrap64 ((p*c:Nat) :Int))).toNat=x+p*c:=by
  rw[BitVec.toNat_or,n1,n2,Nat.or_comm,<-hp,<-Nat.two_pow_add_eq_or_of_lt (by rw[hp];exact hx),Nat.add_comm]
 show IntKind.i64.wrap ((BitVec.ofInt 64 (wrap64 (x:Int)) ||| BitVec.ofInt 64 (wrap64 ((p*c:Nat) :Int))).toNat:Nat) =_
 rw[hor,IntKind.wrap_i64]
 unfold wrap64
 omega
theorem uS(x c j:Nat)(hj:j<8)(hx:x<256 ^ j)(hc:c<256) :bits .or .i64 (wrap64 (x:Int)) (wrap64 (wrap64 (c:Int)*2 ^ (8*j))) =wrap64 ((x+256 ^ j*c:Nat) :Int):=by
 have hw:wrap64 (c:Int) =c:=by unfold wrap64;omega
 have hpow: (256:Nat) ^ j=2 ^ (8*j):=by rw[Nat.pow_mul]
 have hci: ((c:Int)*2 ^ (8*j)) = ((256 ^ j*c:Nat) :Int):=by rw[hpow,Int.natCast_mul,Int.natCast_pow,Int.mul_comm];rfl
 have h56:256 ^ j<=72057594037927936:=by
  have h7: (256:Nat) ^ j<=256 ^ 7:=Nat.pow_le_pow_right (by decide) oM
  have h8: (256:Nat) ^ 7=72057594037927936:=by decide
  omega
 rw[hw,hci]
 exact LS x c (256 ^ j) (8*j) hpow.symm hx h56 hc
theorem FI(l:List UInt8)(j:Nat)(hj:j<l.length) :leN (l.take (j+1)) =leN (l.take j) +256 ^ j* (l.getD j 0).toNat:=by
 have:l.take (j+1) =l.take j ++ [l.getD j 0]:=by
  rw[List.take_succ_eq_append_getElem hj,List.getD_eq_getElem?_getD,List.getElem?_eq_getElem hj]
  rfl
 rw[this,lT,List.length_take,Nat.min_eq_left oM]
 simp[leN]
def partOf(l:List UInt8)(j:Nat) :Int:=wrap64 (leN (l.take j) :Nat)
set_option maxRecDepth 100000 in
theorem Jf(l:List UInt8)(hl:l.length=8)(w:World) :Calls Tryz.prog 108 #[.agg (ag l).toArray] w λe w'=>e = .returned (ofB l)∧Below w.heap.size w w':=by
 have hcell : ∀j,j<8->(w.alloc (.cells (ag l).toArray 175)).cell? (w.heap.size,j) =some (.int .u8 ((l.getD j 0).toNat:Int)):=by
  intro j hj
  rw[(Blk.new w _ _).cell]
  have:j<l.length:=by omega
  simp[ag,List.getD,this]
 replace hcell:=hid hcell
 go_enter Tryz.func108,Tryz.ntmps108
 go_wp2
 go_loop [3,5] (λa i=> ∃j:Nat,j<=8∧i = .int .i64 j∧a = .int .i64 (partOf l j)) (λ_ i=>8- (RowKit.intOf i).toNat)
 case atStart=>exact⟨0,by omega,rfl,by unfold partOf;simp[leN,wrap64]⟩
 case round=>
  obtain⟨j,hj8,rfl,rfl⟩:=hrel
  by_cases hlt:j<8
  ·have hget:=hcell.out j hlt
   have hsn:=FI l j oM
   have hlt2:=Ak (l.take j)
   rw[List.length_take,Nat.min_eq_left oM]at hlt2
   obtain⟨c,hc⟩ : ∃c,l.getD j 0=c:=⟨_,rfl⟩
   rw[hc]at hget hsn
   have hst:=uS (leN (l.take j)) c.toNat j hlt hlt2 c.toNat_lt
   rw[<-hsn]at hst
   replace hst:bits .or .i64 (partOf l j) (wrap64 (wrap64 (c.toNat:Int)*2 ^ (8*j))) =partOf l (j+1):=hst
   clear hsn hlt2 hc
   go_wp2
   go_round
   case rel=>exact⟨j+1,by omega,by go_num,rfl⟩
   case measure=>simp[RowKit.intOf];omega
  ·obtain rfl:j=8:=by omega
   go_wp2
   go_ret
   refine⟨?_,(Below.refl _ _).alloc (Nat.le_refl _) _⟩
   have:partOf l 8=ofB l:=by unfold partOf ofB;rw[List.take_of_length_le oM]
   show Ending.returned (Value.int .i64 (partOf l 8)) =_
   rw[this]
def filled(v:Int)(j:Nat) :Array Value:=(ag (((List.range j).map (kv v)) ++List.replicate (8-j) 0)).toArray
theorem qX(v:Int)(i:Nat) : ((kv v i).toNat:Int) =v/2 ^ (8*i) % 256:=by
 unfold kv
 have: (256:Int) ^ i=2 ^ (8*i):=by rw[show(256:Int) =2 ^ 8 by decide,<-Int.pow_mul]
 rw[this]
 generalize v/2 ^ (8*i) =x
 rw[UInt8.toNat_ofNat']
 omega
theorem uA(v:Int)(j:Nat)(hj:j<8) : (filled v j)[j]? = some (.int .u8 0):=by
 have:j=0∨j=1∨j=2∨j=3∨j=4∨j=5∨j=6∨j=7:=by omega
 rcases this with rfl|rfl|rfl|rfl|rfl|rfl|rfl|rfl<;>rfl
theorem pX(v:Int)(j:Nat)(hj:j<8) : (filled v j).setIfInBounds j (.int .u8 (v/2 ^ (8*j) % 256)) =filled v (j+1):=by
 rw[<-qX]
 have:j=0∨j=1∨j=2∨j=3∨j=4∨j=5∨j=6∨j=7:=by omega
 rcases this with rfl|rfl|rfl|rfl|rfl|rfl|rfl|rfl<;>rfl
def Gh(w:World)(g:Nat)(x:Nat->Value) :Prop:=
 (w.cell? (g,0) =some (x 0)∧w.cell? (g,1) =some (x 1)∧w.cell? (g,2) =some (x 2)∧w.cell? (g,3) =some (x 3)∧w.cell? (g,4) =some (x 4)∧w.cell? (g,5) =some (x 5)∧w.cell? (g,6) =some (x 6)∧w.cell? (g,7) =some (x 7))
theorem np{w:World}{g:Nat}{t:TypeId}{l:List UInt8}(h:Blk w g t (ag l).toArray)(hl:l.length=8) :Gh w g (λi=> .int .u8 ((l.getD i 0).toNat:Int)):=by
 have key : ∀i,i<8->w.cell? ⟨g,i,none⟩ =some (.int .u8 ((l.getD i 0).toNat:Int)):=by
  intro i hi
  rw[h.cell]
  have:i<l.length:=by omega
  simp[ag,List.getD,this]
 exact⟨key 0 oM,key 1 oM,key 2 oM,key 3 oM,key 4 oM,key 5 oM,key 6 oM,key 7 oM⟩
def tn(v:Int)(i:Nat) :Int:=(((toB v).getD i 0).toNat:Int)
theorem ox(v:Int) : (#[.int .u8 (tn v 0),.int .u8 (tn v 1),.int .u8 (tn v 2),.int .u8 (tn v 3),.int .u8 (tn v 4),.int .u8 (tn v 5),.int .u8 (tn v 6),.int .u8 (tn v 7)] :Array Value) = (ag (toB v)).toArray:=rfl
set_option maxRecDepth 100000 in
theorem zl(v:Int)(hv : -9223372036854775808<=v∧v<=9223372036854775807)(w:World) :Calls Tryz.prog 80 #[v] w λe w'=>e = .returned (.agg (ag (toB v)).toArray)∧Below w.heap.size w w':=by
 go_enter Tryz.func80,Tryz.ntmps80
 go_wp2
 go_loopw [5] (λi wr=> ∃j:Nat,j<=8∧i = .int .i64 j∧Blk wr (w.heap.size+1) 175 (filled v j)∧Blk wr w.heap.size 175 (filled v 0)∧Below w.heap.size w wr) (λi _=>8- (RowKit.intOf i).toNat)
 case atStart=>
  exact⟨0,by omega,rfl,Blk.nN (by simp),(Blk.new _ _ _).alloc _,((Below.refl _ _).alloc (Nat.le_refl _) _).alloc (by simp) _⟩
 case round=>
  obtain⟨j,hj8,rfl,hb,hb0,hbl⟩:=hrel
  by_cases hlt:j<8
  ·have hc:wr.cell? ⟨w.heap.size+1,j,none⟩ =some (.int .u8 0):=by rw[hb.cell,uA v j hlt]
   have hf:=hb.frozen j
   have hb1:=hb.bG j (.int .u8 (v/2 ^ (8*j) % 256))
   rw[pX v j hlt]at hb1
   have hb2:=hb0.far (p:=⟨w.heap.size+1,j,none⟩) (by simp) (.int .u8 (v/2 ^ (8*j) % 256))
   replace hb1:=hid hb1
   replace hb2:=hid hb2
   clear hb hb0
   replace hbl:=hid hbl
   go_wp2
   go_roundw
   case rel=>exact⟨j+1,by omega,by go_num,hb1.out,hb2.out,hbl.out.setCell (by simp) _⟩
   case measure=>simp[RowKit.intOf];omega
  ·obtain rfl:j=8:=by omega
   have hb':Blk wr (w.heap.size+1) 175 (ag (toB v)).toArray:=hb
   have e8:Gh wr (w.heap.size+1) (λi=> .int .u8 (tn v i)):=np hb' (aJ v)
   obtain⟨c0,c1,c2,c3,c4,c5,c6,c7⟩:=e8
   obtain⟨d0,d1,d2,d3,d4,d5,d6,d7⟩:=np (l:=List.replicate 8 0) hb0 (by simp)
   have f0:=hb0.frozen 0
   have f1:=hb0.frozen 1
   have f2:=hb0.frozen 2
   have f3:=hb0.frozen 3
   have f4:=hb0.frozen 4
   have f5:=hb0.frozen 5
   have f6:=hb0.frozen 6
   have f7:=hb0.frozen 7
   clear hb hb0 hb'
   replace hbl:=hid hbl
   go_wp2
   refine bodyPost_ret (v:= .agg #[.int .u8 (tn v 0),.int .u8 (tn v 1),.int .u8 (tn v 2),.int .u8 (tn v 3),.int .u8 (tn v 4),.int .u8 (tn v 5),.int .u8 (tn v 6),.int .u8 (tn v 7)]) (by simp[results,Tryz.results80,go_sem,d0,d1,d2,d3,d4,d5,d6,d7]) rfl ⟨by rw[ox],?_⟩
   exact(((((((hbl.out.setCell (Nat.le_refl _) _).setCell (Nat.le_refl _) _).setCell (Nat.le_refl _) _).setCell (Nat.le_refl _) _).setCell (Nat.le_refl _) _).setCell (Nat.le_refl _) _).setCell (Nat.le_refl _) _).setCell (Nat.le_refl _) _
theorem Oh{w:World}(a:Addr) : (Instr.arrayAt 175 (.slice (some a) 8 8)).run Tryz.prog w = .ok (.pointer (some a)) w:=by
 simp[Instr.arrayAt,go_sem,run_underlying Tryz.underlying175]
theorem Jq(l:List UInt8)(hl:l.length=8) : (ag l).toArray = #[.int .u8 ((l.getD 0 0).toNat:Int),.int .u8 ((l.getD 1 0).toNat:Int),.int .u8 ((l.getD 2 0).toNat:Int),.int .u8 ((l.getD 3 0).toNat:Int),.int .u8 ((l.getD 4 0).toNat:Int),.int .u8 ((l.getD 5 0).toNat:Int),.int .u8 ((l.getD 6 0).toNat:Int),.int .u8 ((l.getD 7 0).toNat:Int)]:=by
 match l,hl with
 | [a,b,c,d,e,f,g,h],_=>rfl
theorem iZ(n:Int) :bits .and .i64 n 7=n % 8:=by
 have h7: (BitVec.ofInt 64 7).toNat=2 ^ 3-1:=by decide
 have key: (BitVec.ofInt 64 n &&& BitVec.ofInt 64 7).toNat= (n % ((2 ^ 64:Nat) :Int)).toNat % 2 ^ 3:=by
  rw[BitVec.toNat_and,BitVec.toNat_ofInt,h7,Nat.and_two_pow_sub_one_eq_mod]
 show IntKind.i64.wrap ((BitVec.ofInt 64 n &&& BitVec.ofInt 64 7).toNat:Nat) =n % 8
 rw[key,IntKind.wrap_i64]
 omega
theorem bU.byte{w:World}{g gb:Nat}{S:Img}(h:bU w g gb S)(i:Nat)(hi:i<S.beg 6) :w.cell? (gb,i) =some (.int .u8 ((S.b.getD i 0).toNat:Int)):=by
 rw[h.row.cell]
 have:i<S.b.length:=by rw[h.ok.len];exact hi
 simp[ag,List.getD,this]
theorem l6(S:Img)(k n i:Nat)(hi:i<n) : (S.bytes (k:Int) n).getD i 0=S.b.getD (k+i) 0:=by
 unfold Img.bytes
 simp[List.getD,hi]
theorem nQ(S:Img)(hS:S.Ok)(k n:Nat)(h:k+n<=S.beg 6) : (S.bytes (k:Int) n).length=n:=by
 unfold Img.bytes
 simp[hS.len]
 omega
theorem AQ(p:Value)(m a:Int)(w:World)(hal:a % 8≠0) :Calls Tryz.prog 68 #[p,m,a] w (aA (.tuple #[(0:Int),(6:Int)]) w):=by
 have hal1: (bits .and .i64 a 7==0) =false:=by rw[beq_eq_false_iff_ne,iZ];exact hal
 clear hal
 go_enter Tryz.func68,Tryz.ntmps68
 go_wp2
 go_ret2
 exact⟨rfl,rfl⟩
theorem CW(p:Value)(m a:Int)(w:World)(hal:a % 8=0)(hrow:Calls Tryz.prog 79 #[p,m,a,(8:Int),(1:Int)] w (aA (.tuple #[.slice none 0 0,.bool false]) w)) :
 Calls Tryz.prog 68 #[p,m,a] w (aA (.tuple #[(0:Int),(5:Int)]) w):=by
 have hal1:bits .and .i64 a 7=0:=by rw[iZ];exact hal
 replace hrow:=hid hrow
 clear hal
 go_enter Tryz.func68,Tryz.ntmps68
 go_wp2_with fail
 refine hrow.out.mono ?_
 rintro e w1 ⟨rfl,rfl⟩
 go_wp2
 go_ret2
 exact⟨rfl,rfl⟩
set_option maxRecDepth 100000 in
theorem zE(p:Value)(m:Int)(gb k:Nat)(l:List UInt8)(hl:l.length=8)(w:World)(hal: (k:Int) % 8=0)(hrow:Calls Tryz.prog 79 #[p,m,(k:Int),(8:Int),(1:Int)] w (aA (.tuple #[.slice (some ⟨gb,k,none⟩) 8 8,.bool true]) w))
 (hb : ∀i,i<8->w.cell? ⟨gb,k+i,none⟩ =some (.int .u8 ((l.getD i 0).toNat:Int))) :
 Calls Tryz.prog 68 #[p,m,(k:Int)] w λe w'=>e = .returned (.tuple #[(ofB l),(0:Int)])∧Below w.heap.size w w':=by
 have hal1:bits .and .i64 (k:Int) 7=0:=by rw[iZ];exact hal
 have hof:=Jf l hl w
 rw[Jq _ hl]at hof
 generalize ofB l=z at *
 have c0:w.cell? (gb,k) =some (.int .u8 ((l.getD 0 0).toNat:Int)):=hb 0 oM
 have c1:=hb 1 oM
 have c2:=hb 2 oM
 have c3:=hb 3 oM
 have c4:=hb 4 oM
 have c5:=hb 5 oM
 have c6:=hb 6 oM
 have c7:=hb 7 oM
 clear hb
 generalize ((l.getD 0 0).toNat:Int) =x0 at *
 generalize ((l.getD 1 0).toNat:Int) =x1 at *
 generalize ((l.getD 2 0).toNat:Int) =x2 at *
 generalize ((l.getD 3 0).toNat:Int) =x3 at *
 generalize ((l.getD 4 0).toNat:Int) =x4 at *
 generalize ((l.getD 5 0).toNat:Int) =x5 at *
 generalize ((l.getD 6 0).toNat:Int) =x6 at *
 generalize ((l.getD 7 0).toNat:Int) =x7 at *
 have harr:= @Oh w ⟨gb,k,none⟩
 replace hrow:=hid hrow
 replace hof:=hid hof
 clear hal hl
 go_enter Tryz.func68,Tryz.ntmps68
 go_wp2_with fail
 refine hrow.out.mono ?_
 rintro e w1 ⟨rfl,rfl⟩
 go_wp2_with fail
 refine hof.out.mono ?_
 rintro e w2 ⟨rfl,hb⟩
 replace hb:=hid hb
 go_wp2
 go_ret2
 exact⟨rfl,hb.out⟩
theorem fc{w:World}{g gb:Nat}{S:Img}(h:bU w g gb S)(m a:Int)(n:Nat)(hn:n≠0)(hn2:n<=9223372036854775807)(wr:Bool) :
 (S.aS m a n wr=false∧Calls Tryz.prog 79 #[g,m,a,(n:Int),(ej wr)] w (aA (.tuple #[.slice none 0 0,.bool false]) w))∨
 (S.aS m a n wr=true∧∃k:Nat,a=k∧k+n<=S.beg 6∧Calls Tryz.prog 79 #[g,m,(k:Int),(n:Int),(ej wr)] w (aA (.tuple #[.slice (some ⟨gb,k,none⟩) n n,.bool true]) w)):=by
 have hrow:=wT h m a n hn2 wr
 unfold G8 at hrow
 rw[if_neg hn]at hrow
 cases hk:S.aS m a n wr
 ·rw[hk]at hrow
  exact .inl ⟨rfl,by simpa using hrow⟩
 ·obtain⟨h0,h1⟩:=S.mh hk hn
  obtain⟨k,rfl⟩:=Int.eq_ofNat_of_zero_le h0
  rw[hk,if_pos rfl]at hrow
  exact .inr ⟨rfl,k,rfl,by omega,hrow⟩
theorem jE{w:World}{g gb:Nat}{S:Img}(h:bU w g gb S)(m a:Int) :
 Calls Tryz.prog 68 #[g,m,a] w λe w'=>e = .returned (.tuple #[(S.aR m a),(S.az m a false)])∧Below w.heap.size w w':=by
 by_cases hal:a % 8=0
 ·have h80: (8:Nat)≠0:=by omega
  have h8: (8:Nat)<=9223372036854775807:=by omega
  rcases fc h m a 8 h80 h8 false with⟨hk,hrow⟩ | ⟨hk,k,rfl,hle,hrow⟩
  ·have hF:S.az m a false=5:=by unfold Img.az;simp[hal,hk]
   have hV:S.aR m a=0:=by unfold Img.aR;simp[hF]
   rw[hF,hV]
   exact(CW _ m a w hal hrow).mono λe w' h=>⟨h.1,by rw[h.2];exact Below.refl _ _⟩
  ·have hF:S.az m k false=0:=by unfold Img.az;simp[hal,hk]
   have hV:S.aR m k=ofB (S.bytes k 8):=by unfold Img.aR;simp[hF]
   rw[hF,hV]
   exact zE _ m gb k (S.bytes k 8) (nQ S h.ok k 8 hle) w hal hrow (λi hi=>by rw[l6 S k 8 i hi];exact h.byte (k+i) oM)
 ·have hF:S.az m a false=6:=by unfold Img.az;simp[hal]
  have hV:S.aR m a=0:=by unfold Img.aR;simp[hF]
  rw[hF,hV]
  exact(AQ _ m a w hal).mono λe w' h=>⟨h.1,by rw[h.2];exact Below.refl _ _⟩
theorem En(p:Value)(m a v:Int)(w:World)(hal:a % 8≠0) :Calls Tryz.prog 55 #[p,m,a,v] w (aA (.int .i64 6) w):=by
 have hal1: (bits .and .i64 a 7==0) =false:=by rw[beq_eq_false_iff_ne,iZ];exact hal
 clear hal
 go_enter Tryz.func55,Tryz.ntmps55
 go_wp2
 go_ret
 exact⟨rfl,rfl⟩
theorem Fq(p:Value)(m a v:Int)(w:World)(hal:a % 8=0)(hrow:Calls Tryz.prog 79 #[p,m,a,(8:Int),(2:Int)] w (aA (.tuple #[.slice none 0 0,.bool false]) w)) :
 Calls Tryz.prog 55 #[p,m,a,v] w (aA (.int .i64 5) w):=by
 have hal1:bits .and .i64 a 7=0:=by rw[iZ];exact hal
 replace hrow:=hid hrow
 clear hal
 go_enter Tryz.func55,Tryz.ntmps55
 go_wp2_with fail
 refine hrow.out.mono ?_
 rintro e w1 ⟨rfl,rfl⟩
 go_wp2
 go_ret
 exact⟨rfl,rfl⟩
theorem Kept.setRow{S:Nat->Prop}{w w':World}(h:Kept S w w'){g:Nat}(hg:S g∨w.heap.size<=g)(cs:Array Value) :Kept S w (w'.setRow g cs):=
 ⟨h.os,h.tape,h.output,by simpa [World.setRow]using h.size,λk hk hs=>by
  rw[setRow_other w' g k cs (by rintro rfl;rcases hg with hg|hg;exact hs hg;omega)]
  exact h.block k hk hs⟩
theorem Kept.fU{w w':World}(h:Below w.heap.size w w') :Kept Nob w w':=⟨h.os,h.tape,h.output,h.size,λk hk _=>h.block k hk⟩
theorem nI(b l:List UInt8)(k:Nat) : ((ag b).take k++ (ag l++ (ag b).drop (k+l.length))) =ag (cK b k l):=by
 simp[ag,cK]
theorem FA(w2:World)(gb k:Nat)(b:List UInt8)(hle:k+8<=b.length)(v:Int)(hb:Blk w2 gb 5 (ag b).toArray)(hsz: (Tryz.prog.info? 5).map (·.size) =some 1) :
 (Builtin.copy_ #[92,92] 3 #[.slice (some ⟨gb,k,none⟩) 8 8,.slice w2.heap.size 8 8]).run Tryz.prog (w2.alloc (.cells #[.int .u8 (tn v 0),.int .u8 (tn v 1),.int .u8 (tn v 2),.int .u8 (tn v 3),.int .u8 (tn v 4),.int .u8 (tn v 5),.int .u8 (tn v 6),.int .u8 (tn v 7)] 175)) =
  .ok (.int .i64 8) ((w2.alloc (.cells #[.int .u8 (tn v 0),.int .u8 (tn v 1),.int .u8 (tn v 2),.int .u8 (tn v 3),.int .u8 (tn v 4),.int .u8 (tn v 5),.int .u8 (tn v 6),.int .u8 (tn v 7)] 175)).setRow gb (ag (cK b k (toB v))).toArray):=by
 rw[ox]
 have hl: (ag (toB v)).length=8:=by simp[ag,aJ]
 have hrun:=run_copy_row (P:=Tryz.prog) (w2.alloc (.cells (ag (toB v)).toArray 175)) 92 92 3 5 gb k 8 8 ⟨w2.heap.size,0,none⟩ 8 8 (ag b).toArray 5 (ag (toB v))
  Tryz.underlying92 hsz (hb.alloc _) (by rw[hl];rfl) (λj x hj=>by
   have h1:=(Blk.new w2 175 (ag (toB v)).toArray).cell j
   have h2: ((⟨w2.heap.size,0,none⟩ :Addr).add j) = ⟨w2.heap.size,j,none⟩:=by simp[Addr.add];exact λh=>h.symm
   rw[h2,h1]
   simpa using hj) (by rw[hl];simpa [ag]using hle) (λx hx=>by
   obtain⟨y,_,rfl⟩:=List.mem_map.1 hx
   rfl)
 rw[hrun,hl]
 have:=nI b (toB v) k
 rw[aJ]at this
 rw[show(ag b).toArray.toList=ag b from rfl,List.append_assoc,this]
 rfl
theorem sh{w:World}{g:Nat}{t:TypeId}{cs:Array Value}(h:Blk w g t cs)(new:Array Value) :Blk (w.setRow g new) g t new:=setRow_heap w g cs new t (0,0) h
set_option maxRecDepth 100000 in
theorem CJ(p:Value)(m v:Int)(hv : -9223372036854775808<=v∧v<=9223372036854775807)(gb k:Nat)(b:List UInt8)(w:World)(hal: (k:Int) % 8=0)(hle:k+8<=b.length)
 (hrow:Calls Tryz.prog 79 #[p,m,(k:Int),(8:Int),(2:Int)] w (aA (.tuple #[.slice (some ⟨gb,k,none⟩) 8 8,.bool true]) w)) (hb:Blk w gb 5 (ag b).toArray) :
 Calls Tryz.prog 55 #[p,m,(k:Int),v] w λe w'=>e = .returned (.int .i64 0)∧Blk w' gb 5 (ag (cK b k (toB v))).toArray∧Kept (λi=>i=gb) w w':=by
 have hal1:bits .and .i64 (k:Int) 7=0:=by rw[iZ];exact hal
 have hby:=zl v hv w
 rw[<-ox]at hby
 have hsz: (Tryz.prog.info? 5).map (·.size) =some 1:=by kernel_rfl
 replace hby:=hid hby
 replace hrow:=hid hrow
 replace hb:=hid hb
 replace hsz:=hid hsz
 clear hal hv
 go_enter Tryz.func55,Tryz.ntmps55
 go_wp2_with fail
 refine hrow.out.mono ?_
 rintro e w1 ⟨rfl,rfl⟩
 go_wp2_with fail
 refine hby.out.mono ?_
 rintro e w2 ⟨rfl,h2⟩
 have hb2:=hid (hb.out.below h2 hb.out.lt)
 have hk2:=hid (Kept.fU h2)
 clear h2
 have hcp:=FA w2 gb k b hle v hb2.out hsz.out
 replace hcp:=hcp
 go_wp2
 go_ret
 refine⟨rfl,?_,?_⟩
 ·exact sh (hb2.out.alloc _) _
 ·exact Kept.setRow (S:=λi=>i=gb) ((hk2.out.alloc _).mono (λ_ h=>h.elim)) (.inl rfl) _
def au(g:Nat)(S:Img) :Asr where
 holds w F:= ∃gb,bU w g gb S∧∀k,F k↔k=g∨k=gb
 lt h hk:=by
  obtain⟨gb,h,hF⟩:=h
  rcases(hF _).1 hk with rfl|rfl
  ·exact h.blk.lt
  ·exact h.row.lt
 kept h hk hT:=by
  obtain⟨gb,h,hF⟩:=h
  exact⟨gb,⟨h.blk.kept hk (hT _ ((hF _).2 (.inl rfl))),h.row.kept hk (hT _ ((hF _).2 (.inr rfl))),h.ok⟩,hF⟩
theorem bU.ne{w:World}{g gb:Nat}{S:Img}(h:bU w g gb S) :g≠gb:=h.blk.ne_ h.row (by decide)
theorem Img.Ok.put{S:Img}(h:S.Ok)(k:Nat)(l:List UInt8)(hk:k+l.length<=S.beg 6) : (S.put k l).Ok:=by
 have hb : ∀i,(S.put k l).beg i=S.beg i:=λi=>by unfold Img.beg Img.put;rfl
 exact⟨by rw[hb];show(cK S.b k l).length=_;rw[kJ _ _ _ (by rw[h.len];exact hk)];exact h.len,by rw[hb];exact h.small⟩
section
variable {w0 w:World}{g:Nat}{S:Img}{L:List Asr}
theorem au.rep(h:At w0 w (au g S::L)) : ∃gb,bU w g gb S:=by obtain⟨F,gb,h,_⟩:=h.first;exact⟨gb,h⟩
theorem At.Bt{w':World}(h:At w0 w L)(hb:Below w.heap.size w w') :At w0 w' L:=h.fO (Kept.fU hb)
theorem jB(h:At w0 w (au g S::L))(m a:Int) :Calls Tryz.prog 68 #[g,m,a] w (kj (.tuple #[(S.aR m a),(S.az m a false)]) (au g S) w0 L):=by
 obtain⟨gb,hr⟩:=au.rep h
 exact(jE hr m a).mono λe w' h'=>⟨h'.1,h.Bt h'.2⟩
theorem Ds(h:At w0 w (au g S::L))(m a v:Int)(hv : -9223372036854775808<=v∧v<=9223372036854775807) :
 Calls Tryz.prog 55 #[g,m,a,v] w (kj (.int .i64 (S.az m a true)) (au g (S.setCell m a v)) w0 L):=by
 refine h.ux λF hF=> ?_
 obtain⟨gb,hr,hFk⟩:=hF
 by_cases hal:a % 8=0
 ·have h80: (8:Nat)≠0:=by omega
  have h8: (8:Nat)<=9223372036854775807:=by omega
  rcases fc hr m a 8 h80 h8 true with⟨hk,hrow⟩ | ⟨hk,k,rfl,hle,hrow⟩
  ·have hC:S.az m a true=5:=by unfold Img.az;simp[hal,hk]
   have hS:S.setCell m a v=S:=by unfold Img.setCell;simp[hC]
   rw[hC,hS]
   refine(Fq _ m a v w hal hrow).mono ?_
   rintro e w' ⟨rfl,rfl⟩
   exact⟨_,_,F,⟨rfl,rfl⟩,rfl,⟨gb,hr,hFk⟩,Kept.refl _ _,λk hk=> .inl hk⟩
  ·have hC:S.az m k true=0:=by unfold Img.az;simp[hal,hk]
   have hS:S.setCell m k v=S.put k (toB v):=by unfold Img.setCell;simp[hC]
   rw[hC,hS]
   refine(CJ _ m v hv gb k S.b w hal (by rw[hr.ok.len];exact hle) hrow hr.row).mono ?_
   rintro e w' ⟨rfl,hb',hk'⟩
   refine⟨_,_,F,⟨rfl,rfl⟩,rfl,⟨gb,⟨?_,hb',hr.ok.put k _ (by rw[aJ];exact hle)⟩,hFk⟩,hk'.mono (λi hi=>(hFk i).2 (.inr hi)),λk hk=> .inl hk⟩
   exact hr.blk.kept hk' hr.ne
 ·have hC:S.az m a true=6:=by unfold Img.az;simp[hal]
  have hS:S.setCell m a v=S:=by unfold Img.setCell;simp[hC]
  rw[hC,hS]
  refine(En _ m a v w hal).mono ?_
  rintro e w' ⟨rfl,rfl⟩
  exact⟨_,_,F,⟨rfl,rfl⟩,rfl,⟨gb,hr,hFk⟩,Kept.refl _ _,λk hk=> .inl hk⟩
end
theorem Hh{w:World}{g gb:Nat}{S:Img}(h:bU w g gb S)(k n cap:Nat)(hle:k+n<=S.beg 6) : (convert 92 9 (.slice (some ⟨gb,k,none⟩) n cap)).run Tryz.prog w = .ok (.string ⟨(S.bytes k n).toArray⟩) w:=by
 have hl:=nQ S h.ok k n hle
 have:=run_convert_bytes_back (P:=Tryz.prog) w 92 9 5 ⟨gb,k,none⟩ cap (S.bytes k n) Tryz.underlying92 Tryz.underlying5 Tryz.underlying9 (λj hj=>by
  have h2: ((⟨gb,k,none⟩ :Addr).add j) = ⟨gb,k+j,none⟩:=by simp[Addr.add]
  rw[h2,h.byte (k+j) oM]
  have h3:=l6 S k n j oM
  rw[<-h3,List.getD_eq_getElem?_getD,List.getElem?_eq_getElem hj]
  rfl)
 rw[hl]at this
 exact this
theorem GC(w:World) : (convert 92 9 (.slice none 0 0)).run Tryz.prog w = .ok (.string ⟨#[]⟩) w:=
 run_convert_bytes_nil w 92 5 Tryz.underlying92 Tryz.underlying5 0 0 9 Tryz.underlying9
set_option maxRecDepth 100000 in
theorem ko(p:Value)(m a:Int)(n:Nat)(hn:n<=9223372036854775807)(w:World)(sl:Value)(ok:Bool)(s:ByteArray)(f:Int)
 (hrow:Calls Tryz.prog 79 #[p,m,a,(n:Int),(1:Int)] w (aA (.tuple #[sl,.bool ok]) w))
 (hc:ok=true->(convert 92 9 sl).run Tryz.prog w = .ok (.string s) w∧f=0) (hno:ok=false->s= ⟨#[]⟩ ∧f=5) :
 Calls Tryz.prog 87 #[p,m,a,(n:Int)] w (aA (.tuple #[.string s,f]) w):=by
 replace hrow:=hid hrow
 cases ok
 ·obtain⟨rfl,rfl⟩:=hno rfl
  clear hc hno
  go_enter Tryz.func87,Tryz.ntmps87
  go_wp2_with fail
  refine hrow.out.mono ?_
  rintro e w1 ⟨rfl,rfl⟩
  go_wp2
  go_ret2
  exact⟨rfl,rfl⟩
 ·obtain⟨hc,rfl⟩:=hc rfl
  clear hno
  replace hc:=hid hc
  go_enter Tryz.func87,Tryz.ntmps87
  go_wp2_with fail
  refine hrow.out.mono ?_
  rintro e w1 ⟨rfl,rfl⟩
  have hc:=hc.out
  go_wp2
  go_ret2
  exact⟨rfl,rfl⟩
theorem zC(p:Value)(m a n:Int)(hn:n<0)(w:World) :Calls Tryz.prog 87 #[p,m,a,n] w (aA (.tuple #[.string ⟨#[]⟩,(19:Int)]) w):=by
 go_enter Tryz.func87,Tryz.ntmps87
 go_wp2
 go_ret2
 exact⟨rfl,rfl⟩
theorem AL{w:World}{g gb:Nat}{S:Img}(h:bU w g gb S)(m a n:Int)(hn:n<=9223372036854775807) :
 Calls Tryz.prog 87 #[g,m,a,n] w (aA (.tuple #[.string (S.text m a n),(S.cZ m a n)]) w):=by
 by_cases h0:n<0
 ·have hF:S.cZ m a n=19:=by unfold Img.cZ;simp[h0]
  have hT:S.text m a n= ⟨#[]⟩:=by unfold Img.text;simp[hF]
  rw[hF,hT]
  exact zC _ m a n h0 w
 obtain⟨k,rfl⟩:=Int.eq_ofNat_of_zero_le (Int.not_lt.1 h0)
 have hF:S.cZ m a k=if S.aS m a k false=true then 0 else 5:=by unfold Img.cZ;rw[if_neg h0];simp
 by_cases hk0:k=0
 ·subst hk0
  have hrow:=wT h m a 0 oM false
  have hk:S.aS m a 0 false=true:=by unfold Img.aS;rfl
  rw[hk,if_pos rfl]at hF
  have hT:S.text m a ((0:Nat) :Int) = ⟨#[]⟩:=by unfold Img.text;rw[if_pos hF];simp[Img.bytes]
  rw[hF,hT]
  exact ko _ m a 0 oM w _ true _ _ hrow (λ_=>⟨GC w,rfl⟩) (λh=>by cases h)
 ·rcases fc h m a k hk0 oM false with⟨hk,hrow⟩ | ⟨hk,j,rfl,hle,hrow⟩
  ·rw[hk,if_neg (by decide)]at hF
   have hT:S.text m a k= ⟨#[]⟩:=by unfold Img.text;simp[hF]
   rw[hF,hT]
   exact ko _ m a k oM w _ false _ _ hrow (λh=>by cases h) (λ_=>⟨rfl,rfl⟩)
  ·rw[hk,if_pos rfl]at hF
   have hT:S.text m j k= ⟨(S.bytes j k).toArray⟩:=by unfold Img.text;rw[if_pos hF];simp
   rw[hF,hT]
   exact ko _ m j k oM w _ true _ _ hrow (λ_=>⟨Hh h j k k hle,rfl⟩) (λh=>by cases h)
theorem bU.drewN{w:World}{g gb:Nat}{S:Img}(h:bU w g gb S)(n:Nat) :bU (w.drewN n) g gb S:=⟨h.blk,h.row,h.ok⟩
def Fo(w:World)(gb x y:Nat)(e:Ending)(w':World) :Prop:= ∃k cap,e = .returned (.slice (some ⟨gb,k,none⟩) (y-x) cap)∧(k=x∨y=x∧k=0)∧∃n,w'=w.drewN n
set_option maxRecDepth 100000 in
theorem Mz{w:World}{g gb:Nat}{S:Img}(h:bU w g gb S)(r:Nat)(h1:1<=r)(h5:r<=5) :
 Calls Tryz.prog 8 #[g,(r:Int)] w λe w'=>e = .returned (.string (S.part r))∧∃n,w'=w.drewN n:=by
 have hle:=S.dm (i:=r) (j:=r+1) h1 oM oM
 have hle6:=S.dm (i:=r+1) (j:=6) oM oM oM
 have hsm:=h.ok.small
 have hspan:=hid (jA h r h1 h5)
 have hall:=h.mN
 have hT:S.part r= ⟨(S.bytes (S.beg r:Nat) (S.beg (r+1) -S.beg r)).toArray⟩:=by unfold Img.part Img.bytes;rw[if_pos ⟨h1,h5⟩];simp
 have hc : ∀k cap n,(k=S.beg r∨S.beg (r+1) =S.beg r∧k=0)->(convert 92 9 (.slice (some ⟨gb,k,none⟩) (S.beg (r+1) -S.beg r) cap)).run Tryz.prog (w.drewN n) = .ok (.string (S.part r)) (w.drewN n):=λk cap n hk=>by
  rw[hT]
  rcases hk with rfl| ⟨he,rfl⟩
  ·exact Hh (h.drewN n) _ _ cap oM
  ·rw[he,Nat.sub_self]
   have:=Hh (h.drewN n) 0 0 cap oM
   rw[this]
   simp[Img.bytes]
 clear h hT
 generalize S.part r=s at *
 generalize S.beg r=x at *
 generalize S.beg (r+1) =y at *
 generalize S.beg 6=N at *
 have hpart:Calls Tryz.prog 36 #[g,(r:Int)] w (Fo w gb x y):=by
  clear hc
  have hxy:y=x∨(x<y∧((y:Int) ==x) =false):=by
   rcases Nat.eq_or_lt_of_le hle with h|h
   ·exact .inl h.symm
   ·exact .inr ⟨h,by rw[beq_eq_false_iff_ne];omega⟩
  rcases hxy with rfl| ⟨hxy,hne⟩
  all_goals
   go_enter Tryz.func36,Tryz.ntmps36
   go_wp2_with fail
   refine hspan.out.mono ?_
   rintro e w1 ⟨rfl,n,rfl⟩
   go_wp2
  ·go_ret
   exact⟨0,0,by rw[Nat.sub_self];rfl,.inr ⟨rfl,rfl⟩,n,rfl⟩
  ·go_ret
   exact⟨x,y-x,rfl,.inl rfl,n,rfl⟩
 replace hpart:=hid hpart
 replace hc:=hid hc
 clear hspan hall
 go_enter Tryz.func8,Tryz.ntmps8
 go_wp2_with fail
 refine hpart.out.mono ?_
 rintro e w1 ⟨k,cap,rfl,hk,n,rfl⟩
 have hc:=hc.out k cap n hk
 go_wp2
 go_ret
 exact⟨rfl,n,rfl⟩
section
variable {w0 w:World}{g:Nat}{S:Img}{L:List Asr}
theorem GZ(h:At w0 w (au g S::L))(m a n:Int)(hn:n<=9223372036854775807) :Calls Tryz.prog 87 #[g,m,a,n] w (aA (.tuple #[.string (S.text m a n),(S.cZ m a n)]) w):=by
 obtain⟨gb,hr⟩:=au.rep h
 exact AL hr m a n hn
theorem wY(gb:Nat)(S:Img) : (gQ gb S).setIfInBounds 13 (.bool true) =gQ gb { S with op:=true }:=rfl
theorem wj(gb:Nat)(S:Img) : (gQ gb S).setIfInBounds 14 (.bool true) =gQ gb { S with cl:=true }:=rfl
theorem xR{w:World}{g gb:Nat}{S:Img}(h:bU w g gb S)(hc:S.cl=true) :Calls Tryz.prog 25 #[g] w (aA (.int .i64 5) w):=by
 have hcl:=h.gh
 rw[hc]at hcl
 clear h hc
 go_enter Tryz.func25,Tryz.ntmps25
 go_wp2
 go_ret
 exact⟨rfl,rfl⟩
theorem LC{w:World}{g gb:Nat}{S:Img}(h:bU w g gb S)(hc:S.cl=false) :Calls Tryz.prog 25 #[g] w (aA (.int .i64 0) (w.setCell (g,13) (.bool true))):=by
 have hcl:=h.gh
 have hop:=h.mI
 have hf:=h.blk.frozen 13
 rw[hc]at hcl
 generalize S.op=o at hop
 clear h hc
 go_enter Tryz.func25,Tryz.ntmps25
 go_wp2
 go_ret
 exact⟨rfl,rfl⟩
theorem wK{w:World}{g gb:Nat}{S:Img}(h:bU w g gb S)(hc:S.cl=true) :Calls Tryz.prog 29 #[g] w (aA (.int .i64 5) w):=by
 have hcl:=h.gh
 rw[hc]at hcl
 clear h hc
 go_enter Tryz.func29,Tryz.ntmps29
 go_wp2
 go_ret
 exact⟨rfl,rfl⟩
theorem MK{w:World}{g gb:Nat}{S:Img}(h:bU w g gb S)(hc:S.cl=false) :Calls Tryz.prog 29 #[g] w (aA (.int .i64 0) (w.setCell (g,14) (.bool true))):=by
 have hcl:=h.gh
 have hf:=h.blk.frozen 14
 rw[hc]at hcl
 clear h hc
 go_enter Tryz.func29,Tryz.ntmps29
 go_wp2
 go_ret
 exact⟨rfl,rfl⟩
theorem Img.Ok.op{S:Img}(h:S.Ok)(o:Bool) : ({ S with op:=o }:Img).Ok:=by
 have hb : ∀i,({ S with op:=o }:Img).beg i=S.beg i:=λi=>by unfold Img.beg;rfl
 exact⟨by rw[hb];exact h.len,by rw[hb];exact h.small⟩
theorem Img.Ok.cl{S:Img}(h:S.Ok)(o:Bool) : ({ S with cl:=o }:Img).Ok:=by
 have hb : ∀i,({ S with cl:=o }:Img).beg i=S.beg i:=λi=>by unfold Img.beg;rfl
 exact⟨by rw[hb];exact h.len,by rw[hb];exact h.small⟩
theorem Lv(h:At w0 w (au g S::L)) :Calls Tryz.prog 25 #[g] w (kj (.int .i64 S.ud) (au g S.opened) w0 L):=by
 refine h.ux λF hF=> ?_
 obtain⟨gb,hr,hFk⟩:=hF
 unfold Img.ud Img.opened
 rcases Bool.eq_false_or_eq_true S.cl with hc|hc
 rotate_left
 ·rw[if_neg (by rw[hc];decide),if_neg (by rw[hc];decide)]
  refine(LC hr hc).mono ?_
  rintro e w' ⟨rfl,rfl⟩
  refine⟨_,_,F,⟨rfl,rfl⟩,rfl,⟨gb,⟨?_,hr.row.far (p:=⟨g,13,none⟩) hr.ne.symm _,hr.ok.op true⟩,hFk⟩,(Kept.refl _ _).setCell (.inl ((hFk _).2 (.inl rfl))) _,λk hk=> .inl hk⟩
  rw[<-wY]
  exact hr.blk.bG 13 _
 ·rw[if_pos hc,if_pos hc]
  refine(xR hr hc).mono ?_
  rintro e w' ⟨rfl,rfl⟩
  exact⟨_,_,F,⟨rfl,rfl⟩,rfl,⟨gb,hr,hFk⟩,Kept.refl _ _,λk hk=> .inl hk⟩
theorem LH(h:At w0 w (au g S::L)) :Calls Tryz.prog 29 #[g] w (kj (.int .i64 S.ud) (au g S.eA) w0 L):=by
 refine h.ux λF hF=> ?_
 obtain⟨gb,hr,hFk⟩:=hF
 unfold Img.ud Img.eA
 rcases Bool.eq_false_or_eq_true S.cl with hc|hc
 rotate_left
 ·rw[if_neg (by rw[hc];decide)]
  refine(MK hr hc).mono ?_
  rintro e w' ⟨rfl,rfl⟩
  refine⟨_,_,F,⟨rfl,rfl⟩,rfl,⟨gb,⟨?_,hr.row.far (p:=⟨g,14,none⟩) hr.ne.symm _,hr.ok.cl true⟩,hFk⟩,(Kept.refl _ _).setCell (.inl ((hFk _).2 (.inl rfl))) _,λk hk=> .inl hk⟩
  rw[<-wj]
  exact hr.blk.bG 14 _
 ·rw[if_pos hc]
  refine(wK hr hc).mono ?_
  rintro e w' ⟨rfl,rfl⟩
  have hS: ({ S with cl:=true }:Img) =S:=by cases S;simp at hc;simp[hc]
  rw[hS]
  exact⟨_,_,F,⟨rfl,rfl⟩,rfl,⟨gb,hr,hFk⟩,Kept.refl _ _,λk hk=> .inl hk⟩
end
end Go.Proofs.YtjohhkikoejadaaGreatDoor
