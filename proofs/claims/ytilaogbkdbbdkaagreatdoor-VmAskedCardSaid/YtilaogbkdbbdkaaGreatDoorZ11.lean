/- Chapter 7. Conditions: as written. -/
import Derived.Test.YtilaogbkdbbdkaaGreatDoorOm
import Derived.Test.YtilaogbkdbbdkaaGreatDoorZ07
import Derived.Laws.CopyOwn
open Go.Proofs.Tryz
namespace Go.Proofs.YtilaogbkdbbdkaaGreatDoor
set_option linter.unusedVariables false
set_option maxHeartbeats 8000000
open Go.RowKit Go.Lib
theorem zO(n:Int):bits .and .i64 n 255=n % 256:=by
 have hcQ: (BitVec.ofInt 64 255).toNat=2 ^ 8-1:=by decide
 have key: (BitVec.ofInt 64 n &&& BitVec.ofInt 64 255).toNat= (n % ((2 ^ 64:Nat):Int)).toNat % 2 ^ 8:=by
  rw[BitVec.toNat_and,BitVec.toNat_ofInt,hcQ,Nat.and_two_pow_sub_one_eq_mod]
 show IntKind.i64.wrap ((BitVec.ofInt 64 n &&& BitVec.ofInt 64 255).toNat:Nat)=n % 256
 rw[key,IntKind.wrap_i64]
 omega
theorem DG(x y:Int)(hx : -36028797018963968<=x∧x<36028797018963968)(hy:0<=y∧y<256):bits .or .i64 (wrap64 (x*256)) y=256*x+y:=by
 have hw:wrap64 (x*256)=x*256:=by unfold wrap64;omega
 rw[hw]
 have hm: ((x*256) % ((2 ^ 64:Nat):Int)).toNat=2 ^ 8* (x % ((2 ^ 56:Nat):Int)).toNat:=by omega
 have hn: (y % ((2 ^ 64:Nat):Int)).toNat<2 ^ 8:=by omega
 have key: (BitVec.ofInt 64 (x*256) ||| BitVec.ofInt 64 y).toNat= ((x*256) % ((2 ^ 64:Nat):Int)).toNat+ (y % ((2 ^ 64:Nat):Int)).toNat:=by
  rw[BitVec.toNat_or,BitVec.toNat_ofInt,BitVec.toNat_ofInt,hm,Nat.two_pow_add_eq_or_of_lt hn]
 show IntKind.i64.wrap ((BitVec.ofInt 64 (x*256) ||| BitVec.ofInt 64 y).toNat:Nat)=256*x+y
 rw[key,IntKind.wrap_i64]
 omega
theorem Code.ud{op a:Int}(h:Code.right op a=true): (1<=op∧op<=106)∧ -36028797018963968<=a∧a<36028797018963968:=by
 rw[Code.oH]at h
 omega
theorem KQ(op a:Int)(w:World)(h:Code.right op a=false):Calls prog 188 #[op,a] w (ax (.tuple #[(0:Int),.bool false]) w):=by
 go_enter func188,ntmps188
 go_wp2_with fail
 refine(mG op a w).mono ?_
 rintro e w1 ⟨rfl,rfl⟩
 rw[h]
 go_wp2
 go_ret2
 exact⟨rfl,rfl⟩
theorem I4(op a:Int)(w:World)(h:Code.right op a=true):Calls prog 188 #[op,a] w (ax (.tuple #[(256*a+op:Int),.bool true]) w):=by
 have hx:=Code.ud h
 rw[<-DG a op hx.2 oM]
 clear hx
 go_enter func188,ntmps188
 go_wp2_with fail
 refine(mG op a w).mono ?_
 rintro e w1 ⟨rfl,rfl⟩
 rw[h]
 go_wp2
 go_ret2
 exact⟨rfl,rfl⟩
theorem dR(v:Int)(w:World):Calls prog 92 #[v] w (ax (.tuple #[.int .i64 (Code.unpack v).1,.int .i64 (Code.unpack v).2.1,.bool (Code.unpack v).2.2]) w):=by
 have hcQ:=hid (zO v)
 obtain⟨b,hb⟩: ∃b,Code.right (v % 256) (v/256)=b:=⟨_,rfl⟩
 have hb:=hid hb
 have hu:Code.unpack v=if b=true then(v % 256,v/256,true)else(0,0,false):=by unfold Code.unpack Code.unOp Code.uE;rw[hb.out]
 rw[hu]
 clear hu
 cases b
 all_goals
  go_enter func92,ntmps92
  go_wp2_with fail
  refine(by rw[hcQ.out];exact mG (v % 256) (v/256) w:Calls prog 135 #[(bits .and .i64 v 255:Int),(v/256:Int)] w (ax (.bool (Code.right (v % 256) (v/256))) w)).mono ?_
  rintro e w1 ⟨rfl,rfl⟩
  rw[hb.out]
  go_wp2
  go_ret3
  exact⟨by first|rfl| (rw[<-hcQ.out];rfl),rfl⟩
theorem Code.xx(v:Int): (∃p q,Code.unpack v= (p,q,true)∧Code.right p q=true∧v=256*q+p)∨Code.unpack v= (0,0,false):=by
 unfold Code.unpack
 cases h:Code.right (Code.unOp v) (Code.uE v)
 ·right;simp
 ·left
  refine⟨_,_,rfl,h,?_⟩
  unfold Code.unOp Code.uE
  omega
def iY(gb:Nat)(S:Img):Array Value:=
 #[(S.k:Int),(S.s:Int),(S.u:Int),(S.d:Int),(S.r:Int),
   .int .i64 0,.int .i64 0,.int .i64 (S.beg 2:Int),.int .i64 (S.beg 3:Int),.int .i64 (S.beg 4:Int),.int .i64 (S.beg 5:Int),.int .i64 (S.beg 6:Int),
   .slice gb (S.beg 6) (S.beg 6),.bool S.op,.bool S.cl]
structure b9(w:World)(g gb:Nat)(S:Img):Prop where
 blk:Blk w g 139 (iY gb S)
 row:Blk w gb 5 (ah S.b).toArray
 ok:S.Ok
theorem b9.nN{w:World}{g gb:Nat}{S:Img}(h:b9 w g gb S)(i:Nat)(hi:i<=6):w.cell? ⟨g,5+i,none⟩=some ((S.beg i:Int):Vl):=by
 rw[h.blk.cell]
 have:i=0∨i=1∨i=2∨i=3∨i=4∨i=5∨i=6:=by omega
 rcases this with rfl|rfl|rfl|rfl|rfl|rfl|rfl<;>rfl
theorem b9.nx{w:World}{g gb:Nat}{S:Img}(h:b9 w g gb S):w.cell? (g,12)=some (.slice gb (S.beg 6) (S.beg 6)):=by rw[h.blk.cell];rfl
theorem b9.nK{w:World}{g gb:Nat}{S:Img}(h:b9 w g gb S):w.cell? (g,13)=some (.bool S.op):=by rw[h.blk.cell];rfl
theorem b9.iw{w:World}{g gb:Nat}{S:Img}(h:b9 w g gb S):w.cell? (g,14)=some (.bool S.cl):=by rw[h.blk.cell];rfl
theorem Db{w:World}{g gb:Nat}{S:Img}(h:b9 w g gb S)(m:Int)(r:Nat)(hr:r<=5):Calls prog 121 #[g,m,(r:Int)] w (ax (S.may m r) w):=by
 have RH:=h.nK
 have RX:=h.iw
 clear h
 have hr:r=0∨r=1∨r=2∨r=3∨r=4∨r=5:=by omega
 have hm:m=0∨m=1∨m=2∨((m==0)=false∧(m==1)=false∧(m==2)=false):=by
  simp only[beq_eq_false_iff_ne]
  omega
 rcases hr with rfl|rfl|rfl|rfl|rfl|rfl
 all_goals
  rcases hm with rfl|rfl|rfl| ⟨hm0,hm1,hm2⟩
  all_goals
   go_enter func121,ntmps121
   go_wp2
   all_goals go_ret
   all_goals refine⟨congrArg (λn=>Ending.returned (.int .i64 n)) ?_,rfl⟩
   all_goals first
    | rfl
    | (simp[Img.may, *];done)
    | (simp only[beq_eq_false_iff_ne]at *;unfold Img.may;rw[if_pos oM];done)
theorem nn{w:World}{g gb:Nat}{S:Img}(h:b9 w g gb S)(a:Int):Calls prog 122 #[g,a] w (ax (S.region a:Int) w):=by
 by_cases ha:a<0
 ·rw[S.jQk (.inl ha)]
  clear h
  go_enter func122,ntmps122
  go_wp2
  all_goals go_ret
  all_goals exact⟨rfl,rfl⟩
 ·have WJ:0<=a:=by omega
  have hb:=hid h.nN
  clear h ha
  go_enter func122,ntmps122
  go_wp2
  go_loop [5] (λi=> ∃j:Nat,1<=j∧j<=6∧i = .int .i64 j∧(S.beg j:Int)<=a) (λi=>7- (RowKit.intOf i).toNat)
  case atStart=>exact⟨1,by omega,by omega,rfl,by simp[Img.beg];omega⟩
  case round=>
   obtain⟨j,hj1,hj6,rfl,Sg⟩:=hrel
   by_cases Rd:j<6
   ·have th:=hb.out (j+1) oM
    by_cases ZA:a< (S.beg (j+1):Int)
    ·have hr:=hid (S.dn WJ hj1 oM Sg ZA)
     go_wp2
     go_ret
     exact⟨by rw[hr.out];rfl,rfl⟩
    ·go_wp2
     go_round
     case rel=>exact⟨j+1,by omega,by omega,by go_num,by omega⟩
     case measure=>simp[RowKit.intOf];omega
   ·obtain rfl:j=6:=by omega
    have hr:=hid (S.jQk (.inr Sg))
    go_wp2
    go_ret
    exact⟨by rw[hr.out];rfl,rfl⟩
theorem j5{w:World}{g gb:Nat}{S:Img}(h:b9 w g gb S)(r:Nat)(h1:1<=r)(h5:r<=5):Calls prog 55 #[g,(r:Int)] w
 λe w'=>e = .returned (.tuple #[(S.beg r:Int),(S.beg (r+1):Int)])∧∃n,w'=w.drewN n:=by
 have ha:=h.nN r oM
 have hb:=h.nN (r+1) oM
 clear h
 generalize S.beg r=x at *
 generalize S.beg (r+1)=y at *
 have hr:r=1∨r=2∨r=3∨r=4∨r=5:=by omega
 clear h1 h5
 rcases hr with rfl|rfl|rfl|rfl|rfl
 all_goals
  go_enter func55,ntmps55
  go_wp2
  go_quiet (fail)
  go_wp2
  go_ret2
  exact⟨rfl,nq,rfl⟩
theorem BG(p:Value)(r:Int)(hr:r<1∨5<r)(w:World):Calls prog 55 #[p,r] w (ax (.tuple #[(0:Int),(0:Int)]) w):=by
 go_enter func55,ntmps55
 go_wp2
 all_goals go_ret2
 all_goals exact⟨rfl,rfl⟩
def Gs(S:Img)(gb:Nat)(m a:Int)(n:Nat)(wr:Bool):Value:=
 if n=0 then .tuple #[.slice none 0 0,.bool true]else if S.aO m a n wr=true then .tuple #[.slice (some ⟨gb,a.toNat,none⟩) n n,.bool true]else .tuple #[.slice none 0 0,.bool false]
def eK(wr:Bool):Int:=if wr then 2 else 1
theorem vj(S:Img)(m:Int)(r:Nat):S.may m r=0∨S.may m r=1∨S.may m r=3:=by
 unfold Img.may
 repeat' split
 all_goals simp
theorem Eh(S:Img)(m:Int)(r:Nat)(wr:Bool): (bits .and .i64 (S.may m r) (eK wr) ==0)= !S.lets m r wr:=by
 unfold Img.lets eK
 rcases vj S m r with h|h|h<;>rw[h]<;>cases wr<;>decide
theorem zJ{w:World}{g gb:Nat}{S:Img}(h:b9 w g gb S)(m a:Int)(n:Nat)(hn:n<=9223372036854775807)(wr:Bool):
 Calls prog 87 #[g,m,a,(n:Int),(eK wr)] w (ax (Gs S gb m a n wr) w):=by
 unfold Gs
 by_cases h0:n=0
 ·subst h0
  rw[if_pos rfl]
  clear hn h
  go_enter func87,ntmps87
  go_wp2
  go_ret2
  exact⟨rfl,rfl⟩
 rw[if_neg h0]
 have Rl:=hid (nn h a)
 have SN: ((n:Int) ==0)=false:=by rw[beq_eq_false_iff_ne];omega
 by_cases hr:S.region a=0
 ·have hk:S.aO m a n wr=false:=by unfold Img.aO;simp[h0,hr]
  rw[hk]
  rw[hr]at Rl
  clear h hr hk
  go_enter func87,ntmps87
  go_wp2_with fail
  refine Rl.out.mono ?_
  rintro e w1 ⟨rfl,rfl⟩
  go_wp2
  go_ret2
  exact⟨rfl,rfl⟩
 obtain⟨WJ,Sg,ZA,h6,Ue,hr5⟩:=S.lT hr
 have th:=h.nN (S.region a+1) oM
 have hall:=h.nx
 have Rx:=hid (Db h m (S.region a) hr5)
 have Zs:=h.ok.small
 have Y6:=Eh S m (S.region a) wr
 have hkk:S.aO m a n wr= (decide ((n:Int)<=S.beg (S.region a+1) -a) &&S.lets m (S.region a) wr):=by
  unfold Img.aO
  rw[show(n==0)=false by simpa using h0,show(S.region a != 0)=true by simpa using hr,Bool.false_or,Bool.true_and]
 rw[hkk]
 clear h hkk
 generalize S.region a=r at *
 generalize S.beg (r+1)=z at *
 generalize S.beg 6=N at *
 generalize S.may m r=x at *
 generalize eK wr=y at *
 have hr0: ((r:Int) ==0)=false:=by rw[beq_eq_false_iff_ne];omega
 replace⟨Y6,Ue⟩:=iB Y6 Ue
 by_cases hle: (n:Int)<=z-a
 ·cases hl:S.lets m r wr
  ·replace Y6: (bits .and .i64 x y==0)=true:=by rw[Y6.out,hl];rfl
   have hja:decide ((z:Int) -a< (n:Int))=false:=by rw[decide_eq_false_iff_not];omega
   simp only[Bool.and_false,Bool.false_eq_true,if_false]
   clear hl hle
   go_enter func87,ntmps87
   go_wp2_with fail
   refine Rl.out.mono ?_
   rintro e w1 ⟨rfl,rfl⟩
   go_wp2_with fail
   refine Rx.out.mono ?_
   rintro e w1 ⟨rfl,rfl⟩
   go_wp2
   go_ret2
   exact⟨rfl,rfl⟩
  ·replace Y6: (bits .and .i64 x y==0)=false:=by rw[Y6.out,hl];rfl
   obtain⟨k,rfl⟩:=Int.eq_ofNat_of_zero_le WJ
   have hja:decide ((z:Int) - (k:Int) < (n:Int))=false:=by rw[decide_eq_false_iff_not];omega
   have hkn:k+n-k=n:=by omega
   simp only[Bool.and_true,decide_eq_true hle,if_true]
   clear hl
   go_enter func87,ntmps87
   go_wp2_with fail
   refine Rl.out.mono ?_
   rintro e w1 ⟨rfl,rfl⟩
   go_wp2_with fail
   refine Rx.out.mono ?_
   rintro e w1 ⟨rfl,rfl⟩
   go_wp2
   go_ret2
   refine⟨congrArg Ending.returned ?_,rfl⟩
   show Value.tuple #[Value.slice (some ⟨gb,k,none⟩) (k+n-k) (k+n-k),.bool true]=_
   rw[hkn]
   rfl
 ·have hkf: (decide ((n:Int)<=z-a))=false:=by simpa using hle
  simp only[hkf,Bool.false_and,Bool.false_eq_true,if_false]
  clear hkf
  go_enter func87,ntmps87
  go_wp2_with fail
  refine Rl.out.mono ?_
  rintro e w1 ⟨rfl,rfl⟩
  go_wp2
  go_ret2
  exact⟨rfl,rfl⟩
theorem Nv(x c p e:Nat)(hp:2 ^ e=p)(hx:x<p)(hjK:p<=72057594037927936)(hc:c<256):bits .or .i64 (wrap64 (x:Int)) (wrap64 ((p*c:Nat):Int))=wrap64 ((x+p*c:Nat):Int):=by
 have RZ:p*c<=72057594037927936*255:=Nat.mul_le_mul hjK oM
 have n1: (BitVec.ofInt 64 (wrap64 (x:Int))).toNat=x:=by
  rw[BitVec.toNat_ofInt];unfold wrap64;omega
 have n2: (BitVec.ofInt 64 (wrap64 ((p*c:Nat):Int))).toNat=p*c:=by
  rw[BitVec.toNat_ofInt];unfold wrap64
  generalize p*c=y at *
  omega
 have hor: (BitVec.ofInt 64 (wrap64 (x:Int)) ||| BitVec.ofInt 64 (wrap64 ((p*c:Nat):Int))).toNat=x+p*c:=by
  rw[BitVec.toNat_or,n1,n2,Nat.or_comm,<-hp,<-Nat.two_pow_add_eq_or_of_lt (by rw[hp];exact hx),Nat.add_comm]
 show IntKind.i64.wrap ((BitVec.ofInt 64 (wrap64 (x:Int)) ||| BitVec.ofInt 64 (wrap64 ((p*c:Nat):Int))).toNat:Nat)=_
 rw[hor,IntKind.wrap_i64]
 unfold wrap64
 omega
theorem C4(x c j:Nat)(hj:j<8)(hx:x<256 ^ j)(hc:c<256):bits .or .i64 (wrap64 (x:Int)) (wrap64 (wrap64 (c:Int)*2 ^ (8*j)))=wrap64 ((x+256 ^ j*c:Nat):Int):=by
 have hw:wrap64 (c:Int)=c:=by unfold wrap64;omega
 have hgp: (256:Nat) ^ j=2 ^ (8*j):=by rw[Nat.pow_mul]
 have hci: ((c:Int)*2 ^ (8*j))= ((256 ^ j*c:Nat):Int):=by rw[hgp,Int.natCast_mul,Int.natCast_pow,Int.mul_comm];rfl
 have h56:256 ^ j<=72057594037927936:=by
  have h7: (256:Nat) ^ j<=256 ^ 7:=Nat.pow_le_pow_right (by decide) oM
  have h8: (256:Nat) ^ 7=72057594037927936:=by decide
  omega
 rw[hw,hci]
 exact Nv x c (256 ^ j) (8*j) hgp.symm hx h56 hc
theorem Jr(l:List UInt8)(j:Nat)(hj:j<l.length):leN (l.take (j+1))=leN (l.take j) +256 ^ j* (l.getD j 0).toNat:=by
 have:l.take (j+1)=l.take j ++ [l.getD j 0]:=by
  rw[List.take_succ_eq_append_getElem hj,List.getD_eq_getElem?_getD,List.getElem?_eq_getElem hj]
  rfl
 rw[this,mK,List.length_take,Nat.min_eq_left oM]
 simp[leN]
def partOf(l:List UInt8)(j:Nat):Int:=wrap64 (leN (l.take j):Nat)
set_option maxRecDepth 100000 in
theorem KC(l:List UInt8)(hl:l.length=8)(w:World):Calls prog 114 #[.agg (ah l).toArray] w λe w'=>e = .returned (ofB l)∧Below w.heap.size w w':=by
 have th: ∀j,j<8->(w.alloc (.cells (ah l).toArray 193)).cell? (w.heap.size,j)=some (.int .u8 ((l.getD j 0).toNat:Int)):=by
  intro j hj
  rw[(Blk.new w _ _).cell]
  have:j<l.length:=by omega
  simp[ah,List.getD,this]
 replace th:=hid th
 go_enter func114,ntmps114
 go_wp2
 go_loop [3,5] (λa i=> ∃j:Nat,j<=8∧i = .int .i64 j∧a = .int .i64 (partOf l j)) (λ_ i=>8- (RowKit.intOf i).toNat)
 case atStart=>exact⟨0,by omega,rfl,by unfold partOf;simp[leN,wrap64]⟩
 case round=>
  obtain⟨j,hj8,rfl,rfl⟩:=hrel
  by_cases Rd:j<8
  ·have hiF:=th.out j Rd
   have Sy:=Jr l j oM
   have Wv:=Gy (l.take j)
   rw[List.length_take,Nat.min_eq_left oM]at Wv
   obtain⟨c,hc⟩: ∃c,l.getD j 0=c:=⟨_,rfl⟩
   rw[hc]at hiF Sy
   have Rj:=C4 (leN (l.take j)) c.toNat j Rd Wv c.toNat_lt
   rw[<-Sy]at Rj
   replace Rj:bits .or .i64 (partOf l j) (wrap64 (wrap64 (c.toNat:Int)*2 ^ (8*j)))=partOf l (j+1):=Rj
   clear Sy Wv hc
   go_wp2
   go_round
   case rel=>exact⟨j+1,by omega,by go_num,rfl⟩
   case measure=>simp[RowKit.intOf];omega
  ·obtain rfl:j=8:=by omega
   go_wp2
   go_ret
   refine⟨?_,(Below.refl _ _).alloc (Nat.le_refl _) _⟩
   have:partOf l 8=ofB l:=by unfold partOf ofB;rw[List.take_of_length_le oM]
   show Ending.returned (Value.int .i64 (partOf l 8))=_
   rw[this]
def filled(v:Int)(j:Nat):Array Value:=(ah (((List.range j).map (lF v))++List.replicate (8-j) 0)).toArray
theorem ri(v:Int)(i:Nat): ((lF v i).toNat:Int)=v/2 ^ (8*i) % 256:=by
 unfold lF
 have: (256:Int) ^ i=2 ^ (8*i):=by rw[show(256:Int)=2 ^ 8 by decide,<-Int.pow_mul]
 rw[this]
 generalize v/2 ^ (8*i)=x
 rw[UInt8.toNat_ofNat']
 omega
theorem tI(v:Int)(j:Nat)(hj:j<8): (filled v j)[j]? = some (.int .u8 0):=by
 have:j=0∨j=1∨j=2∨j=3∨j=4∨j=5∨j=6∨j=7:=by omega
 rcases this with rfl|rfl|rfl|rfl|rfl|rfl|rfl|rfl<;>rfl
theorem sJ(v:Int)(j:Nat)(hj:j<8): (filled v j).setIfInBounds j (.int .u8 (v/2 ^ (8*j) % 256))=filled v (j+1):=by
 rw[<-ri]
 have:j=0∨j=1∨j=2∨j=3∨j=4∨j=5∨j=6∨j=7:=by omega
 rcases this with rfl|rfl|rfl|rfl|rfl|rfl|rfl|rfl<;>rfl
def H9(w:World)(g:Nat)(x:Nat->Value):Prop:=
 (w.cell? (g,0)=some (x 0)∧w.cell? (g,1)=some (x 1)∧w.cell? (g,2)=some (x 2)∧w.cell? (g,3)=some (x 3)∧w.cell? (g,4)=some (x 4)∧w.cell? (g,5)=some (x 5)∧w.cell? (g,6)=some (x 6)∧w.cell? (g,7)=some (x 7))
theorem nP{w:World}{g:Nat}{t:TypeId}{l:List UInt8}(h:Blk w g t (ah l).toArray)(hl:l.length=8):H9 w g (λi=> .int .u8 ((l.getD i 0).toNat:Int)):=by
 have key: ∀i,i<8->w.cell? ⟨g,i,none⟩=some (.int .u8 ((l.getD i 0).toNat:Int)):=by
  intro i hi
  rw[h.cell]
  have:i<l.length:=by omega
  simp[ah,List.getD,this]
 exact⟨key 0 oM,key 1 oM,key 2 oM,key 3 oM,key 4 oM,key 5 oM,key 6 oM,key 7 oM⟩
def tn(v:Int)(i:Nat):Int:=(((toB v).getD i 0).toNat:Int)
theorem oq(v:Int): (#[.int .u8 (tn v 0),.int .u8 (tn v 1),.int .u8 (tn v 2),.int .u8 (tn v 3),.int .u8 (tn v 4),.int .u8 (tn v 5),.int .u8 (tn v 6),.int .u8 (tn v 7)]:Array Value)= (ah (toB v)).toArray:=rfl
set_option maxRecDepth 100000 in
theorem As(v:Int)(hv : -9223372036854775808<=v∧v<=9223372036854775807)(w:World):Calls prog 88 #[v] w λe w'=>e = .returned (.agg (ah (toB v)).toArray)∧Below w.heap.size w w':=by
 go_enter func88,ntmps88
 go_wp2
 go_loopw [5] (λi wr=> ∃j:Nat,j<=8∧i = .int .i64 j∧Blk wr (w.heap.size+1) 193 (filled v j)∧Blk wr w.heap.size 193 (filled v 0)∧Below w.heap.size w wr) (λi _=>8- (RowKit.intOf i).toNat)
 case atStart=>
  exact⟨0,by omega,rfl,Blk.oS (by simp),(Blk.new _ _ _).alloc _,((Below.refl _ _).alloc (Nat.le_refl _) _).alloc (by simp) _⟩
 case round=>
  obtain⟨j,hj8,rfl,hb,RV,Q9⟩:=hrel
  by_cases Rd:j<8
  ·have hc:wr.cell? ⟨w.heap.size+1,j,none⟩=some (.int .u8 0):=by rw[hb.cell,tI v j Rd]
   have hf:=hb.frozen j
   have Rh:=hb.bE j (.int .u8 (v/2 ^ (8*j) % 256))
   rw[sJ v j Rd]at Rh
   have Rm:=RV.far (p:=⟨w.heap.size+1,j,none⟩) (by simp) (.int .u8 (v/2 ^ (8*j) % 256))
   replace⟨Rh,Rm,Q9⟩:=iC Rh Rm Q9
   clear hb RV
   go_wp2
   go_roundw
   case rel=>exact⟨j+1,by omega,by go_num,Rh.out,Rm.out,Q9.out.setCell (by simp) _⟩
   case measure=>simp[RowKit.intOf];omega
  ·obtain rfl:j=8:=by omega
   have RJ:Blk wr (w.heap.size+1) 193 (ah (toB v)).toArray:=hb
   have e8:H9 wr (w.heap.size+1) (λi=> .int .u8 (tn v i)):=nP RJ (aI v)
   obtain⟨c0,c1,c2,c3,c4,c5,c6,c7⟩:=e8
   obtain⟨d0,d1,d2,d3,d4,d5,d6,d7⟩:=nP (l:=List.replicate 8 0) RV (by simp)
   have f0:=RV.frozen 0
   have f1:=RV.frozen 1
   have f2:=RV.frozen 2
   have f3:=RV.frozen 3
   have f4:=RV.frozen 4
   have f5:=RV.frozen 5
   have f6:=RV.frozen 6
   have f7:=RV.frozen 7
   clear hb RV RJ
   replace Q9:=hid Q9
   go_wp2
   refine bodyPost_ret (v:= .agg #[.int .u8 (tn v 0),.int .u8 (tn v 1),.int .u8 (tn v 2),.int .u8 (tn v 3),.int .u8 (tn v 4),.int .u8 (tn v 5),.int .u8 (tn v 6),.int .u8 (tn v 7)]) (by simp[results,results88,go_sem,d0,d1,d2,d3,d4,d5,d6,d7]) rfl ⟨by rw[oq],?_⟩
   exact(((((((Q9.out.setCell (Nat.le_refl _) _).setCell (Nat.le_refl _) _).setCell (Nat.le_refl _) _).setCell (Nat.le_refl _) _).setCell (Nat.le_refl _) _).setCell (Nat.le_refl _) _).setCell (Nat.le_refl _) _).setCell (Nat.le_refl _) _
theorem QW{w:World}(a:Addr): (Instr.arrayAt 193 (.slice (some a) 8 8)).run prog w = .ok (.pointer (some a)) w:=by
 simp[Instr.arrayAt,go_sem,run_underlying underlying193]
theorem MF(l:List UInt8)(hl:l.length=8): (ah l).toArray=#[.int .u8 ((l.getD 0 0).toNat:Int),.int .u8 ((l.getD 1 0).toNat:Int),.int .u8 ((l.getD 2 0).toNat:Int),.int .u8 ((l.getD 3 0).toNat:Int),.int .u8 ((l.getD 4 0).toNat:Int),.int .u8 ((l.getD 5 0).toNat:Int),.int .u8 ((l.getD 6 0).toNat:Int),.int .u8 ((l.getD 7 0).toNat:Int)]:=by
 match l,hl with
 | [a,b,c,d,e,f,g,h],_=>rfl
theorem jM(n:Int):bits .and .i64 n 7=n % 8:=by
 have h7: (BitVec.ofInt 64 7).toNat=2 ^ 3-1:=by decide
 have key: (BitVec.ofInt 64 n &&& BitVec.ofInt 64 7).toNat= (n % ((2 ^ 64:Nat):Int)).toNat % 2 ^ 3:=by
  rw[BitVec.toNat_and,BitVec.toNat_ofInt,h7,Nat.and_two_pow_sub_one_eq_mod]
 show IntKind.i64.wrap ((BitVec.ofInt 64 n &&& BitVec.ofInt 64 7).toNat:Nat)=n % 8
 rw[key,IntKind.wrap_i64]
 omega
theorem b9.byte{w:World}{g gb:Nat}{S:Img}(h:b9 w g gb S)(i:Nat)(hi:i<S.beg 6):w.cell? (gb,i)=some (.int .u8 ((S.b.getD i 0).toNat:Int)):=by
 rw[h.row.cell]
 have:i<S.b.length:=by rw[h.ok.len];exact hi
 simp[ah,List.getD,this]
theorem mR(S:Img)(k n i:Nat)(hi:i<n): (S.bytes (k:Int) n).getD i 0=S.b.getD (k+i) 0:=by
 unfold Img.bytes
 simp[List.getD,hi]
theorem pj(S:Img)(hS:S.Ok)(k n:Nat)(h:k+n<=S.beg 6): (S.bytes (k:Int) n).length=n:=by
 unfold Img.bytes
 simp[hS.len]
 omega
theorem AE(p:Value)(m a:Int)(w:World)(RY:a % 8≠0):Calls prog 73 #[p,m,a] w (ax (.tuple #[(0:Int),(6:Int)]) w):=by
 have Ss: (bits .and .i64 a 7==0)=false:=by rw[beq_eq_false_iff_ne,jM];exact RY
 clear RY
 go_enter func73,ntmps73
 go_wp2
 go_ret2
 exact⟨rfl,rfl⟩
theorem EX(p:Value)(m a:Int)(w:World)(RY:a % 8=0)(An:Calls prog 87 #[p,m,a,(8:Int),(1:Int)] w (ax (.tuple #[.slice none 0 0,.bool false]) w)):
 Calls prog 73 #[p,m,a] w (ax (.tuple #[(0:Int),(5:Int)]) w):=by
 have Ss:bits .and .i64 a 7=0:=by rw[jM];exact RY
 replace An:=hid An
 clear RY
 go_enter func73,ntmps73
 go_wp2_with fail
 refine An.out.mono ?_
 rintro e w1 ⟨rfl,rfl⟩
 go_wp2
 go_ret2
 exact⟨rfl,rfl⟩
set_option maxRecDepth 100000 in
theorem AN(p:Value)(m:Int)(gb k:Nat)(l:List UInt8)(hl:l.length=8)(w:World)(RY: (k:Int) % 8=0)(An:Calls prog 87 #[p,m,(k:Int),(8:Int),(1:Int)] w (ax (.tuple #[.slice (some ⟨gb,k,none⟩) 8 8,.bool true]) w))
 (hb: ∀i,i<8->w.cell? ⟨gb,k+i,none⟩=some (.int .u8 ((l.getD i 0).toNat:Int))):
 Calls prog 73 #[p,m,(k:Int)] w λe w'=>e = .returned (.tuple #[(ofB l),(0:Int)])∧Below w.heap.size w w':=by
 have Ss:bits .and .i64 (k:Int) 7=0:=by rw[jM];exact RY
 have hof:=KC l hl w
 rw[MF _ hl]at hof
 generalize ofB l=z at *
 have c0:w.cell? (gb,k)=some (.int .u8 ((l.getD 0 0).toNat:Int)):=hb 0 oM
 have c1:=hb 1 oM
 have c2:=hb 2 oM
 have c3:=hb 3 oM
 have c4:=hb 4 oM
 have c5:=hb 5 oM
 have c6:=hb 6 oM
 have c7:=hb 7 oM
 clear hb
 generalize ((l.getD 0 0).toNat:Int)=x0 at *
 generalize ((l.getD 1 0).toNat:Int)=x1 at *
 generalize ((l.getD 2 0).toNat:Int)=x2 at *
 generalize ((l.getD 3 0).toNat:Int)=x3 at *
 generalize ((l.getD 4 0).toNat:Int)=x4 at *
 generalize ((l.getD 5 0).toNat:Int)=x5 at *
 generalize ((l.getD 6 0).toNat:Int)=x6 at *
 generalize ((l.getD 7 0).toNat:Int)=x7 at *
 have haO:= @QW w ⟨gb,k,none⟩
 replace⟨An,hof⟩:=iB An hof
 clear RY hl
 go_enter func73,ntmps73
 go_wp2_with fail
 refine An.out.mono ?_
 rintro e w1 ⟨rfl,rfl⟩
 go_wp2_with fail
 refine mo hof.out λw2 hb=>?_
 replace hb:=hid hb
 go_wp2
 go_ret2
 exact⟨rfl,hb.out⟩
theorem fD{w:World}{g gb:Nat}{S:Img}(h:b9 w g gb S)(m a:Int)(n:Nat)(hn:n≠0)(Zx:n<=9223372036854775807)(wr:Bool):
 (S.aO m a n wr=false∧Calls prog 87 #[g,m,a,(n:Int),(eK wr)] w (ax (.tuple #[.slice none 0 0,.bool false]) w))∨
 (S.aO m a n wr=true∧∃k:Nat,a=k∧k+n<=S.beg 6∧Calls prog 87 #[g,m,(k:Int),(n:Int),(eK wr)] w (ax (.tuple #[.slice (some ⟨gb,k,none⟩) n n,.bool true]) w)):=by
 have An:=zJ h m a n Zx wr
 unfold Gs at An
 rw[if_neg hn]at An
 cases hk:S.aO m a n wr
 ·rw[hk]at An
  exact .inl ⟨rfl,by simpa using An⟩
 ·obtain⟨h0,h1⟩:=S.lz hk hn
  obtain⟨k,rfl⟩:=Int.eq_ofNat_of_zero_le h0
  rw[hk,if_pos rfl]at An
  exact .inr ⟨rfl,k,rfl,by omega,An⟩
theorem jT{w:World}{g gb:Nat}{S:Img}(h:b9 w g gb S)(m a:Int):
 Calls prog 73 #[g,m,a] w λe w'=>e = .returned (.tuple #[(S.aP m a),(S.ay m a false)])∧Below w.heap.size w w':=by
 by_cases RY:a % 8=0
 ·have h80: (8:Nat)≠0:=by omega
  have h8: (8:Nat)<=9223372036854775807:=by omega
  rcases fD h m a 8 h80 h8 false with⟨hk,An⟩ | ⟨hk,k,rfl,hle,An⟩
  ·have hF:S.ay m a false=5:=by unfold Img.ay;simp[RY,hk]
   have hV:S.aP m a=0:=by unfold Img.aP;simp[hF]
   rw[hF,hV]
   exact(EX _ m a w RY An).mono λe w' h=>⟨h.1,by rw[h.2];exact Below.refl _ _⟩
  ·have hF:S.ay m k false=0:=by unfold Img.ay;simp[RY,hk]
   have hV:S.aP m k=ofB (S.bytes k 8):=by unfold Img.aP;simp[hF]
   rw[hF,hV]
   exact AN _ m gb k (S.bytes k 8) (pj S h.ok k 8 hle) w RY An (λi hi=>by rw[mR S k 8 i hi];exact h.byte (k+i) oM)
 ·have hF:S.ay m a false=6:=by unfold Img.ay;simp[RY]
  have hV:S.aP m a=0:=by unfold Img.aP;simp[hF]
  rw[hF,hV]
  exact(AE _ m a w RY).mono λe w' h=>⟨h.1,by rw[h.2];exact Below.refl _ _⟩
theorem EQ(p:Value)(m a v:Int)(w:World)(RY:a % 8≠0):Calls prog 62 #[p,m,a,v] w (ax (.int .i64 6) w):=by
 have Ss: (bits .and .i64 a 7==0)=false:=by rw[beq_eq_false_iff_ne,jM];exact RY
 clear RY
 go_enter func62,ntmps62
 go_wp2
 go_ret
 exact⟨rfl,rfl⟩
theorem Gk(p:Value)(m a v:Int)(w:World)(RY:a % 8=0)(An:Calls prog 87 #[p,m,a,(8:Int),(2:Int)] w (ax (.tuple #[.slice none 0 0,.bool false]) w)):
 Calls prog 62 #[p,m,a,v] w (ax (.int .i64 5) w):=by
 have Ss:bits .and .i64 a 7=0:=by rw[jM];exact RY
 replace An:=hid An
 clear RY
 go_enter func62,ntmps62
 go_wp2_with fail
 refine An.out.mono ?_
 rintro e w1 ⟨rfl,rfl⟩
 go_wp2
 go_ret
 exact⟨rfl,rfl⟩
theorem Kept.setRow{S:Nat->Prop}{w w':World}(h:Kept S w w'){g:Nat}(hg:S g∨w.heap.size<=g)(cs:Array Value):Kept S w (w'.setRow g cs):=
 ⟨h.os,h.tape,h.output,by simpa [World.setRow]using h.size,λk hk hs=>by
  rw[setRow_other w' g k cs (by rintro rfl;rcases hg with hg|hg;exact hs hg;omega)]
  exact h.block k hk hs⟩
theorem Kept.gZ{w w':World}(h:Below w.heap.size w w'):Kept Nob w w':=⟨h.os,h.tape,h.output,h.size,λk hk _=>h.block k hk⟩
theorem pw(b l:List UInt8)(k:Nat): ((ah b).take k++ (ah l++ (ah b).drop (k+l.length)))=ah (cK b k l):=by
 simp[ah,cK]
theorem JA(w2:World)(gb k:Nat)(b:List UInt8)(hle:k+8<=b.length)(v:Int)(hb:Blk w2 gb 5 (ah b).toArray)(hsz: (prog.info? 5).map (·.size)=some 1):
 (Builtin.copy_ #[93,93] 3 #[.slice (some ⟨gb,k,none⟩) 8 8,.slice w2.heap.size 8 8]).run prog (w2.alloc (.cells #[.int .u8 (tn v 0),.int .u8 (tn v 1),.int .u8 (tn v 2),.int .u8 (tn v 3),.int .u8 (tn v 4),.int .u8 (tn v 5),.int .u8 (tn v 6),.int .u8 (tn v 7)] 193))=
  .ok (.int .i64 8) ((w2.alloc (.cells #[.int .u8 (tn v 0),.int .u8 (tn v 1),.int .u8 (tn v 2),.int .u8 (tn v 3),.int .u8 (tn v 4),.int .u8 (tn v 5),.int .u8 (tn v 6),.int .u8 (tn v 7)] 193)).setRow gb (ah (cK b k (toB v))).toArray):=by
 rw[oq]
 have hl: (ah (toB v)).length=8:=by simp[ah,aI]
 have Sd:=run_copy_row (P:=prog) (w2.alloc (.cells (ah (toB v)).toArray 193)) 93 93 3 5 gb k 8 8 ⟨w2.heap.size,0,none⟩ 8 8 (ah b).toArray 5 (ah (toB v))
  underlying93 hsz (hb.alloc _) (by rw[hl];rfl) (λj x hj=>by
   have h1:=(Blk.new w2 193 (ah (toB v)).toArray).cell j
   have h2: ((⟨w2.heap.size,0,none⟩:Addr).add j)= ⟨w2.heap.size,j,none⟩:=by simp[Addr.add];exact λh=>h.symm
   rw[h2,h1]
   simpa using hj) (by rw[hl];simpa [ah]using hle) (λx hx=>by
   obtain⟨y,_,rfl⟩:=List.mem_map.1 hx
   rfl)
 rw[Sd,hl]
 have:=pw b (toB v) k
 rw[aI]at this
 rw[show(ah b).toArray.toList=ah b from rfl,List.append_assoc,this]
 rfl
theorem sV{w:World}{g:Nat}{t:TypeId}{cs:Array Value}(h:Blk w g t cs)(new:Array Value):Blk (w.setRow g new) g t new:=setRow_heap w g cs new t (0,0) h
set_option maxRecDepth 100000 in
theorem FP(p:Value)(m v:Int)(hv : -9223372036854775808<=v∧v<=9223372036854775807)(gb k:Nat)(b:List UInt8)(w:World)(RY: (k:Int) % 8=0)(hle:k+8<=b.length)
 (An:Calls prog 87 #[p,m,(k:Int),(8:Int),(2:Int)] w (ax (.tuple #[.slice (some ⟨gb,k,none⟩) 8 8,.bool true]) w)) (hb:Blk w gb 5 (ah b).toArray):
 Calls prog 62 #[p,m,(k:Int),v] w λe w'=>e = .returned (.int .i64 0)∧Blk w' gb 5 (ah (cK b k (toB v))).toArray∧Kept (λi=>i=gb) w w':=by
 have Ss:bits .and .i64 (k:Int) 7=0:=by rw[jM];exact RY
 have Sv:=As v hv w
 rw[<-oq]at Sv
 have hsz: (prog.info? 5).map (·.size)=some 1:=by kernel_rfl
 replace⟨Sv,An,hb,hsz⟩:=iD Sv An hb hsz
 clear RY hv
 go_enter func62,ntmps62
 go_wp2_with fail
 refine An.out.mono ?_
 rintro e w1 ⟨rfl,rfl⟩
 go_wp2_with fail
 refine mo Sv.out λw2 h2=>?_
 have Rm:=hid (hb.out.below h2 hb.out.lt)
 have SS:=hid (Kept.gZ h2)
 clear h2
 have Wn:=JA w2 gb k b hle v Rm.out hsz.out
 replace Wn:=Wn
 go_wp2
 go_ret
 refine⟨rfl,?_,?_⟩
 ·exact sV (Rm.out.alloc _) _
 ·exact Kept.setRow (S:=λi=>i=gb) ((SS.out.alloc _).mono (λ_ h=>h.elim)) (.inl rfl) _
def av(g:Nat)(S:Img):Asr where
 holds w F:= ∃gb,b9 w g gb S∧∀k,F k↔k=g∨k=gb
 lt h hk:=by
  obtain⟨gb,h,hF⟩:=h
  rcases(hF _).1 hk with rfl|rfl
  ·exact h.blk.lt
  ·exact h.row.lt
 kept h hk hT:=by
  obtain⟨gb,h,hF⟩:=h
  exact⟨gb,⟨h.blk.kept hk (hT _ ((hF _).2 (.inl rfl))),h.row.kept hk (hT _ ((hF _).2 (.inr rfl))),h.ok⟩,hF⟩
theorem b9.ne{w:World}{g gb:Nat}{S:Img}(h:b9 w g gb S):g≠gb:=h.blk.ne_ h.row (by decide)
theorem Img.Ok.put{S:Img}(h:S.Ok)(k:Nat)(l:List UInt8)(hk:k+l.length<=S.beg 6): (S.put k l).Ok:=by
 have hb: ∀i,(S.put k l).beg i=S.beg i:=λi=>by unfold Img.beg Img.put;rfl
 exact⟨by rw[hb];show(cK S.b k l).length=_;rw[lv _ _ _ (by rw[h.len];exact hk)];exact h.len,by rw[hb];exact h.small⟩
section
variable {w0 w:World}{g:Nat}{S:Img}{L:List Asr}
theorem av.rep(h:At w0 w (av g S::L)): ∃gb,b9 w g gb S:=by obtain⟨F,gb,h,_⟩:=h.first;exact⟨gb,h⟩
theorem At.CQ{w':World}(h:At w0 w L)(hb:Below w.heap.size w w'):At w0 w' L:=h.gu (Kept.gZ hb)
theorem jZ(h:At w0 w (av g S::L))(m a:Int):Calls prog 73 #[g,m,a] w (kP (.tuple #[(S.aP m a),(S.ay m a false)]) (av g S) w0 L):=by
 obtain⟨gb,hr⟩:=av.rep h
 exact(jT hr m a).mono λe w' h'=>⟨h'.1,h.CQ h'.2⟩
theorem D2(h:At w0 w (av g S::L))(m a v:Int)(hv : -9223372036854775808<=v∧v<=9223372036854775807):
 Calls prog 62 #[g,m,a,v] w (kP (.int .i64 (S.ay m a true)) (av g (S.setCell m a v)) w0 L):=by
 refine h.uG λF hF=> ?_
 obtain⟨gb,hr,Uq⟩:=hF
 by_cases RY:a % 8=0
 ·have h80: (8:Nat)≠0:=by omega
  have h8: (8:Nat)<=9223372036854775807:=by omega
  rcases fD hr m a 8 h80 h8 true with⟨hk,An⟩ | ⟨hk,k,rfl,hle,An⟩
  ·have hC:S.ay m a true=5:=by unfold Img.ay;simp[RY,hk]
   have hS:S.setCell m a v=S:=by unfold Img.setCell;simp[hC]
   rw[hC,hS]
   refine(Gk _ m a v w RY An).mono ?_
   rintro e w' ⟨rfl,rfl⟩
   exact⟨_,_,F,⟨rfl,rfl⟩,rfl,⟨gb,hr,Uq⟩,Kept.refl _ _,λk hk=> .inl hk⟩
  ·have hC:S.ay m k true=0:=by unfold Img.ay;simp[RY,hk]
   have hS:S.setCell m k v=S.put k (toB v):=by unfold Img.setCell;simp[hC]
   rw[hC,hS]
   refine(FP _ m v hv gb k S.b w RY (by rw[hr.ok.len];exact hle) An hr.row).mono ?_
   rintro e w' ⟨rfl,RJ,ZP⟩
   refine⟨_,_,F,⟨rfl,rfl⟩,rfl,⟨gb,⟨?_,RJ,hr.ok.put k _ (by rw[aI];exact hle)⟩,Uq⟩,ZP.mono (λi hi=>(Uq i).2 (.inr hi)),λk hk=> .inl hk⟩
   exact hr.blk.kept ZP hr.ne
 ·have hC:S.ay m a true=6:=by unfold Img.ay;simp[RY]
  have hS:S.setCell m a v=S:=by unfold Img.setCell;simp[hC]
  rw[hC,hS]
  refine(EQ _ m a v w RY).mono ?_
  rintro e w' ⟨rfl,rfl⟩
  exact⟨_,_,F,⟨rfl,rfl⟩,rfl,⟨gb,hr,Uq⟩,Kept.refl _ _,λk hk=> .inl hk⟩
end
theorem Jo{w:World}{g gb:Nat}{S:Img}(h:b9 w g gb S)(k n cap:Nat)(hle:k+n<=S.beg 6): (convert 93 9 (.slice (some ⟨gb,k,none⟩) n cap)).run prog w = .ok (.string ⟨(S.bytes k n).toArray⟩) w:=by
 have hl:=pj S h.ok k n hle
 have:=run_convert_bytes_back (P:=prog) w 93 9 5 ⟨gb,k,none⟩ cap (S.bytes k n) underlying93 underlying5 underlying9 (λj hj=>by
  have h2: ((⟨gb,k,none⟩:Addr).add j)= ⟨gb,k+j,none⟩:=by simp[Addr.add]
  rw[h2,h.byte (k+j) oM]
  have h3:=mR S k n j oM
  rw[<-h3,List.getD_eq_getElem?_getD,List.getElem?_eq_getElem hj]
  rfl)
 rw[hl]at this
 exact this
theorem GC(w:World): (convert 93 9 (.slice none 0 0)).run prog w = .ok (.string ⟨#[]⟩) w:=
 run_convert_bytes_nil w 93 5 underlying93 underlying5 0 0 9 underlying9
set_option maxRecDepth 100000 in
theorem kX(p:Value)(m a:Int)(n:Nat)(hn:n<=9223372036854775807)(w:World)(sl:Value)(ok:Bool)(s:ByteArray)(f:Int)
 (An:Calls prog 87 #[p,m,a,(n:Int),(1:Int)] w (ax (.tuple #[sl,.bool ok]) w))
 (hc:ok=true->(convert 93 9 sl).run prog w = .ok (.string s) w∧f=0) (Um:ok=false->s= ⟨#[]⟩ ∧f=5):
 Calls prog 93 #[p,m,a,(n:Int)] w (ax (.tuple #[.string s,f]) w):=by
 replace An:=hid An
 cases ok
 ·obtain⟨rfl,rfl⟩:=Um rfl
  clear hc Um
  go_enter func93,ntmps93
  go_wp2_with fail
  refine An.out.mono ?_
  rintro e w1 ⟨rfl,rfl⟩
  go_wp2
  go_ret2
  exact⟨rfl,rfl⟩
 ·obtain⟨hc,rfl⟩:=hc rfl
  clear Um
  replace hc:=hid hc
  go_enter func93,ntmps93
  go_wp2_with fail
  refine An.out.mono ?_
  rintro e w1 ⟨rfl,rfl⟩
  have hc:=hc.out
  go_wp2
  go_ret2
  exact⟨rfl,rfl⟩
theorem Aj(p:Value)(m a n:Int)(hn:n<0)(w:World):Calls prog 93 #[p,m,a,n] w (ax (.tuple #[.string ⟨#[]⟩,(19:Int)]) w):=by
 go_enter func93,ntmps93
 go_wp2
 go_ret2
 exact⟨rfl,rfl⟩
theorem BR{w:World}{g gb:Nat}{S:Img}(h:b9 w g gb S)(m a n:Int)(hn:n<=9223372036854775807):
 Calls prog 93 #[g,m,a,n] w (ax (.tuple #[.string (S.text m a n),(S.cD m a n)]) w):=by
 by_cases h0:n<0
 ·have hF:S.cD m a n=19:=by unfold Img.cD;simp[h0]
  have hT:S.text m a n= ⟨#[]⟩:=by unfold Img.text;simp[hF]
  rw[hF,hT]
  exact Aj _ m a n h0 w
 obtain⟨k,rfl⟩:=Int.eq_ofNat_of_zero_le (Int.not_lt.1 h0)
 have hF:S.cD m a k=if S.aO m a k false=true then 0 else 5:=by unfold Img.cD;rw[if_neg h0];simp
 by_cases hk0:k=0
 ·subst hk0
  have An:=zJ h m a 0 oM false
  have hk:S.aO m a 0 false=true:=by unfold Img.aO;rfl
  rw[hk,if_pos rfl]at hF
  have hT:S.text m a ((0:Nat):Int)= ⟨#[]⟩:=by unfold Img.text;rw[if_pos hF];simp[Img.bytes]
  rw[hF,hT]
  exact kX _ m a 0 oM w _ true _ _ An (λ_=>⟨GC w,rfl⟩) (λh=>by cases h)
 ·rcases fD h m a k hk0 oM false with⟨hk,An⟩ | ⟨hk,j,rfl,hle,An⟩
  ·rw[hk,if_neg (by decide)]at hF
   have hT:S.text m a k= ⟨#[]⟩:=by unfold Img.text;simp[hF]
   rw[hF,hT]
   exact kX _ m a k oM w _ false _ _ An (λh=>by cases h) (λ_=>⟨rfl,rfl⟩)
  ·rw[hk,if_pos rfl]at hF
   have hT:S.text m j k= ⟨(S.bytes j k).toArray⟩:=by unfold Img.text;rw[if_pos hF];simp
   rw[hF,hT]
   exact kX _ m j k oM w _ true _ _ An (λ_=>⟨Jo h j k k hle,rfl⟩) (λh=>by cases h)
theorem b9.drewN{w:World}{g gb:Nat}{S:Img}(h:b9 w g gb S)(n:Nat):b9 (w.drewN n) g gb S:=⟨h.blk,h.row,h.ok⟩
def Gl(w:World)(gb x y:Nat)(e:Ending)(w':World):Prop:= ∃k cap,e = .returned (.slice (some ⟨gb,k,none⟩) (y-x) cap)∧(k=x∨y=x∧k=0)∧∃n,w'=w.drewN n
set_option maxRecDepth 100000 in
theorem NY{w:World}{g gb:Nat}{S:Img}(h:b9 w g gb S)(r:Nat)(h1:1<=r)(h5:r<=5):
 Calls prog 8 #[g,(r:Int)] w λe w'=>e = .returned (.string (S.part r))∧∃n,w'=w.drewN n:=by
 have hle:=S.bN (i:=r) (j:=r+1) h1 oM oM
 have hg7:=S.bN (i:=r+1) (j:=6) oM oM oM
 have Zs:=h.ok.small
 have Ru:=hid (j5 h r h1 h5)
 have hall:=h.nx
 have hT:S.part r= ⟨(S.bytes (S.beg r:Nat) (S.beg (r+1) -S.beg r)).toArray⟩:=by unfold Img.part Img.bytes;rw[if_pos ⟨h1,h5⟩];simp
 have hc: ∀k cap n,(k=S.beg r∨S.beg (r+1)=S.beg r∧k=0)->(convert 93 9 (.slice (some ⟨gb,k,none⟩) (S.beg (r+1) -S.beg r) cap)).run prog (w.drewN n)= .ok (.string (S.part r)) (w.drewN n):=λk cap n hk=>by
  rw[hT]
  rcases hk with rfl| ⟨he,rfl⟩
  ·exact Jo (h.drewN n) _ _ cap oM
  ·rw[he,Nat.sub_self]
   have:=Jo (h.drewN n) 0 0 cap oM
   rw[this]
   simp[Img.bytes]
 clear h hT
 generalize S.part r=s at *
 generalize S.beg r=x at *
 generalize S.beg (r+1)=y at *
 generalize S.beg 6=N at *
 have Uf:Calls prog 38 #[g,(r:Int)] w (Gl w gb x y):=by
  clear hc
  have hxy:y=x∨(x<y∧((y:Int) ==x)=false):=by
   rcases Nat.eq_or_lt_of_le hle with h|h
   ·exact .inl h.symm
   ·exact .inr ⟨h,by rw[beq_eq_false_iff_ne];omega⟩
  rcases hxy with rfl| ⟨hxy,RP⟩
  all_goals
   go_enter func38,ntmps38
   go_wp2_with fail
   refine Ru.out.mono ?_
   rintro e w1 ⟨rfl,n,rfl⟩
   go_wp2
  ·go_ret
   exact⟨0,0,by rw[Nat.sub_self];rfl,.inr ⟨rfl,rfl⟩,n,rfl⟩
  ·go_ret
   exact⟨x,y-x,rfl,.inl rfl,n,rfl⟩
 replace⟨Uf,hc⟩:=iB Uf hc
 clear Ru hall
 go_enter func8,ntmps8
 go_wp2_with fail
 refine Uf.out.mono ?_
 rintro e w1 ⟨k,cap,rfl,hk,n,rfl⟩
 have hc:=hc.out k cap n hk
 go_wp2
 go_ret
 exact⟨rfl,n,rfl⟩
section
variable {w0 w:World}{g:Nat}{S:Img}{L:List Asr}
theorem HG(h:At w0 w (av g S::L))(m a n:Int)(hn:n<=9223372036854775807):Calls prog 93 #[g,m,a,n] w (ax (.tuple #[.string (S.text m a n),(S.cD m a n)]) w):=by
 obtain⟨gb,hr⟩:=av.rep h
 exact BR hr m a n hn
theorem zn(gb:Nat)(S:Img): (iY gb S).setIfInBounds 13 (.bool true)=iY gb { S with op:=true }:=rfl
theorem xw(gb:Nat)(S:Img): (iY gb S).setIfInBounds 14 (.bool true)=iY gb { S with cl:=true }:=rfl
theorem wY{w:World}{g gb:Nat}{S:Img}(h:b9 w g gb S)(hc:S.cl=true):Calls prog 28 #[g] w (ax (.int .i64 5) w):=by
 have RX:=h.iw
 rw[hc]at RX
 clear h hc
 go_enter func28,ntmps28
 go_wp2
 go_ret
 exact⟨rfl,rfl⟩
theorem Od{w:World}{g gb:Nat}{S:Img}(h:b9 w g gb S)(hc:S.cl=false):Calls prog 28 #[g] w (ax (.int .i64 0) (w.setCell (g,13) (.bool true))):=by
 have RX:=h.iw
 have RH:=h.nK
 have hf:=h.blk.frozen 13
 rw[hc]at RX
 generalize S.op=o at RH
 clear h hc
 go_enter func28,ntmps28
 go_wp2
 go_ret
 exact⟨rfl,rfl⟩
theorem yK{w:World}{g gb:Nat}{S:Img}(h:b9 w g gb S)(hc:S.cl=true):Calls prog 32 #[g] w (ax (.int .i64 5) w):=by
 have RX:=h.iw
 rw[hc]at RX
 clear h hc
 go_enter func32,ntmps32
 go_wp2
 go_ret
 exact⟨rfl,rfl⟩
theorem OI{w:World}{g gb:Nat}{S:Img}(h:b9 w g gb S)(hc:S.cl=false):Calls prog 32 #[g] w (ax (.int .i64 0) (w.setCell (g,14) (.bool true))):=by
 have RX:=h.iw
 have hf:=h.blk.frozen 14
 rw[hc]at RX
 clear h hc
 go_enter func32,ntmps32
 go_wp2
 go_ret
 exact⟨rfl,rfl⟩
theorem Img.Ok.op{S:Img}(h:S.Ok)(o:Bool): ({ S with op:=o }:Img).Ok:=by
 have hb: ∀i,({ S with op:=o }:Img).beg i=S.beg i:=λi=>by unfold Img.beg;rfl
 exact⟨by rw[hb];exact h.len,by rw[hb];exact h.small⟩
theorem Img.Ok.cl{S:Img}(h:S.Ok)(o:Bool): ({ S with cl:=o }:Img).Ok:=by
 have hb: ∀i,({ S with cl:=o }:Img).beg i=S.beg i:=λi=>by unfold Img.beg;rfl
 exact⟨by rw[hb];exact h.len,by rw[hb];exact h.small⟩
theorem Pr(h:At w0 w (av g S::L)):Calls prog 28 #[g] w (kP (.int .i64 S.vf) (av g S.opened) w0 L):=by
 refine h.uG λF hF=> ?_
 obtain⟨gb,hr,Uq⟩:=hF
 unfold Img.vf Img.opened
 rcases Bool.eq_false_or_eq_true S.cl with hc|hc
 rotate_left
 ·rw[if_neg (by rw[hc];decide),if_neg (by rw[hc];decide)]
  refine(Od hr hc).mono ?_
  rintro e w' ⟨rfl,rfl⟩
  refine⟨_,_,F,⟨rfl,rfl⟩,rfl,⟨gb,⟨?_,hr.row.far (p:=⟨g,13,none⟩) hr.ne.symm _,hr.ok.op true⟩,Uq⟩,(Kept.refl _ _).setCell (.inl ((Uq _).2 (.inl rfl))) _,λk hk=> .inl hk⟩
  rw[<-zn]
  exact hr.blk.bE 13 _
 ·rw[if_pos hc,if_pos hc]
  refine(wY hr hc).mono ?_
  rintro e w' ⟨rfl,rfl⟩
  exact⟨_,_,F,⟨rfl,rfl⟩,rfl,⟨gb,hr,Uq⟩,Kept.refl _ _,λk hk=> .inl hk⟩
theorem Om(h:At w0 w (av g S::L)):Calls prog 32 #[g] w (kP (.int .i64 S.vf) (av g S.eR) w0 L):=by
 refine h.uG λF hF=> ?_
 obtain⟨gb,hr,Uq⟩:=hF
 unfold Img.vf Img.eR
 rcases Bool.eq_false_or_eq_true S.cl with hc|hc
 rotate_left
 ·rw[if_neg (by rw[hc];decide)]
  refine(OI hr hc).mono ?_
  rintro e w' ⟨rfl,rfl⟩
  refine⟨_,_,F,⟨rfl,rfl⟩,rfl,⟨gb,⟨?_,hr.row.far (p:=⟨g,14,none⟩) hr.ne.symm _,hr.ok.cl true⟩,Uq⟩,(Kept.refl _ _).setCell (.inl ((Uq _).2 (.inl rfl))) _,λk hk=> .inl hk⟩
  rw[<-xw]
  exact hr.blk.bE 14 _
 ·rw[if_pos hc]
  refine(yK hr hc).mono ?_
  rintro e w' ⟨rfl,rfl⟩
  have hS: ({ S with cl:=true }:Img)=S:=by cases S;simp at hc;simp[hc]
  rw[hS]
  exact⟨_,_,F,⟨rfl,rfl⟩,rfl,⟨gb,hr,Uq⟩,Kept.refl _ _,λk hk=> .inl hk⟩
