/- bytes. Conditions: as written. -/
import Derived.Test.YtilaogbkdbbdkaaGreatDoorOm
import Derived.Test.YtilaogbkdbbdkaaGreatDoorZ13
import Derived.Test.YtilaogbkdbbdkaaGreatDoorZ05
open Go.Proofs.Tryz
namespace Go.Proofs.YtilaogbkdbbdkaaGreatDoor
set_option linter.unusedVariables false
set_option maxHeartbeats 8000000
set_option maxRecDepth 100000
open Go.RowKit Go.Lib Go.Deep
namespace Vm
def mI(C:Array Value)(k:Nat)(c:Int):Prop:= ∀j,j<k->C[j]? = some (.int .u8 c)
theorem rk{C:Array Value}{k m:Nat}{c:Int}(h:mI C k c)(hk:k+m<=C.size):mI ((C.toList.take k++List.replicate m (Value.int .u8 c)++C.toList.drop (k+m)).toArray) (k+m) c:=by
 intro j hj
 rw[List.getElem?_toArray,List.append_assoc]
 by_cases h1:j<k
 ·rw[List.getElem?_append_left (by simp;omega),List.getElem?_take,if_pos h1,Array.getElem?_toList]
  exact h j h1
 ·rw[List.getElem?_append_right (by simp;omega)]
  have e:j- (C.toList.take k).length=j-k:=by simp;omega
  rw[e,List.getElem?_append_left (by simp;omega),List.getElem?_replicate,if_pos oM]
theorem Gb(c:Int)(n:Nat)(h0:0<n)(hn:n<=143360)(w:World)(bs:Nat)(Wh:bs<w.heap.size)(hc:w.cell? (bs,0)=some (.int .u8 c)):
 Calls prog 199 #[.slice (some ⟨bs,0,none⟩) 1 1,(n:Int)] w (λe w'=> ∃gs,e = .returned (.slice (some ⟨gs,0,none⟩) n n)∧(∀j,j<n->w'.cell? ⟨gs,j,none⟩=some (.int .u8 c))∧Below w.heap.size w w'):=by
 have hmul:=Tryz.bits_Mul 1 n oM oM w
 have e1:1*n/18446744073709551616=0:=by omega
 have e2:1*n % 18446744073709551616=n:=by omega
 rw[e1,e2,show((0:Nat):Int)=0 from rfl]at hmul
 obtain⟨cs,hdI,hle,hj9⟩:=Lib.run_makeNoZero (P:=prog) w #[3] 93 5 underlying93 n oM
 have Wi: (callFunc 239 #[(n:Int)]).run prog w = .ok (.value (.slice (some ⟨w.heap.size,0,none⟩) n cs.size)) (w.drew.drew.alloc (.cells cs 5)):=by
  rw[run_callFunc_extern func239 kR kR kR (e:=Extern.BytealgMakeNoZero.makeNoZero #[3] #[93]) kR,hdI]
  rfl
 clear hdI e1 e2
 have hsz: (prog.info? 5).map (·.size)=some 1:=by kernel_rfl
 have ha6:Blk (w.alloc (.cells cs 5)).drew.drew w.heap.size 5 cs:=Blk.new w _ _
 have YV:Below w.heap.size w (w.alloc (.cells cs 5)).drew.drew:=(((Below.refl _ w).alloc (Nat.le_refl _) _).drew).drew
 have hbC: (Builtin.copy_ #[93,93] 3 #[.slice (some ⟨w.heap.size,0,none⟩) n n,.slice (some ⟨bs,0,none⟩) 1 1]).run prog (w.alloc (.cells cs 5)).drew.drew = .ok (.int .i64 1) ((w.alloc (.cells cs 5)).drew.drew.setRow w.heap.size (cs.toList.take 0++List.replicate 1 (Value.int .u8 c)++cs.toList.drop (0+1)).toArray):=by
  have h:=run_copy_row (P:=prog) (w.alloc (.cells cs 5)).drew.drew 93 93 3 5 w.heap.size 0 n n ⟨bs,0,none⟩ 1 1 cs 5 (List.replicate 1 (Value.int .u8 c)) underlying93 hsz ha6 (by rw[List.length_replicate];show 1=min 1 n;omega) (λj v hj=>by
   have hj0:j=0:=by
    have:=(List.getElem?_eq_some_iff.1 hj).1
    simp at this
    exact this
   subst hj0
   have hv:v = .int .u8 c:=by simpa using hj.symm
   subst hv
   exact(YV.cell (p:=⟨bs,0,none⟩) Wh).trans hc) (by simp;omega) (λv hv=>by rw[(List.mem_replicate.1 hv).2];rfl)
  rw[h]
  rfl
 have Rj: ∃C,Blk ((w.alloc (.cells cs 5)).drew.drew.setRow w.heap.size (cs.toList.take 0++List.replicate 1 (Value.int .u8 c)++cs.toList.drop (0+1)).toArray) w.heap.size 5 C∧C.size=cs.size∧mI C 1 c:=by
  refine⟨_,sV ha6 _,?_,?_⟩
  ·simp;omega
  ·have:=rk (C:=cs) (k:=0) (m:=1) (c:=c) (λj hj=>by omega) oM
   exact this
 have Yw:Below w.heap.size w ((w.alloc (.cells cs 5)).drew.drew.setRow w.heap.size (cs.toList.take 0++List.replicate 1 (Value.int .u8 c)++cs.toList.drop (0+1)).toArray):=Go.below_setRow YV (Nat.le_refl _) _
 generalize (w.alloc (.cells cs 5)).drew.drew.setRow w.heap.size (cs.toList.take 0++List.replicate 1 (Value.int .u8 c)++cs.toList.drop (0+1)).toArray=w1 at *
 replace⟨hmul,Rj,Yw,Wi,hbC⟩:=iE hmul Rj Yw Wi hbC
 clear ha6 YV hc hj9
 have i1:decide ((n:Int) <0)=false:=decide_eq_false oM
 have i0: ((n:Int) ==0)=false:=by rw[beq_eq_false_iff_ne];omega
 have i4:decide ((9223372036854775807:Int) < (n:Int))=false:=decide_eq_false oM
 have Z8: ∀(W:World) (C:Array Value) (k m:Nat),Blk W w.heap.size 5 C->C.size=cs.size->mI C k c->0<m->m<=k->k+m<=n->∃C2,C2.size=cs.size∧mI C2 (k+m) c∧
  (∀d q,(m=min d q∧True)->True)∧Blk (W.setRow w.heap.size C2) w.heap.size 5 C2∧(∀(dl dc sl sc:Nat),m=Nat.min sl dl->(Builtin.copy_ #[93,93] 3 #[.slice (some ⟨w.heap.size,k,none⟩) dl dc,.slice (some ⟨w.heap.size,0,none⟩) sl sc]).run prog W = .ok (.int .i64 (m:Int)) (W.setRow w.heap.size C2)):=by
  intro W C k m hB hC hF h1 h2 h3
  refine⟨(C.toList.take k++List.replicate m (Value.int .u8 c)++C.toList.drop (k+m)).toArray,?_,rk hF oM,λ_ _ _=>trivial,sV hB _,?_⟩
  ·simp;omega
  ·intro dl dc sl sc hm
   have h:=run_copy_row (P:=prog) W 93 93 3 5 w.heap.size k dl dc ⟨w.heap.size,0,none⟩ sl sc C 5 (List.replicate m (Value.int .u8 c)) underlying93 hsz hB (by simpa using hm) (λj v hj=>by
    have hj0:j<m:=by
     have:=(List.getElem?_eq_some_iff.1 hj).1
     simpa using this
    rw[List.getElem?_replicate,if_pos hj0]at hj
    cases hj
    have e: ((⟨w.heap.size,0,none⟩:Addr).add j)= ⟨w.heap.size,j,none⟩:=by simp[Addr.add];exact λh=>h.symm
    rw[e,hB.cell j]
    exact hF j oM) (by simp;omega) (λv hv=>by rw[(List.mem_replicate.1 hv).2];rfl)
   rw[h]
   simp[goInt]
 replace Z8:=hid Z8
 have hd6: ∃M:Nat,1<=M∧(((decide (8192<n)=true∧decide ((8192:Int) < (n:Int))=true)∧M=8192)∨((decide (8192<n)=false∧decide ((8192:Int) < (n:Int))=false)∧M=n)):=by
  by_cases h:8192<n
  ·exact⟨8192,by omega,.inl ⟨⟨decide_eq_true h,decide_eq_true oM⟩,rfl⟩⟩
  ·exact⟨n,h0,.inr ⟨⟨decide_eq_false h,decide_eq_false oM⟩,rfl⟩⟩
 obtain⟨M,hM1,⟨⟨i3,i5⟩,hM⟩ | ⟨⟨i3,i5⟩,hM⟩⟩:=hd6
 all_goals replace hM:=hM.symm
 all_goals subst hM
 all_goals(
  go_enter func199,ntmps199
  go_wp2_with fail
  refine hmul.out.mono ?_
  rintro e wm ⟨rfl,rfl⟩
  simp only[]
  go_wp2_with fail
  rw[Wi.out]
  go_wp2_with fail)
 all_goals rw[hbC.out]
 all_goals go_wp2_with fail
 all_goals obtain⟨C0,Zt,hC0,hF0⟩:=Rj.out
 ·go_loopg [10,11] n (λγ t u wr=> ∃(k:Nat) (C:Array Value),k+γ=n+1∧1<=k∧k<=n∧t = .int .i64 (k:Int)∧Blk wr wm.heap.size 5 C∧C.size=cs.size∧mI C k c∧Below wm.heap.size wm wr)
  case atStart=>exact⟨1,C0,by omega,by omega,by omega,rfl,Zt,hC0,hF0,Yw.out⟩
  case round=>
   obtain⟨k,C,hk,Zr,SS,rfl,hB,hC,hF,Q9⟩:=hrel
   by_cases Rd:k<n
   ·obtain⟨ch,hch⟩: ∃ch:Nat,min k 8192=ch:=⟨_,rfl⟩
    have hjO:min (k:Int) 8192= (ch:Int):=by omega
    have Si:1<=ch∧ch<=k:=by omega
    obtain⟨d,hd⟩: ∃d:Nat,n-k=d:=⟨_,rfl⟩
    obtain⟨m,hm⟩: ∃m:Nat,Nat.min ch d=m:=⟨_,rfl⟩
    have hm1:1<=m∧m<=k∧k+m<=n:=by have hm2:min ch d=m:=hm;omega
    obtain⟨C2,s1,s2,-,s4,s5⟩:=Z8.out wr.drew C k m hB hC hF hm1.1 hm1.2.1 hm1.2.2
    have Wn:=s5 (n-k) (n-k) ch n (by rw[hd,hm])
    have ZX:Below wm.heap.size wm (wr.drew.setRow wm.heap.size C2):=Go.below_setRow Q9.drew (Nat.le_refl _) _
    have hjY:k<143360:=by omega
    have hi4:m<143361:=by omega
    have hiv:ch<=n:=by omega
    clear s5
    replace⟨hB,hF,s2,s4,Q9,ZX,hm,hch,hd⟩:=iI hB hF s2 s4 Q9 ZX hm hch hd
    go_wp2
    go_region
    all_goals go_wp2
    go_roundg (gk-m)
    case measure=>omega
    case rel=>exact⟨k+m,C2,by omega,by omega,by omega,by go_num,s4.out,s1,s2.out,ZX.out⟩
   ·obtain rfl:k=n:=by omega
    replace⟨hB,hF,Q9⟩:=iC hB hF Q9
    go_wp2
    go_ret
    exact⟨wm.heap.size,rfl,λj hj=>(hB.out.cell j).trans (hF.out j hj),Q9.out⟩
 ·go_loopg [10,11] n (λγ t u wr=> ∃(k:Nat) (C:Array Value),k+γ=n+1∧1<=k∧k<=n∧t = .int .i64 (k:Int)∧Blk wr wm.heap.size 5 C∧C.size=cs.size∧mI C k c∧Below wm.heap.size wm wr)
  case atStart=>exact⟨1,C0,by omega,by omega,by omega,rfl,Zt,hC0,hF0,Yw.out⟩
  case round=>
   obtain⟨k,C,hk,Zr,SS,rfl,hB,hC,hF,Q9⟩:=hrel
   by_cases Rd:k<n
   ·obtain⟨ch,hch⟩: ∃ch:Nat,min k n=ch:=⟨_,rfl⟩
    have hjO:min (k:Int) n= (ch:Int):=by omega
    have Si:1<=ch∧ch<=k:=by omega
    obtain⟨d,hd⟩: ∃d:Nat,n-k=d:=⟨_,rfl⟩
    obtain⟨m,hm⟩: ∃m:Nat,Nat.min ch d=m:=⟨_,rfl⟩
    have hm1:1<=m∧m<=k∧k+m<=n:=by have hm2:min ch d=m:=hm;omega
    obtain⟨C2,s1,s2,-,s4,s5⟩:=Z8.out wr.drew C k m hB hC hF hm1.1 hm1.2.1 hm1.2.2
    have Wn:=s5 (n-k) (n-k) ch n (by rw[hd,hm])
    have ZX:Below wm.heap.size wm (wr.drew.setRow wm.heap.size C2):=Go.below_setRow Q9.drew (Nat.le_refl _) _
    have hjY:k<143360:=by omega
    have hi4:m<143361:=by omega
    have hiv:ch<=n:=by omega
    clear s5
    replace⟨hB,hF,s2,s4,Q9,ZX,hm,hch,hd⟩:=iI hB hF s2 s4 Q9 ZX hm hch hd
    go_wp2
    go_region
    all_goals go_wp2
    go_roundg (gk-m)
    case measure=>omega
    case rel=>exact⟨k+m,C2,by omega,by omega,by omega,by go_num,s4.out,s1,s2.out,ZX.out⟩
   ·obtain rfl:k=n:=by omega
    replace⟨hB,hF,Q9⟩:=iC hB hF Q9
    go_wp2
    go_ret
    exact⟨wm.heap.size,rfl,λj hj=>(hB.out.cell j).trans (hF.out j hj),Q9.out⟩
theorem Hs(c:Value)(w:World)(bs:Nat):Calls prog 199 #[.slice (some ⟨bs,0,none⟩) 1 1,(0:Int)] w (λe w'=>e = .returned (.slice (some ⟨w.heap.size,0,none⟩) 0 0)∧Below w.heap.size w w'):=by
 have Q9:Below w.heap.size w (w.alloc (.cells #[] 5)):=(Below.refl _ w).alloc (Nat.le_refl _) _
 replace Q9:=hid Q9
 go_enter func199,ntmps199
 go_wp2
 go_ret
 exact⟨rfl,Q9.out⟩
theorem E7(w:World)(k:Nat): (Builtin.copy_ #[93,93] 3 #[.slice none 0 0,.slice (some ⟨k,0,none⟩) 0 0]).run prog w = .ok (.int .i64 0) w:=
 run_copy_none w 93 93 3 5 none (some ⟨k,0,none⟩) 0 0 0 0 underlying93 kR rfl
theorem Oi(p:Value)(m a n b:Int)(hn:n<0)(w:World):Calls prog 152 #[p,(m:Int),a,(n:Int),.int .u8 b] w (ax (.int .i64 19) w):=by
 have t:decide (n<0)=true:=decide_eq_true hn
 go_enter func152,ntmps152
 go_wp2
 go_ret
 exact⟨rfl,rfl⟩
theorem Qd(p:Value)(m a b:Int)(n:Nat)(w:World)(sl:Value)
 (h1:Calls prog 87 #[p,(m:Int),a,(n:Int),(2:Int)] w (ax (.tuple #[sl,.bool false]) w)):
 Calls prog 152 #[p,(m:Int),a,(n:Int),.int .u8 b] w (ax (.int .i64 5) w):=by
 have t:decide ((n:Int) <0)=false:=decide_eq_false oM
 replace h1:=hid h1
 go_enter func152,ntmps152
 go_wp2_with fail
 refine h1.out.mono ?_
 rintro e1 w1 ⟨rfl,rfl⟩
 simp only[]
 go_wp2
 go_ret
 exact⟨rfl,rfl⟩
theorem Ma(p:Value)(m a b:Int)(w:World)
 (h1:Calls prog 87 #[p,(m:Int),a,(0:Int),(2:Int)] w (ax (.tuple #[.slice none 0 0,.bool true]) w)):
 Calls prog 152 #[p,(m:Int),a,(0:Int),.int .u8 b] w (λe w'=>e = .returned (.int .i64 0)∧Below w.heap.size w w'):=by
 have hz:=λw bs=>Hs undef w bs
 have Q9:Below w.heap.size w (w.alloc (.cells #[.int .u8 b] 5)):=(Below.refl _ w).alloc (Nat.le_refl _) _
 have Wn:=λw k=>E7 w k
 replace⟨h1,hz,Wn,Q9⟩:=iD h1 hz Wn Q9
 go_enter func152,ntmps152
 go_wp2_with fail
 refine h1.out.mono ?_
 rintro e1 w1 ⟨rfl,rfl⟩
 simp only[]
 go_wp2_with fail
 refine(hz.out _ _).mono ?_
 rintro e2 w2 ⟨rfl,h2⟩
 simp only[]
 have h3:=Q9.out.trans (h2.mono Q9.out.size)
 replace h3:=hid h3
 clear h2
 go_wp2_with fail
 rw[Wn.out]
 go_wp2
 go_ret
 exact⟨rfl,h3.out⟩
theorem NT(p:Value)(m:Int)(k n:Nat)(h0:0<n)(hn:n<=143360)(c:UInt8)(w:World)(gb:Nat)(b:List UInt8)(hk:k+n<=b.length)(hb:Blk w gb 5 (ah b).toArray)
 (h1:Calls prog 87 #[p,(m:Int),(k:Int),(n:Int),(2:Int)] w (ax (.tuple #[.slice (some ⟨gb,k,none⟩) n n,.bool true]) w)):
 Calls prog 152 #[p,(m:Int),(k:Int),(n:Int),.int .u8 (c.toNat:Int)] w (λe w'=>e = .returned (.int .i64 0)∧∃w2,Below w.heap.size w w2∧w'=w2.setRow gb (ah (cK b k (List.replicate n c))).toArray):=by
 have t:decide ((n:Int) <0)=false:=decide_eq_false oM
 have Q9:Below w.heap.size w (w.alloc (.cells #[.int .u8 (c.toNat:Int)] 5)):=(Below.refl _ w).alloc (Nat.le_refl _) _
 have Y3:=Gb (c.toNat:Int) n h0 hn (w.alloc (.cells #[.int .u8 (c.toNat:Int)] 5)) w.heap.size (by simp) ((Blk.new w 5 #[.int .u8 (c.toNat:Int)]).cell 0)
 have Wn: ∀(w2:World) (gs:Nat),Below w.heap.size w w2->(∀j,j<n->w2.cell? ⟨gs,j,none⟩=some (.int .u8 (c.toNat:Int)))->(Builtin.copy_ #[93,93] 3 #[.slice (some ⟨gb,k,none⟩) n n,.slice (some ⟨gs,0,none⟩) n n]).run prog w2 = .ok (.int .i64 (n:Int)) (w2.setRow gb (ah (cK b k (List.replicate n c))).toArray):=λw2 gs h RX=>
  vh w2 gb k n b (List.replicate n c) ⟨gs,0,none⟩ (List.length_replicate ..) hk (hb.below h hb.lt) (λi v hi=>by
   have Ur:i<n:=by
    have:=(List.getElem?_eq_some_iff.1 hi).1
    simpa [ah]using this
   have e: ((⟨gs,0,none⟩:Addr).add i)= ⟨gs,i,none⟩:=by simp[Addr.add];exact λh=>h.symm
   rw[e,RX i Ur,<-hi]
   simp[ah,Ur])
 replace⟨h1,Y3,Wn,Q9⟩:=iD h1 Y3 Wn Q9
 clear hb hk
 go_enter func152,ntmps152
 go_wp2_with fail
 refine h1.out.mono ?_
 rintro e1 w1 ⟨rfl,rfl⟩
 simp only[]
 go_wp2_with fail
 refine Y3.out.mono ?_
 rintro e2 w2 ⟨gs,rfl,RX,h2⟩
 simp only[]
 have h3:=Q9.out.trans (h2.mono Q9.out.size)
 have Zg:=Wn.out w2 gs h3 RX
 replace⟨h3,Zg,RX⟩:=iC h3 Zg RX
 clear h2
 go_wp2_with fail
 rw[Zg.out]
 go_wp2
 go_ret
 exact⟨rfl,w2,h3.out,rfl⟩
section
variable {w:World}{F:Nat->Prop}{g:Nat}{S:Img}
theorem OT(hb: (av g S).holds w F)(m a n:Int)(c:UInt8)(hn:n<=9223372036854775807):Calls prog 152 #[.pointer (some ⟨g,0,none⟩),(m:Int),a,(n:Int),.int .u8 (c.toNat:Int)] w (Got (.returned (S.gL m a n)) (av g (S.fill m a n c)) F w):=by
 obtain⟨gb,hr,Uq⟩:=hb
 by_cases h0:n<0
 ·have e1:S.gL m a n=19:=by unfold Img.gL;rw[if_pos h0]
  have e2:S.fill m a n c=S:=by unfold Img.fill;rw[e1];rfl
  rw[e1,e2]
  refine(Oi _ m a n _ h0 w).mono ?_
  rintro e w1 ⟨rfl,rfl⟩
  exact⟨rfl,On.refl ⟨gb,hr,Uq⟩⟩
 obtain⟨k,rfl⟩: ∃k:Nat,n= (k:Int):=⟨n.toNat,by omega⟩
 have hF:S.gL m a k=if S.aO m a k true=true then 0 else 5:=by unfold Img.gL;rw[if_neg h0];rfl
 by_cases hk:k=0
 ·subst hk
  have e1:S.gL m a ((0:Nat):Int)=0:=by rw[hF];unfold Img.aO;simp
  have e2:S.fill m a ((0:Nat):Int) c=S:=by
   unfold Img.fill
   rw[if_pos e1]
   show S.put a.toNat (List.replicate 0 c)=S
   rw[List.replicate_zero,Img.fK]
  rw[e1,e2]
  have r2:=zJ hr m a 0 oM true
  unfold Gs at r2
  rw[if_pos rfl]at r2
  refine mo (Ma _ m a _ w r2) λw1 Q9=>?_
  exact⟨rfl,(On.refl (A:=av g S) ⟨gb,hr,Uq⟩).below Q9⟩
 rcases fD hr m a k hk oM true with⟨h1,r1⟩ | ⟨h1,i,rfl,hi,r1⟩
 ·have e1:S.gL m a k=5:=by rw[hF,h1];rfl
  have e2:S.fill m a k c=S:=by unfold Img.fill;rw[e1];rfl
  rw[e1,e2]
  refine(Qd _ m a _ k w _ r1).mono ?_
  rintro e w1 ⟨rfl,rfl⟩
  exact⟨rfl,On.refl ⟨gb,hr,Uq⟩⟩
 ·have e1:S.gL m i k=0:=by rw[hF,h1];rfl
  have e2:S.fill m i k c=S.put i (List.replicate k c):=by unfold Img.fill;rw[if_pos e1];rfl
  rw[e1,e2]
  have Zs:=hr.ok.small
  refine(NT _ m i k oM oM c w gb S.b (by rw[hr.ok.len];exact hi) hr.row r1).mono ?_
  rintro e w1 ⟨rfl,w2,Q9,rfl⟩
  have Y2:b9 w2 g gb S:=⟨hr.blk.below Q9 hr.blk.lt,hr.row.below Q9 hr.row.lt,hr.ok⟩
  have h4:=rI gb Y2 Uq i (List.replicate k c) (by rw[List.length_replicate];exact hi)
  obtain⟨F2,hA,SS,Wx⟩:=h4
  exact⟨rfl,F2,hA,((Kept.gZ Q9).mono (λ_ h=>h.elim)).trans' SS (λk h=> .inl h),λk h=>(Wx k h).imp id λh=>Nat.le_trans Q9.size h⟩
end
structure Vc where
 gM:Nat
 gI:Nat
 gD:Nat
 gR:Nat
 gT:Nat
 gS:Nat
 gK:Nat
 gP:Nat
 ws:Value
 tell:Value
 sfr:Nat
 sto:Nat
 kfr:Nat
 kto:Nat
 tl:List Stp->Asr
 rest:Ext->List Asr
def pN(c:Vc)(s:Mt):Array Value:=#[c.gI,c.gS,c.ws,c.gT,c.gP,c.gD,c.gR,c.tell,s.fault,s.used,s.hidden]
def GX(c:Vc)(x:Rn)(src:Value):Array Value:=#[c.gM,x.mode,x.left,x.pc,x.next,.bool x.over,.bool x.asked,x.base,src]
def cm(gI fr en:Nat)(here XS:Int):Array Value:=#[gI,(fr:Int),(en:Int),here,XS]
def nc(c:Vc)(g:Nat)(x:Rn)(src:Value):Asr:=ae g 102 (GX c x src)
def jQb(c:Vc)(s:Mt):Asr:=ae c.gM 109 (pN c s)
def kD(gI g fr en:Nat)(here XS:Int):Asr:=ae g 123 (cm gI fr en here XS)
def vL(c:Vc)(g:Nat)(x:Rn)(src:Value)(s:Mt):List Asr:=
 nc c g x src::jQb c s::av c.gI s.S::cS c.gI c.gD s.pd s.d::cS c.gI c.gR s.pr s.r::dF c.gT s.T::kD c.gI c.gS c.sfr c.sto s.hs s.ls::kD c.gI c.gK c.kfr c.kto s.hk s.lk::c.tl s.seen::c.rest s.ext
def VA(c:Vc)(g:Nat)(x:Rn)(src:Value)(s:Mt):Asr:=aa (vL c g x src s)
structure Mt.Ok(s:Mt):Prop where
 pd:s.pd.Ok
 pr:s.pr.Ok
 d:s.d<=s.pd.rm
 r:s.r<=s.pr.rm
 du:s.pd.un=1
 dv:s.pd.ov=2
 ru:s.pr.un=3
 rv:s.pr.ov=4
section
variable {w w':World}{F:Nat->Prop}{c:Vc}{g:Nat}{x:Rn}{src:Value}{s:Mt}
theorem On.r0(h:On F w (VA c g x src s) w'):w'.cell? (g,0)=some (c.gM:Vl):=(h.ab 0 rfl).cell 0
theorem On.r1(h:On F w (VA c g x src s) w'):w'.cell? (g,1)=some (x.mode:Vl):=(h.ab 0 rfl).cell 1
theorem On.r2(h:On F w (VA c g x src s) w'):w'.cell? (g,2)=some (x.left:Vl):=(h.ab 0 rfl).cell 2
theorem On.r3(h:On F w (VA c g x src s) w'):w'.cell? (g,3)=some (x.pc:Vl):=(h.ab 0 rfl).cell 3
theorem On.r4(h:On F w (VA c g x src s) w'):w'.cell? (g,4)=some (x.next:Vl):=(h.ab 0 rfl).cell 4
theorem On.r5(h:On F w (VA c g x src s) w'):w'.cell? (g,5)=some (.bool x.over):=(h.ab 0 rfl).cell 5
theorem On.r6(h:On F w (VA c g x src s) w'):w'.cell? (g,6)=some (.bool x.asked):=(h.ab 0 rfl).cell 6
theorem On.r7(h:On F w (VA c g x src s) w'):w'.cell? (g,7)=some (x.base:Vl):=(h.ab 0 rfl).cell 7
theorem On.r8(h:On F w (VA c g x src s) w'):w'.cell? (g,8)=some src:=(h.ab 0 rfl).cell 8
theorem On.rf(h:On F w (VA c g x src s) w')(i:Nat):w'.frozen? (g,i)=false:=(h.ab 0 rfl).frozen i
theorem On.rlt(h:On F w (VA c g x src s) w'):g<w'.heap.size:=(h.ab 0 rfl).lt
theorem On.m0(h:On F w (VA c g x src s) w'):w'.cell? (c.gM,0)=some (c.gI:Vl):=(h.ab 1 rfl).cell 0
theorem On.m1(h:On F w (VA c g x src s) w'):w'.cell? (c.gM,1)=some (c.gS:Vl):=(h.ab 1 rfl).cell 1
theorem On.m3(h:On F w (VA c g x src s) w'):w'.cell? (c.gM,3)=some (c.gT:Vl):=(h.ab 1 rfl).cell 3
theorem On.m5(h:On F w (VA c g x src s) w'):w'.cell? (c.gM,5)=some (c.gD:Vl):=(h.ab 1 rfl).cell 5
theorem On.m6(h:On F w (VA c g x src s) w'):w'.cell? (c.gM,6)=some (c.gR:Vl):=(h.ab 1 rfl).cell 6
theorem On.m7(h:On F w (VA c g x src s) w'):w'.cell? (c.gM,7)=some c.tell:=(h.ab 1 rfl).cell 7
theorem On.mlt(h:On F w (VA c g x src s) w'):c.gM<w'.heap.size:=(h.ab 1 rfl).lt
theorem On.sd(h:On F w (VA c g x src s) w'):Blk w' c.gD 112 (ix c.gI s.pd s.d):=h.ab 3 rfl
theorem On.sr(h:On F w (VA c g x src s) w'):Blk w' c.gR 112 (ix c.gI s.pr s.r):=h.ab 4 rfl
theorem On.im(h:On F w (VA c g x src s) w'): ∃gb,b9 w' c.gI gb s.S:=h.img 2 rfl
theorem On.Qo(h:On F w (VA c g x src s) w'): ∃G,dC w' c.gT s.T G:=h.at_ 5 rfl
theorem Mt.Ok.dle(h:s.Ok):s.d<=17920:=by have:=h.pd.rm;have:=h.d;omega
theorem Mt.Ok.rle(h:s.Ok):s.r<=17920:=by have:=h.pr.rm;have:=h.r;omega
def flt(f:Int):PanicEntry:={ v:= .iface 46 (.int .i64 f),recovered:=false }
theorem bL(w:World):Calls prog 69 #[(0:Int)] w (ax (.tuple #[]) w):=by
 go_enter func69,ntmps69
 go_wp2
 go_end0
 exact⟨rfl,rfl⟩
def vO(f:Int)(w:World)(e:Ending)(w':World):Prop:=e = .panicked [flt f]∧w'=w
theorem cJ(f:Int)(hf:f≠0)(w:World):Calls prog 69 #[f] w (vO f w):=by
 have h1: (f==0)=false:=by simpa using hf
 have h2: (f != 0)=true:=by simpa using hf
 go_enter func69,ntmps69
 go_wp2
 exact⟨rfl,rfl,rfl⟩
theorem bz(f:Int)(w:World):Calls prog 95 #[.bool true,f] w (ax (.tuple #[]) w):=by
 go_enter func95,ntmps95
 go_wp2
 go_end0
 exact⟨rfl,rfl⟩
theorem bR(f:Int)(w:World):Calls prog 95 #[.bool false,f] w (vO f w):=by
 go_enter func95,ntmps95
 go_wp2
 exact⟨rfl,rfl,rfl⟩
def bp(f:Int):Ending:=if f=0 then .returned (.tuple #[])else .panicked [flt f]
theorem Mf(op:Int)(w:World):Calls prog 99 #[op] w (ax (dM op) w):=by
 obtain⟨n,hn⟩: ∃n,dM op=n:=⟨_,rfl⟩
 rw[hn]
 replace hn:=hid hn
 go_enter func99,ntmps99
 go_wp2
 all_goals go_ret
 all_goals refine⟨congrArg (λn=>Ending.returned (.int .i64 n)) ?_,rfl⟩
 all_goals rw[<-hn.out]
 all_goals clear hn
 all_goals unfold dM
 all_goals try simp only[beq_iff_eq,beq_eq_false_iff_ne]at *
 all_goals repeat' split
 all_goals first
  | rfl
  | omega
theorem xd(h:On F w (VA c g x src s) w')(hs:s.Ok)(n:Int):Calls prog 97 #[g,(n:Int)] w' (Quiet (s.top n) w'):=by
 have r0:=h.r0
 have m5:=h.m5
 obtain⟨gb,hi⟩:=h.im
 have hp:=oD h.sd hi hs.pd hs.dle n
 have e:s.top n=lc s.S s.pd.fr s.d n:=rfl
 unfold qb at hp
 rw[<-e]at hp
 generalize s.top n=v at *
 generalize (if hasB s.d n=true then 0 else s.pd.un)=f at *
 replace hp:=hid hp
 clear h hi e hs
 go_enter func97,ntmps97
 go_wp2_with fail
 refine mo hp.out λw1 h=>?_
 replace h:=hid h
 go_wp2
 go_ret
 exact⟨rfl,h.out⟩
theorem QF{a b c d:Int}(h:c=a∧d=b):Ending.returned (.tuple #[a,b])=Ending.returned (.tuple #[c,d]):=by rw[h.1,h.2]
theorem Dv(h:On F w (VA c g x src s) w')(hs:s.Ok)(i:aq):Calls prog 96 #[g,i.v] w' (Quiet (.tuple #[.int .i64 (returns i.op i.arg s.same).1,.int .i64 (returns i.op i.arg s.same).2]) w'):=by
 obtain⟨op,arg,lit,cells⟩:=i
 show Calls _ _ #[_,.agg #[op,arg,lit,cells]] _ (Quiet (.tuple #[.int .i64 (returns op arg s.same).1,.int .i64 (returns op arg s.same).2]) w')
 by_cases h7:op=7
 ·subst h7
  have hb:=h.alloc (.cells #[(7:Int),arg,lit,cells] 164)
  have t0:=xd hb hs 0
  have Sz:s.same= (s.top 0==s.top 1):=rfl
  have t1: ∀w1,Below (w'.alloc (.cells #[(7:Int),arg,lit,cells] 164)).heap.size (w'.alloc (.cells #[(7:Int),arg,lit,cells] 164)) w1->Calls prog 97 #[g,(1:Int)] w1 (Quiet (s.top 1) w1):=λw1 Rh=>xd (hb.below Rh) hs 1
  have RY:Below w'.heap.size w' (w'.alloc (.cells #[(7:Int),arg,lit,cells] 164)):=(Below.refl _ _).alloc (Nat.le_refl _) _
  have hsz:w'.heap.size<=(w'.alloc (.cells #[(7:Int),arg,lit,cells] 164)).heap.size:=by simp
  generalize s.top 0=a at *
  generalize s.top 1=b at *
  by_cases hab:a=b
  ·have heJ: (a==b)=true:=by simpa using hab
   have e:s.same=true:=by rw[Sz];exact heJ
   rw[e]
   clear e Sz hab
   replace⟨t0,t1,RY⟩:=iC t0 t1 RY
   clear h hb hs
   go_enter func96,ntmps96
   go_wp2_with fail
   refine mo t0.out λw1 h1=>?_
   replace t1:=hid (t1.out w1 h1)
   replace h1:=hid h1
   go_wp2_with fail
   refine mo t1.out λw2 h2=>?_
   replace h2:=hid h2
   go_wp2
   go_ret2
   exact⟨rfl,RY.out.trans ((h1.out.trans (h2.out.mono h1.out.size)).mono hsz)⟩
  ·have heJ: (a==b)=false:=by simpa using hab
   have e:s.same=false:=by rw[Sz];exact heJ
   rw[e]
   clear e Sz hab
   replace⟨t0,t1,RY⟩:=iC t0 t1 RY
   clear h hb hs
   go_enter func96,ntmps96
   go_wp2_with fail
   refine mo t0.out λw1 h1=>?_
   replace t1:=hid (t1.out w1 h1)
   replace h1:=hid h1
   go_wp2_with fail
   refine mo t1.out λw2 h2=>?_
   replace h2:=hid h2
   go_wp2
   go_ret2
   exact⟨rfl,RY.out.trans ((h1.out.trans (h2.out.mono h1.out.size)).mono hsz)⟩
 ·have h7': (op==7)=false:=by simpa using h7
  generalize s.same=sm at *
  obtain⟨p,hp⟩: ∃p,returns op arg sm=p:=⟨_,rfl⟩
  rw[hp]
  obtain⟨p1,p2⟩:=p
  replace hp:=hid hp
  clear h hs
  go_enter func96,ntmps96
  go_wp2
  all_goals go_ret2
  all_goals refine⟨QF (a:=_) (b:=_) ?_,(Below.refl _ _).alloc (Nat.le_refl _) _⟩
  all_goals have hq:=hp.out
  all_goals clear hp
  all_goals unfold returns at hq
  all_goals simp only[beq_iff_eq,beq_eq_false_iff_ne]at *
  all_goals simp[*]at hq
  all_goals omega
theorem On.push(h:On F w (VA c g x src s) w'):On F w (VA c g x src s) w':=h
theorem Ir(h:On F w (VA c g x src s) w')(hs:s.Ok)(n:Nat)(hn:n<=s.d):Calls prog 139 #[c.gD,(n:Int)] w' (Got (.returned (.bool true)) (VA c g x src (s.jJ n)) F w):=
 h.cn 3 2 (by decide) rfl rfl λF' ha=>Jl ha hs.pd n hn hs.d
theorem J0(h:On F w (VA c g x src s) w')(hs:s.Ok)(n:Nat)(hn:n<=s.r):Calls prog 139 #[c.gR,(n:Int)] w' (Got (.returned (.bool true)) (VA c g x src (s.eu n)) F w):=
 h.cn 4 2 (by decide) rfl rfl λF' ha=>Jl ha hs.pr n hn hs.r
structure Q6(F:Nat->Prop)(w w':World)(A:Option Addr)(l:List Int):Prop where
 ints:ln w' A l
 far: ∀a,A=some a->¬F a.block∧a.block<w.heap.size
theorem Lc(h:On F w (VA c g x src s) w')(hs:s.Ok)(l:List Int)(hl: ∀v∈l,V64 v)(A:Option Addr)(cap:Nat)(hi:ln w' A l)(hf: ∀a,A=some a->¬F a.block∧a.block<w.heap.size)(OF:l.length<=s.pd.rm-s.d):
 Calls prog 60 #[c.gD,.slice A l.length cap] w' (Got (.returned (.int .i64 0)) (VA c g x src (s.dy l)) F w):=
 h.me 3 2 (by decide) rfl rfl λF' ha ho=>ko ha hs.pd l hl A cap hi (λa e hk=>by
  have h1:=hf a e
  rcases ho.1 _ hk with h2|h2
  ·exact h1.1 h2
  ·omega) hs.d OF
theorem C3(h:On F w (VA c g x src s) w')(hs:s.Ok)(l:List Int)(hl: ∀v∈l,V64 v)(A:Option Addr)(cap:Nat)(hi:ln w' A l)(hf: ∀a,A=some a->¬F a.block∧a.block<w.heap.size)(OF:l.length<=s.pr.rm-s.r):
 Calls prog 60 #[c.gR,.slice A l.length cap] w' (Got (.returned (.int .i64 0)) (VA c g x src (s.az l)) F w):=
 h.me 4 2 (by decide) rfl rfl λF' ha ho=>ko ha hs.pr l hl A cap hi (λa e hk=>by
  have h1:=hf a e
  rcases ho.1 _ hk with h2|h2
  ·exact h1.1 h2
  ·omega) hs.r OF
theorem nF(hs:s.Ok)(n:Nat)(hn:n<=s.d): (s.jJ n).Ok:=⟨hs.pd,hs.pr,Nat.le_trans hn hs.d,hs.r,hs.du,hs.dv,hs.ru,hs.rv⟩
theorem qJ(hs:s.Ok)(n:Nat)(hn:n<=s.r): (s.eu n).Ok:=⟨hs.pd,hs.pr,hs.d,Nat.le_trans hn hs.r,hs.du,hs.dv,hs.ru,hs.rv⟩
theorem nO(hs:s.Ok)(l:List Int)(OF:l.length<=s.pd.rm-s.d): (s.dy l).Ok:=⟨hs.pd,hs.pr,by show s.d+l.length<=s.pd.rm;have:=hs.d;omega,hs.r,hs.du,hs.dv,hs.ru,hs.rv⟩
theorem eU(hs:s.Ok)(l:List Int)(OF:l.length<=s.pr.rm-s.r): (s.az l).Ok:=⟨hs.pd,hs.pr,hs.d,by show s.r+l.length<=s.pr.rm;have:=hs.r;omega,hs.du,hs.dv,hs.ru,hs.rv⟩
theorem vA(hb: (VA c g x src s).holds w F)(hs:s.Ok)(n:Nat)(hn:n<=s.d)(l:List Int)(hl: ∀v∈l,V64 v)(A:Option Addr)(cap:Nat)(hi:ln w A l)(hf: ∀a,A=some a->¬F a.block∧a.block<w.heap.size)(OF:l.length<=s.pd.rm- (s.d-n)):
 Calls prog 103 #[g,(n:Int),.slice A l.length cap] w (Got (.returned (.tuple #[])) (VA c g x src (s.ak n l).2) F w):=by
 have so:=On.refl hb
 have r0:=so.r0
 have m5:=so.m5
 have R2:=dG (so.drew).sd
 have hcut:=Ir so.drew hs (s.d-n) oM
 have hdw:=IntWalk.i64_in ((s.d:Int) - (n:Int)) (by have:=hs.dle;omega)
 rw[show((s.d-n:Nat):Int)=IntKind.i64.wrap ((s.d:Int) - (n:Int))by rw[hdw];omega]at hcut
 have Rq: (s.ak n l).2= (s.jJ (s.d-n)).dy l:=by unfold Mt.ak;rw[if_neg oM]
 rw[Rq]
 have RE:=λw1 (h1:On F w (VA c g x src (s.jJ (s.d-n))) w1)=>Lc h1 (nF hs (s.d-n) oM) l hl A cap (h1.ints hi (λa e=>(hf a e).1)) hf OF
 generalize (s.jJ (s.d-n)).dy l=s2 at *
 generalize s.jJ (s.d-n)=s1 at *
 generalize s.d=d at *
 replace⟨R2,hcut,RE,hi⟩:=iD R2 hcut RE hi
 clear hb hs Rq hl hf hdw so OF
 go_enter func103,ntmps103
 go_wp2_with fail
 go_region_held (λw'=>w'.cell? (g,0)=some (c.gM:Vl)∧w'.cell? (c.gM,5)=some (c.gD:Vl)) (go_keep)
  ((first
    | (go_at_call 16;refine R2.out.mono ?_;rintro e w1 ⟨rfl,rfl⟩)
    | (go_at_call 139;refine mo hcut.out λw1 h=>?_;have k0:=h.r0;have k5:=h.m5;replace h:=hid h)))
 go_wp2_with fail
 refine mo (RE.out _ h.out) λw2 h2=>?_
 replace h2:=hid h2
 go_wp2_with fail
 refine(bL _).mono ?_
 rintro e w3 ⟨rfl,rfl⟩
 go_wp2
 go_end0
 exact⟨rfl,h2.out⟩
