/- Chapter 11: parts that may give up and turn no more than the image: what they leave. No condition. -/
import Derived.Test.YteaijdgnagkllaaGreatDoorZd28
import Derived.Test.YteaijdgnagkllaaGreatDoorZd22
open Go.Proofs.Tryz
namespace Go.Proofs.YteaijdgnagkllaaGreatDoor
set_option linter.unusedVariables false
set_option linter.unusedSimpArgs false
set_option maxHeartbeats 8000000
open Go.RowKit Go.Lib
namespace Vm
theorem udQ_v64(a b n:Int):V64 (udQ a b n):=wrap_v64 _
theorem udR_v64(a b n:Int):V64 (udR a b n):=wrap_v64 _
theorem dvQ_v64(a b n:Int):V64 (dvQ a b n):=by unfold dvQ dvQ0;split;exact udQ_v64 _ _ _;exact wrap_v64 _
theorem dvR_v64(a b n:Int):V64 (dvR a b n):=by unfold dvR dvR0;split;exact wrap_v64 _;exact udR_v64 _ _ _
theorem fdQ_v64(a b n:Int):V64 (fdQ a b n):=by unfold fdQ;split;exact wrap_v64 _;exact dvQ_v64 _ _ _
theorem fdR_v64(a b n:Int):V64 (fdR a b n):=by unfold fdR;split;exact wrap_v64 _;exact dvR_v64 _ _ _
theorem utLo_v64(a b:Int):V64 (utLo a b):=wrap_v64 _
theorem utHi_v64(a b:Int):V64 (utHi a b):=wrap_v64 _
theorem tHi_v64(a b:Int):V64 (tHi a b):=wrap_v64 _
def Mild(q:Rn->Mt->Rs×List Int)(m:Nat):Prop:= ∀x s,s.Ok->x.Ok->(q x s).1.s.Ok∧(q x s).1.s.d=s.d∧(q x s).1.s.pd=s.pd∧(q x s).2.length<=m∧(∀v∈(q x s).2,V64 v)∧(q x s).1.x=x∧(q x s).1.s.tells=s.tells∧(q x s).1.s.seen=s.seen
theorem Mild.pure{l:Mt->List Int}{m:Nat}{f:Mt->Int}(hl: ∀s,(l s).length<=m)(hv: ∀s,s.Ok->∀v∈l s,V64 v):Mild (λx s=>(⟨f s,x,s⟩,l s)) m:=λx s hs hx=>⟨hs,rfl,rfl,hl s,hv s hs,rfl,rfl,rfl⟩
theorem quoL_len(k:Nat)(q r:Int): (quoL k q r).length<=if k<=1 then 1 else 2:=by
 unfold quoL
 split
 ·rename_i h;subst h;exact Nat.le_refl 1
 split
 ·rename_i h;subst h;exact Nat.le_refl 1
 ·rw[if_neg (by omega)];exact Nat.le_refl 2
theorem quoL_v64{k:Nat}{q r:Int}(hq:V64 q)(hr:V64 r): ∀v∈quoL k q r,V64 v:=by
 unfold quoL
 intro v hv
 split at hv
 ·rw[List.mem_singleton.1 hv];exact hq
 split at hv
 ·rw[List.mem_singleton.1 hv];exact hr
 ·simp only[List.mem_cons,List.mem_nil_iff,or_false]at hv
  rcases hv with rfl|rfl
  ·exact hr
  ·exact hq
theorem Mild.quo{k:Nat}{o:Mt->Bool}{q r:Mt->Int}(hq: ∀s,V64 (q s))(hr: ∀s,V64 (r s)):Mild (λx s=>quoP k (o s) (q s) (r s) x s) (if k<=1 then 1 else 2):=
 λx s hs hx=>⟨hs,rfl,rfl,quoL_len _ _ _,quoL_v64 (hq s) (hr s),rfl,rfl,rfl⟩
theorem GivesOk.toR{f:FuncId}{pre:Nat->Array Value}{i:Inst}{l:Mt->List Int}(h:GivesOk f pre i l):GivesR f pre i (λx s=>(⟨0,x,s⟩,l s)):=
 λc g x src s ba w F hs hx hask hb=>(h c g x src s ba w F hs hask hb).mono λe w' h=>by
  rw[if_pos rfl]
  exact h
theorem laysOk_of{i:Inst}{q:Rn->Mt->Rs×List Int}{m:Nat}(n:Nat)(hn: (Code.wants i.op).1=n)(hm: (Code.wants i.op).2=m)(h26:i.op≠26)(h:Mild q m):LaysOk i q:=by
 intro x s hs hx ha hf
 obtain⟨h1,h2,h3,h4,h5,_⟩:=h x s hs hx
 refine⟨h1,h2,?_,h5⟩
 have h6:=ha.room
 have h7:=ha.tk
 rw[if_neg (by rintro⟨h,_⟩;exact h26 h)]at h6
 rw[h3]
 omega
theorem PartOk.congr{f:FuncId}{i:Inst}{q q':Rn->Mt->Rs}(h:PartOk f i q)(e: ∀x s,s.Ok->x.Ok->Asked i x s->q x s=q' x s):PartOk f i q':=by
 intro c g x src s ba w F hs hx hv1 hv2 hask hb
 rw[<-e x s hs hx hask]
 exact h c g x src s ba w F hs hx hv1 hv2 hask hb
theorem setCell_mt_ok{s:Mt}(hs:s.Ok)(m a v:Int): ({ s with S:=s.S.setCell m a v }:Mt).Ok:=⟨hs.pd,hs.pr,hs.d,hs.r,hs.du,hs.dv,hs.ru,hs.rv⟩
theorem qdup_v64{x:Int}(h:V64 x): ∀v∈qdupL x,V64 v:=by
 unfold qdupL
 intro v hv
 split at hv
 ·rw[List.mem_singleton.1 hv];exact h
 ·simp only[List.mem_cons,List.mem_nil_iff,or_false,or_self]at hv
  rw[hv];exact h
end Vm
set_option maxRecDepth 100000
namespace Vm
def parts(i:Inst):Option (Rn->Mt->Rs):=
 if i.op=1 then some (back)
 else if i.op=2 then some (laysR 0 [i.lit])
 else if i.op=3 then some (λx s=>⟨0,{ x with next:=i.arg },s.pushR [x.next]⟩)
 else if i.op=4 then some (λx s=>⟨0,{ x with next:=i.arg },s⟩)
 else if i.op=5 then some (λx s=>⟨0,if ar s 1 0=0 then { x with next:=i.arg } else x,(s.lays 1 []).2⟩)
 else if i.op=6 then some (λx s=>⟨0,x,((s.lays 2 []).2).pushR (s.args 2)⟩)
 else if i.op=7 then some (λx s=>if ar s 2 0=ar s 2 1 then⟨0,{ x with next:=i.arg },(s.lays 2 []).2⟩else⟨0,x,((s.lays 2 []).2).pushR (s.args 2)⟩)
 else if i.op=8 then some (λx s=>turn (wrap64 (s.rtop 0+1)) (wrap64 (s.rtop 0+1) ==s.rtop 1) i.arg x s)
 else if i.op=9 then some (λx s=>turn (wrap64 (s.rtop 0+ar s 1 0)) (plEnds (s.rtop 0) (s.rtop 1) (ar s 1 0)) i.arg x (s.lays 1 []).2)
 else if i.op=10 then some (λx s=>⟨0,x,s.cutR (s.r-2)⟩)
 else if i.op=13 then some (λx s=>⟨0,x,((s.lays 1 []).2).pushR (s.args 1)⟩)
 else if i.op=16 then some (λx s=>⟨0,{ x with next:=ar s 1 0 },((s.pushR [x.next]).lays 1 []).2⟩)
 else if i.op=20 then some (λx s=>⟨16,x,s⟩)
 else if i.op=21 then some (λx s=>laysR 1 [ar s 1 0,ar s 1 0] x s)
 else if i.op=22 then some (λx s=>laysR 1 [] x s)
 else if i.op=23 then some (λx s=>laysR 2 [ar s 2 1,ar s 2 0] x s)
 else if i.op=24 then some (λx s=>laysR 2 [ar s 2 0,ar s 2 1,ar s 2 0] x s)
 else if i.op=31 then some (λx s=>laysR 2 [wrap64 (ar s 2 0+ar s 2 1)] x s)
 else if i.op=32 then some (λx s=>laysR 2 [wrap64 (ar s 2 0-ar s 2 1)] x s)
 else if i.op=33 then some (λx s=>laysR 2 [wrap64 (ar s 2 0*ar s 2 1)] x s)
 else if i.op=39 then some (λx s=>laysR 1 [wrap64 (-ar s 1 0)] x s)
 else if i.op=43 then some (λx s=>laysR 1 [wrap64 (ar s 1 0+1)] x s)
 else if i.op=44 then some (λx s=>laysR 1 [wrap64 (ar s 1 0-1)] x s)
 else if i.op=11 then some (λx s=>⟨0,x,(s.lays 0 [s.rtop 0]).2⟩)
 else if i.op=12 then some (λx s=>⟨0,x,(s.lays 0 [s.rtop 2]).2⟩)
 else if i.op=14 then some (λx s=>⟨0,x,((s.cutR (s.r-1)).lays 0 [s.rtop 0]).2⟩)
 else if i.op=15 then some (λx s=>⟨0,x,(s.lays 0 [s.rtop 0]).2⟩)
 else if i.op=25 then some (λx s=>laysR 3 [ar s 3 1,ar s 3 2,ar s 3 0] x s)
 else if i.op=26 then some (λx s=>laysR 1 (qdupL (ar s 1 0)) x s)
 else if i.op=27 then some (λx s=>laysR 2 [ar s 2 1] x s)
 else if i.op=28 then some (λx s=>laysR 2 [ar s 2 1,ar s 2 0,ar s 2 1] x s)
 else if i.op=34 then some (λx s=>Rs.laid 2 (quoP 0 (decide (ar s 2 1=0)) (floQ (ar s 2 0) (ar s 2 1)) (floR (ar s 2 0) (ar s 2 1)) x s))
 else if i.op=35 then some (λx s=>Rs.laid 2 (quoP 1 (decide (ar s 2 1=0)) (floQ (ar s 2 0) (ar s 2 1)) (floR (ar s 2 0) (ar s 2 1)) x s))
 else if i.op=36 then some (λx s=>Rs.laid 2 (quoP 2 (decide (ar s 2 1=0)) (floQ (ar s 2 0) (ar s 2 1)) (floR (ar s 2 0) (ar s 2 1)) x s))
 else if i.op=37 then some (λx s=>Rs.laid 3 (quoP 0 (fdOut (utLo (ar s 3 0) (ar s 3 1)) (tHi (ar s 3 0) (ar s 3 1)) (ar s 3 2)) (fdQ (utLo (ar s 3 0) (ar s 3 1)) (tHi (ar s 3 0) (ar s 3 1)) (ar s 3 2)) (fdR (utLo (ar s 3 0) (ar s 3 1)) (tHi (ar s 3 0) (ar s 3 1)) (ar s 3 2)) x s))
 else if i.op=38 then some (λx s=>Rs.laid 3 (quoP 2 (fdOut (utLo (ar s 3 0) (ar s 3 1)) (tHi (ar s 3 0) (ar s 3 1)) (ar s 3 2)) (fdQ (utLo (ar s 3 0) (ar s 3 1)) (tHi (ar s 3 0) (ar s 3 1)) (ar s 3 2)) (fdR (utLo (ar s 3 0) (ar s 3 1)) (tHi (ar s 3 0) (ar s 3 1)) (ar s 3 2)) x s))
 else if i.op=53 then some (λx s=>laysR 2 [utLo (ar s 2 0) (ar s 2 1),tHi (ar s 2 0) (ar s 2 1)] x s)
 else if i.op=54 then some (λx s=>laysR 2 [utLo (ar s 2 0) (ar s 2 1),utHi (ar s 2 0) (ar s 2 1)] x s)
 else if i.op=55 then some (λx s=>Rs.laid 3 (quoP 2 (udOut (ar s 3 1) (ar s 3 2)) (udQ (ar s 3 0) (ar s 3 1) (ar s 3 2)) (udR (ar s 3 0) (ar s 3 1) (ar s 3 2)) x s))
 else if i.op=56 then some (λx s=>Rs.laid 3 (quoP 2 (dvOut (ar s 3 0) (ar s 3 1) (ar s 3 2)) (dvQ (ar s 3 0) (ar s 3 1) (ar s 3 2)) (dvR (ar s 3 0) (ar s 3 1) (ar s 3 2)) x s))
 else if i.op=57 then some (λx s=>Rs.laid 3 (quoP 2 (fdOut (ar s 3 0) (ar s 3 1) (ar s 3 2)) (fdQ (ar s 3 0) (ar s 3 1) (ar s 3 2)) (fdR (ar s 3 0) (ar s 3 1) (ar s 3 2)) x s))
 else if i.op=65 then some (λx s=>Rs.laid 1 (((⟨s.S.cellF x.mode (ar s 1 0) false,x,s⟩,[s.S.cellV x.mode (ar s 1 0)]):Rs×List Int)))
 else if i.op=66 then some (λx s=>Rs.laid 2 (((⟨s.S.cellF x.mode (ar s 2 1) true,x,{ s with S:=s.S.setCell x.mode (ar s 2 1) (ar s 2 0) }⟩,[]):Rs×List Int)))
 else if i.op=77 then some (λx s=>laysR 0 [wrap64 (s.S.beg 3:Int)] x s)
 else if i.op=40 then some (λx s=>laysR 1 [absS (ar s 1 0)] x s)
 else if i.op=45 then some (λx s=>laysR 1 [wrap64 (ar s 1 0*2)] x s)
 else if i.op=46 then some (λx s=>laysR 1 [ar s 1 0/2] x s)
 else if i.op=50 then some (λx s=>laysR 1 [bits .xor .i64 (-1) (ar s 1 0)] x s)
 else if i.op=63 then some (λx s=>laysR 1 [flagS (ar s 1 0==0)] x s)
 else if i.op=64 then some (λx s=>laysR 1 [signS (ar s 1 0)] x s)
 else if i.op=41 then some (λx s=>laysR 2 [min (ar s 2 0) (ar s 2 1)] x s)
 else if i.op=42 then some (λx s=>laysR 2 [max (ar s 2 0) (ar s 2 1)] x s)
 else if i.op=47 then some (λx s=>laysR 2 [bits .and .i64 (ar s 2 0) (ar s 2 1)] x s)
 else if i.op=48 then some (λx s=>laysR 2 [bits .or .i64 (ar s 2 0) (ar s 2 1)] x s)
 else if i.op=49 then some (λx s=>laysR 2 [bits .xor .i64 (ar s 2 0) (ar s 2 1)] x s)
 else if i.op=51 then some (λx s=>laysR 2 [shlS (ar s 2 0) (ar s 2 1)] x s)
 else if i.op=52 then some (λx s=>laysR 2 [shrS (ar s 2 0) (ar s 2 1)] x s)
 else if i.op=58 then some (λx s=>laysR 2 [flagS ((ar s 2 0) == (ar s 2 1))] x s)
 else if i.op=59 then some (λx s=>laysR 2 [flagS ((ar s 2 0) != (ar s 2 1))] x s)
 else if i.op=60 then some (λx s=>laysR 2 [flagS (decide ((ar s 2 0) < (ar s 2 1)))] x s)
 else if i.op=61 then some (λx s=>laysR 2 [flagS (decide ((ar s 2 1) < (ar s 2 0)))] x s)
 else if i.op=62 then some (λx s=>laysR 2 [flagS (decide (IntKind.u64.wrap (ar s 2 0) <IntKind.u64.wrap (ar s 2 1)))] x s)
 else none
theorem lays_len{i:Inst}{x:Rn}{s:Mt}(h:Asked i x s)(h26:i.op≠26)(n m:Nat)(h1: (Code.wants i.op).1=n)(h2: (Code.wants i.op).2=m):m<=s.pd.rm- (s.d-n):=by
 have h3:=h.room
 have h4:=h.tk
 rw[if_neg (by rintro⟨h,_⟩;exact h26 h)]at h3
 omega
theorem lays_ok{s:Mt}{n:Nat}{l:List Int}(hs:s.Ok)(hn:n<=s.d)(hroom:l.length<=s.pd.rm- (s.d-n)): (s.lays n l).2.Ok:=by
 unfold Mt.lays
 rw[if_neg (by omega)]
 exact pushD_ok (cutD_ok hs (s.d-n) (by omega)) l hroom
def Keeps(i:Inst)(q:Rn->Mt->Rs):Prop:= ∀x s,s.Ok->x.Ok->V64 i.arg->V64 i.lit->Asked i x s->(q x s).s.Ok∧(q x s).x.Ok∧(q x s).s.tells=s.tells∧(q x s).x.left=x.left∧(q x s).s.seen=s.seen
theorem keeps_lays(i:Inst)(l:Mt->List Int)(n:Nat)(hn: (Code.wants i.op).1=n)(hl: ∀x s,Asked i x s->(l s).length<=s.pd.rm- (s.d-n)):Keeps i (λx s=>laysR n (l s) x s):=by
 intro x s hs hx hv1 hv2 ha
 have h1:=ha.tk
 refine⟨lays_ok hs (by omega) (hl x s ha),hx,?_,rfl,?_⟩
 ·show((s.lays n (l s)).2).tells=s.tells
  unfold Mt.lays
  split<;>rfl
 ·show((s.lays n (l s)).2).seen=s.seen
  unfold Mt.lays
  split<;>rfl
theorem keeps_back(arg lit cells:Int):Keeps ⟨1,arg,lit,cells⟩ back:=by
 intro x s hs hx hv1 hv2 ha
 unfold back
 split
 ·exact⟨hs,hx,rfl,rfl,rfl⟩
 ·exact⟨⟨hs.pd,hs.pr,hs.d,by have:=hs.r;show s.r-1<=s.pr.rm;omega,hs.du,hs.dv,hs.ru,hs.rv⟩,⟨hx.base,hx.base2,stopv_v64 _ _ _ _,hx.pc,hx.left,hx.left2⟩,rfl,rfl,rfl⟩
theorem keeps_lit(arg lit cells:Int):Keeps ⟨2,arg,lit,cells⟩ (laysR 0 [lit]):=keeps_lays _ (λ_=>[lit]) 0 dd λx s ha=>lays_len ha dd 0 1 dd dd
theorem turn_f(n:Int)(e:Bool)(a:Int)(x:Rn)(s:Mt): (turn n e a x s).f=0:=by unfold turn;split<;>rfl
theorem lays_same(s:Mt)(n:Nat)(l:List Int): (s.lays n l).2.tells=s.tells∧(s.lays n l).2.seen=s.seen∧(s.lays n l).2.r=s.r∧(s.lays n l).2.pr=s.pr:=by
 unfold Mt.lays
 split<;>exact⟨rfl,rfl,rfl,rfl⟩
theorem asked_room{i:Inst}{x:Rn}{s:Mt}(h:Asked i x s)(k:Nat)(e:returns i.op i.arg s.same= (0,(k:Int))):k<=s.pr.rm-s.r:=by
 have h1:=h.rroom
 simp only[e]at h1
 omega
theorem qdo_f(arg:Int)(x:Rn)(s:Mt): (if ar s 2 0=ar s 2 1 then(⟨0,{ x with next:=arg },(s.lays 2 []).2⟩:Rs)else⟨0,x,((s.lays 2 []).2).pushR (s.args 2)⟩).f=0:=by split<;>rfl
theorem keeps_jump(arg lit cells:Int):Keeps ⟨4,arg,lit,cells⟩ (λx s=>⟨0,{ x with next:=arg },s⟩):=λx s hs hx hv1 hv2 ha=>⟨hs,⟨hx.base,hx.base2,hv1,hx.pc,hx.left,hx.left2⟩,rfl,rfl,rfl⟩
theorem keeps_call(arg lit cells:Int):Keeps ⟨3,arg,lit,cells⟩ (λx s=>⟨0,{ x with next:=arg },s.pushR [x.next]⟩):=λx s hs hx hv1 hv2 ha=>⟨pushR_ok hs [x.next] (asked_room ha 1 rfl),⟨hx.base,hx.base2,hv1,hx.pc,hx.left,hx.left2⟩,rfl,rfl,rfl⟩
theorem keeps_zero(arg lit cells:Int):Keeps ⟨5,arg,lit,cells⟩ (λx s=>⟨0,if ar s 1 0=0 then { x with next:=arg } else x,(s.lays 1 []).2⟩):=by
 intro x s hs hx hv1 hv2 ha
 refine⟨lays_nil_ok 1 hs,?_,(lays_same s 1 []).1,?_,(lays_same s 1 []).2.1⟩
 ·show(if ar s 1 0=0 then({ x with next:=arg }:Rn)else x).Ok
  split
  ·exact⟨hx.base,hx.base2,hv1,hx.pc,hx.left,hx.left2⟩
  ·exact hx
 ·show(if ar s 1 0=0 then({ x with next:=arg }:Rn)else x).left=x.left
  split<;>rfl
theorem keeps_execute(arg lit cells:Int):Keeps ⟨16,arg,lit,cells⟩ (λx s=>⟨0,{ x with next:=ar s 1 0 },((s.pushR [x.next]).lays 1 []).2⟩):=λx s hs hx hv1 hv2 ha=>
 ⟨lays_nil_ok 1 (pushR_ok hs [x.next] (asked_room ha 1 rfl)),⟨hx.base,hx.base2,ar_v64 s 1 0,hx.pc,hx.left,hx.left2⟩,(lays_same _ 1 []).1,rfl,(lays_same _ 1 []).2.1⟩
theorem keeps_special(arg lit cells:Int):Keeps ⟨20,arg,lit,cells⟩ (λx s=>⟨16,x,s⟩):=λx s hs hx hv1 hv2 ha=>⟨hs,hx,rfl,rfl,rfl⟩
theorem push_args_ok{s:Mt}(n:Nat)(hs:s.Ok)(h:n<=s.pr.rm-s.r): (((s.lays n []).2).pushR (s.args n)).Ok:=
 pushR_ok (lays_nil_ok n hs) _ (by rw[args_len,(lays_same s n []).2.2.1,(lays_same s n []).2.2.2];exact h)
theorem keeps_do(arg lit cells:Int):Keeps ⟨6,arg,lit,cells⟩ (λx s=>⟨0,x,((s.lays 2 []).2).pushR (s.args 2)⟩):=λx s hs hx hv1 hv2 ha=>⟨push_args_ok 2 hs (asked_room ha 2 rfl),hx,(lays_same s 2 []).1,rfl,(lays_same s 2 []).2.1⟩
theorem keeps_tor(arg lit cells:Int):Keeps ⟨13,arg,lit,cells⟩ (λx s=>⟨0,x,((s.lays 1 []).2).pushR (s.args 1)⟩):=λx s hs hx hv1 hv2 ha=>⟨push_args_ok 1 hs (asked_room ha 1 rfl),hx,(lays_same s 1 []).1,rfl,(lays_same s 1 []).2.1⟩
theorem keeps_qdo(arg lit cells:Int):Keeps ⟨7,arg,lit,cells⟩ (λx s=>if ar s 2 0=ar s 2 1 then⟨0,{ x with next:=arg },(s.lays 2 []).2⟩else⟨0,x,((s.lays 2 []).2).pushR (s.args 2)⟩):=by
 intro x s hs hx hv1 hv2 ha
 dsimp only
 split
 ·exact⟨lays_nil_ok 2 hs,⟨hx.base,hx.base2,hv1,hx.pc,hx.left,hx.left2⟩,(lays_same s 2 []).1,rfl,(lays_same s 2 []).2.1⟩
 ·rename_i hne
  refine⟨push_args_ok 2 hs (asked_room ha 2 ?_),hx,(lays_same s 2 []).1,rfl,(lays_same s 2 []).2.1⟩
  have h2:s.same=false:=by
   unfold Mt.same
   rw[(ar20 s).1,(ar20 s).2]at hne
   simpa using λh=>hne h.symm
  rw[h2]
  rfl
theorem turn_keeps{x:Rn}{s:Mt}(n:Int)(e:Bool)(a:Int)(ha:V64 a)(hs:s.Ok)(hx:x.Ok): (turn n e a x s).s.Ok∧(turn n e a x s).x.Ok∧(turn n e a x s).s.tells=s.tells∧(turn n e a x s).x.left=x.left∧(turn n e a x s).s.seen=s.seen:=by
 unfold turn
 split
 ·exact⟨cutR_ok hs _ (by omega),hx,rfl,rfl,rfl⟩
 ·exact⟨pokeR_ok hs _ _,⟨hx.base,hx.base2,ha,hx.pc,hx.left,hx.left2⟩,rfl,rfl,rfl⟩
theorem keeps_loop(arg lit cells:Int):Keeps ⟨8,arg,lit,cells⟩ (λx s=>turn (wrap64 (s.rtop 0+1)) (wrap64 (s.rtop 0+1) ==s.rtop 1) arg x s):=λx s hs hx hv1 hv2 ha=>turn_keeps _ _ _ hv1 hs hx
theorem keeps_ploop(arg lit cells:Int):Keeps ⟨9,arg,lit,cells⟩ (λx s=>turn (wrap64 (s.rtop 0+ar s 1 0)) (plEnds (s.rtop 0) (s.rtop 1) (ar s 1 0)) arg x (s.lays 1 []).2):=λx s hs hx hv1 hv2 ha=>by
 obtain⟨h1,h2,h3,h4,h5⟩:=turn_keeps (wrap64 (s.rtop 0+ar s 1 0)) (plEnds (s.rtop 0) (s.rtop 1) (ar s 1 0)) arg hv1 (lays_nil_ok 1 hs) hx
 exact⟨h1,h2,h3.trans (lays_same s 1 []).1,h4,h5.trans (lays_same s 1 []).2.1⟩
theorem keeps_unloop(arg lit cells:Int):Keeps ⟨10,arg,lit,cells⟩ (λx s=>⟨0,x,s.cutR (s.r-2)⟩):=λx s hs hx hv1 hv2 ha=>⟨cutR_ok hs _ (by omega),hx,rfl,rfl,rfl⟩
theorem lays_eq{x:Rn}{s:Mt}{n:Nat}{l:List Int}(hroom:l.length<=s.pd.rm- (s.d-n)):laysR n l x s= ⟨0,x,(s.lays n l).2⟩:=by
 unfold laysR
 rw[lays_f hroom]
theorem keeps_i(arg lit cells:Int):Keeps ⟨11,arg,lit,cells⟩ (λx s=>⟨0,x,(s.lays 0 [s.rtop 0]).2⟩):=λx s hs hx hv1 hv2 ha=>⟨lays_ok hs (Nat.zero_le _) (lays_len ha dd 0 1 dd dd),hx,(lays_same s 0 _).1,rfl,(lays_same s 0 _).2.1⟩
theorem keeps_j(arg lit cells:Int):Keeps ⟨12,arg,lit,cells⟩ (λx s=>⟨0,x,(s.lays 0 [s.rtop 2]).2⟩):=λx s hs hx hv1 hv2 ha=>⟨lays_ok hs (Nat.zero_le _) (lays_len ha dd 0 1 dd dd),hx,(lays_same s 0 _).1,rfl,(lays_same s 0 _).2.1⟩
theorem keeps_rfetch(arg lit cells:Int):Keeps ⟨15,arg,lit,cells⟩ (λx s=>⟨0,x,(s.lays 0 [s.rtop 0]).2⟩):=λx s hs hx hv1 hv2 ha=>⟨lays_ok hs (Nat.zero_le _) (lays_len ha dd 0 1 dd dd),hx,(lays_same s 0 _).1,rfl,(lays_same s 0 _).2.1⟩
theorem keeps_fromr(arg lit cells:Int):Keeps ⟨14,arg,lit,cells⟩ (λx s=>⟨0,x,((s.cutR (s.r-1)).lays 0 [s.rtop 0]).2⟩):=λx s hs hx hv1 hv2 ha=>⟨lays_ok (cutR_ok hs _ (by omega)) (Nat.zero_le _) (lays_len ha dd 0 1 dd dd),hx,(lays_same (s.cutR (s.r-1)) 0 _).1,rfl,(lays_same (s.cutR (s.r-1)) 0 _).2.1⟩
theorem qdup_len{arg lit cells:Int}{x:Rn}{s:Mt}(ha:Asked ⟨26,arg,lit,cells⟩ x s): (qdupL (ar s 1 0)).length<=s.pd.rm- (s.d-1):=by
 have h1:=ha.room
 have h2:=ha.tk
 have e1: (Code.wants 26).1=1:=by decide
 have e2: (Code.wants 26).2=2:=by decide
 have e3:ar s 1 0=s.top 0:=rfl
 simp only[e1,e2,true_and]at h1 h2
 unfold qdupL
 rw[e3]
 split
 ·rename_i h
  rw[if_pos h]at h1
  show 1<=_
  omega
 ·rename_i h
  rw[if_neg h]at h1
  show 2<=_
  omega
theorem keeps_laid{i:Inst}{q:Rn->Mt->Rs×List Int}{n m:Nat}(hn: (Code.wants i.op).1=n)(hl:LaysOk i q)(hm:Mild q m):Keeps i (λx s=>Rs.laid n (q x s)):=by
 intro x s hs hx hv1 hv2 ha
 obtain⟨h1,h2,h3,h4,h5,h6,h7,h8⟩:=hm x s hs hx
 have h9:=ha.tk
 have hl':=hl x s hs hx ha
 unfold Rs.laid
 by_cases hf: (q x s).1.f=0
 ·simp only[if_pos hf]
  obtain⟨_,_,k3,_⟩:=hl' hf
  have e: (Code.wants i.op).1.toNat=n:=by omega
  rw[e]at k3
  refine⟨lays_ok h1 (by rw[h2];omega) (by rw[h2];exact k3),by show(q x s).1.x.Ok;rw[h6];exact hx,?_,by show(q x s).1.x.left=_;rw[h6],?_⟩
  ·show(((q x s).1.s).lays n _).2.tells=_
   rw[(lays_same _ n _).1,h7]
  ·show(((q x s).1.s).lays n _).2.seen=_
   rw[(lays_same _ n _).2.1,h8]
 ·simp only[if_neg hf]
  exact⟨h1,by rw[h6];exact hx,h7,by rw[h6],h8⟩
theorem vv{p:Prop}(h:p:=by first|exact wrap_v64 _|exact ar_v64 _ _ _|exact flag_v64 _|exact and_v64 _ _|exact or_v64 _ _|exact xor_v64 _ _|exact shl_v64 _ _|exact shr_v64 _ _|exact abs_v64 (ar_v64 _ _ _) |exact half_v64 (ar_v64 _ _ _) |exact signS_v64 (ar_v64 _ _ _) |exact min_v64 (ar_v64 _ _ _) (ar_v64 _ _ _) |exact max_v64 (ar_v64 _ _ _) (ar_v64 _ _ _) |exact utLo_v64 _ _|exact utHi_v64 _ _|exact tHi_v64 _ _):p:=h
theorem parts_ok(i:Inst)(q:Rn->Mt->Rs)(hq:parts i=some q):DoesOk i q∧Keeps i q:=by
 obtain⟨op,arg,lit,cells⟩:=i
 unfold parts at hq
 simp only at hq
 revert hq
 apply eli
 ·rintro rfl
  exact⟨does_control _ _ dd (ctl_exit arg lit cells),keeps_back arg lit cells⟩
 apply eli
 ·rintro rfl
  exact⟨does_control _ _ dd (ctl_lit arg lit cells),keeps_lit arg lit cells⟩
 apply eli
 ·rintro rfl
  exact⟨does_control _ _ dd (ctl_call arg lit cells),keeps_call arg lit cells⟩
 apply eli
 ·rintro rfl
  exact⟨does_control _ _ dd (ctl_jump arg lit cells),keeps_jump arg lit cells⟩
 apply eli
 ·rintro rfl
  exact⟨does_control _ _ dd (ctl_zero arg lit cells),keeps_zero arg lit cells⟩
 apply eli
 ·rintro rfl
  exact⟨does_control _ _ dd (ctl_loops 6 arg lit cells _ (by decide) (by decide) (λ_ _=>rfl) (lp_all _ arg lit cells _ (.inl ⟨.inl rfl,rfl⟩))),keeps_do arg lit cells⟩
 apply eli
 ·rintro rfl
  exact⟨does_control _ _ dd (ctl_loops 7 arg lit cells _ (by decide) (by decide) (λ_ _=>qdo_f _ _ _) (lp_all _ arg lit cells _ (.inr (.inl ⟨rfl,rfl⟩)))),keeps_qdo arg lit cells⟩
 apply eli
 ·rintro rfl
  exact⟨does_control _ _ dd (ctl_loops 8 arg lit cells _ (by decide) (by decide) (λ_ _=>turn_f _ _ _ _ _) (lp_all _ arg lit cells _ (.inr (.inr (.inl ⟨rfl,rfl⟩))))),keeps_loop arg lit cells⟩
 apply eli
 ·rintro rfl
  exact⟨does_control _ _ dd (ctl_loops 9 arg lit cells _ (by decide) (by decide) (λ_ _=>turn_f _ _ _ _ _) (lp_all _ arg lit cells _ (.inr (.inr (.inr (.inl ⟨rfl,rfl⟩)))))),keeps_ploop arg lit cells⟩
 apply eli
 ·rintro rfl
  exact⟨does_control _ _ dd (ctl_loops 10 arg lit cells _ (by decide) (by decide) (λ_ _=>rfl) (lp_all _ arg lit cells _ (.inr (.inr (.inr (.inr (.inl ⟨rfl,rfl⟩))))))),keeps_unloop arg lit cells⟩
 apply eli
 ·rintro rfl
  exact⟨does_control _ _ dd (ctl_loops 13 arg lit cells _ (by decide) (by decide) (λ_ _=>rfl) (lp_all _ arg lit cells _ (.inl ⟨.inr rfl,rfl⟩))),keeps_tor arg lit cells⟩
 apply eli
 ·rintro rfl
  exact⟨does_control _ _ dd (ctl_execute arg lit cells),keeps_execute arg lit cells⟩
 apply eli
 ·rintro rfl
  exact⟨does_control _ _ dd (ctl_special arg lit cells),keeps_special arg lit cells⟩
 apply eli
 ·rintro rfl
  refine⟨does_moved _ (λs=>[ar s 1 0,ar s 1 0]) dd dd (m_dup arg lit cells) λx s hs ha=>⟨lays_len ha dd 1 2 dd dd,λv hv=>by
   simp only[List.mem_cons,List.mem_nil_iff,or_false]at hv
   rcases hv with rfl|rfl<;>first|exact ar_v64 _ _ _|exact wrap_v64 _⟩,keeps_lays _ (λs=>[ar s 1 0,ar s 1 0]) 1 dd λx s ha=>lays_len ha dd 1 2 dd dd⟩
 apply eli
 ·rintro rfl
  refine⟨does_moved _ (λs=>[]) dd dd (m_drop arg lit cells) λx s hs ha=>⟨Nat.zero_le _,λv hv=>by simp at hv⟩,keeps_lays _ (λs=>[]) 1 dd λx s ha=>Nat.zero_le _⟩
 apply eli
 ·rintro rfl
  refine⟨does_moved _ (λs=>[ar s 2 1,ar s 2 0]) dd dd (m_swap arg lit cells) λx s hs ha=>⟨lays_len ha dd 2 2 dd dd,λv hv=>by
   simp only[List.mem_cons,List.mem_nil_iff,or_false]at hv
   rcases hv with rfl|rfl<;>first|exact ar_v64 _ _ _|exact wrap_v64 _⟩,keeps_lays _ (λs=>[ar s 2 1,ar s 2 0]) 2 dd λx s ha=>lays_len ha dd 2 2 dd dd⟩
 apply eli
 ·rintro rfl
  refine⟨does_moved _ (λs=>[ar s 2 0,ar s 2 1,ar s 2 0]) dd dd (m_over arg lit cells) λx s hs ha=>⟨lays_len ha dd 2 3 dd dd,λv hv=>by
   simp only[List.mem_cons,List.mem_nil_iff,or_false]at hv
   rcases hv with rfl|rfl|rfl<;>first|exact ar_v64 _ _ _|exact wrap_v64 _⟩,keeps_lays _ (λs=>[ar s 2 0,ar s 2 1,ar s 2 0]) 2 dd λx s ha=>lays_len ha dd 2 3 dd dd⟩
 apply eli
 ·rintro rfl
  refine⟨does_reckoned _ (λs=>[wrap64 (ar s 2 0+ar s 2 1)]) dd dd (g_pair 31 arg lit cells rfl rfl rfl rfl rfl rfl rfl rfl rfl rfl dd _ pair_add) λx s hs ha=>⟨lays_len ha dd 2 1 dd dd,λv hv=>by
   rw[List.mem_singleton.1 hv]
   exact vv⟩,keeps_lays _ (λs=>[wrap64 (ar s 2 0+ar s 2 1)]) 2 dd λx s ha=>lays_len ha dd 2 1 dd dd⟩
 apply eli
 ·rintro rfl
  refine⟨does_reckoned _ (λs=>[wrap64 (ar s 2 0-ar s 2 1)]) dd dd (g_pair 32 arg lit cells rfl rfl rfl rfl rfl rfl rfl rfl rfl rfl dd _ pair_sub) λx s hs ha=>⟨lays_len ha dd 2 1 dd dd,λv hv=>by
   rw[List.mem_singleton.1 hv]
   exact vv⟩,keeps_lays _ (λs=>[wrap64 (ar s 2 0-ar s 2 1)]) 2 dd λx s ha=>lays_len ha dd 2 1 dd dd⟩
 apply eli
 ·rintro rfl
  refine⟨does_reckoned _ (λs=>[wrap64 (ar s 2 0*ar s 2 1)]) dd dd (g_pair 33 arg lit cells rfl rfl rfl rfl rfl rfl rfl rfl rfl rfl dd _ pair_mul) λx s hs ha=>⟨lays_len ha dd 2 1 dd dd,λv hv=>by
   rw[List.mem_singleton.1 hv]
   exact vv⟩,keeps_lays _ (λs=>[wrap64 (ar s 2 0*ar s 2 1)]) 2 dd λx s ha=>lays_len ha dd 2 1 dd dd⟩
 apply eli
 ·rintro rfl
  refine⟨does_reckoned _ (λs=>[wrap64 (-ar s 1 0)]) dd dd (g_alone 39 arg lit cells rfl rfl rfl rfl rfl rfl rfl rfl rfl rfl dd _ alone_neg) λx s hs ha=>⟨lays_len ha dd 1 1 dd dd,λv hv=>by
   rw[List.mem_singleton.1 hv]
   exact vv⟩,keeps_lays _ (λs=>[wrap64 (-ar s 1 0)]) 1 dd λx s ha=>lays_len ha dd 1 1 dd dd⟩
 apply eli
 ·rintro rfl
  refine⟨does_reckoned _ (λs=>[wrap64 (ar s 1 0+1)]) dd dd (g_alone 43 arg lit cells rfl rfl rfl rfl rfl rfl rfl rfl rfl rfl dd _ alone_inc) λx s hs ha=>⟨lays_len ha dd 1 1 dd dd,λv hv=>by
   rw[List.mem_singleton.1 hv]
   exact vv⟩,keeps_lays _ (λs=>[wrap64 (ar s 1 0+1)]) 1 dd λx s ha=>lays_len ha dd 1 1 dd dd⟩
 apply eli
 ·rintro rfl
  refine⟨does_reckoned _ (λs=>[wrap64 (ar s 1 0-1)]) dd dd (g_alone 44 arg lit cells rfl rfl rfl rfl rfl rfl rfl rfl rfl rfl dd _ alone_dec) λx s hs ha=>⟨lays_len ha dd 1 1 dd dd,λv hv=>by
   rw[List.mem_singleton.1 hv]
   exact vv⟩,keeps_lays _ (λs=>[wrap64 (ar s 1 0-1)]) 1 dd λx s ha=>lays_len ha dd 1 1 dd dd⟩
 apply eli
 ·rintro rfl
  exact⟨does_control _ _ dd (ctl_loops 11 arg lit cells _ (by decide) (by decide) (λ_ _=>rfl) (PartOk.congr (lp_all _ arg lit cells _ (.inr (.inr (.inr (.inr (.inr (.inl ⟨.inl rfl,rfl⟩))))))) λx s hs hx ha=>lays_eq (lays_len ha dd 0 1 dd dd))),keeps_i arg lit cells⟩
 apply eli
 ·rintro rfl
  exact⟨does_control _ _ dd (ctl_loops 12 arg lit cells _ (by decide) (by decide) (λ_ _=>rfl) (PartOk.congr (lp_all _ arg lit cells _ (.inr (.inr (.inr (.inr (.inr (.inr (.inl ⟨rfl,rfl⟩)))))))) λx s hs hx ha=>lays_eq (lays_len ha dd 0 1 dd dd))),keeps_j arg lit cells⟩
 apply eli
 ·rintro rfl
  exact⟨does_control _ _ dd (ctl_loops 14 arg lit cells _ (by decide) (by decide) (λ_ _=>rfl) (PartOk.congr (lp_all _ arg lit cells _ (.inr (.inr (.inr (.inr (.inr (.inr (.inr (⟨rfl,rfl⟩))))))))) λx s hs hx ha=>lays_eq (lays_len ha dd 0 1 dd dd))),keeps_fromr arg lit cells⟩
 apply eli
 ·rintro rfl
  exact⟨does_control _ _ dd (ctl_loops 15 arg lit cells _ (by decide) (by decide) (λ_ _=>rfl) (PartOk.congr (lp_all _ arg lit cells _ (.inr (.inr (.inr (.inr (.inr (.inl ⟨.inr rfl,rfl⟩))))))) λx s hs hx ha=>lays_eq (lays_len ha dd 0 1 dd dd))),keeps_rfetch arg lit cells⟩
 apply eli
 ·rintro rfl
  refine⟨does_moved _ (λs=>[ar s 3 1,ar s 3 2,ar s 3 0]) dd dd (m_rot arg lit cells) λx s hs ha=>⟨lays_len ha dd 3 3 dd dd,λv hv=>by
   simp only[List.mem_cons,List.mem_nil_iff,or_false]at hv
   rcases hv with rfl|rfl|rfl<;>first|exact ar_v64 _ _ _|exact wrap_v64 _⟩,keeps_lays _ (λs=>[ar s 3 1,ar s 3 2,ar s 3 0]) 3 dd λx s ha=>lays_len ha dd 3 3 dd dd⟩
 apply eli
 ·rintro rfl
  exact⟨does_moved _ (λs=>qdupL (ar s 1 0)) dd dd (m_qdup arg lit cells) λx s hs ha=>⟨qdup_len ha,qdup_v64 (ar_v64 _ _ _)⟩,keeps_lays _ (λs=>qdupL (ar s 1 0)) 1 dd λx s ha=>qdup_len ha⟩
 apply eli
 ·rintro rfl
  refine⟨does_moved _ (λs=>[ar s 2 1]) dd dd (m_nip arg lit cells) λx s hs ha=>⟨lays_len ha dd 2 1 dd dd,λv hv=>by
   rw[List.mem_singleton.1 hv]
   exact vv⟩,keeps_lays _ (λs=>[ar s 2 1]) 2 dd λx s ha=>lays_len ha dd 2 1 dd dd⟩
 apply eli
 ·rintro rfl
  refine⟨does_moved _ (λs=>[ar s 2 1,ar s 2 0,ar s 2 1]) dd dd (m_tuck arg lit cells) λx s hs ha=>⟨lays_len ha dd 2 3 dd dd,λv hv=>by
   simp only[List.mem_cons,List.mem_nil_iff,or_false]at hv
   rcases hv with rfl|rfl|rfl<;>first|exact ar_v64 _ _ _|exact wrap_v64 _⟩,keeps_lays _ (λs=>[ar s 2 1,ar s 2 0,ar s 2 1]) 2 dd λx s ha=>lays_len ha dd 2 3 dd dd⟩
 apply eli
 ·rintro rfl
  have hm:Mild (λx s=>quoP 0 (decide (ar s 2 1=0)) (floQ (ar s 2 0) (ar s 2 1)) (floR (ar s 2 0) (ar s 2 1)) x s) 1:=(Mild.quo (λs=>floQ_v64 _ _) (λs=>floR_v64 (ar_v64 _ _ _) (ar_v64 _ _ _)))
  exact⟨does2_reckoned _ _ dd dd (y_div arg lit cells) (laysOk_of 2 dd dd (by dsimp only;decide) hm),keeps_laid dd (laysOk_of 2 dd dd (by dsimp only;decide) hm) hm⟩
 apply eli
 ·rintro rfl
  have hm:Mild (λx s=>quoP 1 (decide (ar s 2 1=0)) (floQ (ar s 2 0) (ar s 2 1)) (floR (ar s 2 0) (ar s 2 1)) x s) 1:=(Mild.quo (λs=>floQ_v64 _ _) (λs=>floR_v64 (ar_v64 _ _ _) (ar_v64 _ _ _)))
  exact⟨does2_reckoned _ _ dd dd (y_mod arg lit cells) (laysOk_of 2 dd dd (by dsimp only;decide) hm),keeps_laid dd (laysOk_of 2 dd dd (by dsimp only;decide) hm) hm⟩
 apply eli
 ·rintro rfl
  have hm:Mild (λx s=>quoP 2 (decide (ar s 2 1=0)) (floQ (ar s 2 0) (ar s 2 1)) (floR (ar s 2 0) (ar s 2 1)) x s) 2:=(Mild.quo (λs=>floQ_v64 _ _) (λs=>floR_v64 (ar_v64 _ _ _) (ar_v64 _ _ _)))
  exact⟨does2_reckoned _ _ dd dd (y_divmod arg lit cells) (laysOk_of 2 dd dd (by dsimp only;decide) hm),keeps_laid dd (laysOk_of 2 dd dd (by dsimp only;decide) hm) hm⟩
 apply eli
 ·rintro rfl
  have hm:Mild (λx s=>quoP 0 (fdOut (utLo (ar s 3 0) (ar s 3 1)) (tHi (ar s 3 0) (ar s 3 1)) (ar s 3 2)) (fdQ (utLo (ar s 3 0) (ar s 3 1)) (tHi (ar s 3 0) (ar s 3 1)) (ar s 3 2)) (fdR (utLo (ar s 3 0) (ar s 3 1)) (tHi (ar s 3 0) (ar s 3 1)) (ar s 3 2)) x s) 1:=(Mild.quo (λs=>fdQ_v64 _ _ _) (λs=>fdR_v64 _ _ _))
  exact⟨does2_reckoned _ _ dd dd (y_muldiv arg lit cells) (laysOk_of 3 dd dd (by dsimp only;decide) hm),keeps_laid dd (laysOk_of 3 dd dd (by dsimp only;decide) hm) hm⟩
 apply eli
 ·rintro rfl
  have hm:Mild (λx s=>quoP 2 (fdOut (utLo (ar s 3 0) (ar s 3 1)) (tHi (ar s 3 0) (ar s 3 1)) (ar s 3 2)) (fdQ (utLo (ar s 3 0) (ar s 3 1)) (tHi (ar s 3 0) (ar s 3 1)) (ar s 3 2)) (fdR (utLo (ar s 3 0) (ar s 3 1)) (tHi (ar s 3 0) (ar s 3 1)) (ar s 3 2)) x s) 2:=(Mild.quo (λs=>fdQ_v64 _ _ _) (λs=>fdR_v64 _ _ _))
  exact⟨does2_reckoned _ _ dd dd (y_muldivmod arg lit cells) (laysOk_of 3 dd dd (by dsimp only;decide) hm),keeps_laid dd (laysOk_of 3 dd dd (by dsimp only;decide) hm) hm⟩
 apply eli
 ·rintro rfl
  have hm:Mild (λx s=>((⟨0,x,s⟩,[utLo (ar s 2 0) (ar s 2 1),tHi (ar s 2 0) (ar s 2 1)]):Rs×List Int)) 2:=(Mild.pure (l:=λs=>[utLo (ar s 2 0) (ar s 2 1),tHi (ar s 2 0) (ar s 2 1)]) (f:=λ_=>0) (λs=>Nat.le_refl _) (λs hs v hv=>by
   simp only[List.mem_cons,List.mem_nil_iff,or_false]at hv
   rcases hv with rfl|rfl<;>exact vv))
  exact⟨does2_reckoned _ _ dd dd (g_mstar arg lit cells).toR (laysOk_of 2 dd dd (by dsimp only;decide) hm),keeps_laid dd (laysOk_of 2 dd dd (by dsimp only;decide) hm) hm⟩
 apply eli
 ·rintro rfl
  have hm:Mild (λx s=>((⟨0,x,s⟩,[utLo (ar s 2 0) (ar s 2 1),utHi (ar s 2 0) (ar s 2 1)]):Rs×List Int)) 2:=(Mild.pure (l:=λs=>[utLo (ar s 2 0) (ar s 2 1),utHi (ar s 2 0) (ar s 2 1)]) (f:=λ_=>0) (λs=>Nat.le_refl _) (λs hs v hv=>by
   simp only[List.mem_cons,List.mem_nil_iff,or_false]at hv
   rcases hv with rfl|rfl<;>exact vv))
  exact⟨does2_reckoned _ _ dd dd (g_umstar arg lit cells).toR (laysOk_of 2 dd dd (by dsimp only;decide) hm),keeps_laid dd (laysOk_of 2 dd dd (by dsimp only;decide) hm) hm⟩
 apply eli
 ·rintro rfl
  have hm:Mild (λx s=>quoP 2 (udOut (ar s 3 1) (ar s 3 2)) (udQ (ar s 3 0) (ar s 3 1) (ar s 3 2)) (udR (ar s 3 0) (ar s 3 1) (ar s 3 2)) x s) 2:=(Mild.quo (λs=>udQ_v64 _ _ _) (λs=>udR_v64 _ _ _))
  exact⟨does2_reckoned _ _ dd dd (y_ummod arg lit cells) (laysOk_of 3 dd dd (by dsimp only;decide) hm),keeps_laid dd (laysOk_of 3 dd dd (by dsimp only;decide) hm) hm⟩
 apply eli
 ·rintro rfl
  have hm:Mild (λx s=>quoP 2 (dvOut (ar s 3 0) (ar s 3 1) (ar s 3 2)) (dvQ (ar s 3 0) (ar s 3 1) (ar s 3 2)) (dvR (ar s 3 0) (ar s 3 1) (ar s 3 2)) x s) 2:=(Mild.quo (λs=>dvQ_v64 _ _ _) (λs=>dvR_v64 _ _ _))
  exact⟨does2_reckoned _ _ dd dd (y_smrem arg lit cells) (laysOk_of 3 dd dd (by dsimp only;decide) hm),keeps_laid dd (laysOk_of 3 dd dd (by dsimp only;decide) hm) hm⟩
 apply eli
 ·rintro rfl
  have hm:Mild (λx s=>quoP 2 (fdOut (ar s 3 0) (ar s 3 1) (ar s 3 2)) (fdQ (ar s 3 0) (ar s 3 1) (ar s 3 2)) (fdR (ar s 3 0) (ar s 3 1) (ar s 3 2)) x s) 2:=(Mild.quo (λs=>fdQ_v64 _ _ _) (λs=>fdR_v64 _ _ _))
  exact⟨does2_reckoned _ _ dd dd (y_fmmod arg lit cells) (laysOk_of 3 dd dd (by dsimp only;decide) hm),keeps_laid dd (laysOk_of 3 dd dd (by dsimp only;decide) hm) hm⟩
 apply eli
 ·rintro rfl
  have hm:Mild (λx s=>((⟨s.S.cellF x.mode (ar s 1 0) false,x,s⟩,[s.S.cellV x.mode (ar s 1 0)]):Rs×List Int)) 1:=(λx s hs hx=>⟨hs,rfl,rfl,Nat.le_refl 1,(λv hv=>by rw[List.mem_singleton.1 hv];exact cellV_v64 _ _ _),rfl,rfl,rfl⟩)
  exact⟨does2_memory _ _ dd dd (y_fetch arg lit cells) (laysOk_of 1 dd dd (by dsimp only;decide) hm),keeps_laid dd (laysOk_of 1 dd dd (by dsimp only;decide) hm) hm⟩
 apply eli
 ·rintro rfl
  have hm:Mild (λx s=>((⟨s.S.cellF x.mode (ar s 2 1) true,x,{ s with S:=s.S.setCell x.mode (ar s 2 1) (ar s 2 0) }⟩,[]):Rs×List Int)) 0:=(λx s hs hx=>⟨setCell_mt_ok hs _ _ _,rfl,rfl,Nat.le_refl 0,(λv hv=>by cases hv),rfl,rfl,rfl⟩)
  exact⟨does2_memory _ _ dd dd (y_store arg lit cells) (laysOk_of 2 dd dd (by dsimp only;decide) hm),keeps_laid dd (laysOk_of 2 dd dd (by dsimp only;decide) hm) hm⟩
 apply eli
 ·rintro rfl
  have hm:Mild (λx s=>((⟨0,x,s⟩,[wrap64 (s.S.beg 3:Int)]):Rs×List Int)) 1:=(Mild.pure (l:=λs=>[wrap64 (s.S.beg 3:Int)]) (f:=λ_=>0) (λs=>Nat.le_refl _) (λs hs v hv=>by
   rw[List.mem_singleton.1 hv]
   exact vv))
  exact⟨does2_lists _ _ dd dd (y_base arg lit cells).toR (laysOk_of 0 dd dd (by dsimp only;decide) hm),keeps_laid dd (laysOk_of 0 dd dd (by dsimp only;decide) hm) hm⟩
 apply eli
 ·rintro rfl
  refine⟨does_reckoned _ (λs=>[absS (ar s 1 0)]) dd dd (g_alone 40 arg lit cells rfl rfl rfl rfl rfl rfl rfl rfl rfl rfl dd _ alone_abs) λx s hs ha=>⟨lays_len ha dd 1 1 dd dd,λv hv=>by
   rw[List.mem_singleton.1 hv]
   exact vv⟩,keeps_lays _ (λs=>[absS (ar s 1 0)]) 1 dd λx s ha=>lays_len ha dd 1 1 dd dd⟩
 apply eli
 ·rintro rfl
  refine⟨does_reckoned _ (λs=>[wrap64 (ar s 1 0*2)]) dd dd (g_alone 45 arg lit cells rfl rfl rfl rfl rfl rfl rfl rfl rfl rfl dd _ alone_twice) λx s hs ha=>⟨lays_len ha dd 1 1 dd dd,λv hv=>by
   rw[List.mem_singleton.1 hv]
   exact vv⟩,keeps_lays _ (λs=>[wrap64 (ar s 1 0*2)]) 1 dd λx s ha=>lays_len ha dd 1 1 dd dd⟩
 apply eli
 ·rintro rfl
  refine⟨does_reckoned _ (λs=>[ar s 1 0/2]) dd dd (g_alone 46 arg lit cells rfl rfl rfl rfl rfl rfl rfl rfl rfl rfl dd _ alone_half) λx s hs ha=>⟨lays_len ha dd 1 1 dd dd,λv hv=>by
   rw[List.mem_singleton.1 hv]
   exact vv⟩,keeps_lays _ (λs=>[ar s 1 0/2]) 1 dd λx s ha=>lays_len ha dd 1 1 dd dd⟩
 apply eli
 ·rintro rfl
  refine⟨does_reckoned _ (λs=>[bits .xor .i64 (-1) (ar s 1 0)]) dd dd (g_alone 50 arg lit cells rfl rfl rfl rfl rfl rfl rfl rfl rfl rfl dd _ alone_invert) λx s hs ha=>⟨lays_len ha dd 1 1 dd dd,λv hv=>by
   rw[List.mem_singleton.1 hv]
   exact vv⟩,keeps_lays _ (λs=>[bits .xor .i64 (-1) (ar s 1 0)]) 1 dd λx s ha=>lays_len ha dd 1 1 dd dd⟩
 apply eli
 ·rintro rfl
  refine⟨does_reckoned _ (λs=>[flagS (ar s 1 0==0)]) dd dd (g_alone 63 arg lit cells rfl rfl rfl rfl rfl rfl rfl rfl rfl rfl dd _ alone_zeroeq) λx s hs ha=>⟨lays_len ha dd 1 1 dd dd,λv hv=>by
   rw[List.mem_singleton.1 hv]
   exact vv⟩,keeps_lays _ (λs=>[flagS (ar s 1 0==0)]) 1 dd λx s ha=>lays_len ha dd 1 1 dd dd⟩
 apply eli
 ·rintro rfl
  refine⟨does_reckoned _ (λs=>[signS (ar s 1 0)]) dd dd (g_alone 64 arg lit cells rfl rfl rfl rfl rfl rfl rfl rfl rfl rfl dd _ alone_zerolt) λx s hs ha=>⟨lays_len ha dd 1 1 dd dd,λv hv=>by
   rw[List.mem_singleton.1 hv]
   exact vv⟩,keeps_lays _ (λs=>[signS (ar s 1 0)]) 1 dd λx s ha=>lays_len ha dd 1 1 dd dd⟩
 apply eli
 ·rintro rfl
  refine⟨does_reckoned _ (λs=>[min (ar s 2 0) (ar s 2 1)]) dd dd (g_pair 41 arg lit cells rfl rfl rfl rfl rfl rfl rfl rfl rfl rfl dd _ pair_min) λx s hs ha=>⟨lays_len ha dd 2 1 dd dd,λv hv=>by
   rw[List.mem_singleton.1 hv]
   exact vv⟩,keeps_lays _ (λs=>[min (ar s 2 0) (ar s 2 1)]) 2 dd λx s ha=>lays_len ha dd 2 1 dd dd⟩
 apply eli
 ·rintro rfl
  refine⟨does_reckoned _ (λs=>[max (ar s 2 0) (ar s 2 1)]) dd dd (g_pair 42 arg lit cells rfl rfl rfl rfl rfl rfl rfl rfl rfl rfl dd _ pair_max) λx s hs ha=>⟨lays_len ha dd 2 1 dd dd,λv hv=>by
   rw[List.mem_singleton.1 hv]
   exact vv⟩,keeps_lays _ (λs=>[max (ar s 2 0) (ar s 2 1)]) 2 dd λx s ha=>lays_len ha dd 2 1 dd dd⟩
 apply eli
 ·rintro rfl
  refine⟨does_reckoned _ (λs=>[bits .and .i64 (ar s 2 0) (ar s 2 1)]) dd dd (g_pair 47 arg lit cells rfl rfl rfl rfl rfl rfl rfl rfl rfl rfl dd _ pair_and) λx s hs ha=>⟨lays_len ha dd 2 1 dd dd,λv hv=>by
   rw[List.mem_singleton.1 hv]
   exact vv⟩,keeps_lays _ (λs=>[bits .and .i64 (ar s 2 0) (ar s 2 1)]) 2 dd λx s ha=>lays_len ha dd 2 1 dd dd⟩
 apply eli
 ·rintro rfl
  refine⟨does_reckoned _ (λs=>[bits .or .i64 (ar s 2 0) (ar s 2 1)]) dd dd (g_pair 48 arg lit cells rfl rfl rfl rfl rfl rfl rfl rfl rfl rfl dd _ pair_or) λx s hs ha=>⟨lays_len ha dd 2 1 dd dd,λv hv=>by
   rw[List.mem_singleton.1 hv]
   exact vv⟩,keeps_lays _ (λs=>[bits .or .i64 (ar s 2 0) (ar s 2 1)]) 2 dd λx s ha=>lays_len ha dd 2 1 dd dd⟩
 apply eli
 ·rintro rfl
  refine⟨does_reckoned _ (λs=>[bits .xor .i64 (ar s 2 0) (ar s 2 1)]) dd dd (g_pair 49 arg lit cells rfl rfl rfl rfl rfl rfl rfl rfl rfl rfl dd _ pair_xor) λx s hs ha=>⟨lays_len ha dd 2 1 dd dd,λv hv=>by
   rw[List.mem_singleton.1 hv]
   exact vv⟩,keeps_lays _ (λs=>[bits .xor .i64 (ar s 2 0) (ar s 2 1)]) 2 dd λx s ha=>lays_len ha dd 2 1 dd dd⟩
 apply eli
 ·rintro rfl
  refine⟨does_reckoned _ (λs=>[shlS (ar s 2 0) (ar s 2 1)]) dd dd (g_pair 51 arg lit cells rfl rfl rfl rfl rfl rfl rfl rfl rfl rfl dd _ pair_shl) λx s hs ha=>⟨lays_len ha dd 2 1 dd dd,λv hv=>by
   rw[List.mem_singleton.1 hv]
   exact vv⟩,keeps_lays _ (λs=>[shlS (ar s 2 0) (ar s 2 1)]) 2 dd λx s ha=>lays_len ha dd 2 1 dd dd⟩
 apply eli
 ·rintro rfl
  refine⟨does_reckoned _ (λs=>[shrS (ar s 2 0) (ar s 2 1)]) dd dd (g_pair 52 arg lit cells rfl rfl rfl rfl rfl rfl rfl rfl rfl rfl dd _ pair_shr) λx s hs ha=>⟨lays_len ha dd 2 1 dd dd,λv hv=>by
   rw[List.mem_singleton.1 hv]
   exact vv⟩,keeps_lays _ (λs=>[shrS (ar s 2 0) (ar s 2 1)]) 2 dd λx s ha=>lays_len ha dd 2 1 dd dd⟩
 apply eli
 ·rintro rfl
  refine⟨does_reckoned _ (λs=>[flagS ((ar s 2 0) == (ar s 2 1))]) dd dd (g_pair 58 arg lit cells rfl rfl rfl rfl rfl rfl rfl rfl rfl rfl dd _ pair_eq) λx s hs ha=>⟨lays_len ha dd 2 1 dd dd,λv hv=>by
   rw[List.mem_singleton.1 hv]
   exact vv⟩,keeps_lays _ (λs=>[flagS ((ar s 2 0) == (ar s 2 1))]) 2 dd λx s ha=>lays_len ha dd 2 1 dd dd⟩
 apply eli
 ·rintro rfl
  refine⟨does_reckoned _ (λs=>[flagS ((ar s 2 0) != (ar s 2 1))]) dd dd (g_pair 59 arg lit cells rfl rfl rfl rfl rfl rfl rfl rfl rfl rfl dd _ pair_ne) λx s hs ha=>⟨lays_len ha dd 2 1 dd dd,λv hv=>by
   rw[List.mem_singleton.1 hv]
   exact vv⟩,keeps_lays _ (λs=>[flagS ((ar s 2 0) != (ar s 2 1))]) 2 dd λx s ha=>lays_len ha dd 2 1 dd dd⟩
 apply eli
 ·rintro rfl
  refine⟨does_reckoned _ (λs=>[flagS (decide ((ar s 2 0) < (ar s 2 1)))]) dd dd (g_pair 60 arg lit cells rfl rfl rfl rfl rfl rfl rfl rfl rfl rfl dd _ pair_lt) λx s hs ha=>⟨lays_len ha dd 2 1 dd dd,λv hv=>by
   rw[List.mem_singleton.1 hv]
   exact vv⟩,keeps_lays _ (λs=>[flagS (decide ((ar s 2 0) < (ar s 2 1)))]) 2 dd λx s ha=>lays_len ha dd 2 1 dd dd⟩
 apply eli
 ·rintro rfl
  refine⟨does_reckoned _ (λs=>[flagS (decide ((ar s 2 1) < (ar s 2 0)))]) dd dd (g_pair 61 arg lit cells rfl rfl rfl rfl rfl rfl rfl rfl rfl rfl dd _ pair_gt) λx s hs ha=>⟨lays_len ha dd 2 1 dd dd,λv hv=>by
   rw[List.mem_singleton.1 hv]
   exact vv⟩,keeps_lays _ (λs=>[flagS (decide ((ar s 2 1) < (ar s 2 0)))]) 2 dd λx s ha=>lays_len ha dd 2 1 dd dd⟩
 apply eli
 ·rintro rfl
  refine⟨does_reckoned _ (λs=>[flagS (decide (IntKind.u64.wrap (ar s 2 0) <IntKind.u64.wrap (ar s 2 1)))]) dd dd (g_pair 62 arg lit cells rfl rfl rfl rfl rfl rfl rfl rfl rfl rfl dd _ pair_ult) λx s hs ha=>⟨lays_len ha dd 2 1 dd dd,λv hv=>by
   rw[List.mem_singleton.1 hv]
   exact vv⟩,keeps_lays _ (λs=>[flagS (decide (IntKind.u64.wrap (ar s 2 0) <IntKind.u64.wrap (ar s 2 1)))]) 2 dd λx s ha=>lays_len ha dd 2 1 dd dd⟩
 intro hq
 cases hq
theorem told_ok{s:Mt}(hs:s.Ok)(x:Rn)(op:Int): (s.told x op).Ok:=by
 unfold Mt.told
 split
 ·exact⟨hs.pd,hs.pr,hs.d,hs.r,hs.du,hs.dv,hs.ru,hs.rv⟩
 ·exact hs
theorem fetch_v64(S:Img)(m a:Int):V64 (S.fetch m a).1.arg∧V64 (S.fetch m a).1.lit∧V64 (8* (S.fetch m a).1.cells):=by
 have h0:V64 0:=by unfold V64;omega
 have hv:=cellV_v64 S m a
 have hu:V64 (Code.unpack (S.cellV m a)).2.1∧(Code.unpack (S.cellV m a)).2.1<36028797018963968:=by
  unfold Code.unpack
  split
  ·rename_i h
   unfold Code.unArg V64 at *
   simp only
   refine⟨by omega,by omega⟩
  ·exact⟨h0,by simp⟩
 unfold Img.fetch Inst.none
 split
 ·exact⟨h0,h0,by unfold V64;simp⟩
 split
 ·exact⟨h0,h0,by unfold V64;simp⟩
 split
 ·split
  ·exact⟨h0,h0,by unfold V64;simp⟩
  ·exact⟨hu.1,cellV_v64 _ _ _,by unfold V64;simp⟩
 split
 ·split
  ·exact⟨h0,h0,by unfold V64;simp⟩
  ·rename_i h
   refine⟨hu.1,h0,?_⟩
   have h3:0<=(Code.unpack (S.cellV m a)).2.1:=by
    unfold Img.textF at h
    split at h
    ·simp at h
    ·omega
   have h4:=hu.2
   unfold V64
   simp only
   omega
 ·exact⟨hu.1,h0,by unfold V64;simp⟩
end Vm
open Go.RowKit Go.Lib Go.Deep
namespace Vm
theorem assert_fault(f:Int)(w:World): (Instr.typeAssert (.iface 44 (.int .i64 f)) 20 44 true).run prog w = .ok (.tuple #[f,.bool true]) w:=by
 simp[Instr.typeAssert,go_sem,run_underlying underlying44]
theorem catch_panicking(p:Addr)(v:Value)(f:Int)(w:World)(hc:w.cell? p=some v)(hz:w.frozen? p=false):
 CallsD prog 191 #[.pointer (some p)] (.panicking [flt f]) w λe u' w'=>
  e = .returned (.tuple #[])∧u' = .panicking [{ v:= .iface 44 (.int .i64 f),recovered:=true }]∧w'=w.setCell p (.int .i64 f):=by
 have hta:=assert_fault f w
 refine callsD_of_wpS func191 rfl λc₀ cs hu=> ?_
 apply wpS_seq
 apply wpS_region
 simp[wpOpsS,go_sem,recoverD,hu,flt,ntmps191,Exit.thenS]
 refine wpS_of_wp ?_
 simp only[Array.replicate_succ,Array.replicate_zero,List.push_toArray,List.append_toArray,List.nil_append,List.cons_append,List.setIfInBounds_toArray,List.set_cons_zero,List.set_cons_succ]
 go_wp2
 cases c₀
 simp_all[bodyPostS,results,results191]
theorem catch_idle(p:Addr)(w:World):
 CallsD prog 191 #[.pointer (some p)] .returning w λe u' w'=>e = .returned (.tuple #[])∧u' = .returning∧w'=w:=by
 refine callsD_of_wpS func191 rfl λc₀ cs hu=> ?_
 apply wpS_seq
 apply wpS_region
 simp[wpOpsS,go_sem,recoverD,hu,ntmps191,Exit.thenS]
 refine wpS_of_wp ?_
 simp only[Array.replicate_succ,Array.replicate_zero,List.push_toArray,List.append_toArray,List.nil_append,List.cons_append,List.setIfInBounds_toArray,List.set_cons_zero,List.set_cons_succ]
 go_wp2
 cases c₀
 simp_all[bodyPostS,results,results191]
theorem equalIn_nilFunc(d:Nat)(w:World): (Op.equalIn (d+1) 106 .nilFunc .nilFunc).run prog w = .ok true w:=by
 simp[Op.equalIn,run_underlying underlying106,go_sem]
theorem neq_nilFunc(w:World): (binOp .neq 106 .nilFunc .nilFunc).run prog w = .ok (.bool false) w:=by
 simp only[binOp]
 simp[go_sem,Op.equal,show Op.maxDepth=9999+1 from rfl,equalIn_nilFunc]
def NoPan(Q:Exit->Act->World->Prop):Exit->Act->World->Prop
 | .panic _,_,_=>False
 | e,a,w=>Q e a w
theorem NoPan.normal{Q:Exit->Act->World->Prop}{a:Act}{w:World}(h:Q .normal a w):NoPan Q .normal a w:=h
theorem wp_region_noPan{P:Program}{id:Nat}{ops:Array Oper}{b:Bool}{Q:Exit->Act->World->Prop}{a:Act}{w:World}(h: (Code.region id ops b).wp P (NoPan Q) a w): (Code.region id ops b).wp P Q a w:=
 wp_mono h λe a w h=>by cases e<;>first|exact h|exact(h:False).elim
section
variable {P:Program}{a:Act}{w:World}{Q:Exit->Act->World->Prop}
theorem wp_scope_ghost{c rest:Code}(l:Nat)(I:Nat->Act->World->Prop)(hf:findLabel c l=some (Code.skip.seq rest))
 (pass: ∀n a w,I n a w->rest.wp P (Exit.jump l (λa' w'=> ∃n',n'<n∧I n' a' w') Q) a w)
 (first: (∀n a w,I n a w->rest.wp P (Exit.jump l (λa w=> ∃n,I n a w) Q) a w)->c.wp P (Exit.jump l (λa w=> ∃n,I n a w) Q) a w): (Code.scope c).wp P Q a w:=by
 refine wp_scope_jumps l (λa w=> ∃n,I n a w) (λa w=>leastOf (λn=>I n a w)) hf (first λn a w h=>wp_mono (pass n a w h) ?_) ?_
 ·intro e a' w' hq
  cases e with
  | goto l'=>exact⟨hq.1,let⟨n',_,h⟩:=hq.2;⟨n',h⟩⟩
  | normal=>exact hq
  | exit id=>exact hq
  | ret=>exact hq
  | panic ch=>exact hq
  | outgrown=>exact hq
 ·intro a w h
  refine wp_mono (wp_seq (wp_skip (pass _ a w (leastOf_spec h).1))) ?_
  intro e a' w' hq
  cases e with
  | goto l'=>
    obtain⟨hl,n',hlt,hI⟩:=hq
    exact⟨hl,⟨n',hI⟩,Nat.lt_of_le_of_lt ((leastOf_spec ⟨n',hI⟩).2 n' hI) hlt⟩
  | normal=>exact hq
  | exit id=>exact hq
  | ret=>exact hq
  | panic ch=>exact hq
  | outgrown=>exact hq
end
section
variable {w w':World}{F:Nat->Prop}{c:Vc}{g:Nat}{x:Rn}{src:Value}{s:Mt}
theorem v_pushR_under(m:Nat){L:List Asr}(hm:m<=L.length)(hL:L.drop m=vL c g x src s)(h:On F w (AllA L) w')(hs:s.Ok)(l:List Int)(hl: ∀v∈l,V64 v)
 (j:Nat) (hj:j<m) (rb:Nat) (hrow:L[j]? = some (BlkA rb 3 (intsC l))) (hroom:l.length<=s.pr.rm-s.r):
 Calls prog 113 #[c.gR,.slice rb l.length l.length] w' (Got (.returned (.int .i64 0)) (AllA (L.take m++vL c g x src (s.pushR l))) F w):=by
 refine h.callDrop m hm λF' hb hdis _=> ?_
 rw[hL]at hb
 obtain⟨F3,hB,hfar⟩:=hdis j _ hj hrow
 obtain⟨h1,h2⟩:=carries_row rb l _ _ hB
 exact v_pushR (On.refl hb) hs l hl (some ⟨rb,0,none⟩) l.length h1 (λa ha=>⟨λhk=>hfar _ (h2 a ha) hk,by
  obtain rfl:a= ⟨rb,0,none⟩:=by injection ha with ha;exact ha.symm
  exact hB.1.lt⟩) hroom
def TellOk(c:Vc)(tells:Bool):Prop:=(tells=false∧c.tell = .nilFunc)∨False
def plL(c:Vc)(g fb:Nat)(i:Inst)(f:Int)(x:Rn)(src:Value)(s:Mt):List Asr:=BlkA (fb+1) 293 i.c::BlkA fb 44 #[f]::vL c g x src s
theorem door_ret(fb:Nat)(f:Int)(w wr:World)(F:Nat->Prop)(c:Vc)(g:Nat)(x:Rn)(src:Value)(s:Mt)(i:Inst)(h:On F w (AllA (plL c g fb i f x src s)) wr)(tm:Array Value)(h4:tm.getD 4 undef = .pointer fb):
 bodyPostD prog Tryz.f162 (Got (.returned f) (VA c g x src s) F w) Exit.ret { tmps:=tm,defers:=[{ target:= .fn (.func 191) #[fb],args:=#[] }] } wr:=by
 refine leaves_cons (f:=191) (args:=#[.pointer fb]) (by simp) (by simp[go_sem]) ?_
 refine(catch_idle ⟨fb,0,none⟩ wr).mono ?_
 rintro e u' w'' ⟨rfl,rfl,rfl⟩
 have c0:w''.cell? (fb,0)=some (f:Vl):=(h.blkAt 1 rfl).cell 0
 have h4':tm[4]?.getD undef = .pointer fb:=by simpa using h4
 refine⟨.int .i64 f,?_,rfl,h.tail.tail⟩
 simp[results,results162,go_sem,h4',c0]
theorem door_panic(fb:Nat)(f f0:Int)(w wr:World)(F:Nat->Prop)(c:Vc)(g:Nat)(x:Rn)(src:Value)(s:Mt)(i:Inst)(h:On F w (AllA (plL c g fb i f0 x src s)) wr)(tm:Array Value)(h4:tm.getD 4 undef = .pointer fb):
 bodyPostD prog Tryz.f162 (Got (.returned f) (VA c g x src s) F w) (Exit.panic [flt f]) { tmps:=tm,defers:=[{ target:= .fn (.func 191) #[fb],args:=#[] }] } wr:=by
 refine leaves_cons (f:=191) (args:=#[.pointer fb]) (by simp) (by simp[go_sem]) ?_
 have hb:=h.blkAt 1 rfl
 refine(catch_panicking ⟨fb,0,none⟩ (.int .i64 f0) f wr (hb.cell 0) (hb.frozen 0)).mono ?_
 rintro e u' w'' ⟨rfl,rfl,rfl⟩
 have h2:=h.setAt 1 rfl 0 (.int .i64 f)
 have c0: (wr.setCell (fb,0) (.int .i64 f)).cell? (fb,0)=some (f:Vl):=(h2.blkAt 1 rfl).cell 0
 have h4':tm[4]?.getD undef = .pointer fb:=by simpa using h4
 refine⟨.int .i64 f,?_,rfl,h2.tail.tail⟩
 simp[results,results162,go_sem,h4',c0]
end
end Vm
end Go.Proofs.YteaijdgnagkllaaGreatDoor
