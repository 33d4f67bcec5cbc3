/- Chapter 11. No condition. -/
import Derived.Test.YtilaogbkdbbdkaaGreatDoorZ24
import Derived.Test.YtilaogbkdbbdkaaGreatDoorZ19
open Go.Proofs.Tryz
namespace Go.Proofs.YtilaogbkdbbdkaaGreatDoor
set_option linter.unusedVariables false
set_option linter.unusedSimpArgs false
set_option maxHeartbeats 8000000
open Go.RowKit Go.Lib
namespace Vm
theorem Dg(a b n:Int):V64 (udQ a b n):=aU _
theorem C6(a b n:Int):V64 (udR a b n):=aU _
theorem De(a b n:Int):V64 (dvQ a b n):=by unfold dvQ zH;split;exact Dg _ _ _;exact aU _
theorem Cx(a b n:Int):V64 (dvR a b n):=by unfold dvR H3;split;exact aU _;exact C6 _ _ _
theorem vr(a b n:Int):V64 (fdQ a b n):=by unfold fdQ;split;exact aU _;exact De _ _ _
theorem vN(a b n:Int):V64 (fdR a b n):=by unfold fdR;split;exact aU _;exact Cx _ _ _
theorem Km(a b:Int):V64 (dI a b):=aU _
theorem J3(a b:Int):V64 (te a b):=aU _
theorem Lw(a b:Int):V64 (tHi a b):=aU _
def fv(q:Rn->Mt->Rs×List Int)(m:Nat):Prop:= ∀x s,s.Ok->x.Ok->(q x s).1.s.Ok∧(q x s).1.s.d=s.d∧(q x s).1.s.pd=s.pd∧(q x s).2.length<=m∧(∀v∈(q x s).2,V64 v)∧(q x s).1.x=x∧(q x s).1.s.au=s.au∧(q x s).1.s.seen=s.seen
theorem fv.pure{l:Mt->List Int}{m:Nat}{f:Mt->Int}(hl: ∀s,(l s).length<=m)(hv: ∀s,s.Ok->∀v∈l s,V64 v):fv (λx s=>(⟨f s,x,s⟩,l s)) m:=λx s hs hx=>⟨hs,rfl,rfl,hl s,hv s hs,rfl,rfl,rfl⟩
theorem GU(k:Nat)(q r:Int): (jP k q r).length<=if k<=1 then 1 else 2:=by
 unfold jP
 split
 ·rename_i h;subst h;exact Nat.le_refl 1
 split
 ·rename_i h;subst h;exact Nat.le_refl 1
 ·rw[if_neg oM];exact Nat.le_refl 2
theorem IG{k:Nat}{q r:Int}(hq:V64 q)(hr:V64 r): ∀v∈jP k q r,V64 v:=by
 unfold jP
 intro v hv
 split at hv
 ·rw[List.mem_singleton.1 hv];exact hq
 split at hv
 ·rw[List.mem_singleton.1 hv];exact hr
 ·simp only[List.mem_cons,List.mem_nil_iff,or_false]at hv
  rcases hv with rfl|rfl
  ·exact hr
  ·exact hq
theorem fv.quo{k:Nat}{o:Mt->Bool}{q r:Mt->Int}(hq: ∀s,V64 (q s))(hr: ∀s,V64 (r s)):fv (λx s=>ei k (o s) (q s) (r s) x s) (if k<=1 then 1 else 2):=
 λx s hs hx=>⟨hs,rfl,rfl,GU _ _ _,IG (hq s) (hr s),rfl,rfl,rfl⟩
theorem cH.toR{f:FuncId}{pre:Nat->Array Value}{i:aq}{l:Mt->List Int}(h:cH f pre i l):br f pre i (λx s=>(⟨0,x,s⟩,l s)):=
 λc g x src s ba w F hs hx IT hb=>(h c g x src s ba w F hs IT hb).mono λe w' h=>by
  rw[if_pos rfl]
  exact h
theorem aV{i:aq}{q:Rn->Mt->Rs×List Int}{m:Nat}(n:Nat)(hn: (Code.ai i.op).1=n)(hm: (Code.ai i.op).2=m)(Zw:i.op≠26)(h:fv q m):ou i q:=by
 intro x s hs hx ha hf
 obtain⟨h1,h2,h3,h4,h5,_⟩:=h x s hs hx
 refine⟨h1,h2,?_,h5⟩
 have h6:=ha.room
 have h7:=ha.tk
 rw[if_neg (by rintro⟨h,_⟩;exact Zw h)]at h6
 rw[h3]
 omega
theorem dj.congr{f:FuncId}{i:aq}{q q':Rn->Mt->Rs}(h:dj f i q)(e: ∀x s,s.Ok->x.Ok->cw i x s->q x s=q' x s):dj f i q':=by
 intro c g x src s ba w F hs hx RM Ry IT hb
 rw[<-e x s hs hx IT]
 exact h c g x src s ba w F hs hx RM Ry IT hb
theorem tq{s:Mt}(hs:s.Ok)(m a v:Int): ({ s with S:=s.S.setCell m a v }:Mt).Ok:=⟨hs.pd,hs.pr,hs.d,hs.r,hs.du,hs.dv,hs.ru,hs.rv⟩
theorem Jz{x:Int}(h:V64 x): ∀v∈mq x,V64 v:=by
 unfold mq
 intro v hv
 split at hv
 ·rw[List.mem_singleton.1 hv];exact h
 ·simp only[List.mem_cons,List.mem_nil_iff,or_false,or_self]at hv
  rw[hv];exact h
end Vm
set_option maxRecDepth 100000
namespace Vm
def parts(i:aq):Option (Rn->Mt->Rs):=
 if i.op=1 then some (back)
 else if i.op=2 then some (aJ 0 [i.lit])
 else if i.op=3 then some (λx s=>⟨0,{ x with next:=i.arg },s.az [x.next]⟩)
 else if i.op=4 then some (λx s=>⟨0,{ x with next:=i.arg },s⟩)
 else if i.op=5 then some (λx s=>⟨0,if ar s 1 0=0 then { x with next:=i.arg } else x,(s.ak 1 []).2⟩)
 else if i.op=6 then some (λx s=>⟨0,x,((s.ak 2 []).2).az (s.args 2)⟩)
 else if i.op=7 then some (λx s=>if ar s 2 0=ar s 2 1 then⟨0,{ x with next:=i.arg },(s.ak 2 []).2⟩else⟨0,x,((s.ak 2 []).2).az (s.args 2)⟩)
 else if i.op=8 then some (λx s=>dx (wrap64 (s.bu 0+1)) (wrap64 (s.bu 0+1) ==s.bu 1) i.arg x s)
 else if i.op=9 then some (λx s=>dx (wrap64 (s.bu 0+ar s 1 0)) (mY (s.bu 0) (s.bu 1) (ar s 1 0)) i.arg x (s.ak 1 []).2)
 else if i.op=10 then some (λx s=>⟨0,x,s.eu (s.r-2)⟩)
 else if i.op=13 then some (λx s=>⟨0,x,((s.ak 1 []).2).az (s.args 1)⟩)
 else if i.op=16 then some (λx s=>⟨0,{ x with next:=ar s 1 0 },((s.az [x.next]).ak 1 []).2⟩)
 else if i.op=20 then some (λx s=>⟨16,x,s⟩)
 else if i.op=21 then some (λx s=>aJ 1 [ar s 1 0,ar s 1 0] x s)
 else if i.op=22 then some (λx s=>aJ 1 [] x s)
 else if i.op=23 then some (λx s=>aJ 2 [ar s 2 1,ar s 2 0] x s)
 else if i.op=24 then some (λx s=>aJ 2 [ar s 2 0,ar s 2 1,ar s 2 0] x s)
 else if i.op=31 then some (λx s=>aJ 2 [wrap64 (ar s 2 0+ar s 2 1)] x s)
 else if i.op=32 then some (λx s=>aJ 2 [wrap64 (ar s 2 0-ar s 2 1)] x s)
 else if i.op=33 then some (λx s=>aJ 2 [wrap64 (ar s 2 0*ar s 2 1)] x s)
 else if i.op=39 then some (λx s=>aJ 1 [wrap64 (-ar s 1 0)] x s)
 else if i.op=43 then some (λx s=>aJ 1 [wrap64 (ar s 1 0+1)] x s)
 else if i.op=44 then some (λx s=>aJ 1 [wrap64 (ar s 1 0-1)] x s)
 else if i.op=11 then some (λx s=>⟨0,x,(s.ak 0 [s.bu 0]).2⟩)
 else if i.op=12 then some (λx s=>⟨0,x,(s.ak 0 [s.bu 2]).2⟩)
 else if i.op=14 then some (λx s=>⟨0,x,((s.eu (s.r-1)).ak 0 [s.bu 0]).2⟩)
 else if i.op=15 then some (λx s=>⟨0,x,(s.ak 0 [s.bu 0]).2⟩)
 else if i.op=25 then some (λx s=>aJ 3 [ar s 3 1,ar s 3 2,ar s 3 0] x s)
 else if i.op=26 then some (λx s=>aJ 1 (mq (ar s 1 0)) x s)
 else if i.op=27 then some (λx s=>aJ 2 [ar s 2 1] x s)
 else if i.op=28 then some (λx s=>aJ 2 [ar s 2 1,ar s 2 0,ar s 2 1] x s)
 else if i.op=34 then some (λx s=>Rs.laid 2 (ei 0 (decide (ar s 2 1=0)) (mj (ar s 2 0) (ar s 2 1)) (ml (ar s 2 0) (ar s 2 1)) x s))
 else if i.op=35 then some (λx s=>Rs.laid 2 (ei 1 (decide (ar s 2 1=0)) (mj (ar s 2 0) (ar s 2 1)) (ml (ar s 2 0) (ar s 2 1)) x s))
 else if i.op=36 then some (λx s=>Rs.laid 2 (ei 2 (decide (ar s 2 1=0)) (mj (ar s 2 0) (ar s 2 1)) (ml (ar s 2 0) (ar s 2 1)) x s))
 else if i.op=37 then some (λx s=>Rs.laid 3 (ei 0 (jr (dI (ar s 3 0) (ar s 3 1)) (tHi (ar s 3 0) (ar s 3 1)) (ar s 3 2)) (fdQ (dI (ar s 3 0) (ar s 3 1)) (tHi (ar s 3 0) (ar s 3 1)) (ar s 3 2)) (fdR (dI (ar s 3 0) (ar s 3 1)) (tHi (ar s 3 0) (ar s 3 1)) (ar s 3 2)) x s))
 else if i.op=38 then some (λx s=>Rs.laid 3 (ei 2 (jr (dI (ar s 3 0) (ar s 3 1)) (tHi (ar s 3 0) (ar s 3 1)) (ar s 3 2)) (fdQ (dI (ar s 3 0) (ar s 3 1)) (tHi (ar s 3 0) (ar s 3 1)) (ar s 3 2)) (fdR (dI (ar s 3 0) (ar s 3 1)) (tHi (ar s 3 0) (ar s 3 1)) (ar s 3 2)) x s))
 else if i.op=53 then some (λx s=>aJ 2 [dI (ar s 2 0) (ar s 2 1),tHi (ar s 2 0) (ar s 2 1)] x s)
 else if i.op=54 then some (λx s=>aJ 2 [dI (ar s 2 0) (ar s 2 1),te (ar s 2 0) (ar s 2 1)] x s)
 else if i.op=55 then some (λx s=>Rs.laid 3 (ei 2 (rB (ar s 3 1) (ar s 3 2)) (udQ (ar s 3 0) (ar s 3 1) (ar s 3 2)) (udR (ar s 3 0) (ar s 3 1) (ar s 3 2)) x s))
 else if i.op=56 then some (λx s=>Rs.laid 3 (ei 2 (kO (ar s 3 0) (ar s 3 1) (ar s 3 2)) (dvQ (ar s 3 0) (ar s 3 1) (ar s 3 2)) (dvR (ar s 3 0) (ar s 3 1) (ar s 3 2)) x s))
 else if i.op=57 then some (λx s=>Rs.laid 3 (ei 2 (jr (ar s 3 0) (ar s 3 1) (ar s 3 2)) (fdQ (ar s 3 0) (ar s 3 1) (ar s 3 2)) (fdR (ar s 3 0) (ar s 3 1) (ar s 3 2)) x s))
 else if i.op=65 then some (λx s=>Rs.laid 1 (((⟨s.S.ay x.mode (ar s 1 0) false,x,s⟩,[s.S.aP x.mode (ar s 1 0)]):Rs×List Int)))
 else if i.op=66 then some (λx s=>Rs.laid 2 (((⟨s.S.ay x.mode (ar s 2 1) true,x,{ s with S:=s.S.setCell x.mode (ar s 2 1) (ar s 2 0) }⟩,[]):Rs×List Int)))
 else if i.op=77 then some (λx s=>aJ 0 [wrap64 (s.S.beg 3:Int)] x s)
 else if i.op=40 then some (λx s=>aJ 1 [yb (ar s 1 0)] x s)
 else if i.op=45 then some (λx s=>aJ 1 [wrap64 (ar s 1 0*2)] x s)
 else if i.op=46 then some (λx s=>aJ 1 [ar s 1 0/2] x s)
 else if i.op=50 then some (λx s=>aJ 1 [bits .xor .i64 (-1) (ar s 1 0)] x s)
 else if i.op=63 then some (λx s=>aJ 1 [cy (ar s 1 0==0)] x s)
 else if i.op=64 then some (λx s=>aJ 1 [xy (ar s 1 0)] x s)
 else if i.op=41 then some (λx s=>aJ 2 [min (ar s 2 0) (ar s 2 1)] x s)
 else if i.op=42 then some (λx s=>aJ 2 [max (ar s 2 0) (ar s 2 1)] x s)
 else if i.op=47 then some (λx s=>aJ 2 [bits .and .i64 (ar s 2 0) (ar s 2 1)] x s)
 else if i.op=48 then some (λx s=>aJ 2 [bits .or .i64 (ar s 2 0) (ar s 2 1)] x s)
 else if i.op=49 then some (λx s=>aJ 2 [bits .xor .i64 (ar s 2 0) (ar s 2 1)] x s)
 else if i.op=51 then some (λx s=>aJ 2 [yO (ar s 2 0) (ar s 2 1)] x s)
 else if i.op=52 then some (λx s=>aJ 2 [xU (ar s 2 0) (ar s 2 1)] x s)
 else if i.op=58 then some (λx s=>aJ 2 [cy ((ar s 2 0) == (ar s 2 1))] x s)
 else if i.op=59 then some (λx s=>aJ 2 [cy ((ar s 2 0) != (ar s 2 1))] x s)
 else if i.op=60 then some (λx s=>aJ 2 [cy (decide ((ar s 2 0) < (ar s 2 1)))] x s)
 else if i.op=61 then some (λx s=>aJ 2 [cy (decide ((ar s 2 1) < (ar s 2 0)))] x s)
 else if i.op=62 then some (λx s=>aJ 2 [cy (decide (IntKind.u64.wrap (ar s 2 0) <IntKind.u64.wrap (ar s 2 1)))] x s)
 else none
theorem ao{i:aq}{x:Rn}{s:Mt}(h:cw i x s)(Zw:i.op≠26)(n m:Nat)(h1: (Code.ai i.op).1=n)(h2: (Code.ai i.op).2=m):m<=s.pd.rm- (s.d-n):=by
 have h3:=h.room
 have h4:=h.tk
 rw[if_neg (by rintro⟨h,_⟩;exact Zw h)]at h3
 omega
theorem gj{s:Mt}{n:Nat}{l:List Int}(hs:s.Ok)(hn:n<=s.d)(OF:l.length<=s.pd.rm- (s.d-n)): (s.ak n l).2.Ok:=by
 unfold Mt.ak
 rw[if_neg oM]
 exact nO (nF hs (s.d-n) oM) l OF
def fp(i:aq)(q:Rn->Mt->Rs):Prop:= ∀x s,s.Ok->x.Ok->V64 i.arg->V64 i.lit->cw i x s->(q x s).s.Ok∧(q x s).x.Ok∧(q x s).s.au=s.au∧(q x s).x.left=x.left∧(q x s).s.seen=s.seen
theorem aG(i:aq)(l:Mt->List Int)(n:Nat)(hn: (Code.ai i.op).1=n)(hl: ∀x s,cw i x s->(l s).length<=s.pd.rm- (s.d-n)):fp i (λx s=>aJ n (l s) x s):=by
 intro x s hs hx RM Ry ha
 have h1:=ha.tk
 refine⟨gj hs oM (hl x s ha),hx,?_,rfl,?_⟩
 ·show((s.ak n (l s)).2).au=s.au
  unfold Mt.ak
  split<;>rfl
 ·show((s.ak n (l s)).2).seen=s.seen
  unfold Mt.ak
  split<;>rfl
theorem B9(arg lit cells:Int):fp ⟨1,arg,lit,cells⟩ back:=by
 intro x s hs hx RM Ry ha
 unfold back
 split
 ·exact⟨hs,hx,rfl,rfl,rfl⟩
 ·exact⟨⟨hs.pd,hs.pr,hs.d,by have:=hs.r;show s.r-1<=s.pr.rm;omega,hs.du,hs.dv,hs.ru,hs.rv⟩,⟨hx.base,hx.dh,fO _ _ _ _,hx.pc,hx.left,hx.cG⟩,rfl,rfl,rfl⟩
theorem Fg(arg lit cells:Int):fp ⟨2,arg,lit,cells⟩ (aJ 0 [lit]):=aG _ (λ_=>[lit]) 0 dd λx s ha=>ao ha dd 0 1 dd dd
theorem HM(n:Int)(e:Bool)(a:Int)(x:Rn)(s:Mt): (dx n e a x s).f=0:=by unfold dx;split<;>rfl
theorem aB(s:Mt)(n:Nat)(l:List Int): (s.ak n l).2.au=s.au∧(s.ak n l).2.seen=s.seen∧(s.ak n l).2.r=s.r∧(s.ak n l).2.pr=s.pr:=by
 unfold Mt.ak
 split<;>exact⟨rfl,rfl,rfl,rfl⟩
theorem iO{i:aq}{x:Rn}{s:Mt}(h:cw i x s)(k:Nat)(e:returns i.op i.arg s.same= (0,(k:Int))):k<=s.pr.rm-s.r:=by
 have h1:=h.CA
 simp only[e]at h1
 omega
theorem Qv(arg:Int)(x:Rn)(s:Mt): (if ar s 2 0=ar s 2 1 then(⟨0,{ x with next:=arg },(s.ak 2 []).2⟩:Rs)else⟨0,x,((s.ak 2 []).2).az (s.args 2)⟩).f=0:=by split<;>rfl
theorem zU(arg lit cells:Int):fp ⟨4,arg,lit,cells⟩ (λx s=>⟨0,{ x with next:=arg },s⟩):=λx s hs hx RM Ry ha=>⟨hs,⟨hx.base,hx.dh,RM,hx.pc,hx.left,hx.cG⟩,rfl,rfl,rfl⟩
theorem BI(arg lit cells:Int):fp ⟨3,arg,lit,cells⟩ (λx s=>⟨0,{ x with next:=arg },s.az [x.next]⟩):=λx s hs hx RM Ry ha=>⟨eU hs [x.next] (iO ha 1 rfl),⟨hx.base,hx.dh,RM,hx.pc,hx.left,hx.cG⟩,rfl,rfl,rfl⟩
theorem B0(arg lit cells:Int):fp ⟨5,arg,lit,cells⟩ (λx s=>⟨0,if ar s 1 0=0 then { x with next:=arg } else x,(s.ak 1 []).2⟩):=by
 intro x s hs hx RM Ry ha
 refine⟨cQ 1 hs,?_,(aB s 1 []).1,?_,(aB s 1 []).2.1⟩
 ·show(if ar s 1 0=0 then({ x with next:=arg }:Rn)else x).Ok
  split
  ·exact⟨hx.base,hx.dh,RM,hx.pc,hx.left,hx.cG⟩
  ·exact hx
 ·show(if ar s 1 0=0 then({ x with next:=arg }:Rn)else x).left=x.left
  split<;>rfl
theorem tj(arg lit cells:Int):fp ⟨16,arg,lit,cells⟩ (λx s=>⟨0,{ x with next:=ar s 1 0 },((s.az [x.next]).ak 1 []).2⟩):=λx s hs hx RM Ry ha=>
 ⟨cQ 1 (eU hs [x.next] (iO ha 1 rfl)),⟨hx.base,hx.dh,aN s 1 0,hx.pc,hx.left,hx.cG⟩,(aB _ 1 []).1,rfl,(aB _ 1 []).2.1⟩
theorem tw(arg lit cells:Int):fp ⟨20,arg,lit,cells⟩ (λx s=>⟨16,x,s⟩):=λx s hs hx RM Ry ha=>⟨hs,hx,rfl,rfl,rfl⟩
theorem jX{s:Mt}(n:Nat)(hs:s.Ok)(h:n<=s.pr.rm-s.r): (((s.ak n []).2).az (s.args n)).Ok:=
 eU (cQ n hs) _ (by rw[og,(aB s n []).2.2.1,(aB s n []).2.2.2];exact h)
theorem Gd(arg lit cells:Int):fp ⟨6,arg,lit,cells⟩ (λx s=>⟨0,x,((s.ak 2 []).2).az (s.args 2)⟩):=λx s hs hx RM Ry ha=>⟨jX 2 hs (iO ha 2 rfl),hx,(aB s 2 []).1,rfl,(aB s 2 []).2.1⟩
theorem Fh(arg lit cells:Int):fp ⟨13,arg,lit,cells⟩ (λx s=>⟨0,x,((s.ak 1 []).2).az (s.args 1)⟩):=λx s hs hx RM Ry ha=>⟨jX 1 hs (iO ha 1 rfl),hx,(aB s 1 []).1,rfl,(aB s 1 []).2.1⟩
theorem FG(arg lit cells:Int):fp ⟨7,arg,lit,cells⟩ (λx s=>if ar s 2 0=ar s 2 1 then⟨0,{ x with next:=arg },(s.ak 2 []).2⟩else⟨0,x,((s.ak 2 []).2).az (s.args 2)⟩):=by
 intro x s hs hx RM Ry ha
 dsimp only
 split
 ·exact⟨cQ 2 hs,⟨hx.base,hx.dh,RM,hx.pc,hx.left,hx.cG⟩,(aB s 2 []).1,rfl,(aB s 2 []).2.1⟩
 ·rename_i RP
  refine⟨jX 2 hs (iO ha 2 ?_),hx,(aB s 2 []).1,rfl,(aB s 2 []).2.1⟩
  have h2:s.same=false:=by
   unfold Mt.same
   rw[(Mo s).1,(Mo s).2]at RP
   simpa using λh=>RP h.symm
  rw[h2]
  rfl
theorem rZ{x:Rn}{s:Mt}(n:Int)(e:Bool)(a:Int)(ha:V64 a)(hs:s.Ok)(hx:x.Ok): (dx n e a x s).s.Ok∧(dx n e a x s).x.Ok∧(dx n e a x s).s.au=s.au∧(dx n e a x s).x.left=x.left∧(dx n e a x s).s.seen=s.seen:=by
 unfold dx
 split
 ·exact⟨qJ hs _ oM,hx,rfl,rfl,rfl⟩
 ·exact⟨H7 hs _ _,⟨hx.base,hx.dh,ha,hx.pc,hx.left,hx.cG⟩,rfl,rfl,rfl⟩
theorem AB(arg lit cells:Int):fp ⟨8,arg,lit,cells⟩ (λx s=>dx (wrap64 (s.bu 0+1)) (wrap64 (s.bu 0+1) ==s.bu 1) arg x s):=λx s hs hx RM Ry ha=>rZ _ _ _ RM hs hx
theorem zL(arg lit cells:Int):fp ⟨9,arg,lit,cells⟩ (λx s=>dx (wrap64 (s.bu 0+ar s 1 0)) (mY (s.bu 0) (s.bu 1) (ar s 1 0)) arg x (s.ak 1 []).2):=λx s hs hx RM Ry ha=>by
 obtain⟨h1,h2,h3,h4,h5⟩:=rZ (wrap64 (s.bu 0+ar s 1 0)) (mY (s.bu 0) (s.bu 1) (ar s 1 0)) arg RM (cQ 1 hs) hx
 exact⟨h1,h2,h3.trans (aB s 1 []).1,h4,h5.trans (aB s 1 []).2.1⟩
theorem vT(arg lit cells:Int):fp ⟨10,arg,lit,cells⟩ (λx s=>⟨0,x,s.eu (s.r-2)⟩):=λx s hs hx RM Ry ha=>⟨qJ hs _ oM,hx,rfl,rfl,rfl⟩
theorem qD{x:Rn}{s:Mt}{n:Nat}{l:List Int}(OF:l.length<=s.pd.rm- (s.d-n)):aJ n l x s= ⟨0,x,(s.ak n l).2⟩:=by
 unfold aJ
 rw[sM OF]
theorem LZ(arg lit cells:Int):fp ⟨11,arg,lit,cells⟩ (λx s=>⟨0,x,(s.ak 0 [s.bu 0]).2⟩):=λx s hs hx RM Ry ha=>⟨gj hs (Nat.zero_le _) (ao ha dd 0 1 dd dd),hx,(aB s 0 _).1,rfl,(aB s 0 _).2.1⟩
theorem Lk(arg lit cells:Int):fp ⟨12,arg,lit,cells⟩ (λx s=>⟨0,x,(s.ak 0 [s.bu 2]).2⟩):=λx s hs hx RM Ry ha=>⟨gj hs (Nat.zero_le _) (ao ha dd 0 1 dd dd),hx,(aB s 0 _).1,rfl,(aB s 0 _).2.1⟩
theorem wC(arg lit cells:Int):fp ⟨15,arg,lit,cells⟩ (λx s=>⟨0,x,(s.ak 0 [s.bu 0]).2⟩):=λx s hs hx RM Ry ha=>⟨gj hs (Nat.zero_le _) (ao ha dd 0 1 dd dd),hx,(aB s 0 _).1,rfl,(aB s 0 _).2.1⟩
theorem yh(arg lit cells:Int):fp ⟨14,arg,lit,cells⟩ (λx s=>⟨0,x,((s.eu (s.r-1)).ak 0 [s.bu 0]).2⟩):=λx s hs hx RM Ry ha=>⟨gj (qJ hs _ oM) (Nat.zero_le _) (ao ha dd 0 1 dd dd),hx,(aB (s.eu (s.r-1)) 0 _).1,rfl,(aB (s.eu (s.r-1)) 0 _).2.1⟩
theorem xj{arg lit cells:Int}{x:Rn}{s:Mt}(ha:cw ⟨26,arg,lit,cells⟩ x s): (mq (ar s 1 0)).length<=s.pd.rm- (s.d-1):=by
 have h1:=ha.room
 have h2:=ha.tk
 have e1: (Code.ai 26).1=1:=by decide
 have e2: (Code.ai 26).2=2:=by decide
 have e3:ar s 1 0=s.top 0:=rfl
 simp only[e1,e2,true_and]at h1 h2
 unfold mq
 rw[e3]
 split
 ·rename_i h
  rw[if_pos h]at h1
  show 1<=_
  omega
 ·rename_i h
  rw[if_neg h]at h1
  show 2<=_
  omega
theorem ct{i:aq}{q:Rn->Mt->Rs×List Int}{n m:Nat}(hn: (Code.ai i.op).1=n)(hl:ou i q)(hm:fv q m):fp i (λx s=>Rs.laid n (q x s)):=by
 intro x s hs hx RM Ry ha
 obtain⟨h1,h2,h3,h4,h5,h6,h7,h8⟩:=hm x s hs hx
 have h9:=ha.tk
 have hl':=hl x s hs hx ha
 unfold Rs.laid
 by_cases hf: (q x s).1.f=0
 ·simp only[if_pos hf]
  obtain⟨_,_,k3,_⟩:=hl' hf
  have e: (Code.ai i.op).1.toNat=n:=by omega
  rw[e]at k3
  refine⟨gj h1 (by rw[h2];omega) (by rw[h2];exact k3),by show(q x s).1.x.Ok;rw[h6];exact hx,?_,by show(q x s).1.x.left=_;rw[h6],?_⟩
  ·show(((q x s).1.s).ak n _).2.au=_
   rw[(aB _ n _).1,h7]
  ·show(((q x s).1.s).ak n _).2.seen=_
   rw[(aB _ n _).2.1,h8]
 ·simp only[if_neg hf]
  exact⟨h1,by rw[h6];exact hx,h7,by rw[h6],h8⟩
theorem vv{p:Prop}(h:p:=by first|exact aU _|exact aN _ _ _|exact Hh _|exact Lh _ _|exact OE _ _|exact Kz _ _|exact Mq _ _|exact KT _ _|exact MO (aN _ _ _) |exact GY (aN _ _ _) |exact FT (aN _ _ _) |exact K3 (aN _ _ _) (aN _ _ _) |exact LN (aN _ _ _) (aN _ _ _) |exact Km _ _|exact J3 _ _|exact Lw _ _):p:=h
theorem su(i:aq)(q:Rn->Mt->Rs)(hq:parts i=some q):jQa i q∧fp i q:=by
 obtain⟨op,arg,lit,cells⟩:=i
 unfold parts at hq
 simp only at hq
 revert hq
 apply eli
 ·rintro rfl
  exact⟨aR _ _ dd (Ij arg lit cells),B9 arg lit cells⟩
 apply eli
 ·rintro rfl
  exact⟨aR _ _ dd (KO arg lit cells),Fg arg lit cells⟩
 apply eli
 ·rintro rfl
  exact⟨aR _ _ dd (H4 arg lit cells),BI arg lit cells⟩
 apply eli
 ·rintro rfl
  exact⟨aR _ _ dd (Ih arg lit cells),zU arg lit cells⟩
 apply eli
 ·rintro rfl
  exact⟨aR _ _ dd (Ji arg lit cells),B0 arg lit cells⟩
 apply eli
 ·rintro rfl
  exact⟨aR _ _ dd (el 6 arg lit cells _ (by decide) (by decide) (λ_ _=>rfl) (jw _ arg lit cells _ (.inl ⟨.inl rfl,rfl⟩))),Gd arg lit cells⟩
 apply eli
 ·rintro rfl
  exact⟨aR _ _ dd (el 7 arg lit cells _ (by decide) (by decide) (λ_ _=>Qv _ _ _) (jw _ arg lit cells _ (.inr (.inl ⟨rfl,rfl⟩)))),FG arg lit cells⟩
 apply eli
 ·rintro rfl
  exact⟨aR _ _ dd (el 8 arg lit cells _ (by decide) (by decide) (λ_ _=>HM _ _ _ _ _) (jw _ arg lit cells _ (.inr (.inr (.inl ⟨rfl,rfl⟩))))),AB arg lit cells⟩
 apply eli
 ·rintro rfl
  exact⟨aR _ _ dd (el 9 arg lit cells _ (by decide) (by decide) (λ_ _=>HM _ _ _ _ _) (jw _ arg lit cells _ (.inr (.inr (.inr (.inl ⟨rfl,rfl⟩)))))),zL arg lit cells⟩
 apply eli
 ·rintro rfl
  exact⟨aR _ _ dd (el 10 arg lit cells _ (by decide) (by decide) (λ_ _=>rfl) (jw _ arg lit cells _ (.inr (.inr (.inr (.inr (.inl ⟨rfl,rfl⟩))))))),vT arg lit cells⟩
 apply eli
 ·rintro rfl
  exact⟨aR _ _ dd (el 13 arg lit cells _ (by decide) (by decide) (λ_ _=>rfl) (jw _ arg lit cells _ (.inl ⟨.inr rfl,rfl⟩))),Fh arg lit cells⟩
 apply eli
 ·rintro rfl
  exact⟨aR _ _ dd (xX arg lit cells),tj arg lit cells⟩
 apply eli
 ·rintro rfl
  exact⟨aR _ _ dd (yj arg lit cells),tw arg lit cells⟩
 apply eli
 ·rintro rfl
  refine⟨eE _ (λs=>[ar s 1 0,ar s 1 0]) dd dd (PQ arg lit cells) λx s hs ha=>⟨ao ha dd 1 2 dd dd,λv hv=>by
   simp only[List.mem_cons,List.mem_nil_iff,or_false]at hv
   rcases hv with rfl|rfl<;>first|exact aN _ _ _|exact aU _⟩,aG _ (λs=>[ar s 1 0,ar s 1 0]) 1 dd λx s ha=>ao ha dd 1 2 dd dd⟩
 apply eli
 ·rintro rfl
  refine⟨eE _ (λs=>[]) dd dd (OP arg lit cells) λx s hs ha=>⟨Nat.zero_le _,λv hv=>by simp at hv⟩,aG _ (λs=>[]) 1 dd λx s ha=>Nat.zero_le _⟩
 apply eli
 ·rintro rfl
  refine⟨eE _ (λs=>[ar s 2 1,ar s 2 0]) dd dd (Oy arg lit cells) λx s hs ha=>⟨ao ha dd 2 2 dd dd,λv hv=>by
   simp only[List.mem_cons,List.mem_nil_iff,or_false]at hv
   rcases hv with rfl|rfl<;>first|exact aN _ _ _|exact aU _⟩,aG _ (λs=>[ar s 2 1,ar s 2 0]) 2 dd λx s ha=>ao ha dd 2 2 dd dd⟩
 apply eli
 ·rintro rfl
  refine⟨eE _ (λs=>[ar s 2 0,ar s 2 1,ar s 2 0]) dd dd (Oh arg lit cells) λx s hs ha=>⟨ao ha dd 2 3 dd dd,λv hv=>by
   simp only[List.mem_cons,List.mem_nil_iff,or_false]at hv
   rcases hv with rfl|rfl|rfl<;>first|exact aN _ _ _|exact aU _⟩,aG _ (λs=>[ar s 2 0,ar s 2 1,ar s 2 0]) 2 dd λx s ha=>ao ha dd 2 3 dd dd⟩
 apply eli
 ·rintro rfl
  refine⟨aF _ (λs=>[wrap64 (ar s 2 0+ar s 2 1)]) dd dd (fe 31 arg lit cells rfl rfl rfl rfl rfl rfl rfl rfl rfl rfl dd _ IF) λx s hs ha=>⟨ao ha dd 2 1 dd dd,λv hv=>by
   rw[List.mem_singleton.1 hv]
   exact vv⟩,aG _ (λs=>[wrap64 (ar s 2 0+ar s 2 1)]) 2 dd λx s ha=>ao ha dd 2 1 dd dd⟩
 apply eli
 ·rintro rfl
  refine⟨aF _ (λs=>[wrap64 (ar s 2 0-ar s 2 1)]) dd dd (fe 32 arg lit cells rfl rfl rfl rfl rfl rfl rfl rfl rfl rfl dd _ JJ) λx s hs ha=>⟨ao ha dd 2 1 dd dd,λv hv=>by
   rw[List.mem_singleton.1 hv]
   exact vv⟩,aG _ (λs=>[wrap64 (ar s 2 0-ar s 2 1)]) 2 dd λx s ha=>ao ha dd 2 1 dd dd⟩
 apply eli
 ·rintro rfl
  refine⟨aF _ (λs=>[wrap64 (ar s 2 0*ar s 2 1)]) dd dd (fe 33 arg lit cells rfl rfl rfl rfl rfl rfl rfl rfl rfl rfl dd _ IZ) λx s hs ha=>⟨ao ha dd 2 1 dd dd,λv hv=>by
   rw[List.mem_singleton.1 hv]
   exact vv⟩,aG _ (λs=>[wrap64 (ar s 2 0*ar s 2 1)]) 2 dd λx s ha=>ao ha dd 2 1 dd dd⟩
 apply eli
 ·rintro rfl
  refine⟨aF _ (λs=>[wrap64 (-ar s 1 0)]) dd dd (jQh 39 arg lit cells rfl rfl rfl rfl rfl rfl rfl rfl rfl rfl dd _ E3) λx s hs ha=>⟨ao ha dd 1 1 dd dd,λv hv=>by
   rw[List.mem_singleton.1 hv]
   exact vv⟩,aG _ (λs=>[wrap64 (-ar s 1 0)]) 1 dd λx s ha=>ao ha dd 1 1 dd dd⟩
 apply eli
 ·rintro rfl
  refine⟨aF _ (λs=>[wrap64 (ar s 1 0+1)]) dd dd (jQh 43 arg lit cells rfl rfl rfl rfl rfl rfl rfl rfl rfl rfl dd _ F6) λx s hs ha=>⟨ao ha dd 1 1 dd dd,λv hv=>by
   rw[List.mem_singleton.1 hv]
   exact vv⟩,aG _ (λs=>[wrap64 (ar s 1 0+1)]) 1 dd λx s ha=>ao ha dd 1 1 dd dd⟩
 apply eli
 ·rintro rfl
  refine⟨aF _ (λs=>[wrap64 (ar s 1 0-1)]) dd dd (jQh 44 arg lit cells rfl rfl rfl rfl rfl rfl rfl rfl rfl rfl dd _ FH) λx s hs ha=>⟨ao ha dd 1 1 dd dd,λv hv=>by
   rw[List.mem_singleton.1 hv]
   exact vv⟩,aG _ (λs=>[wrap64 (ar s 1 0-1)]) 1 dd λx s ha=>ao ha dd 1 1 dd dd⟩
 apply eli
 ·rintro rfl
  exact⟨aR _ _ dd (el 11 arg lit cells _ (by decide) (by decide) (λ_ _=>rfl) (dj.congr (jw _ arg lit cells _ (.inr (.inr (.inr (.inr (.inr (.inl ⟨.inl rfl,rfl⟩))))))) λx s hs hx ha=>qD (ao ha dd 0 1 dd dd))),LZ arg lit cells⟩
 apply eli
 ·rintro rfl
  exact⟨aR _ _ dd (el 12 arg lit cells _ (by decide) (by decide) (λ_ _=>rfl) (dj.congr (jw _ arg lit cells _ (.inr (.inr (.inr (.inr (.inr (.inr (.inl ⟨rfl,rfl⟩)))))))) λx s hs hx ha=>qD (ao ha dd 0 1 dd dd))),Lk arg lit cells⟩
 apply eli
 ·rintro rfl
  exact⟨aR _ _ dd (el 14 arg lit cells _ (by decide) (by decide) (λ_ _=>rfl) (dj.congr (jw _ arg lit cells _ (.inr (.inr (.inr (.inr (.inr (.inr (.inr (⟨rfl,rfl⟩))))))))) λx s hs hx ha=>qD (ao ha dd 0 1 dd dd))),yh arg lit cells⟩
 apply eli
 ·rintro rfl
  exact⟨aR _ _ dd (el 15 arg lit cells _ (by decide) (by decide) (λ_ _=>rfl) (dj.congr (jw _ arg lit cells _ (.inr (.inr (.inr (.inr (.inr (.inl ⟨.inr rfl,rfl⟩))))))) λx s hs hx ha=>qD (ao ha dd 0 1 dd dd))),wC arg lit cells⟩
 apply eli
 ·rintro rfl
  refine⟨eE _ (λs=>[ar s 3 1,ar s 3 2,ar s 3 0]) dd dd (Qp arg lit cells) λx s hs ha=>⟨ao ha dd 3 3 dd dd,λv hv=>by
   simp only[List.mem_cons,List.mem_nil_iff,or_false]at hv
   rcases hv with rfl|rfl|rfl<;>first|exact aN _ _ _|exact aU _⟩,aG _ (λs=>[ar s 3 1,ar s 3 2,ar s 3 0]) 3 dd λx s ha=>ao ha dd 3 3 dd dd⟩
 apply eli
 ·rintro rfl
  exact⟨eE _ (λs=>mq (ar s 1 0)) dd dd (Pb arg lit cells) λx s hs ha=>⟨xj ha,Jz (aN _ _ _)⟩,aG _ (λs=>mq (ar s 1 0)) 1 dd λx s ha=>xj ha⟩
 apply eli
 ·rintro rfl
  refine⟨eE _ (λs=>[ar s 2 1]) dd dd (P2 arg lit cells) λx s hs ha=>⟨ao ha dd 2 1 dd dd,λv hv=>by
   rw[List.mem_singleton.1 hv]
   exact vv⟩,aG _ (λs=>[ar s 2 1]) 2 dd λx s ha=>ao ha dd 2 1 dd dd⟩
 apply eli
 ·rintro rfl
  refine⟨eE _ (λs=>[ar s 2 1,ar s 2 0,ar s 2 1]) dd dd (NB arg lit cells) λx s hs ha=>⟨ao ha dd 2 3 dd dd,λv hv=>by
   simp only[List.mem_cons,List.mem_nil_iff,or_false]at hv
   rcases hv with rfl|rfl|rfl<;>first|exact aN _ _ _|exact aU _⟩,aG _ (λs=>[ar s 2 1,ar s 2 0,ar s 2 1]) 2 dd λx s ha=>ao ha dd 2 3 dd dd⟩
 apply eli
 ·rintro rfl
  have hm:fv (λx s=>ei 0 (decide (ar s 2 1=0)) (mj (ar s 2 0) (ar s 2 1)) (ml (ar s 2 0) (ar s 2 1)) x s) 1:=(fv.quo (λs=>qN _ _) (λs=>rQ (aN _ _ _) (aN _ _ _)))
  exact⟨bF _ _ dd dd (P6 arg lit cells) (aV 2 dd dd (by dsimp only;decide) hm),ct dd (aV 2 dd dd (by dsimp only;decide) hm) hm⟩
 apply eli
 ·rintro rfl
  have hm:fv (λx s=>ei 1 (decide (ar s 2 1=0)) (mj (ar s 2 0) (ar s 2 1)) (ml (ar s 2 0) (ar s 2 1)) x s) 1:=(fv.quo (λs=>qN _ _) (λs=>rQ (aN _ _ _) (aN _ _ _)))
  exact⟨bF _ _ dd dd (Qx arg lit cells) (aV 2 dd dd (by dsimp only;decide) hm),ct dd (aV 2 dd dd (by dsimp only;decide) hm) hm⟩
 apply eli
 ·rintro rfl
  have hm:fv (λx s=>ei 2 (decide (ar s 2 1=0)) (mj (ar s 2 0) (ar s 2 1)) (ml (ar s 2 0) (ar s 2 1)) x s) 2:=(fv.quo (λs=>qN _ _) (λs=>rQ (aN _ _ _) (aN _ _ _)))
  exact⟨bF _ _ dd dd (GG arg lit cells) (aV 2 dd dd (by dsimp only;decide) hm),ct dd (aV 2 dd dd (by dsimp only;decide) hm) hm⟩
 apply eli
 ·rintro rfl
  have hm:fv (λx s=>ei 0 (jr (dI (ar s 3 0) (ar s 3 1)) (tHi (ar s 3 0) (ar s 3 1)) (ar s 3 2)) (fdQ (dI (ar s 3 0) (ar s 3 1)) (tHi (ar s 3 0) (ar s 3 1)) (ar s 3 2)) (fdR (dI (ar s 3 0) (ar s 3 1)) (tHi (ar s 3 0) (ar s 3 1)) (ar s 3 2)) x s) 1:=(fv.quo (λs=>vr _ _ _) (λs=>vN _ _ _))
  exact⟨bF _ _ dd dd (Ki arg lit cells) (aV 3 dd dd (by dsimp only;decide) hm),ct dd (aV 3 dd dd (by dsimp only;decide) hm) hm⟩
 apply eli
 ·rintro rfl
  have hm:fv (λx s=>ei 2 (jr (dI (ar s 3 0) (ar s 3 1)) (tHi (ar s 3 0) (ar s 3 1)) (ar s 3 2)) (fdQ (dI (ar s 3 0) (ar s 3 1)) (tHi (ar s 3 0) (ar s 3 1)) (ar s 3 2)) (fdR (dI (ar s 3 0) (ar s 3 1)) (tHi (ar s 3 0) (ar s 3 1)) (ar s 3 2)) x s) 2:=(fv.quo (λs=>vr _ _ _) (λs=>vN _ _ _))
  exact⟨bF _ _ dd dd (xH arg lit cells) (aV 3 dd dd (by dsimp only;decide) hm),ct dd (aV 3 dd dd (by dsimp only;decide) hm) hm⟩
 apply eli
 ·rintro rfl
  have hm:fv (λx s=>((⟨0,x,s⟩,[dI (ar s 2 0) (ar s 2 1),tHi (ar s 2 0) (ar s 2 1)]):Rs×List Int)) 2:=(fv.pure (l:=λs=>[dI (ar s 2 0) (ar s 2 1),tHi (ar s 2 0) (ar s 2 1)]) (f:=λ_=>0) (λs=>Nat.le_refl _) (λs hs v hv=>by
   simp only[List.mem_cons,List.mem_nil_iff,or_false]at hv
   rcases hv with rfl|rfl<;>exact vv))
  exact⟨bF _ _ dd dd (ML arg lit cells).toR (aV 2 dd dd (by dsimp only;decide) hm),ct dd (aV 2 dd dd (by dsimp only;decide) hm) hm⟩
 apply eli
 ·rintro rfl
  have hm:fv (λx s=>((⟨0,x,s⟩,[dI (ar s 2 0) (ar s 2 1),te (ar s 2 0) (ar s 2 1)]):Rs×List Int)) 2:=(fv.pure (l:=λs=>[dI (ar s 2 0) (ar s 2 1),te (ar s 2 0) (ar s 2 1)]) (f:=λ_=>0) (λs=>Nat.le_refl _) (λs hs v hv=>by
   simp only[List.mem_cons,List.mem_nil_iff,or_false]at hv
   rcases hv with rfl|rfl<;>exact vv))
  exact⟨bF _ _ dd dd (Jf arg lit cells).toR (aV 2 dd dd (by dsimp only;decide) hm),ct dd (aV 2 dd dd (by dsimp only;decide) hm) hm⟩
 apply eli
 ·rintro rfl
  have hm:fv (λx s=>ei 2 (rB (ar s 3 1) (ar s 3 2)) (udQ (ar s 3 0) (ar s 3 1) (ar s 3 2)) (udR (ar s 3 0) (ar s 3 1) (ar s 3 2)) x s) 2:=(fv.quo (λs=>Dg _ _ _) (λs=>C6 _ _ _))
  exact⟨bF _ _ dd dd (KJ arg lit cells) (aV 3 dd dd (by dsimp only;decide) hm),ct dd (aV 3 dd dd (by dsimp only;decide) hm) hm⟩
 apply eli
 ·rintro rfl
  have hm:fv (λx s=>ei 2 (kO (ar s 3 0) (ar s 3 1) (ar s 3 2)) (dvQ (ar s 3 0) (ar s 3 1) (ar s 3 2)) (dvR (ar s 3 0) (ar s 3 1) (ar s 3 2)) x s) 2:=(fv.quo (λs=>De _ _ _) (λs=>Cx _ _ _))
  exact⟨bF _ _ dd dd (KS arg lit cells) (aV 3 dd dd (by dsimp only;decide) hm),ct dd (aV 3 dd dd (by dsimp only;decide) hm) hm⟩
 apply eli
 ·rintro rfl
  have hm:fv (λx s=>ei 2 (jr (ar s 3 0) (ar s 3 1) (ar s 3 2)) (fdQ (ar s 3 0) (ar s 3 1) (ar s 3 2)) (fdR (ar s 3 0) (ar s 3 1) (ar s 3 2)) x s) 2:=(fv.quo (λs=>vr _ _ _) (λs=>vN _ _ _))
  exact⟨bF _ _ dd dd (LX arg lit cells) (aV 3 dd dd (by dsimp only;decide) hm),ct dd (aV 3 dd dd (by dsimp only;decide) hm) hm⟩
 apply eli
 ·rintro rfl
  have hm:fv (λx s=>((⟨s.S.ay x.mode (ar s 1 0) false,x,s⟩,[s.S.aP x.mode (ar s 1 0)]):Rs×List Int)) 1:=(λx s hs hx=>⟨hs,rfl,rfl,Nat.le_refl 1,(λv hv=>by rw[List.mem_singleton.1 hv];exact lX _ _ _),rfl,rfl,rfl⟩)
  exact⟨nT _ _ dd dd (Mj arg lit cells) (aV 1 dd dd (by dsimp only;decide) hm),ct dd (aV 1 dd dd (by dsimp only;decide) hm) hm⟩
 apply eli
 ·rintro rfl
  have hm:fv (λx s=>((⟨s.S.ay x.mode (ar s 2 1) true,x,{ s with S:=s.S.setCell x.mode (ar s 2 1) (ar s 2 0) }⟩,[]):Rs×List Int)) 0:=(λx s hs hx=>⟨tq hs _ _ _,rfl,rfl,Nat.le_refl 0,(λv hv=>by cases hv),rfl,rfl,rfl⟩)
  exact⟨nT _ _ dd dd (KK arg lit cells) (aV 2 dd dd (by dsimp only;decide) hm),ct dd (aV 2 dd dd (by dsimp only;decide) hm) hm⟩
 apply eli
 ·rintro rfl
  have hm:fv (λx s=>((⟨0,x,s⟩,[wrap64 (s.S.beg 3:Int)]):Rs×List Int)) 1:=(fv.pure (l:=λs=>[wrap64 (s.S.beg 3:Int)]) (f:=λ_=>0) (λs=>Nat.le_refl _) (λs hs v hv=>by
   rw[List.mem_singleton.1 hv]
   exact vv))
  exact⟨xP _ _ dd dd (OJ arg lit cells).toR (aV 0 dd dd (by dsimp only;decide) hm),ct dd (aV 0 dd dd (by dsimp only;decide) hm) hm⟩
 apply eli
 ·rintro rfl
  refine⟨aF _ (λs=>[yb (ar s 1 0)]) dd dd (jQh 40 arg lit cells rfl rfl rfl rfl rfl rfl rfl rfl rfl rfl dd _ EG) λx s hs ha=>⟨ao ha dd 1 1 dd dd,λv hv=>by
   rw[List.mem_singleton.1 hv]
   exact vv⟩,aG _ (λs=>[yb (ar s 1 0)]) 1 dd λx s ha=>ao ha dd 1 1 dd dd⟩
 apply eli
 ·rintro rfl
  refine⟨aF _ (λs=>[wrap64 (ar s 1 0*2)]) dd dd (jQh 45 arg lit cells rfl rfl rfl rfl rfl rfl rfl rfl rfl rfl dd _ yE) λx s hs ha=>⟨ao ha dd 1 1 dd dd,λv hv=>by
   rw[List.mem_singleton.1 hv]
   exact vv⟩,aG _ (λs=>[wrap64 (ar s 1 0*2)]) 1 dd λx s ha=>ao ha dd 1 1 dd dd⟩
 apply eli
 ·rintro rfl
  refine⟨aF _ (λs=>[ar s 1 0/2]) dd dd (jQh 46 arg lit cells rfl rfl rfl rfl rfl rfl rfl rfl rfl rfl dd _ BT) λx s hs ha=>⟨ao ha dd 1 1 dd dd,λv hv=>by
   rw[List.mem_singleton.1 hv]
   exact vv⟩,aG _ (λs=>[ar s 1 0/2]) 1 dd λx s ha=>ao ha dd 1 1 dd dd⟩
 apply eli
 ·rintro rfl
  refine⟨aF _ (λs=>[bits .xor .i64 (-1) (ar s 1 0)]) dd dd (jQh 50 arg lit cells rfl rfl rfl rfl rfl rfl rfl rfl rfl rfl dd _ vz) λx s hs ha=>⟨ao ha dd 1 1 dd dd,λv hv=>by
   rw[List.mem_singleton.1 hv]
   exact vv⟩,aG _ (λs=>[bits .xor .i64 (-1) (ar s 1 0)]) 1 dd λx s ha=>ao ha dd 1 1 dd dd⟩
 apply eli
 ·rintro rfl
  refine⟨aF _ (λs=>[cy (ar s 1 0==0)]) dd dd (jQh 63 arg lit cells rfl rfl rfl rfl rfl rfl rfl rfl rfl rfl dd _ vI) λx s hs ha=>⟨ao ha dd 1 1 dd dd,λv hv=>by
   rw[List.mem_singleton.1 hv]
   exact vv⟩,aG _ (λs=>[cy (ar s 1 0==0)]) 1 dd λx s ha=>ao ha dd 1 1 dd dd⟩
 apply eli
 ·rintro rfl
  refine⟨aF _ (λs=>[xy (ar s 1 0)]) dd dd (jQh 64 arg lit cells rfl rfl rfl rfl rfl rfl rfl rfl rfl rfl dd _ wA) λx s hs ha=>⟨ao ha dd 1 1 dd dd,λv hv=>by
   rw[List.mem_singleton.1 hv]
   exact vv⟩,aG _ (λs=>[xy (ar s 1 0)]) 1 dd λx s ha=>ao ha dd 1 1 dd dd⟩
 apply eli
 ·rintro rfl
  refine⟨aF _ (λs=>[min (ar s 2 0) (ar s 2 1)]) dd dd (fe 41 arg lit cells rfl rfl rfl rfl rfl rfl rfl rfl rfl rfl dd _ I2) λx s hs ha=>⟨ao ha dd 2 1 dd dd,λv hv=>by
   rw[List.mem_singleton.1 hv]
   exact vv⟩,aG _ (λs=>[min (ar s 2 0) (ar s 2 1)]) 2 dd λx s ha=>ao ha dd 2 1 dd dd⟩
 apply eli
 ·rintro rfl
  refine⟨aF _ (λs=>[max (ar s 2 0) (ar s 2 1)]) dd dd (fe 42 arg lit cells rfl rfl rfl rfl rfl rfl rfl rfl rfl rfl dd _ GF) λx s hs ha=>⟨ao ha dd 2 1 dd dd,λv hv=>by
   rw[List.mem_singleton.1 hv]
   exact vv⟩,aG _ (λs=>[max (ar s 2 0) (ar s 2 1)]) 2 dd λx s ha=>ao ha dd 2 1 dd dd⟩
 apply eli
 ·rintro rfl
  refine⟨aF _ (λs=>[bits .and .i64 (ar s 2 0) (ar s 2 1)]) dd dd (fe 47 arg lit cells rfl rfl rfl rfl rfl rfl rfl rfl rfl rfl dd _ Hu) λx s hs ha=>⟨ao ha dd 2 1 dd dd,λv hv=>by
   rw[List.mem_singleton.1 hv]
   exact vv⟩,aG _ (λs=>[bits .and .i64 (ar s 2 0) (ar s 2 1)]) 2 dd λx s ha=>ao ha dd 2 1 dd dd⟩
 apply eli
 ·rintro rfl
  refine⟨aF _ (λs=>[bits .or .i64 (ar s 2 0) (ar s 2 1)]) dd dd (fe 48 arg lit cells rfl rfl rfl rfl rfl rfl rfl rfl rfl rfl dd _ Ln) λx s hs ha=>⟨ao ha dd 2 1 dd dd,λv hv=>by
   rw[List.mem_singleton.1 hv]
   exact vv⟩,aG _ (λs=>[bits .or .i64 (ar s 2 0) (ar s 2 1)]) 2 dd λx s ha=>ao ha dd 2 1 dd dd⟩
 apply eli
 ·rintro rfl
  refine⟨aF _ (λs=>[bits .xor .i64 (ar s 2 0) (ar s 2 1)]) dd dd (fe 49 arg lit cells rfl rfl rfl rfl rfl rfl rfl rfl rfl rfl dd _ IV) λx s hs ha=>⟨ao ha dd 2 1 dd dd,λv hv=>by
   rw[List.mem_singleton.1 hv]
   exact vv⟩,aG _ (λs=>[bits .xor .i64 (ar s 2 0) (ar s 2 1)]) 2 dd λx s ha=>ao ha dd 2 1 dd dd⟩
 apply eli
 ·rintro rfl
  refine⟨aF _ (λs=>[yO (ar s 2 0) (ar s 2 1)]) dd dd (fe 51 arg lit cells rfl rfl rfl rfl rfl rfl rfl rfl rfl rfl dd _ Gv) λx s hs ha=>⟨ao ha dd 2 1 dd dd,λv hv=>by
   rw[List.mem_singleton.1 hv]
   exact vv⟩,aG _ (λs=>[yO (ar s 2 0) (ar s 2 1)]) 2 dd λx s ha=>ao ha dd 2 1 dd dd⟩
 apply eli
 ·rintro rfl
  refine⟨aF _ (λs=>[xU (ar s 2 0) (ar s 2 1)]) dd dd (fe 52 arg lit cells rfl rfl rfl rfl rfl rfl rfl rfl rfl rfl dd _ Io) λx s hs ha=>⟨ao ha dd 2 1 dd dd,λv hv=>by
   rw[List.mem_singleton.1 hv]
   exact vv⟩,aG _ (λs=>[xU (ar s 2 0) (ar s 2 1)]) 2 dd λx s ha=>ao ha dd 2 1 dd dd⟩
 apply eli
 ·rintro rfl
  refine⟨aF _ (λs=>[cy ((ar s 2 0) == (ar s 2 1))]) dd dd (fe 58 arg lit cells rfl rfl rfl rfl rfl rfl rfl rfl rfl rfl dd _ KW) λx s hs ha=>⟨ao ha dd 2 1 dd dd,λv hv=>by
   rw[List.mem_singleton.1 hv]
   exact vv⟩,aG _ (λs=>[cy ((ar s 2 0) == (ar s 2 1))]) 2 dd λx s ha=>ao ha dd 2 1 dd dd⟩
 apply eli
 ·rintro rfl
  refine⟨aF _ (λs=>[cy ((ar s 2 0) != (ar s 2 1))]) dd dd (fe 59 arg lit cells rfl rfl rfl rfl rfl rfl rfl rfl rfl rfl dd _ Lb) λx s hs ha=>⟨ao ha dd 2 1 dd dd,λv hv=>by
   rw[List.mem_singleton.1 hv]
   exact vv⟩,aG _ (λs=>[cy ((ar s 2 0) != (ar s 2 1))]) 2 dd λx s ha=>ao ha dd 2 1 dd dd⟩
 apply eli
 ·rintro rfl
  refine⟨aF _ (λs=>[cy (decide ((ar s 2 0) < (ar s 2 1)))]) dd dd (fe 60 arg lit cells rfl rfl rfl rfl rfl rfl rfl rfl rfl rfl dd _ Mb) λx s hs ha=>⟨ao ha dd 2 1 dd dd,λv hv=>by
   rw[List.mem_singleton.1 hv]
   exact vv⟩,aG _ (λs=>[cy (decide ((ar s 2 0) < (ar s 2 1)))]) 2 dd λx s ha=>ao ha dd 2 1 dd dd⟩
 apply eli
 ·rintro rfl
  refine⟨aF _ (λs=>[cy (decide ((ar s 2 1) < (ar s 2 0)))]) dd dd (fe 61 arg lit cells rfl rfl rfl rfl rfl rfl rfl rfl rfl rfl dd _ Lr) λx s hs ha=>⟨ao ha dd 2 1 dd dd,λv hv=>by
   rw[List.mem_singleton.1 hv]
   exact vv⟩,aG _ (λs=>[cy (decide ((ar s 2 1) < (ar s 2 0)))]) 2 dd λx s ha=>ao ha dd 2 1 dd dd⟩
 apply eli
 ·rintro rfl
  refine⟨aF _ (λs=>[cy (decide (IntKind.u64.wrap (ar s 2 0) <IntKind.u64.wrap (ar s 2 1)))]) dd dd (fe 62 arg lit cells rfl rfl rfl rfl rfl rfl rfl rfl rfl rfl dd _ Gh) λx s hs ha=>⟨ao ha dd 2 1 dd dd,λv hv=>by
   rw[List.mem_singleton.1 hv]
   exact vv⟩,aG _ (λs=>[cy (decide (IntKind.u64.wrap (ar s 2 0) <IntKind.u64.wrap (ar s 2 1)))]) 2 dd λx s ha=>ao ha dd 2 1 dd dd⟩
 intro hq
 cases hq
def qe(x:Rn)(s:Mt):Option Rs:=
 if x.left=0 then some ⟨13,x,s⟩
 else if(s.S.aE x.mode x.pc).2≠0 then some ⟨(s.S.aE x.mode x.pc).2,{ x with left:=x.left-1 },s⟩
 else
  let i:=(s.S.aE x.mode x.pc).1
  let x2:={ x with left:=x.left-1,next:=wrap64 (x.pc+8*i.cells) }
  if asks i x2 s≠0 then some ⟨asks i x2 s,x2,s⟩
  else(parts i).map λq=>if(q x2 s).f≠0 then q x2 s else⟨0,{ (q x2 s).x with pc:=(q x2 s).x.next },(q x2 s).s.told (q x2 s).x i.op⟩
def ij:Nat->Rn->Mt->Option Rs
 | 0,_,_=>none
 | n+1,x,s=>
   match qe x s with
   | none=>none
   | some q=>if q.f≠0 then some q else if q.x.over then some q else ij n q.x q.s
theorem qL{s:Mt}(hs:s.Ok)(x:Rn)(op:Int): (s.told x op).Ok:=by
 unfold Mt.told
 split
 ·exact⟨hs.pd,hs.pr,hs.d,hs.r,hs.du,hs.dv,hs.ru,hs.rv⟩
 ·exact hs
theorem lL(S:Img)(m a:Int):V64 (S.aE m a).1.arg∧V64 (S.aE m a).1.lit∧V64 (8* (S.aE m a).1.cells):=by
 have h0:V64 0:=by unfold V64;omega
 have hv:=lX S m a
 have hu:V64 (Code.unpack (S.aP m a)).2.1∧(Code.unpack (S.aP m a)).2.1<36028797018963968:=by
  unfold Code.unpack
  split
  ·rename_i h
   unfold Code.uE V64 at *
   simp only
   refine⟨by omega,by omega⟩
  ·exact⟨h0,by simp⟩
 unfold Img.aE aq.none
 split
 ·exact⟨h0,h0,by unfold V64;simp⟩
 split
 ·exact⟨h0,h0,by unfold V64;simp⟩
 split
 ·split
  ·exact⟨h0,h0,by unfold V64;simp⟩
  ·exact⟨hu.1,lX _ _ _,by unfold V64;simp⟩
 split
 ·split
  ·exact⟨h0,h0,by unfold V64;simp⟩
  ·rename_i h
   refine⟨hu.1,h0,?_⟩
   have h3:0<=(Code.unpack (S.aP m a)).2.1:=by
    unfold Img.cD at h
    split at h
    ·simp at h
    ·omega
   have h4:=hu.2
   unfold V64
   simp only
   omega
 ·exact⟨hu.1,h0,by unfold V64;simp⟩
end Vm
open Go.RowKit Go.Lib Go.Deep
namespace Vm
theorem vY(f:Int)(w:World): (Instr.typeAssert (.iface 46 (.int .i64 f)) 20 46 true).run prog w = .ok (.tuple #[f,.bool true]) w:=by
 simp[Instr.typeAssert,go_sem,run_underlying underlying46]
theorem qp(p:Addr)(v:Value)(f:Int)(w:World)(hc:w.cell? p=some v)(hz:w.frozen? p=false):
 CallsD prog 68 #[.pointer (some p)] (.panicking [flt f]) w λe u' w'=>
  e = .returned (.tuple #[])∧u' = .panicking [{ v:= .iface 46 (.int .i64 f),recovered:=true }]∧w'=w.setCell p (.int .i64 f):=by
 have hta:=vY f w
 refine callsD_of_wpS func68 rfl λc₀ cs hu=> ?_
 apply wpS_seq
 apply wpS_region
 simp[wpOpsS,go_sem,recoverD,hu,flt,ntmps68,Exit.thenS]
 refine wpS_of_wp ?_
 simp only[Array.replicate_succ,Array.replicate_zero,List.push_toArray,List.append_toArray,List.nil_append,List.cons_append,List.setIfInBounds_toArray,List.set_cons_zero,List.set_cons_succ]
 go_wp2
 cases c₀
 simp_all[bodyPostS,results,results68]
theorem Bb(p:Addr)(w:World):
 CallsD prog 68 #[.pointer (some p)] .returning w λe u' w'=>e = .returned (.tuple #[])∧u' = .returning∧w'=w:=by
 refine callsD_of_wpS func68 rfl λc₀ cs hu=> ?_
 apply wpS_seq
 apply wpS_region
 simp[wpOpsS,go_sem,recoverD,hu,ntmps68,Exit.thenS]
 refine wpS_of_wp ?_
 simp only[Array.replicate_succ,Array.replicate_zero,List.push_toArray,List.append_toArray,List.nil_append,List.cons_append,List.setIfInBounds_toArray,List.set_cons_zero,List.set_cons_succ]
 go_wp2
 cases c₀
 simp_all[bodyPostS,results,results68]
theorem qo(d:Nat)(w:World): (Op.equalIn (d+1) 92 .nilFunc .nilFunc).run prog w = .ok true w:=by
 simp[Op.equalIn,run_underlying underlying92,go_sem]
theorem we(d:Nat)(w:World)(f:Fn)(a b:Array Value): (Op.equalIn (d+1) 92 (.func f a b) .nilFunc).run prog w = .ok false w:=by
 simp[Op.equalIn,run_underlying underlying92,go_sem]
theorem zB(w:World): (binOp .neq 92 .nilFunc .nilFunc).run prog w = .ok (.bool false) w:=by
 simp only[binOp]
 simp[go_sem,Op.equal,show Op.maxDepth=9999+1 from rfl,qo]
theorem H8(w:World)(f:Fn)(a b:Array Value): (binOp .neq 92 (.func f a b) .nilFunc).run prog w = .ok (.bool true) w:=by
 simp only[binOp]
 simp[go_sem,Op.equal,show Op.maxDepth=9999+1 from rfl,we]
theorem wD{p:Prop}(h:p):p:=h
def ss(Q:Exit->Act->World->Prop):Exit->Act->World->Prop
 | .panic _,_,_=>False
 | e,a,w=>Q e a w
theorem ss.normal{Q:Exit->Act->World->Prop}{a:Act}{w:World}(h:Q .normal a w):ss Q .normal a w:=h
theorem eX{P:Program}{id:Nat}{ops:Array Oper}{b:Bool}{Q:Exit->Act->World->Prop}{a:Act}{w:World}(h: (Code.region id ops b).wp P (ss Q) a w): (Code.region id ops b).wp P Q a w:=
 wp_mono h λe a w h=>by cases e<;>first|exact h|exact(h:False).elim
section
variable {P:Program}{a:Act}{w:World}{Q:Exit->Act->World->Prop}
theorem lg{c rest:Code}(l:Nat)(I:Nat->Act->World->Prop)(hf:findLabel c l=some (Code.skip.seq rest))
 (pass: ∀n a w,I n a w->rest.wp P (Exit.jump l (λa' w'=> ∃n',n'<n∧I n' a' w') Q) a w)
 (first: (∀n a w,I n a w->rest.wp P (Exit.jump l (λa w=> ∃n,I n a w) Q) a w)->c.wp P (Exit.jump l (λa w=> ∃n,I n a w) Q) a w): (Code.scope c).wp P Q a w:=by
 refine wp_scope_jumps l (λa w=> ∃n,I n a w) (λa w=>leastOf (λn=>I n a w)) hf (first λn a w h=>wp_mono (pass n a w h) ?_) ?_
 ·intro e a' w' hq
  cases e with
  | goto l'=>exact⟨hq.1,let⟨n',_,h⟩:=hq.2;⟨n',h⟩⟩
  | normal=>exact hq
  | exit id=>exact hq
  | ret=>exact hq
  | panic ch=>exact hq
  | outgrown=>exact hq
 ·intro a w h
  refine wp_mono (wp_seq (wp_skip (pass _ a w (leastOf_spec h).1))) ?_
  intro e a' w' hq
  cases e with
  | goto l'=>
    obtain⟨hl,n',Rd,hI⟩:=hq
    exact⟨hl,⟨n',hI⟩,Nat.lt_of_le_of_lt ((leastOf_spec ⟨n',hI⟩).2 n' hI) Rd⟩
  | normal=>exact hq
  | exit id=>exact hq
  | ret=>exact hq
  | panic ch=>exact hq
  | outgrown=>exact hq
end
section
variable {w w':World}{F:Nat->Prop}{c:Vc}{g:Nat}{x:Rn}{src:Value}{s:Mt}
theorem ti(m:Nat){L:List Asr}(hm:m<=L.length)(hL:L.drop m=vL c g x src s)(h:On F w (aa L) w')(hs:s.Ok)(l:List Int)(hl: ∀v∈l,V64 v)
 (j:Nat) (hj:j<m) (rb:Nat) (An:L[j]? = some (ae rb 3 (ag l))) (OF:l.length<=s.pr.rm-s.r):
 Calls prog 60 #[c.gR,.slice rb l.length l.length] w' (Got (.returned (.int .i64 0)) (aa (L.take m++vL c g x src (s.az l))) F w):=by
 refine h.bj m hm λF' hb Wf _=> ?_
 rw[hL]at hb
 obtain⟨F3,hB,SF⟩:=Wf j _ hj An
 obtain⟨h1,h2⟩:=aA rb l _ _ hB
 exact C3 (On.refl hb) hs l hl (some ⟨rb,0,none⟩) l.length h1 (λa ha=>⟨λhk=>SF _ (h2 a ha) hk,by
  obtain rfl:a= ⟨rb,0,none⟩:=by injection ha with ha;exact ha.symm
  exact hB.1.lt⟩) OF
def fX(c:Vc)(au:Bool):Prop:=
 (au=false∧c.tell = .nilFunc)∨
 (au=true∧∃gb,c.tell = .func (.func 37) #[.pointer (some ⟨gb,0,none⟩)] #[]∧
  ∀(l:List Stp) (p:Stp) (w:World) (F:Nat->Prop),l.length<1000000000->(c.tl l).holds w F->Calls prog 37 #[gb,.agg #[(p.at_:Int),p.op,p.dep,p.top,p.aZ]] w (Got (.returned (.tuple #[])) (c.tl (l ++ [p])) F w))
def plL(c:Vc)(g fb:Nat)(i:aq)(f:Int)(x:Rn)(src:Value)(s:Mt):List Asr:=ae (fb+1) 164 i.c::ae fb 46 #[f]::vL c g x src s
theorem rM(fb:Nat)(f:Int)(w wr:World)(F:Nat->Prop)(c:Vc)(g:Nat)(x:Rn)(src:Value)(s:Mt)(i:aq)(h:On F w (aa (plL c g fb i f x src s)) wr)(tm:Array Value)(h4:tm.getD 4 undef = .pointer fb):
 bodyPostD prog Tryz.f41 (Got (.returned f) (VA c g x src s) F w) Exit.ret { tmps:=tm,defers:=[{ target:= .fn (.func 68) #[fb],args:=#[] }] } wr:=by
 refine leaves_cons (f:=68) (args:=#[.pointer fb]) (by simp) (by simp[go_sem]) ?_
 refine(Bb ⟨fb,0,none⟩ wr).mono ?_
 rintro e u' Ut ⟨rfl,rfl,rfl⟩
 have c0:Ut.cell? (fb,0)=some (f:Vl):=(h.ab 1 rfl).cell 0
 have h4':tm[4]?.getD undef = .pointer fb:=by simpa using h4
 refine⟨.int .i64 f,?_,rfl,h.tail.tail⟩
 simp[results,results41,go_sem,h4',c0]
theorem j1(fb:Nat)(f f0:Int)(w wr:World)(F:Nat->Prop)(c:Vc)(g:Nat)(x:Rn)(src:Value)(s:Mt)(i:aq)(h:On F w (aa (plL c g fb i f0 x src s)) wr)(tm:Array Value)(h4:tm.getD 4 undef = .pointer fb):
 bodyPostD prog Tryz.f41 (Got (.returned f) (VA c g x src s) F w) (Exit.panic [flt f]) { tmps:=tm,defers:=[{ target:= .fn (.func 68) #[fb],args:=#[] }] } wr:=by
 refine leaves_cons (f:=68) (args:=#[.pointer fb]) (by simp) (by simp[go_sem]) ?_
 have hb:=h.ab 1 rfl
 refine(qp ⟨fb,0,none⟩ (.int .i64 f0) f wr (hb.cell 0) (hb.frozen 0)).mono ?_
 rintro e u' Ut ⟨rfl,rfl,rfl⟩
 have h2:=h.setAt 1 rfl 0 (.int .i64 f)
 have c0: (wr.setCell (fb,0) (.int .i64 f)).cell? (fb,0)=some (f:Vl):=(h2.ab 1 rfl).cell 0
 have h4':tm[4]?.getD undef = .pointer fb:=by simpa using h4
 refine⟨.int .i64 f,?_,rfl,h2.tail.tail⟩
 simp[results,results41,go_sem,h4',c0]
end
theorem fG{S:Img}(h:S.Ok)(m a v:Int): (S.setCell m a v).Ok:=by
 unfold Img.setCell
 split
 ·rename_i hc
  unfold Img.ay at hc
  split at hc
  ·cases hc
  split at hc
  ·rename_i hr
   obtain⟨h0,h1⟩:=S.lz hr oM
   exact cY h _ _ (by rw[aI];omega)
  ·cases hc
 ·exact h
theorem iW{S:Img}(h:S.Ok)(m a:Int)(c:UInt8): (S.aS m a c).Ok:=by
 unfold Img.aS
 split
 ·rename_i hr
  obtain⟨h0,h1⟩:=S.lz hr oM
  exact cY h _ _ (by simp;omega)
 ·exact h
theorem eN: ∀(l:List Int) (S:Img) (fr d:Nat),S.Ok->(aY S fr d l).Ok
 | [],S,fr,d,h=>h
 | x::l,S,fr,d,h=>eN l _ fr (d+1) (fG h _ _ _)
theorem Alike.aS(S:Img)(m a:Int)(c:UInt8):Alike S (S.aS m a c):=by
 unfold Img.aS
 split
 ·exact Alike.put _ _ _
 ·exact Alike.refl S
theorem sG{S:Img}(h:S.Ok){m a:Int}{n:Nat}{w:Bool}(hr:S.aO m a n w=true):n=0∨0<=a∧a.toNat+n<=S.beg 6:=by
 by_cases hn:n=0
 ·exact .inl hn
 ·obtain⟨h0,h1⟩:=S.lz hr hn
  exact .inr ⟨h0,by omega⟩
theorem sQ{S:Img}(h:S.Ok){m a:Int}{n:Nat}{w:Bool}(hr:S.aO m a n w=true)(l:List UInt8)(hl:l.length=n): (S.put a.toNat l).Ok:=by
 rcases sG h hr with h0| ⟨h0,h1⟩
 ·have:l = []:=List.eq_nil_of_length_eq_zero oM
  rw[this,Img.fK]
  exact h
 ·exact cY h _ _ oM
theorem Alike.move(S:Img)(m a b n:Int):Alike S (S.move m a b n):=by
 unfold Img.move
 split
 ·exact Alike.put _ _ _
 ·exact Alike.refl S
theorem Alike.fill(S:Img)(m a n:Int)(c:UInt8):Alike S (S.fill m a n c):=by
 unfold Img.fill
 split
 ·exact Alike.put _ _ _
 ·exact Alike.refl S
theorem zN{S:Img}(h:S.Ok)(m a b n:Int): (S.move m a b n).Ok:=by
 unfold Img.move
 split
 ·rename_i hf
  unfold Img.fM at hf
  split at hf
  ·cases hf
  split at hf
  ·rename_i hr
   refine sQ h hr.2 _ ?_
   rcases sG h hr.1 with h0| ⟨h0,h1⟩
   ·rw[h0];simp[Img.bytes]
   ·unfold Img.bytes
    rw[List.length_take,List.length_drop,h.len]
    omega
  ·cases hf
 ·exact h
theorem yG{S:Img}(h:S.Ok)(m a n:Int)(c:UInt8): (S.fill m a n c).Ok:=by
 unfold Img.fill
 split
 ·rename_i hf
  unfold Img.gL at hf
  split at hf
  ·cases hf
  split at hf
  ·rename_i hr
   exact sQ h hr _ (List.length_replicate ..)
  ·cases hf
 ·exact h
structure dz(s s':Mt):Prop where
 al:Alike s.S s'.S
 ok:s.S.Ok->s'.S.Ok
 hs:s'.hs=s.hs
 ls:s'.ls=s.ls
 hk:s'.hk=s.hk
 lk:s'.lk=s.lk
 T:s'.T=s.T
 ext:s'.ext=s.ext
 fa:s'.fault=s.fault
 us:s'.used=s.used
 hd:s'.hidden=s.hidden
theorem dz.refl(s:Mt):dz s s:=⟨Alike.refl _,id,rfl,rfl,rfl,rfl,rfl,rfl,rfl,rfl,rfl⟩
theorem dz.trans{s t u:Mt}(h:dz s t)(g:dz t u):dz s u:=
 ⟨h.al.trans g.al,λo=>g.ok (h.ok o),g.hs.trans h.hs,g.ls.trans h.ls,g.hk.trans h.hk,g.lk.trans h.lk,g.T.trans h.T,g.ext.trans h.ext,g.fa.trans h.fa,g.us.trans h.us,g.hd.trans h.hd⟩
theorem sk(s:Mt)(S':Img)(h1:Alike s.S S')(h2:s.S.Ok->S'.Ok):dz s { s with S:=S' }:=⟨h1,h2,rfl,rfl,rfl,rfl,rfl,rfl,rfl,rfl,rfl⟩
theorem Be(s:Mt)(l:List Int):dz s (s.dy l):=⟨Alike.aY _ _ _ _,λh=>eN _ _ _ _ h,rfl,rfl,rfl,rfl,rfl,rfl,rfl,rfl,rfl⟩
theorem dW(s:Mt)(l:List Int):dz s (s.az l):=⟨Alike.aY _ _ _ _,λh=>eN _ _ _ _ h,rfl,rfl,rfl,rfl,rfl,rfl,rfl,rfl,rfl⟩
theorem uS(s:Mt)(n:Nat):dz s (s.jJ n):=⟨Alike.refl _,id,rfl,rfl,rfl,rfl,rfl,rfl,rfl,rfl,rfl⟩
theorem lN(s:Mt)(n:Nat):dz s (s.eu n):=⟨Alike.refl _,id,rfl,rfl,rfl,rfl,rfl,rfl,rfl,rfl,rfl⟩
theorem AF(s:Mt)(n:Nat)(v:Int):dz s (s.nS n v):=⟨Alike.fh _ _ _ _,λh=>fG h _ _ _,rfl,rfl,rfl,rfl,rfl,rfl,rfl,rfl,rfl⟩
theorem aW(s:Mt)(n:Nat)(l:List Int):dz s (s.ak n l).2:=by
 unfold Mt.ak
 split
 ·exact uS _ _
 ·exact(uS _ _).trans (Be _ _)
theorem j9(s:Mt)(m a v:Int):dz s { s with S:=s.S.setCell m a v }:=sk s _ (Alike.setCell _ _ _ _) λh=>fG h _ _ _
theorem wM(s:Mt)(m a:Int)(v:UInt8):dz s { s with S:=s.S.aS m a v }:=sk s _ (Alike.aS _ _ _ _) λh=>iW h _ _ _
theorem oG(x:Rn)(s:Mt):dz s (back x s).s:=by
 unfold back
 split
 ·exact dz.refl s
 ·exact⟨Alike.refl _,id,rfl,rfl,rfl,rfl,rfl,rfl,rfl,rfl,rfl⟩
theorem vd(n:Int)(e:Bool)(a:Int)(x:Rn)(s:Mt):dz s (dx n e a x s).s:=by
 unfold dx
 split
 ·exact lN _ _
 ·exact AF _ _ _
theorem fQ(n:Nat)(l:List Int)(x:Rn)(s:Mt):dz s (aJ n l x s).s:=aW s n l
theorem l7(n:Nat)(p:Rs×List Int)(s:Mt)(h:dz s p.1.s):dz s (Rs.laid n p).s:=by
 unfold Rs.laid
 split
 ·exact h.trans (aW _ _ _)
 ·exact h
def Rn.up(x:Rn)(k:Int):Rn:={ x with left:=x.left+k }
def Mt.sn(s:Mt)(l:List Stp):Mt:={ s with seen:=l }
def Rs.up(q:Rs)(k:Int)(l:List Stp):Rs:=⟨q.f,q.x.up k,q.s.sn l⟩
def Flat(q:Rn->Mt->Rs):Prop:= ∀x s k l,q (x.up k) (s.sn l)= (q x s).up k l
theorem bo(s:Mt)(n:Nat)(l:List Int)(t:List Stp): (s.sn t).ak n l= ((s.ak n l).1,(s.ak n l).2.sn t):=by
 unfold Mt.ak
 show(if s.pd.rm- (s.d-n) <l.length then _ else _)=_
 split<;>rfl
theorem eZ(n:Nat)(l:Rn->Mt->List Int)(h: ∀x s k t,l (x.up k) (s.sn t)=l x s):Flat (λx s=>aJ n (l x s) x s):=by
 intro x s k t
 show aJ n (l (x.up k) (s.sn t)) (x.up k) (s.sn t)=_
 rw[h]
 unfold aJ
 rw[bo]
 rfl
theorem oE:Flat back:=by
 intro x s k t
 unfold back
 show(if s.r=0 then _ else _)=_
 split<;>rfl
theorem ur(n:Rn->Mt->Int)(e:Rn->Mt->Bool)(a:Int)(u:Mt->Mt)(hn: ∀x s k t,n (x.up k) (s.sn t)=n x s)(he: ∀x s k t,e (x.up k) (s.sn t)=e x s)(hu: ∀s t,u (s.sn t)= (u s).sn t):Flat (λx s=>dx (n x s) (e x s) a x (u s)):=by
 intro x s k t
 show dx (n (x.up k) (s.sn t)) (e (x.up k) (s.sn t)) a (x.up k) (u (s.sn t))=_
 rw[hn,he,hu]
 show _= (dx (n x s) (e x s) a x (u s)).up k t
 unfold dx
 split<;>rfl
def cF(q:Rn->Mt->Rs×List Int):Prop:= ∀x s k l,q (x.up k) (s.sn l)= ((q x s).1.up k l,(q x s).2)
theorem cF.laid{q:Rn->Mt->Rs×List Int}(h:cF q)(n:Nat):Flat (λx s=>Rs.laid n (q x s)):=by
 intro x s k l
 show Rs.laid n (q (x.up k) (s.sn l))=_
 rw[h]
 show _= (Rs.laid n (q x s)).up k l
 unfold Rs.laid
 show(if(q x s).1.f=0 then aJ n (q x s).2 ((q x s).1.x.up k) ((q x s).1.s.sn l)else _)=_
 split
 ·unfold aJ
  rw[bo]
  rfl
 ·rfl
structure Fu(q:Rn->Mt->Rs):Prop where
 up: ∀x s k l,0<=k->(q x s).f≠13->q (x.up k) (s.sn l)= (q x s).up k l
 stop: ∀x s k l,0<=k->(q x s).f=13->(q (x.up k) (s.sn l)).f≠13->(q (x.up k) (s.sn l)).x.left<k
 out: ∀x s,∃t:List UInt8,(q x s).s.T.out.data.toList=s.T.out.data.toList++t
 Nc: ∀x s,(q x s).f=13->(q x s).s.T.out=s.T.out
theorem Flat.fu{q:Rn->Mt->Rs}(h:Flat q)(hT: ∀x s,(q x s).s.T=s.T):Fu q:=
 ⟨λx s k l _ _=>h x s k l,λx s k l _ YL hn=>absurd (by rw[h];exact YL) hn,λx s=>⟨[],by rw[hT];simp⟩,λx s _=>by rw[hT]⟩
