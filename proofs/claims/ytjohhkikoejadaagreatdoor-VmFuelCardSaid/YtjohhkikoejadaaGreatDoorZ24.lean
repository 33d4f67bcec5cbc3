/- Chapter 11: parts that may give up and turn no more than the image: what they leave. No condition. -/
import Derived.Test.YtjohhkikoejadaaGreatDoorOm
import Derived.Test.YtjohhkikoejadaaGreatDoorZ18
import Derived.Test.YtjohhkikoejadaaGreatDoorZ17
import Derived.Test.YtjohhkikoejadaaGreatDoorZ16
import Derived.Test.YtjohhkikoejadaaGreatDoorZ02
import Derived.Recover
import Derived.Deep.DeepCutAuto
import Derived.ScopeJumps
import Derived.WalkMore
import Derived.Test.YtjohhkikoejadaaGreatDoorZ13
namespace Go.Proofs.YtjohhkikoejadaaGreatDoor
set_option linter.unusedVariables false
set_option linter.unusedSimpArgs false
set_option maxHeartbeats 8000000
open Go.RowKit Go.Lib
namespace Vm
theorem Bv(a b n:Int) :V64 (udQ a b n):=aZ _
theorem BI(a b n:Int) :V64 (udR a b n):=aZ _
theorem Cu(a b n:Int) :V64 (dvQ a b n):=by unfold dvQ xz;split;exact Bv _ _ _;exact aZ _
theorem Ch(a b n:Int) :V64 (dvR a b n):=by unfold dvR E0;split;exact aZ _;exact BI _ _ _
theorem va(a b n:Int) :V64 (fdQ a b n):=by unfold fdQ;split;exact aZ _;exact Cu _ _ _
theorem uR(a b n:Int) :V64 (fdR a b n):=by unfold fdR;split;exact aZ _;exact Ch _ _ _
theorem Gg(a b:Int) :V64 (dn a b):=aZ _
theorem H9(a b:Int) :V64 (sO a b):=aZ _
theorem JI(a b:Int) :V64 (tHi a b):=aZ _
def eO(q:Rn->Mt->Rs×List Int)(m:Nat) :Prop:= ∀x s,s.Ok->x.Ok->(q x s).1.s.Ok∧(q x s).1.s.d=s.d∧(q x s).1.s.pd=s.pd∧(q x s).2.length<=m∧(∀v∈(q x s).2,V64 v)∧(q x s).1.x=x∧(q x s).1.s.av=s.av∧(q x s).1.s.seen=s.seen
theorem eO.pure{l:Mt->List Int}{m:Nat}{f:Mt->Int}(hl : ∀s,(l s).length<=m)(hv : ∀s,s.Ok->∀v∈l s,V64 v) :eO (λx s=>(⟨f s,x,s⟩,l s)) m:=λx s hs hx=>⟨hs,rfl,rfl,hl s,hv s hs,rfl,rfl,rfl⟩
theorem GF(k:Nat)(q r:Int) : (iU k q r).length<=if k<=1 then 1 else 2:=by
 unfold iU
 split
 ·rename_i h;subst h;exact Nat.le_refl 1
 split
 ·rename_i h;subst h;exact Nat.le_refl 1
 ·rw[if_neg oM];exact Nat.le_refl 2
theorem GG{k:Nat}{q r:Int}(hq:V64 q)(hr:V64 r) : ∀v∈iU k q r,V64 v:=by
 unfold iU
 intro v hv
 split at hv
 ·rw[List.mem_singleton.1 hv];exact hq
 split at hv
 ·rw[List.mem_singleton.1 hv];exact hr
 ·simp only[List.mem_cons,List.mem_nil_iff,or_false]at hv
  rcases hv with rfl|rfl
  ·exact hr
  ·exact hq
theorem eO.quo{k:Nat}{o:Mt->Bool}{q r:Mt->Int}(hq : ∀s,V64 (q s))(hr : ∀s,V64 (r s)) :eO (λx s=>dH k (o s) (q s) (r s) x s) (if k<=1 then 1 else 2):=
 λx s hs hx=>⟨hs,rfl,rfl,GF _ _ _,GG (hq s) (hr s),rfl,rfl,rfl⟩
theorem cA.toR{f:FuncId}{pre:Nat->Array Value}{i:ao}{l:Mt->List Int}(h:cA f pre i l) :bn f pre i (λx s=>(⟨0,x,s⟩,l s)):=
 λc g x src s ba w F hs hx hask hb=>(h c g x src s ba w F hs hask hb).mono λe w' h=>by
  rw[if_pos rfl]
  exact h
theorem aT{i:ao}{q:Rn->Mt->Rs×List Int}{m:Nat}(n:Nat)(hn: (Code.ah i.op).1=n)(hm: (Code.ah i.op).2=m)(h26:i.op≠26)(h:eO q m) :nG i q:=by
 intro x s hs hx ha hf
 obtain⟨h1,h2,h3,h4,h5,_⟩:=h x s hs hx
 refine⟨h1,h2,?_,h5⟩
 have h6:=ha.room
 have h7:=ha.tk
 rw[if_neg (by rintro⟨h,_⟩;exact h26 h)]at h6
 rw[h3]
 omega
theorem cS.congr{f:FuncId}{i:ao}{q q':Rn->Mt->Rs}(h:cS f i q)(e : ∀x s,s.Ok->x.Ok->db i x s->q x s=q' x s) :cS f i q':=by
 intro c g x src s ba w F hs hx hv1 hv2 hask hb
 rw[<-e x s hs hx hask]
 exact h c g x src s ba w F hs hx hv1 hv2 hask hb
theorem si{s:Mt}(hs:s.Ok)(m a v:Int) : ({ s with S:=s.S.setCell m a v }:Mt).Ok:=⟨hs.pd,hs.pr,hs.d,hs.r,hs.du,hs.dv,hs.ru,hs.rv⟩
theorem HA{x:Int}(h:V64 x) : ∀v∈lM x,V64 v:=by
 unfold lM
 intro v hv
 split at hv
 ·rw[List.mem_singleton.1 hv];exact h
 ·simp only[List.mem_cons,List.mem_nil_iff,or_false,or_self]at hv
  rw[hv];exact h
end Vm
set_option maxRecDepth 100000
namespace Vm
def parts(i:ao) :Option (Rn->Mt->Rs):=
 if i.op=1 then some (back)
 else if i.op=2 then some (aK 0 [i.lit])
 else if i.op=3 then some (λx s=>⟨0,{ x with next:=i.arg },s.aE [x.next]⟩)
 else if i.op=4 then some (λx s=>⟨0,{ x with next:=i.arg },s⟩)
 else if i.op=5 then some (λx s=>⟨0,if ar s 1 0=0 then { x with next:=i.arg } else x,(s.aq 1 []).2⟩)
 else if i.op=6 then some (λx s=>⟨0,x,((s.aq 2 []).2).aE (s.args 2)⟩)
 else if i.op=7 then some (λx s=>if ar s 2 0=ar s 2 1 then⟨0,{ x with next:=i.arg },(s.aq 2 []).2⟩else⟨0,x,((s.aq 2 []).2).aE (s.args 2)⟩)
 else if i.op=8 then some (λx s=>ee (wrap64 (s.bH 0+1)) (wrap64 (s.bH 0+1) ==s.bH 1) i.arg x s)
 else if i.op=9 then some (λx s=>ee (wrap64 (s.bH 0+ar s 1 0)) (lV (s.bH 0) (s.bH 1) (ar s 1 0)) i.arg x (s.aq 1 []).2)
 else if i.op=10 then some (λx s=>⟨0,x,s.iB (s.r-2)⟩)
 else if i.op=13 then some (λx s=>⟨0,x,((s.aq 1 []).2).aE (s.args 1)⟩)
 else if i.op=16 then some (λx s=>⟨0,{ x with next:=ar s 1 0 },((s.aE [x.next]).aq 1 []).2⟩)
 else if i.op=20 then some (λx s=>⟨16,x,s⟩)
 else if i.op=21 then some (λx s=>aK 1 [ar s 1 0,ar s 1 0] x s)
 else if i.op=22 then some (λx s=>aK 1 [] x s)
 else if i.op=23 then some (λx s=>aK 2 [ar s 2 1,ar s 2 0] x s)
 else if i.op=24 then some (λx s=>aK 2 [ar s 2 0,ar s 2 1,ar s 2 0] x s)
 else if i.op=31 then some (λx s=>aK 2 [wrap64 (ar s 2 0+ar s 2 1)] x s)
 else if i.op=32 then some (λx s=>aK 2 [wrap64 (ar s 2 0-ar s 2 1)] x s)
 else if i.op=33 then some (λx s=>aK 2 [wrap64 (ar s 2 0*ar s 2 1)] x s)
 else if i.op=39 then some (λx s=>aK 1 [wrap64 (-ar s 1 0)] x s)
 else if i.op=43 then some (λx s=>aK 1 [wrap64 (ar s 1 0+1)] x s)
 else if i.op=44 then some (λx s=>aK 1 [wrap64 (ar s 1 0-1)] x s)
 else if i.op=11 then some (λx s=>⟨0,x,(s.aq 0 [s.bH 0]).2⟩)
 else if i.op=12 then some (λx s=>⟨0,x,(s.aq 0 [s.bH 2]).2⟩)
 else if i.op=14 then some (λx s=>⟨0,x,((s.iB (s.r-1)).aq 0 [s.bH 0]).2⟩)
 else if i.op=15 then some (λx s=>⟨0,x,(s.aq 0 [s.bH 0]).2⟩)
 else if i.op=25 then some (λx s=>aK 3 [ar s 3 1,ar s 3 2,ar s 3 0] x s)
 else if i.op=26 then some (λx s=>aK 1 (lM (ar s 1 0)) x s)
 else if i.op=27 then some (λx s=>aK 2 [ar s 2 1] x s)
 else if i.op=28 then some (λx s=>aK 2 [ar s 2 1,ar s 2 0,ar s 2 1] x s)
 else if i.op=34 then some (λx s=>Rs.laid 2 (dH 0 (decide (ar s 2 1=0)) (lA (ar s 2 0) (ar s 2 1)) (lu (ar s 2 0) (ar s 2 1)) x s))
 else if i.op=35 then some (λx s=>Rs.laid 2 (dH 1 (decide (ar s 2 1=0)) (lA (ar s 2 0) (ar s 2 1)) (lu (ar s 2 0) (ar s 2 1)) x s))
 else if i.op=36 then some (λx s=>Rs.laid 2 (dH 2 (decide (ar s 2 1=0)) (lA (ar s 2 0) (ar s 2 1)) (lu (ar s 2 0) (ar s 2 1)) x s))
 else if i.op=37 then some (λx s=>Rs.laid 3 (dH 0 (iL (dn (ar s 3 0) (ar s 3 1)) (tHi (ar s 3 0) (ar s 3 1)) (ar s 3 2)) (fdQ (dn (ar s 3 0) (ar s 3 1)) (tHi (ar s 3 0) (ar s 3 1)) (ar s 3 2)) (fdR (dn (ar s 3 0) (ar s 3 1)) (tHi (ar s 3 0) (ar s 3 1)) (ar s 3 2)) x s))
 else if i.op=38 then some (λx s=>Rs.laid 3 (dH 2 (iL (dn (ar s 3 0) (ar s 3 1)) (tHi (ar s 3 0) (ar s 3 1)) (ar s 3 2)) (fdQ (dn (ar s 3 0) (ar s 3 1)) (tHi (ar s 3 0) (ar s 3 1)) (ar s 3 2)) (fdR (dn (ar s 3 0) (ar s 3 1)) (tHi (ar s 3 0) (ar s 3 1)) (ar s 3 2)) x s))
 else if i.op=53 then some (λx s=>aK 2 [dn (ar s 2 0) (ar s 2 1),tHi (ar s 2 0) (ar s 2 1)] x s)
 else if i.op=54 then some (λx s=>aK 2 [dn (ar s 2 0) (ar s 2 1),sO (ar s 2 0) (ar s 2 1)] x s)
 else if i.op=55 then some (λx s=>Rs.laid 3 (dH 2 (qT (ar s 3 1) (ar s 3 2)) (udQ (ar s 3 0) (ar s 3 1) (ar s 3 2)) (udR (ar s 3 0) (ar s 3 1) (ar s 3 2)) x s))
 else if i.op=56 then some (λx s=>Rs.laid 3 (dH 2 (j7 (ar s 3 0) (ar s 3 1) (ar s 3 2)) (dvQ (ar s 3 0) (ar s 3 1) (ar s 3 2)) (dvR (ar s 3 0) (ar s 3 1) (ar s 3 2)) x s))
 else if i.op=57 then some (λx s=>Rs.laid 3 (dH 2 (iL (ar s 3 0) (ar s 3 1) (ar s 3 2)) (fdQ (ar s 3 0) (ar s 3 1) (ar s 3 2)) (fdR (ar s 3 0) (ar s 3 1) (ar s 3 2)) x s))
 else if i.op=65 then some (λx s=>Rs.laid 1 (((⟨s.S.az x.mode (ar s 1 0) false,x,s⟩,[s.S.aR x.mode (ar s 1 0)]) :Rs×List Int)))
 else if i.op=66 then some (λx s=>Rs.laid 2 (((⟨s.S.az x.mode (ar s 2 1) true,x,{ s with S:=s.S.setCell x.mode (ar s 2 1) (ar s 2 0) }⟩,[]) :Rs×List Int)))
 else if i.op=77 then some (λx s=>aK 0 [wrap64 (s.S.beg 3:Int)] x s)
 else if i.op=40 then some (λx s=>aK 1 [xA (ar s 1 0)] x s)
 else if i.op=45 then some (λx s=>aK 1 [wrap64 (ar s 1 0*2)] x s)
 else if i.op=46 then some (λx s=>aK 1 [ar s 1 0/2] x s)
 else if i.op=50 then some (λx s=>aK 1 [bits .xor .i64 (-1) (ar s 1 0)] x s)
 else if i.op=63 then some (λx s=>aK 1 [ct (ar s 1 0==0)] x s)
 else if i.op=64 then some (λx s=>aK 1 [xW (ar s 1 0)] x s)
 else if i.op=41 then some (λx s=>aK 2 [min (ar s 2 0) (ar s 2 1)] x s)
 else if i.op=42 then some (λx s=>aK 2 [max (ar s 2 0) (ar s 2 1)] x s)
 else if i.op=47 then some (λx s=>aK 2 [bits .and .i64 (ar s 2 0) (ar s 2 1)] x s)
 else if i.op=48 then some (λx s=>aK 2 [bits .or .i64 (ar s 2 0) (ar s 2 1)] x s)
 else if i.op=49 then some (λx s=>aK 2 [bits .xor .i64 (ar s 2 0) (ar s 2 1)] x s)
 else if i.op=51 then some (λx s=>aK 2 [xX (ar s 2 0) (ar s 2 1)] x s)
 else if i.op=52 then some (λx s=>aK 2 [yo (ar s 2 0) (ar s 2 1)] x s)
 else if i.op=58 then some (λx s=>aK 2 [ct ((ar s 2 0) == (ar s 2 1))] x s)
 else if i.op=59 then some (λx s=>aK 2 [ct ((ar s 2 0) != (ar s 2 1))] x s)
 else if i.op=60 then some (λx s=>aK 2 [ct (decide ((ar s 2 0) < (ar s 2 1)))] x s)
 else if i.op=61 then some (λx s=>aK 2 [ct (decide ((ar s 2 1) < (ar s 2 0)))] x s)
 else if i.op=62 then some (λx s=>aK 2 [ct (decide (IntKind.u64.wrap (ar s 2 0) <IntKind.u64.wrap (ar s 2 1)))] x s)
 else none
theorem aj{i:ao}{x:Rn}{s:Mt}(h:db i x s)(h26:i.op≠26)(n m:Nat)(h1: (Code.ah i.op).1=n)(h2: (Code.ah i.op).2=m) :m<=s.pd.rm- (s.d-n):=by
 have h3:=h.room
 have h4:=h.tk
 rw[if_neg (by rintro⟨h,_⟩;exact h26 h)]at h3
 omega
theorem gp{s:Mt}{n:Nat}{l:List Int}(hs:s.Ok)(hn:n<=s.d)(hroom:l.length<=s.pd.rm- (s.d-n)) : (s.aq n l).2.Ok:=by
 unfold Mt.aq
 rw[if_neg oM]
 exact ng (pS hs (s.d-n) oM) l hroom
def eN(i:ao)(q:Rn->Mt->Rs) :Prop:= ∀x s,s.Ok->x.Ok->V64 i.arg->V64 i.lit->db i x s->(q x s).s.Ok∧(q x s).x.Ok∧(q x s).s.av=s.av∧(q x s).x.left=x.left∧(q x s).s.seen=s.seen
theorem aD(i:ao)(l:Mt->List Int)(n:Nat)(hn: (Code.ah i.op).1=n)(hl : ∀x s,db i x s->(l s).length<=s.pd.rm- (s.d-n)) :eN i (λx s=>aK n (l s) x s):=by
 intro x s hs hx hv1 hv2 ha
 have h1:=ha.tk
 refine⟨gp hs oM (hl x s ha),hx,?_,rfl,?_⟩
 ·show((s.aq n (l s)).2).av=s.av
  unfold Mt.aq
  split<;>rfl
 ·show((s.aq n (l s)).2).seen=s.seen
  unfold Mt.aq
  split<;>rfl
theorem zW(arg lit cells:Int) :eN ⟨1,arg,lit,cells⟩ back:=by
 intro x s hs hx hv1 hv2 ha
 unfold back
 split
 ·exact⟨hs,hx,rfl,rfl,rfl⟩
 ·exact⟨⟨hs.pd,hs.pr,hs.d,by have:=hs.r;show s.r-1<=s.pr.rm;omega,hs.du,hs.dv,hs.ru,hs.rv⟩,⟨hx.base,hx.dT,fA _ _ _ _,hx.pc,hx.left,hx.dQ⟩,rfl,rfl,rfl⟩
theorem D8(arg lit cells:Int) :eN ⟨2,arg,lit,cells⟩ (aK 0 [lit]):=aD _ (λ_=>[lit]) 0 dd λx s ha=>aj ha dd 0 1 dd dd
theorem FM(n:Int)(e:Bool)(a:Int)(x:Rn)(s:Mt) : (ee n e a x s).f=0:=by unfold ee;split<;>rfl
theorem aH(s:Mt)(n:Nat)(l:List Int) : (s.aq n l).2.av=s.av∧(s.aq n l).2.seen=s.seen∧(s.aq n l).2.r=s.r∧(s.aq n l).2.pr=s.pr:=by
 unfold Mt.aq
 split<;>exact⟨rfl,rfl,rfl,rfl⟩
theorem hO{i:ao}{x:Rn}{s:Mt}(h:db i x s)(k:Nat)(e:returns i.op i.arg s.same= (0,(k:Int))) :k<=s.pr.rm-s.r:=by
 have h1:=h.Cd
 simp only[e]at h1
 omega
theorem Nf(arg:Int)(x:Rn)(s:Mt) : (if ar s 2 0=ar s 2 1 then(⟨0,{ x with next:=arg },(s.aq 2 []).2⟩ :Rs)else⟨0,x,((s.aq 2 []).2).aE (s.args 2)⟩).f=0:=by split<;>rfl
theorem zq(arg lit cells:Int) :eN ⟨4,arg,lit,cells⟩ (λx s=>⟨0,{ x with next:=arg },s⟩):=λx s hs hx hv1 hv2 ha=>⟨hs,⟨hx.base,hx.dT,hv1,hx.pc,hx.left,hx.dQ⟩,rfl,rfl,rfl⟩
theorem Bq(arg lit cells:Int) :eN ⟨3,arg,lit,cells⟩ (λx s=>⟨0,{ x with next:=arg },s.aE [x.next]⟩):=λx s hs hx hv1 hv2 ha=>⟨eZ hs [x.next] (hO ha 1 rfl),⟨hx.base,hx.dT,hv1,hx.pc,hx.left,hx.dQ⟩,rfl,rfl,rfl⟩
theorem zY(arg lit cells:Int) :eN ⟨5,arg,lit,cells⟩ (λx s=>⟨0,if ar s 1 0=0 then { x with next:=arg } else x,(s.aq 1 []).2⟩):=by
 intro x s hs hx hv1 hv2 ha
 refine⟨ec 1 hs,?_,(aH s 1 []).1,?_,(aH s 1 []).2.1⟩
 ·show(if ar s 1 0=0 then({ x with next:=arg }:Rn)else x).Ok
  split
  ·exact⟨hx.base,hx.dT,hv1,hx.pc,hx.left,hx.dQ⟩
  ·exact hx
 ·show(if ar s 1 0=0 then({ x with next:=arg }:Rn)else x).left=x.left
  split<;>rfl
theorem sq(arg lit cells:Int) :eN ⟨16,arg,lit,cells⟩ (λx s=>⟨0,{ x with next:=ar s 1 0 },((s.aE [x.next]).aq 1 []).2⟩):=λx s hs hx hv1 hv2 ha=>
 ⟨ec 1 (eZ hs [x.next] (hO ha 1 rfl)),⟨hx.base,hx.dT,aL s 1 0,hx.pc,hx.left,hx.dQ⟩,(aH _ 1 []).1,rfl,(aH _ 1 []).2.1⟩
theorem sj(arg lit cells:Int) :eN ⟨20,arg,lit,cells⟩ (λx s=>⟨16,x,s⟩):=λx s hs hx hv1 hv2 ha=>⟨hs,hx,rfl,rfl,rfl⟩
theorem jn{s:Mt}(n:Nat)(hs:s.Ok)(h:n<=s.pr.rm-s.r) : (((s.aq n []).2).aE (s.args n)).Ok:=
 eZ (ec n hs) _ (by rw[mM,(aH s n []).2.2.1,(aH s n []).2.2.2];exact h)
theorem FO(arg lit cells:Int) :eN ⟨6,arg,lit,cells⟩ (λx s=>⟨0,x,((s.aq 2 []).2).aE (s.args 2)⟩):=λx s hs hx hv1 hv2 ha=>⟨jn 2 hs (hO ha 2 rfl),hx,(aH s 2 []).1,rfl,(aH s 2 []).2.1⟩
theorem DX(arg lit cells:Int) :eN ⟨13,arg,lit,cells⟩ (λx s=>⟨0,x,((s.aq 1 []).2).aE (s.args 1)⟩):=λx s hs hx hv1 hv2 ha=>⟨jn 1 hs (hO ha 1 rfl),hx,(aH s 1 []).1,rfl,(aH s 1 []).2.1⟩
theorem Dd(arg lit cells:Int) :eN ⟨7,arg,lit,cells⟩ (λx s=>if ar s 2 0=ar s 2 1 then⟨0,{ x with next:=arg },(s.aq 2 []).2⟩else⟨0,x,((s.aq 2 []).2).aE (s.args 2)⟩):=by
 intro x s hs hx hv1 hv2 ha
 dsimp only
 split
 ·exact⟨ec 2 hs,⟨hx.base,hx.dT,hv1,hx.pc,hx.left,hx.dQ⟩,(aH s 2 []).1,rfl,(aH s 2 []).2.1⟩
 ·rename_i hne
  refine⟨jn 2 hs (hO ha 2 ?_),hx,(aH s 2 []).1,rfl,(aH s 2 []).2.1⟩
  have h2:s.same=false:=by
   unfold Mt.same
   rw[(JM s).1,(JM s).2]at hne
   simpa using λh=>hne h.symm
  rw[h2]
  rfl
theorem ql{x:Rn}{s:Mt}(n:Int)(e:Bool)(a:Int)(ha:V64 a)(hs:s.Ok)(hx:x.Ok) : (ee n e a x s).s.Ok∧(ee n e a x s).x.Ok∧(ee n e a x s).s.av=s.av∧(ee n e a x s).x.left=x.left∧(ee n e a x s).s.seen=s.seen:=by
 unfold ee
 split
 ·exact⟨pJ hs _ oM,hx,rfl,rfl,rfl⟩
 ·exact⟨E3 hs _ _,⟨hx.base,hx.dT,ha,hx.pc,hx.left,hx.dQ⟩,rfl,rfl,rfl⟩
theorem AH(arg lit cells:Int) :eN ⟨8,arg,lit,cells⟩ (λx s=>ee (wrap64 (s.bH 0+1)) (wrap64 (s.bH 0+1) ==s.bH 1) arg x s):=λx s hs hx hv1 hv2 ha=>ql _ _ _ hv1 hs hx
theorem yE(arg lit cells:Int) :eN ⟨9,arg,lit,cells⟩ (λx s=>ee (wrap64 (s.bH 0+ar s 1 0)) (lV (s.bH 0) (s.bH 1) (ar s 1 0)) arg x (s.aq 1 []).2):=λx s hs hx hv1 hv2 ha=>by
 obtain⟨h1,h2,h3,h4,h5⟩:=ql (wrap64 (s.bH 0+ar s 1 0)) (lV (s.bH 0) (s.bH 1) (ar s 1 0)) arg hv1 (ec 1 hs) hx
 exact⟨h1,h2,h3.trans (aH s 1 []).1,h4,h5.trans (aH s 1 []).2.1⟩
theorem vV(arg lit cells:Int) :eN ⟨10,arg,lit,cells⟩ (λx s=>⟨0,x,s.iB (s.r-2)⟩):=λx s hs hx hv1 hv2 ha=>⟨pJ hs _ oM,hx,rfl,rfl,rfl⟩
theorem pI{x:Rn}{s:Mt}{n:Nat}{l:List Int}(hroom:l.length<=s.pd.rm- (s.d-n)) :aK n l x s= ⟨0,x,(s.aq n l).2⟩:=by
 unfold aK
 rw[rG hroom]
theorem JX(arg lit cells:Int) :eN ⟨11,arg,lit,cells⟩ (λx s=>⟨0,x,(s.aq 0 [s.bH 0]).2⟩):=λx s hs hx hv1 hv2 ha=>⟨gp hs (Nat.zero_le _) (aj ha dd 0 1 dd dd),hx,(aH s 0 _).1,rfl,(aH s 0 _).2.1⟩
theorem JL(arg lit cells:Int) :eN ⟨12,arg,lit,cells⟩ (λx s=>⟨0,x,(s.aq 0 [s.bH 2]).2⟩):=λx s hs hx hv1 hv2 ha=>⟨gp hs (Nat.zero_le _) (aj ha dd 0 1 dd dd),hx,(aH s 0 _).1,rfl,(aH s 0 _).2.1⟩
theorem vG(arg lit cells:Int) :eN ⟨15,arg,lit,cells⟩ (λx s=>⟨0,x,(s.aq 0 [s.bH 0]).2⟩):=λx s hs hx hv1 hv2 ha=>⟨gp hs (Nat.zero_le _) (aj ha dd 0 1 dd dd),hx,(aH s 0 _).1,rfl,(aH s 0 _).2.1⟩
theorem wN(arg lit cells:Int) :eN ⟨14,arg,lit,cells⟩ (λx s=>⟨0,x,((s.iB (s.r-1)).aq 0 [s.bH 0]).2⟩):=λx s hs hx hv1 hv2 ha=>⟨gp (pJ hs _ oM) (Nat.zero_le _) (aj ha dd 0 1 dd dd),hx,(aH (s.iB (s.r-1)) 0 _).1,rfl,(aH (s.iB (s.r-1)) 0 _).2.1⟩
theorem yx{arg lit cells:Int}{x:Rn}{s:Mt}(ha:db ⟨26,arg,lit,cells⟩ x s) : (lM (ar s 1 0)).length<=s.pd.rm- (s.d-1):=by
 have h1:=ha.room
 have h2:=ha.tk
 have e1: (Code.ah 26).1=1:=by decide
 have e2: (Code.ah 26).2=2:=by decide
 have e3:ar s 1 0=s.top 0:=rfl
 simp only[e1,e2,true_and]at h1 h2
 unfold lM
 rw[e3]
 split
 ·rename_i h
  rw[if_pos h]at h1
  show 1<=_
  omega
 ·rename_i h
  rw[if_neg h]at h1
  show 2<=_
  omega
theorem b9{i:ao}{q:Rn->Mt->Rs×List Int}{n m:Nat}(hn: (Code.ah i.op).1=n)(hl:nG i q)(hm:eO q m) :eN i (λx s=>Rs.laid n (q x s)):=by
 intro x s hs hx hv1 hv2 ha
 obtain⟨h1,h2,h3,h4,h5,h6,h7,h8⟩:=hm x s hs hx
 have h9:=ha.tk
 have hl':=hl x s hs hx ha
 unfold Rs.laid
 by_cases hf: (q x s).1.f=0
 ·simp only[if_pos hf]
  obtain⟨_,_,k3,_⟩:=hl' hf
  have e: (Code.ah i.op).1.toNat=n:=by omega
  rw[e]at k3
  refine⟨gp h1 (by rw[h2];omega) (by rw[h2];exact k3),by show(q x s).1.x.Ok;rw[h6];exact hx,?_,by show(q x s).1.x.left=_;rw[h6],?_⟩
  ·show(((q x s).1.s).aq n _).2.av=_
   rw[(aH _ n _).1,h7]
  ·show(((q x s).1.s).aq n _).2.seen=_
   rw[(aH _ n _).2.1,h8]
 ·simp only[if_neg hf]
  exact⟨h1,by rw[h6];exact hx,h7,by rw[h6],h8⟩
theorem vv{p:Prop}(h:p:=by first|exact aZ _|exact aL _ _ _|exact GB _|exact J7 _ _|exact Lb _ _|exact J5 _ _|exact I5 _ _|exact IE _ _|exact Iz (aL _ _ _) |exact EM (aL _ _ _) |exact DF (aL _ _ _) |exact I2 (aL _ _ _) (aL _ _ _) |exact Je (aL _ _ _) (aL _ _ _) |exact Gg _ _|exact H9 _ _|exact JI _ _) :p:=h
theorem qQ(i:ao)(q:Rn->Mt->Rs)(hq:parts i=some q) :fv i q∧eN i q:=by
 obtain⟨op,arg,lit,cells⟩:=i
 unfold parts at hq
 simp only at hq
 revert hq
 apply eli
 ·rintro rfl
  exact⟨aP _ _ dd (HE arg lit cells),zW arg lit cells⟩
 apply eli
 ·rintro rfl
  exact⟨aP _ _ dd (JV arg lit cells),D8 arg lit cells⟩
 apply eli
 ·rintro rfl
  exact⟨aP _ _ dd (Hj arg lit cells),Bq arg lit cells⟩
 apply eli
 ·rintro rfl
  exact⟨aP _ _ dd (Gx arg lit cells),zq arg lit cells⟩
 apply eli
 ·rintro rfl
  exact⟨aP _ _ dd (GL arg lit cells),zY arg lit cells⟩
 apply eli
 ·rintro rfl
  exact⟨aP _ _ dd (dL 6 arg lit cells _ (by decide) (by decide) (λ_ _=>rfl) (iQ _ arg lit cells _ (.inl ⟨.inl rfl,rfl⟩))),FO arg lit cells⟩
 apply eli
 ·rintro rfl
  exact⟨aP _ _ dd (dL 7 arg lit cells _ (by decide) (by decide) (λ_ _=>Nf _ _ _) (iQ _ arg lit cells _ (.inr (.inl ⟨rfl,rfl⟩)))),Dd arg lit cells⟩
 apply eli
 ·rintro rfl
  exact⟨aP _ _ dd (dL 8 arg lit cells _ (by decide) (by decide) (λ_ _=>FM _ _ _ _ _) (iQ _ arg lit cells _ (.inr (.inr (.inl ⟨rfl,rfl⟩))))),AH arg lit cells⟩
 apply eli
 ·rintro rfl
  exact⟨aP _ _ dd (dL 9 arg lit cells _ (by decide) (by decide) (λ_ _=>FM _ _ _ _ _) (iQ _ arg lit cells _ (.inr (.inr (.inr (.inl ⟨rfl,rfl⟩)))))),yE arg lit cells⟩
 apply eli
 ·rintro rfl
  exact⟨aP _ _ dd (dL 10 arg lit cells _ (by decide) (by decide) (λ_ _=>rfl) (iQ _ arg lit cells _ (.inr (.inr (.inr (.inr (.inl ⟨rfl,rfl⟩))))))),vV arg lit cells⟩
 apply eli
 ·rintro rfl
  exact⟨aP _ _ dd (dL 13 arg lit cells _ (by decide) (by decide) (λ_ _=>rfl) (iQ _ arg lit cells _ (.inl ⟨.inr rfl,rfl⟩))),DX arg lit cells⟩
 apply eli
 ·rintro rfl
  exact⟨aP _ _ dd (wO arg lit cells),sq arg lit cells⟩
 apply eli
 ·rintro rfl
  exact⟨aP _ _ dd (yN arg lit cells),sj arg lit cells⟩
 apply eli
 ·rintro rfl
  refine⟨dZ _ (λs=>[ar s 1 0,ar s 1 0]) dd dd (NT arg lit cells) λx s hs ha=>⟨aj ha dd 1 2 dd dd,λv hv=>by
   simp only[List.mem_cons,List.mem_nil_iff,or_false]at hv
   rcases hv with rfl|rfl<;>first|exact aL _ _ _|exact aZ _⟩,aD _ (λs=>[ar s 1 0,ar s 1 0]) 1 dd λx s ha=>aj ha dd 1 2 dd dd⟩
 apply eli
 ·rintro rfl
  refine⟨dZ _ (λs=>[]) dd dd (K4 arg lit cells) λx s hs ha=>⟨Nat.zero_le _,λv hv=>by simp at hv⟩,aD _ (λs=>[]) 1 dd λx s ha=>Nat.zero_le _⟩
 apply eli
 ·rintro rfl
  refine⟨dZ _ (λs=>[ar s 2 1,ar s 2 0]) dd dd (Mi arg lit cells) λx s hs ha=>⟨aj ha dd 2 2 dd dd,λv hv=>by
   simp only[List.mem_cons,List.mem_nil_iff,or_false]at hv
   rcases hv with rfl|rfl<;>first|exact aL _ _ _|exact aZ _⟩,aD _ (λs=>[ar s 2 1,ar s 2 0]) 2 dd λx s ha=>aj ha dd 2 2 dd dd⟩
 apply eli
 ·rintro rfl
  refine⟨dZ _ (λs=>[ar s 2 0,ar s 2 1,ar s 2 0]) dd dd (Lr arg lit cells) λx s hs ha=>⟨aj ha dd 2 3 dd dd,λv hv=>by
   simp only[List.mem_cons,List.mem_nil_iff,or_false]at hv
   rcases hv with rfl|rfl|rfl<;>first|exact aL _ _ _|exact aZ _⟩,aD _ (λs=>[ar s 2 0,ar s 2 1,ar s 2 0]) 2 dd λx s ha=>aj ha dd 2 3 dd dd⟩
 apply eli
 ·rintro rfl
  refine⟨aC _ (λs=>[wrap64 (ar s 2 0+ar s 2 1)]) dd dd (eH 31 arg lit cells rfl rfl rfl rfl rfl rfl rfl rfl rfl rfl dd _ Fi) λx s hs ha=>⟨aj ha dd 2 1 dd dd,λv hv=>by
   rw[List.mem_singleton.1 hv]
   exact vv⟩,aD _ (λs=>[wrap64 (ar s 2 0+ar s 2 1)]) 2 dd λx s ha=>aj ha dd 2 1 dd dd⟩
 apply eli
 ·rintro rfl
  refine⟨aC _ (λs=>[wrap64 (ar s 2 0-ar s 2 1)]) dd dd (eH 32 arg lit cells rfl rfl rfl rfl rfl rfl rfl rfl rfl rfl dd _ FB) λx s hs ha=>⟨aj ha dd 2 1 dd dd,λv hv=>by
   rw[List.mem_singleton.1 hv]
   exact vv⟩,aD _ (λs=>[wrap64 (ar s 2 0-ar s 2 1)]) 2 dd λx s ha=>aj ha dd 2 1 dd dd⟩
 apply eli
 ·rintro rfl
  refine⟨aC _ (λs=>[wrap64 (ar s 2 0*ar s 2 1)]) dd dd (eH 33 arg lit cells rfl rfl rfl rfl rfl rfl rfl rfl rfl rfl dd _ Hg) λx s hs ha=>⟨aj ha dd 2 1 dd dd,λv hv=>by
   rw[List.mem_singleton.1 hv]
   exact vv⟩,aD _ (λs=>[wrap64 (ar s 2 0*ar s 2 1)]) 2 dd λx s ha=>aj ha dd 2 1 dd dd⟩
 apply eli
 ·rintro rfl
  refine⟨aC _ (λs=>[wrap64 (-ar s 1 0)]) dd dd (gj 39 arg lit cells rfl rfl rfl rfl rfl rfl rfl rfl rfl rfl dd _ CU) λx s hs ha=>⟨aj ha dd 1 1 dd dd,λv hv=>by
   rw[List.mem_singleton.1 hv]
   exact vv⟩,aD _ (λs=>[wrap64 (-ar s 1 0)]) 1 dd λx s ha=>aj ha dd 1 1 dd dd⟩
 apply eli
 ·rintro rfl
  refine⟨aC _ (λs=>[wrap64 (ar s 1 0+1)]) dd dd (gj 43 arg lit cells rfl rfl rfl rfl rfl rfl rfl rfl rfl rfl dd _ DD) λx s hs ha=>⟨aj ha dd 1 1 dd dd,λv hv=>by
   rw[List.mem_singleton.1 hv]
   exact vv⟩,aD _ (λs=>[wrap64 (ar s 1 0+1)]) 1 dd λx s ha=>aj ha dd 1 1 dd dd⟩
 apply eli
 ·rintro rfl
  refine⟨aC _ (λs=>[wrap64 (ar s 1 0-1)]) dd dd (gj 44 arg lit cells rfl rfl rfl rfl rfl rfl rfl rfl rfl rfl dd _ EG) λx s hs ha=>⟨aj ha dd 1 1 dd dd,λv hv=>by
   rw[List.mem_singleton.1 hv]
   exact vv⟩,aD _ (λs=>[wrap64 (ar s 1 0-1)]) 1 dd λx s ha=>aj ha dd 1 1 dd dd⟩
 apply eli
 ·rintro rfl
  exact⟨aP _ _ dd (dL 11 arg lit cells _ (by decide) (by decide) (λ_ _=>rfl) (cS.congr (iQ _ arg lit cells _ (.inr (.inr (.inr (.inr (.inr (.inl ⟨.inl rfl,rfl⟩))))))) λx s hs hx ha=>pI (aj ha dd 0 1 dd dd))),JX arg lit cells⟩
 apply eli
 ·rintro rfl
  exact⟨aP _ _ dd (dL 12 arg lit cells _ (by decide) (by decide) (λ_ _=>rfl) (cS.congr (iQ _ arg lit cells _ (.inr (.inr (.inr (.inr (.inr (.inr (.inl ⟨rfl,rfl⟩)))))))) λx s hs hx ha=>pI (aj ha dd 0 1 dd dd))),JL arg lit cells⟩
 apply eli
 ·rintro rfl
  exact⟨aP _ _ dd (dL 14 arg lit cells _ (by decide) (by decide) (λ_ _=>rfl) (cS.congr (iQ _ arg lit cells _ (.inr (.inr (.inr (.inr (.inr (.inr (.inr (⟨rfl,rfl⟩))))))))) λx s hs hx ha=>pI (aj ha dd 0 1 dd dd))),wN arg lit cells⟩
 apply eli
 ·rintro rfl
  exact⟨aP _ _ dd (dL 15 arg lit cells _ (by decide) (by decide) (λ_ _=>rfl) (cS.congr (iQ _ arg lit cells _ (.inr (.inr (.inr (.inr (.inr (.inl ⟨.inr rfl,rfl⟩))))))) λx s hs hx ha=>pI (aj ha dd 0 1 dd dd))),vG arg lit cells⟩
 apply eli
 ·rintro rfl
  refine⟨dZ _ (λs=>[ar s 3 1,ar s 3 2,ar s 3 0]) dd dd (Oa arg lit cells) λx s hs ha=>⟨aj ha dd 3 3 dd dd,λv hv=>by
   simp only[List.mem_cons,List.mem_nil_iff,or_false]at hv
   rcases hv with rfl|rfl|rfl<;>first|exact aL _ _ _|exact aZ _⟩,aD _ (λs=>[ar s 3 1,ar s 3 2,ar s 3 0]) 3 dd λx s ha=>aj ha dd 3 3 dd dd⟩
 apply eli
 ·rintro rfl
  exact⟨dZ _ (λs=>lM (ar s 1 0)) dd dd (Md arg lit cells) λx s hs ha=>⟨yx ha,HA (aL _ _ _)⟩,aD _ (λs=>lM (ar s 1 0)) 1 dd λx s ha=>yx ha⟩
 apply eli
 ·rintro rfl
  refine⟨dZ _ (λs=>[ar s 2 1]) dd dd (Ns arg lit cells) λx s hs ha=>⟨aj ha dd 2 1 dd dd,λv hv=>by
   rw[List.mem_singleton.1 hv]
   exact vv⟩,aD _ (λs=>[ar s 2 1]) 2 dd λx s ha=>aj ha dd 2 1 dd dd⟩
 apply eli
 ·rintro rfl
  refine⟨dZ _ (λs=>[ar s 2 1,ar s 2 0,ar s 2 1]) dd dd (K2 arg lit cells) λx s hs ha=>⟨aj ha dd 2 3 dd dd,λv hv=>by
   simp only[List.mem_cons,List.mem_nil_iff,or_false]at hv
   rcases hv with rfl|rfl|rfl<;>first|exact aL _ _ _|exact aZ _⟩,aD _ (λs=>[ar s 2 1,ar s 2 0,ar s 2 1]) 2 dd λx s ha=>aj ha dd 2 3 dd dd⟩
 apply eli
 ·rintro rfl
  have hm:eO (λx s=>dH 0 (decide (ar s 2 1=0)) (lA (ar s 2 0) (ar s 2 1)) (lu (ar s 2 0) (ar s 2 1)) x s) 1:=(eO.quo (λs=>rE _ _) (λs=>qg (aL _ _ _) (aL _ _ _)))
  exact⟨bw _ _ dd dd (NQ arg lit cells) (aT 2 dd dd (by dsimp only;decide) hm),b9 dd (aT 2 dd dd (by dsimp only;decide) hm) hm⟩
 apply eli
 ·rintro rfl
  have hm:eO (λx s=>dH 1 (decide (ar s 2 1=0)) (lA (ar s 2 0) (ar s 2 1)) (lu (ar s 2 0) (ar s 2 1)) x s) 1:=(eO.quo (λs=>rE _ _) (λs=>qg (aL _ _ _) (aL _ _ _)))
  exact⟨bw _ _ dd dd (NB arg lit cells) (aT 2 dd dd (by dsimp only;decide) hm),b9 dd (aT 2 dd dd (by dsimp only;decide) hm) hm⟩
 apply eli
 ·rintro rfl
  have hm:eO (λx s=>dH 2 (decide (ar s 2 1=0)) (lA (ar s 2 0) (ar s 2 1)) (lu (ar s 2 0) (ar s 2 1)) x s) 2:=(eO.quo (λs=>rE _ _) (λs=>qg (aL _ _ _) (aL _ _ _)))
  exact⟨bw _ _ dd dd (Gs arg lit cells) (aT 2 dd dd (by dsimp only;decide) hm),b9 dd (aT 2 dd dd (by dsimp only;decide) hm) hm⟩
 apply eli
 ·rintro rfl
  have hm:eO (λx s=>dH 0 (iL (dn (ar s 3 0) (ar s 3 1)) (tHi (ar s 3 0) (ar s 3 1)) (ar s 3 2)) (fdQ (dn (ar s 3 0) (ar s 3 1)) (tHi (ar s 3 0) (ar s 3 1)) (ar s 3 2)) (fdR (dn (ar s 3 0) (ar s 3 1)) (tHi (ar s 3 0) (ar s 3 1)) (ar s 3 2)) x s) 1:=(eO.quo (λs=>va _ _ _) (λs=>uR _ _ _))
  exact⟨bw _ _ dd dd (HQ arg lit cells) (aT 3 dd dd (by dsimp only;decide) hm),b9 dd (aT 3 dd dd (by dsimp only;decide) hm) hm⟩
 apply eli
 ·rintro rfl
  have hm:eO (λx s=>dH 2 (iL (dn (ar s 3 0) (ar s 3 1)) (tHi (ar s 3 0) (ar s 3 1)) (ar s 3 2)) (fdQ (dn (ar s 3 0) (ar s 3 1)) (tHi (ar s 3 0) (ar s 3 1)) (ar s 3 2)) (fdR (dn (ar s 3 0) (ar s 3 1)) (tHi (ar s 3 0) (ar s 3 1)) (ar s 3 2)) x s) 2:=(eO.quo (λs=>va _ _ _) (λs=>uR _ _ _))
  exact⟨bw _ _ dd dd (xN arg lit cells) (aT 3 dd dd (by dsimp only;decide) hm),b9 dd (aT 3 dd dd (by dsimp only;decide) hm) hm⟩
 apply eli
 ·rintro rfl
  have hm:eO (λx s=>((⟨0,x,s⟩,[dn (ar s 2 0) (ar s 2 1),tHi (ar s 2 0) (ar s 2 1)]) :Rs×List Int)) 2:=(eO.pure (l:=λs=>[dn (ar s 2 0) (ar s 2 1),tHi (ar s 2 0) (ar s 2 1)]) (f:=λ_=>0) (λs=>Nat.le_refl _) (λs hs v hv=>by
   simp only[List.mem_cons,List.mem_nil_iff,or_false]at hv
   rcases hv with rfl|rfl<;>exact vv))
  exact⟨bw _ _ dd dd (II arg lit cells).toR (aT 2 dd dd (by dsimp only;decide) hm),b9 dd (aT 2 dd dd (by dsimp only;decide) hm) hm⟩
 apply eli
 ·rintro rfl
  have hm:eO (λx s=>((⟨0,x,s⟩,[dn (ar s 2 0) (ar s 2 1),sO (ar s 2 0) (ar s 2 1)]) :Rs×List Int)) 2:=(eO.pure (l:=λs=>[dn (ar s 2 0) (ar s 2 1),sO (ar s 2 0) (ar s 2 1)]) (f:=λ_=>0) (λs=>Nat.le_refl _) (λs hs v hv=>by
   simp only[List.mem_cons,List.mem_nil_iff,or_false]at hv
   rcases hv with rfl|rfl<;>exact vv))
  exact⟨bw _ _ dd dd (GW arg lit cells).toR (aT 2 dd dd (by dsimp only;decide) hm),b9 dd (aT 2 dd dd (by dsimp only;decide) hm) hm⟩
 apply eli
 ·rintro rfl
  have hm:eO (λx s=>dH 2 (qT (ar s 3 1) (ar s 3 2)) (udQ (ar s 3 0) (ar s 3 1) (ar s 3 2)) (udR (ar s 3 0) (ar s 3 1) (ar s 3 2)) x s) 2:=(eO.quo (λs=>Bv _ _ _) (λs=>BI _ _ _))
  exact⟨bw _ _ dd dd (Jo arg lit cells) (aT 3 dd dd (by dsimp only;decide) hm),b9 dd (aT 3 dd dd (by dsimp only;decide) hm) hm⟩
 apply eli
 ·rintro rfl
  have hm:eO (λx s=>dH 2 (j7 (ar s 3 0) (ar s 3 1) (ar s 3 2)) (dvQ (ar s 3 0) (ar s 3 1) (ar s 3 2)) (dvR (ar s 3 0) (ar s 3 1) (ar s 3 2)) x s) 2:=(eO.quo (λs=>Cu _ _ _) (λs=>Ch _ _ _))
  exact⟨bw _ _ dd dd (I6 arg lit cells) (aT 3 dd dd (by dsimp only;decide) hm),b9 dd (aT 3 dd dd (by dsimp only;decide) hm) hm⟩
 apply eli
 ·rintro rfl
  have hm:eO (λx s=>dH 2 (iL (ar s 3 0) (ar s 3 1) (ar s 3 2)) (fdQ (ar s 3 0) (ar s 3 1) (ar s 3 2)) (fdR (ar s 3 0) (ar s 3 1) (ar s 3 2)) x s) 2:=(eO.quo (λs=>va _ _ _) (λs=>uR _ _ _))
  exact⟨bw _ _ dd dd (JF arg lit cells) (aT 3 dd dd (by dsimp only;decide) hm),b9 dd (aT 3 dd dd (by dsimp only;decide) hm) hm⟩
 apply eli
 ·rintro rfl
  have hm:eO (λx s=>((⟨s.S.az x.mode (ar s 1 0) false,x,s⟩,[s.S.aR x.mode (ar s 1 0)]) :Rs×List Int)) 1:=(λx s hs hx=>⟨hs,rfl,rfl,Nat.le_refl 1,(λv hv=>by rw[List.mem_singleton.1 hv];exact lp _ _ _),rfl,rfl,rfl⟩)
  exact⟨nk _ _ dd dd (IZ arg lit cells) (aT 1 dd dd (by dsimp only;decide) hm),b9 dd (aT 1 dd dd (by dsimp only;decide) hm) hm⟩
 apply eli
 ·rintro rfl
  have hm:eO (λx s=>((⟨s.S.az x.mode (ar s 2 1) true,x,{ s with S:=s.S.setCell x.mode (ar s 2 1) (ar s 2 0) }⟩,[]) :Rs×List Int)) 0:=(λx s hs hx=>⟨si hs _ _ _,rfl,rfl,Nat.le_refl 0,(λv hv=>by cases hv),rfl,rfl,rfl⟩)
  exact⟨nk _ _ dd dd (JJ arg lit cells) (aT 2 dd dd (by dsimp only;decide) hm),b9 dd (aT 2 dd dd (by dsimp only;decide) hm) hm⟩
 apply eli
 ·rintro rfl
  have hm:eO (λx s=>((⟨0,x,s⟩,[wrap64 (s.S.beg 3:Int)]) :Rs×List Int)) 1:=(eO.pure (l:=λs=>[wrap64 (s.S.beg 3:Int)]) (f:=λ_=>0) (λs=>Nat.le_refl _) (λs hs v hv=>by
   rw[List.mem_singleton.1 hv]
   exact vv))
  exact⟨xb _ _ dd dd (LJ arg lit cells).toR (aT 0 dd dd (by dsimp only;decide) hm),b9 dd (aT 0 dd dd (by dsimp only;decide) hm) hm⟩
 apply eli
 ·rintro rfl
  refine⟨aC _ (λs=>[xA (ar s 1 0)]) dd dd (gj 40 arg lit cells rfl rfl rfl rfl rfl rfl rfl rfl rfl rfl dd _ Dv) λx s hs ha=>⟨aj ha dd 1 1 dd dd,λv hv=>by
   rw[List.mem_singleton.1 hv]
   exact vv⟩,aD _ (λs=>[xA (ar s 1 0)]) 1 dd λx s ha=>aj ha dd 1 1 dd dd⟩
 apply eli
 ·rintro rfl
  refine⟨aC _ (λs=>[wrap64 (ar s 1 0*2)]) dd dd (gj 45 arg lit cells rfl rfl rfl rfl rfl rfl rfl rfl rfl rfl dd _ ya) λx s hs ha=>⟨aj ha dd 1 1 dd dd,λv hv=>by
   rw[List.mem_singleton.1 hv]
   exact vv⟩,aD _ (λs=>[wrap64 (ar s 1 0*2)]) 1 dd λx s ha=>aj ha dd 1 1 dd dd⟩
 apply eli
 ·rintro rfl
  refine⟨aC _ (λs=>[ar s 1 0/2]) dd dd (gj 46 arg lit cells rfl rfl rfl rfl rfl rfl rfl rfl rfl rfl dd _ yO) λx s hs ha=>⟨aj ha dd 1 1 dd dd,λv hv=>by
   rw[List.mem_singleton.1 hv]
   exact vv⟩,aD _ (λs=>[ar s 1 0/2]) 1 dd λx s ha=>aj ha dd 1 1 dd dd⟩
 apply eli
 ·rintro rfl
  refine⟨aC _ (λs=>[bits .xor .i64 (-1) (ar s 1 0)]) dd dd (gj 50 arg lit cells rfl rfl rfl rfl rfl rfl rfl rfl rfl rfl dd _ vU) λx s hs ha=>⟨aj ha dd 1 1 dd dd,λv hv=>by
   rw[List.mem_singleton.1 hv]
   exact vv⟩,aD _ (λs=>[bits .xor .i64 (-1) (ar s 1 0)]) 1 dd λx s ha=>aj ha dd 1 1 dd dd⟩
 apply eli
 ·rintro rfl
  refine⟨aC _ (λs=>[ct (ar s 1 0==0)]) dd dd (gj 63 arg lit cells rfl rfl rfl rfl rfl rfl rfl rfl rfl rfl dd _ vP) λx s hs ha=>⟨aj ha dd 1 1 dd dd,λv hv=>by
   rw[List.mem_singleton.1 hv]
   exact vv⟩,aD _ (λs=>[ct (ar s 1 0==0)]) 1 dd λx s ha=>aj ha dd 1 1 dd dd⟩
 apply eli
 ·rintro rfl
  refine⟨aC _ (λs=>[xW (ar s 1 0)]) dd dd (gj 64 arg lit cells rfl rfl rfl rfl rfl rfl rfl rfl rfl rfl dd _ uN) λx s hs ha=>⟨aj ha dd 1 1 dd dd,λv hv=>by
   rw[List.mem_singleton.1 hv]
   exact vv⟩,aD _ (λs=>[xW (ar s 1 0)]) 1 dd λx s ha=>aj ha dd 1 1 dd dd⟩
 apply eli
 ·rintro rfl
  refine⟨aC _ (λs=>[min (ar s 2 0) (ar s 2 1)]) dd dd (eH 41 arg lit cells rfl rfl rfl rfl rfl rfl rfl rfl rfl rfl dd _ Hr) λx s hs ha=>⟨aj ha dd 2 1 dd dd,λv hv=>by
   rw[List.mem_singleton.1 hv]
   exact vv⟩,aD _ (λs=>[min (ar s 2 0) (ar s 2 1)]) 2 dd λx s ha=>aj ha dd 2 1 dd dd⟩
 apply eli
 ·rintro rfl
  refine⟨aC _ (λs=>[max (ar s 2 0) (ar s 2 1)]) dd dd (eH 42 arg lit cells rfl rfl rfl rfl rfl rfl rfl rfl rfl rfl dd _ HW) λx s hs ha=>⟨aj ha dd 2 1 dd dd,λv hv=>by
   rw[List.mem_singleton.1 hv]
   exact vv⟩,aD _ (λs=>[max (ar s 2 0) (ar s 2 1)]) 2 dd λx s ha=>aj ha dd 2 1 dd dd⟩
 apply eli
 ·rintro rfl
  refine⟨aC _ (λs=>[bits .and .i64 (ar s 2 0) (ar s 2 1)]) dd dd (eH 47 arg lit cells rfl rfl rfl rfl rfl rfl rfl rfl rfl rfl dd _ Gt) λx s hs ha=>⟨aj ha dd 2 1 dd dd,λv hv=>by
   rw[List.mem_singleton.1 hv]
   exact vv⟩,aD _ (λs=>[bits .and .i64 (ar s 2 0) (ar s 2 1)]) 2 dd λx s ha=>aj ha dd 2 1 dd dd⟩
 apply eli
 ·rintro rfl
  refine⟨aC _ (λs=>[bits .or .i64 (ar s 2 0) (ar s 2 1)]) dd dd (eH 48 arg lit cells rfl rfl rfl rfl rfl rfl rfl rfl rfl rfl dd _ J6) λx s hs ha=>⟨aj ha dd 2 1 dd dd,λv hv=>by
   rw[List.mem_singleton.1 hv]
   exact vv⟩,aD _ (λs=>[bits .or .i64 (ar s 2 0) (ar s 2 1)]) 2 dd λx s ha=>aj ha dd 2 1 dd dd⟩
 apply eli
 ·rintro rfl
  refine⟨aC _ (λs=>[bits .xor .i64 (ar s 2 0) (ar s 2 1)]) dd dd (eH 49 arg lit cells rfl rfl rfl rfl rfl rfl rfl rfl rfl rfl dd _ Fb) λx s hs ha=>⟨aj ha dd 2 1 dd dd,λv hv=>by
   rw[List.mem_singleton.1 hv]
   exact vv⟩,aD _ (λs=>[bits .xor .i64 (ar s 2 0) (ar s 2 1)]) 2 dd λx s ha=>aj ha dd 2 1 dd dd⟩
 apply eli
 ·rintro rfl
  refine⟨aC _ (λs=>[xX (ar s 2 0) (ar s 2 1)]) dd dd (eH 51 arg lit cells rfl rfl rfl rfl rfl rfl rfl rfl rfl rfl dd _ FU) λx s hs ha=>⟨aj ha dd 2 1 dd dd,λv hv=>by
   rw[List.mem_singleton.1 hv]
   exact vv⟩,aD _ (λs=>[xX (ar s 2 0) (ar s 2 1)]) 2 dd λx s ha=>aj ha dd 2 1 dd dd⟩
 apply eli
 ·rintro rfl
  refine⟨aC _ (λs=>[yo (ar s 2 0) (ar s 2 1)]) dd dd (eH 52 arg lit cells rfl rfl rfl rfl rfl rfl rfl rfl rfl rfl dd _ Hq) λx s hs ha=>⟨aj ha dd 2 1 dd dd,λv hv=>by
   rw[List.mem_singleton.1 hv]
   exact vv⟩,aD _ (λs=>[yo (ar s 2 0) (ar s 2 1)]) 2 dd λx s ha=>aj ha dd 2 1 dd dd⟩
 apply eli
 ·rintro rfl
  refine⟨aC _ (λs=>[ct ((ar s 2 0) == (ar s 2 1))]) dd dd (eH 58 arg lit cells rfl rfl rfl rfl rfl rfl rfl rfl rfl rfl dd _ I1) λx s hs ha=>⟨aj ha dd 2 1 dd dd,λv hv=>by
   rw[List.mem_singleton.1 hv]
   exact vv⟩,aD _ (λs=>[ct ((ar s 2 0) == (ar s 2 1))]) 2 dd λx s ha=>aj ha dd 2 1 dd dd⟩
 apply eli
 ·rintro rfl
  refine⟨aC _ (λs=>[ct ((ar s 2 0) != (ar s 2 1))]) dd dd (eH 59 arg lit cells rfl rfl rfl rfl rfl rfl rfl rfl rfl rfl dd _ Kq) λx s hs ha=>⟨aj ha dd 2 1 dd dd,λv hv=>by
   rw[List.mem_singleton.1 hv]
   exact vv⟩,aD _ (λs=>[ct ((ar s 2 0) != (ar s 2 1))]) 2 dd λx s ha=>aj ha dd 2 1 dd dd⟩
 apply eli
 ·rintro rfl
  refine⟨aC _ (λs=>[ct (decide ((ar s 2 0) < (ar s 2 1)))]) dd dd (eH 60 arg lit cells rfl rfl rfl rfl rfl rfl rfl rfl rfl rfl dd _ IV) λx s hs ha=>⟨aj ha dd 2 1 dd dd,λv hv=>by
   rw[List.mem_singleton.1 hv]
   exact vv⟩,aD _ (λs=>[ct (decide ((ar s 2 0) < (ar s 2 1)))]) 2 dd λx s ha=>aj ha dd 2 1 dd dd⟩
 apply eli
 ·rintro rfl
  refine⟨aC _ (λs=>[ct (decide ((ar s 2 1) < (ar s 2 0)))]) dd dd (eH 61 arg lit cells rfl rfl rfl rfl rfl rfl rfl rfl rfl rfl dd _ JT) λx s hs ha=>⟨aj ha dd 2 1 dd dd,λv hv=>by
   rw[List.mem_singleton.1 hv]
   exact vv⟩,aD _ (λs=>[ct (decide ((ar s 2 1) < (ar s 2 0)))]) 2 dd λx s ha=>aj ha dd 2 1 dd dd⟩
 apply eli
 ·rintro rfl
  refine⟨aC _ (λs=>[ct (decide (IntKind.u64.wrap (ar s 2 0) <IntKind.u64.wrap (ar s 2 1)))]) dd dd (eH 62 arg lit cells rfl rfl rfl rfl rfl rfl rfl rfl rfl rfl dd _ Hv) λx s hs ha=>⟨aj ha dd 2 1 dd dd,λv hv=>by
   rw[List.mem_singleton.1 hv]
   exact vv⟩,aD _ (λs=>[ct (decide (IntKind.u64.wrap (ar s 2 0) <IntKind.u64.wrap (ar s 2 1)))]) 2 dd λx s ha=>aj ha dd 2 1 dd dd⟩
 intro hq
 cases hq
def oT(x:Rn)(s:Mt) :Option Rs:=
 if x.left=0 then some ⟨13,x,s⟩
 else if(s.S.ax x.mode x.pc).2≠0 then some ⟨(s.S.ax x.mode x.pc).2,{ x with left:=x.left-1 },s⟩
 else
  let i:=(s.S.ax x.mode x.pc).1
  let x2:={ x with left:=x.left-1,next:=wrap64 (x.pc+8*i.cells) }
  if asks i x2 s≠0 then some ⟨asks i x2 s,x2,s⟩
  else(parts i).map λq=>if(q x2 s).f≠0 then q x2 s else⟨0,{ (q x2 s).x with pc:=(q x2 s).x.next },(q x2 s).s.told (q x2 s).x i.op⟩
def ga:Nat->Rn->Mt->Option Rs
 | 0,_,_=>none
 | n+1,x,s=>
   match oT x s with
   | none=>none
   | some q=>if q.f≠0 then some q else if q.x.over then some q else ga n q.x q.s
theorem pR{s:Mt}(hs:s.Ok)(x:Rn)(op:Int) : (s.told x op).Ok:=by
 unfold Mt.told
 split
 ·exact⟨hs.pd,hs.pr,hs.d,hs.r,hs.du,hs.dv,hs.ru,hs.rv⟩
 ·exact hs
theorem ln(S:Img)(m a:Int) :V64 (S.ax m a).1.arg∧V64 (S.ax m a).1.lit∧V64 (8* (S.ax m a).1.cells):=by
 have h0:V64 0:=by unfold V64;omega
 have hv:=lp S m a
 have hu:V64 (Code.unpack (S.aR m a)).2.1∧(Code.unpack (S.aR m a)).2.1<36028797018963968:=by
  unfold Code.unpack
  split
  ·rename_i h
   unfold Code.uj V64 at *
   simp only
   refine⟨by omega,by omega⟩
  ·exact⟨h0,by simp⟩
 unfold Img.ax ao.none
 split
 ·exact⟨h0,h0,by unfold V64;simp⟩
 split
 ·exact⟨h0,h0,by unfold V64;simp⟩
 split
 ·split
  ·exact⟨h0,h0,by unfold V64;simp⟩
  ·exact⟨hu.1,lp _ _ _,by unfold V64;simp⟩
 split
 ·split
  ·exact⟨h0,h0,by unfold V64;simp⟩
  ·rename_i h
   refine⟨hu.1,h0,?_⟩
   have h3:0<=(Code.unpack (S.aR m a)).2.1:=by
    unfold Img.cZ at h
    split at h
    ·simp at h
    ·omega
   have h4:=hu.2
   unfold V64
   simp only
   omega
 ·exact⟨hu.1,h0,by unfold V64;simp⟩
end Vm
open Go.RowKit Go.Lib Go.Deep
namespace Vm
theorem vm(f:Int)(w:World) : (Instr.typeAssert (.iface 30 (.int .i64 f)) 20 30 true).run Tryz.prog w = .ok (.tuple #[f,.bool true]) w:=by
 simp[Instr.typeAssert,go_sem,run_underlying Tryz.underlying30]
theorem pC(p:Addr)(v:Value)(f:Int)(w:World)(hc:w.cell? p=some v)(hz:w.frozen? p=false) :
 CallsD Tryz.prog 63 #[.pointer (some p)] (.panicking [flt f]) w λe u' w'=>
  e = .returned (.tuple #[])∧u' = .panicking [{ v:= .iface 30 (.int .i64 f),recovered:=true }]∧w'=w.setCell p (.int .i64 f):=by
 have hta:=vm f w
 refine callsD_of_wpS Tryz.func63 rfl λc₀ cs hu=> ?_
 apply wpS_seq
 apply wpS_region
 simp[wpOpsS,go_sem,recoverD,hu,flt,Tryz.ntmps63,Exit.thenS]
 refine wpS_of_wp ?_
 simp only[Array.replicate_succ,Array.replicate_zero,List.push_toArray,List.append_toArray,List.nil_append,List.cons_append,List.setIfInBounds_toArray,List.set_cons_zero,List.set_cons_succ]
 go_wp2
 cases c₀
 simp_all[bodyPostS,results,Tryz.results63]
theorem Bg(p:Addr)(w:World) :
 CallsD Tryz.prog 63 #[.pointer (some p)] .returning w λe u' w'=>e = .returned (.tuple #[])∧u' = .returning∧w'=w:=by
 refine callsD_of_wpS Tryz.func63 rfl λc₀ cs hu=> ?_
 apply wpS_seq
 apply wpS_region
 simp[wpOpsS,go_sem,recoverD,hu,Tryz.ntmps63,Exit.thenS]
 refine wpS_of_wp ?_
 simp only[Array.replicate_succ,Array.replicate_zero,List.push_toArray,List.append_toArray,List.nil_append,List.cons_append,List.setIfInBounds_toArray,List.set_cons_zero,List.set_cons_succ]
 go_wp2
 cases c₀
 simp_all[bodyPostS,results,Tryz.results63]
theorem pF(d:Nat)(w:World) : (Op.equalIn (d+1) 89 .nilFunc .nilFunc).run Tryz.prog w = .ok true w:=by
 simp[Op.equalIn,run_underlying Tryz.underlying89,go_sem]
theorem uM(d:Nat)(w:World)(f:Fn)(a b:Array Value) : (Op.equalIn (d+1) 89 (.func f a b) .nilFunc).run Tryz.prog w = .ok false w:=by
 simp[Op.equalIn,run_underlying Tryz.underlying89,go_sem]
theorem wP(w:World) : (binOp .neq 89 .nilFunc .nilFunc).run Tryz.prog w = .ok (.bool false) w:=by
 simp only[binOp]
 simp[go_sem,Op.equal,show Op.maxDepth=9999+1 from rfl,pF]
theorem Ib(w:World)(f:Fn)(a b:Array Value) : (binOp .neq 89 (.func f a b) .nilFunc).run Tryz.prog w = .ok (.bool true) w:=by
 simp only[binOp]
 simp[go_sem,Op.equal,show Op.maxDepth=9999+1 from rfl,uM]
theorem uQ{p:Prop}(h:p) :p:=h
def qu(Q:Exit->Act->World->Prop) :Exit->Act->World->Prop
 | .panic _,_,_=>False
 | e,a,w=>Q e a w
theorem qu.normal{Q:Exit->Act->World->Prop}{a:Act}{w:World}(h:Q .normal a w) :qu Q .normal a w:=h
theorem eF{P:Program}{id:Nat}{ops:Array Oper}{b:Bool}{Q:Exit->Act->World->Prop}{a:Act}{w:World}(h: (Code.region id ops b).wp P (qu Q) a w) : (Code.region id ops b).wp P Q a w:=
 wp_mono h λe a w h=>by cases e<;>first|exact h|exact(h:False).elim
section
variable {P:Program}{a:Act}{w:World}{Q:Exit->Act->World->Prop}
theorem kI{c rest:Code}(l:Nat)(I:Nat->Act->World->Prop)(hf:findLabel c l=some (Code.skip.seq rest))
 (pass : ∀n a w,I n a w->rest.wp P (Exit.jump l (λa' w'=> ∃n',n'<n∧I n' a' w') Q) a w)
 (first: (∀n a w,I n a w->rest.wp P (Exit.jump l (λa w=> ∃n,I n a w) Q) a w)->c.wp P (Exit.jump l (λa w=> ∃n,I n a w) Q) a w) : (Code.scope c).wp P Q a w:=by
 refine wp_scope_jumps l (λa w=> ∃n,I n a w) (λa w=>leastOf (λn=>I n a w)) hf (first λn a w h=>wp_mono (pass n a w h) ?_) ?_
 ·intro e a' w' hq
  cases e with
  | goto l'=>exact⟨hq.1,let⟨n',_,h⟩:=hq.2;⟨n',h⟩⟩
  | normal=>exact hq
  | exit id=>exact hq
  | ret=>exact hq
  | panic ch=>exact hq
  | outgrown=>exact hq
 ·intro a w h
  refine wp_mono (wp_seq (wp_skip (pass _ a w (leastOf_spec h).1))) ?_
  intro e a' w' hq
  cases e with
  | goto l'=>
    obtain⟨hl,n',hlt,hI⟩:=hq
    exact⟨hl,⟨n',hI⟩,Nat.lt_of_le_of_lt ((leastOf_spec ⟨n',hI⟩).2 n' hI) hlt⟩
  | normal=>exact hq
  | exit id=>exact hq
  | ret=>exact hq
  | panic ch=>exact hq
  | outgrown=>exact hq
end
section
variable {w w':World}{F:Nat->Prop}{c:Vc}{g:Nat}{x:Rn}{src:Value}{s:Mt}
theorem sH(m:Nat){L:List Asr}(hm:m<=L.length)(hL:L.drop m=vL c g x src s)(h:On F w (aa L) w')(hs:s.Ok)(l:List Int)(hl : ∀v∈l,V64 v)
 (j:Nat) (hj:j<m) (rb:Nat) (hrow:L[j]? = some (ae rb 3 (af l))) (hroom:l.length<=s.pr.rm-s.r) :
 Calls Tryz.prog 53 #[c.gR,.slice rb l.length l.length] w' (Got (.returned (.int .i64 0)) (aa (L.take m++vL c g x src (s.aE l))) F w):=by
 refine h.bE m hm λF' hb hdis _=> ?_
 rw[hL]at hb
 obtain⟨F3,hB,hfar⟩:=hdis j _ hj hrow
 obtain⟨h1,h2⟩:=ay rb l _ _ hB
 exact B4 (On.refl hb) hs l hl (some ⟨rb,0,none⟩) l.length h1 (λa ha=>⟨λhk=>hfar _ (h2 a ha) hk,by
  obtain rfl:a= ⟨rb,0,none⟩:=by injection ha with ha;exact ha.symm
  exact hB.1.lt⟩) hroom
def jm(c:Vc)(av:Bool) :Prop:=
 (av=false∧c.tell = .nilFunc)∨
 (av=true∧∃gb,c.tell = .func (.func 34) #[.pointer (some ⟨gb,0,none⟩)] #[]∧
  ∀(l:List Stp) (p:Stp) (w:World) (F:Nat->Prop),l.length<1000000000->(c.tl l).holds w F->Calls Tryz.prog 34 #[gb,.agg #[(p.at_:Int),p.op,p.dep,p.top,p.fuel]] w (Got (.returned (.tuple #[])) (c.tl (l ++ [p])) F w))
def plL(c:Vc)(g fb:Nat)(i:ao)(f:Int)(x:Rn)(src:Value)(s:Mt) :List Asr:=ae (fb+1) 155 i.c::ae fb 30 #[f] ::vL c g x src s
theorem qF(fb:Nat)(f:Int)(w wr:World)(F:Nat->Prop)(c:Vc)(g:Nat)(x:Rn)(src:Value)(s:Mt)(i:ao)(h:On F w (aa (plL c g fb i f x src s)) wr)(tm:Array Value)(h4:tm.getD 4 undef = .pointer fb) :
 bodyPostD Tryz.prog Tryz.f39 (Got (.returned f) (VA c g x src s) F w) Exit.ret { tmps:=tm,defers:=[{ target:= .fn (.func 63) #[fb],args:= #[] }] } wr:=by
 refine leaves_cons (f:=63) (args:= #[.pointer fb]) (by simp) (by simp[go_sem]) ?_
 refine(Bg ⟨fb,0,none⟩ wr).mono ?_
 rintro e u' w'' ⟨rfl,rfl,rfl⟩
 have c0:w''.cell? (fb,0) =some (f:Vl):=(h.ab 1 rfl).cell 0
 have h4':tm[4]?.getD undef = .pointer fb:=by simpa using h4
 refine⟨.int .i64 f,?_,rfl,h.tail.tail⟩
 simp[results,Tryz.results39,go_sem,h4',c0]
theorem jv(fb:Nat)(f f0:Int)(w wr:World)(F:Nat->Prop)(c:Vc)(g:Nat)(x:Rn)(src:Value)(s:Mt)(i:ao)(h:On F w (aa (plL c g fb i f0 x src s)) wr)(tm:Array Value)(h4:tm.getD 4 undef = .pointer fb) :
 bodyPostD Tryz.prog Tryz.f39 (Got (.returned f) (VA c g x src s) F w) (Exit.panic [flt f]) { tmps:=tm,defers:=[{ target:= .fn (.func 63) #[fb],args:= #[] }] } wr:=by
 refine leaves_cons (f:=63) (args:= #[.pointer fb]) (by simp) (by simp[go_sem]) ?_
 have hb:=h.ab 1 rfl
 refine(pC ⟨fb,0,none⟩ (.int .i64 f0) f wr (hb.cell 0) (hb.frozen 0)).mono ?_
 rintro e u' w'' ⟨rfl,rfl,rfl⟩
 have h2:=h.setAt 1 rfl 0 (.int .i64 f)
 have c0: (wr.setCell (fb,0) (.int .i64 f)).cell? (fb,0) =some (f:Vl):=(h2.ab 1 rfl).cell 0
 have h4':tm[4]?.getD undef = .pointer fb:=by simpa using h4
 refine⟨.int .i64 f,?_,rfl,h2.tail.tail⟩
 simp[results,Tryz.results39,go_sem,h4',c0]
end
theorem eV{S:Img}(h:S.Ok)(m a v:Int) : (S.setCell m a v).Ok:=by
 unfold Img.setCell
 split
 ·rename_i hc
  unfold Img.az at hc
  split at hc
  ·cases hc
  split at hc
  ·rename_i hr
   obtain⟨h0,h1⟩:=S.mh hr oM
   exact cV h _ _ (by rw[aJ];omega)
  ·cases hc
 ·exact h
theorem gN{S:Img}(h:S.Ok)(m a:Int)(c:UInt8) : (S.aV m a c).Ok:=by
 unfold Img.aV
 split
 ·rename_i hr
  obtain⟨h0,h1⟩:=S.mh hr oM
  exact cV h _ _ (by simp;omega)
 ·exact h
theorem eU : ∀(l:List Int) (S:Img) (fr d:Nat),S.Ok->(bJ S fr d l).Ok
 | [],S,fr,d,h=>h
 | x::l,S,fr,d,h=>eU l _ fr (d+1) (eV h _ _ _)
theorem Alike.aV(S:Img)(m a:Int)(c:UInt8) :Alike S (S.aV m a c):=by
 unfold Img.aV
 split
 ·exact Alike.put _ _ _
 ·exact Alike.refl S
theorem wM{S:Img}(h:S.Ok){m a:Int}{n:Nat}{w:Bool}(hr:S.aS m a n w=true) :n=0∨0<=a∧a.toNat+n<=S.beg 6:=by
 by_cases hn:n=0
 ·exact .inl hn
 ·obtain⟨h0,h1⟩:=S.mh hr hn
  exact .inr ⟨h0,by omega⟩
theorem rW{S:Img}(h:S.Ok){m a:Int}{n:Nat}{w:Bool}(hr:S.aS m a n w=true)(l:List UInt8)(hl:l.length=n) : (S.put a.toNat l).Ok:=by
 rcases wM h hr with h0| ⟨h0,h1⟩
 ·have:l = []:=List.eq_nil_of_length_eq_zero oM
  rw[this,Img.fP]
  exact h
 ·exact cV h _ _ oM
theorem Alike.move(S:Img)(m a b n:Int) :Alike S (S.move m a b n):=by
 unfold Img.move
 split
 ·exact Alike.put _ _ _
 ·exact Alike.refl S
theorem Alike.fill(S:Img)(m a n:Int)(c:UInt8) :Alike S (S.fill m a n c):=by
 unfold Img.fill
 split
 ·exact Alike.put _ _ _
 ·exact Alike.refl S
theorem x9{S:Img}(h:S.Ok)(m a b n:Int) : (S.move m a b n).Ok:=by
 unfold Img.move
 split
 ·rename_i hf
  unfold Img.iv at hf
  split at hf
  ·cases hf
  split at hf
  ·rename_i hr
   refine rW h hr.2 _ ?_
   rcases wM h hr.1 with h0| ⟨h0,h1⟩
   ·rw[h0];simp[Img.bytes]
   ·unfold Img.bytes
    rw[List.length_take,List.length_drop,h.len]
    omega
  ·cases hf
 ·exact h
theorem xa{S:Img}(h:S.Ok)(m a n:Int)(c:UInt8) : (S.fill m a n c).Ok:=by
 unfold Img.fill
 split
 ·rename_i hf
  unfold Img.iM at hf
  split at hf
  ·cases hf
  split at hf
  ·rename_i hr
   exact rW h hr _ (List.length_replicate ..)
  ·cases hf
 ·exact h
structure dP(s s':Mt) :Prop where
 al:Alike s.S s'.S
 ok:s.S.Ok->s'.S.Ok
 hs:s'.hs=s.hs
 ls:s'.ls=s.ls
 hk:s'.hk=s.hk
 lk:s'.lk=s.lk
 T:s'.T=s.T
 ext:s'.ext=s.ext
 fa:s'.fault=s.fault
 us:s'.used=s.used
 hd:s'.hidden=s.hidden
theorem dP.refl(s:Mt) :dP s s:=⟨Alike.refl _,id,rfl,rfl,rfl,rfl,rfl,rfl,rfl,rfl,rfl⟩
theorem dP.trans{s t u:Mt}(h:dP s t)(g:dP t u) :dP s u:=
 ⟨h.al.trans g.al,λo=>g.ok (h.ok o),g.hs.trans h.hs,g.ls.trans h.ls,g.hk.trans h.hk,g.lk.trans h.lk,g.T.trans h.T,g.ext.trans h.ext,g.fa.trans h.fa,g.us.trans h.us,g.hd.trans h.hd⟩
theorem rT(s:Mt)(S':Img)(h1:Alike s.S S')(h2:s.S.Ok->S'.Ok) :dP s { s with S:=S' }:=⟨h1,h2,rfl,rfl,rfl,rfl,rfl,rfl,rfl,rfl,rfl⟩
theorem zh(s:Mt)(l:List Int) :dP s (s.cY l):=⟨Alike.bJ _ _ _ _,λh=>eU _ _ _ _ h,rfl,rfl,rfl,rfl,rfl,rfl,rfl,rfl,rfl⟩
theorem dY(s:Mt)(l:List Int) :dP s (s.aE l):=⟨Alike.bJ _ _ _ _,λh=>eU _ _ _ _ h,rfl,rfl,rfl,rfl,rfl,rfl,rfl,rfl,rfl⟩
theorem tE(s:Mt)(n:Nat) :dP s (s.pG n):=⟨Alike.refl _,id,rfl,rfl,rfl,rfl,rfl,rfl,rfl,rfl,rfl⟩
theorem oq(s:Mt)(n:Nat) :dP s (s.iB n):=⟨Alike.refl _,id,rfl,rfl,rfl,rfl,rfl,rfl,rfl,rfl,rfl⟩
theorem zF(s:Mt)(n:Nat)(v:Int) :dP s (s.s6 n v):=⟨Alike.sset _ _ _ _,λh=>eV h _ _ _,rfl,rfl,rfl,rfl,rfl,rfl,rfl,rfl,rfl⟩
theorem bu(s:Mt)(n:Nat)(l:List Int) :dP s (s.aq n l).2:=by
 unfold Mt.aq
 split
 ·exact tE _ _
 ·exact(tE _ _).trans (zh _ _)
theorem jC(s:Mt)(m a v:Int) :dP s { s with S:=s.S.setCell m a v }:=rT s _ (Alike.setCell _ _ _ _) λh=>eV h _ _ _
theorem vp(s:Mt)(m a:Int)(v:UInt8) :dP s { s with S:=s.S.aV m a v }:=rT s _ (Alike.aV _ _ _ _) λh=>gN h _ _ _
theorem oB(x:Rn)(s:Mt) :dP s (back x s).s:=by
 unfold back
 split
 ·exact dP.refl s
 ·exact⟨Alike.refl _,id,rfl,rfl,rfl,rfl,rfl,rfl,rfl,rfl,rfl⟩
theorem ti(n:Int)(e:Bool)(a:Int)(x:Rn)(s:Mt) :dP s (ee n e a x s).s:=by
 unfold ee
 split
 ·exact oq _ _
 ·exact zF _ _ _
theorem fD(n:Nat)(l:List Int)(x:Rn)(s:Mt) :dP s (aK n l x s).s:=bu s n l
theorem lq(n:Nat)(p:Rs×List Int)(s:Mt)(h:dP s p.1.s) :dP s (Rs.laid n p).s:=by
 unfold Rs.laid
 split
 ·exact h.trans (bu _ _ _)
 ·exact h
def Rn.up(x:Rn)(k:Int) :Rn:={ x with left:=x.left+k }
def Mt.sn(s:Mt)(l:List Stp) :Mt:={ s with seen:=l }
def Rs.up(q:Rs)(k:Int)(l:List Stp) :Rs:=⟨q.f,q.x.up k,q.s.sn l⟩
def Flat(q:Rn->Mt->Rs) :Prop:= ∀x s k l,q (x.up k) (s.sn l) = (q x s).up k l
theorem bk(s:Mt)(n:Nat)(l:List Int)(t:List Stp) : (s.sn t).aq n l= ((s.aq n l).1,(s.aq n l).2.sn t):=by
 unfold Mt.aq
 show(if s.pd.rm- (s.d-n) <l.length then _ else _) =_
 split<;>rfl
theorem eG(n:Nat)(l:Rn->Mt->List Int)(h : ∀x s k t,l (x.up k) (s.sn t) =l x s) :Flat (λx s=>aK n (l x s) x s):=by
 intro x s k t
 show aK n (l (x.up k) (s.sn t)) (x.up k) (s.sn t) =_
 rw[h]
 unfold aK
 rw[bk]
 rfl
theorem ot:Flat back:=by
 intro x s k t
 unfold back
 show(if s.r=0 then _ else _) =_
 split<;>rfl
theorem tF(n:Rn->Mt->Int)(e:Rn->Mt->Bool)(a:Int)(u:Mt->Mt)(hn : ∀x s k t,n (x.up k) (s.sn t) =n x s)(he : ∀x s k t,e (x.up k) (s.sn t) =e x s)(hu : ∀s t,u (s.sn t) = (u s).sn t) :Flat (λx s=>ee (n x s) (e x s) a x (u s)):=by
 intro x s k t
 show ee (n (x.up k) (s.sn t)) (e (x.up k) (s.sn t)) a (x.up k) (u (s.sn t)) =_
 rw[hn,he,hu]
 show _= (ee (n x s) (e x s) a x (u s)).up k t
 unfold ee
 split<;>rfl
def cy(q:Rn->Mt->Rs×List Int) :Prop:= ∀x s k l,q (x.up k) (s.sn l) = ((q x s).1.up k l,(q x s).2)
theorem cy.laid{q:Rn->Mt->Rs×List Int}(h:cy q)(n:Nat) :Flat (λx s=>Rs.laid n (q x s)):=by
 intro x s k l
 show Rs.laid n (q (x.up k) (s.sn l)) =_
 rw[h]
 show _= (Rs.laid n (q x s)).up k l
 unfold Rs.laid
 show(if(q x s).1.f=0 then aK n (q x s).2 ((q x s).1.x.up k) ((q x s).1.s.sn l)else _) =_
 split
 ·unfold aK
  rw[bk]
  rfl
 ·rfl
structure Fu(q:Rn->Mt->Rs) :Prop where
 up : ∀x s k l,0<=k->(q x s).f≠13->q (x.up k) (s.sn l) = (q x s).up k l
 stop : ∀x s k l,0<=k->(q x s).f=13->(q (x.up k) (s.sn l)).f≠13->(q (x.up k) (s.sn l)).x.left<k
 out : ∀x s,∃t:List UInt8,(q x s).s.T.out.data.toList=s.T.out.data.toList++t
 EY : ∀x s,(q x s).f=13->(q x s).s.T.out=s.T.out
theorem Flat.fu{q:Rn->Mt->Rs}(h:Flat q)(hT : ∀x s,(q x s).s.T=s.T) :Fu q:=
 ⟨λx s k l _ _=>h x s k l,λx s k l _ h13 hn=>absurd (by rw[h];exact h13) hn,λx s=>⟨[],by rw[hT];simp⟩,λx s _=>by rw[hT]⟩
end Vm
end Go.Proofs.YtjohhkikoejadaaGreatDoor
