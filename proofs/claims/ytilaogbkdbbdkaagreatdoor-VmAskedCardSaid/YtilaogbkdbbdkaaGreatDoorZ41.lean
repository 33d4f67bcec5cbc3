/- Chapter 11. No condition. -/
import Derived.Test.YtilaogbkdbbdkaaGreatDoorOm
import Derived.Test.YtilaogbkdbbdkaaGreatDoorZ40
namespace Go.Proofs.YtilaogbkdbbdkaaGreatDoor
set_option linter.unusedVariables false
set_option linter.unusedSimpArgs false
set_option maxHeartbeats 8000000
set_option maxRecDepth 100000
open Go.RowKit Go.Lib
namespace Vm
theorem xz:bd WkN (λx s=>(⟨s.S.bV x.mode (ar s 1 0) false,x,s⟩,[((s.S.iN x.mode (ar s 1 0)).toNat:Int)])) 1:=λc src x s hp hs hx=>⟨hs,rfl,rfl,Nat.le_refl _,(λv hv=>by
 rw[List.mem_singleton.1 hv]
 have:=(s.S.iN x.mode (ar s 1 0)).toNat_lt
 unfold V64
 omega),hx,Int.le_refl _,rfl,rfl,hp⟩
theorem xv:bd WkN (λx s=>(⟨s.S.bV x.mode (ar s 2 1) true,x,{ s with S:=s.S.aS x.mode (ar s 2 1) (byteOf (ar s 2 0)) }⟩,[])) 0:=λc src x s hp hs hx=>⟨qF hs _,rfl,rfl,Nat.le_refl _,(λv hv=>by cases hv),hx,Int.le_refl _,rfl,rfl,hp.dH (wM s _ _ _)⟩
theorem Eg:bd WkN je 0:=by
 intro c src x s hp hs hx
 unfold je
 split
 ·exact⟨qF hs _,rfl,rfl,Nat.le_refl _,(λv hv=>by cases hv),hx,Int.le_refl _,rfl,rfl,hp.dH (j9 s _ _ _)⟩
 ·exact⟨hs,rfl,rfl,Nat.le_refl _,(λv hv=>by cases hv),hx,Int.le_refl _,rfl,rfl,hp⟩
theorem Ed:bd WkN ks 0:=by
 intro c src x s hp hs hx
 unfold ks
 split
 ·exact⟨qF hs _,rfl,rfl,Nat.le_refl _,(λv hv=>by cases hv),ie hx _,jv _ _,rfl,rfl,hp.dH (sk s _ (Alike.move _ _ _ _ _) λh=>zN h _ _ _ _)⟩
 ·exact⟨hs,rfl,rfl,Nat.le_refl _,(λv hv=>by cases hv),ie hx _,jv _ _,rfl,rfl,hp⟩
theorem Ee:bd WkN kz 0:=by
 intro c src x s hp hs hx
 unfold kz
 split
 ·exact⟨qF hs _,rfl,rfl,Nat.le_refl _,(λv hv=>by cases hv),ie hx _,jv _ _,rfl,rfl,hp.dH (sk s _ (Alike.fill _ _ _ _ _) λh=>yG h _ _ _ _)⟩
 ·exact⟨hs,rfl,rfl,Nat.le_refl _,(λv hv=>by cases hv),ie hx _,jv _ _,rfl,rfl,hp⟩
theorem Ez:bd WkN sq 1:=λc src x s hp hs hx=>⟨hs,rfl,rfl,Nat.le_refl _,(λv hv=>by
 rw[List.mem_singleton.1 hv]
 exact fO _ _ _ _),hx,Int.le_refl _,rfl,rfl,hp⟩
theorem uu(m a:Int): ∀(l:List UInt8) (i:Nat) (S:Img),Alike S (ed m a i l S).2∧(S.Ok->(ed m a i l S).2.Ok)
 | [],i,S=>⟨Alike.refl _,id⟩
 | b::l,i,S=>by
   unfold ed
   split
   ·obtain⟨h1,h2⟩:=uu m a l (i+1) (S.aS m (IntKind.i64.wrap (a+ (i:Int))) b)
    exact⟨(Alike.aS _ _ _ _).trans h1,λh=>h2 (iW h _ _ _)⟩
   ·exact⟨Alike.aS _ _ _ _,λh=>iW h _ _ _⟩
theorem LC(T:af.Tab)(m n:Int): (af.cE T m n).size<=n.toNat:=by
 unfold af.cE
 split
 ·rw[ByteArray.size_extract]
  have:=af.sL T.inp n
  omega
 ·exact Nat.zero_le _
theorem yk:bd WkN ze 1:=by
 intro c src x s hp hs hx
 have hv: ∀v∈[((af.cE s.T x.mode (ar s 2 1)).size:Int)],V64 v:=λv hv=>by
  rw[List.mem_singleton.1 hv]
  have h1:=LC s.T x.mode (ar s 2 1)
  have h2:=aN s 2 1
  unfold V64 at *
  omega
 have hk: (eh x s (ar s 2 0) (ar s 2 1)).2.Ok∧(eh x s (ar s 2 0) (ar s 2 1)).2.d=s.d∧(eh x s (ar s 2 0) (ar s 2 1)).2.pd=s.pd∧(eh x s (ar s 2 0) (ar s 2 1)).2.au=s.au∧(eh x s (ar s 2 0) (ar s 2 1)).2.seen=s.seen∧WkN c src (eh x s (ar s 2 0) (ar s 2 1)).2:=by
  unfold eh
  split
  ·exact⟨hs,rfl,rfl,rfl,rfl,hp⟩
  split
  ·exact⟨hs,rfl,rfl,rfl,rfl,hp⟩
  split
  ·exact⟨lM hs _,rfl,rfl,rfl,rfl,hp.Fz _⟩
  ·obtain⟨h1,h2⟩:=uu x.mode (ar s 2 0) (af.cE s.T x.mode (ar s 2 1)).data.toList 0 s.S
   exact⟨⟨hs.pd,hs.pr,hs.d,hs.r,hs.du,hs.dv,hs.ru,hs.rv⟩,rfl,rfl,rfl,rfl,(hp.dH (sk s _ h1 h2)).Fz _⟩
 obtain⟨k1,k2,k3,k4,k5,k6⟩:=hk
 exact⟨k1,k2,k3,Nat.le_refl _,hv,ie hx _,jv _ _,k4,k5,k6⟩
theorem Cp{a b:Int}(h:okC a b=true):V64 a∧V64 b:=by
 unfold okC at h
 rw[Bool.and_eq_true]at h
 have h1:=cN h.1
 have h2:=cN h.2
 unfold V64
 omega
theorem nH{a b:Int}(h:okC a b=true): ∀v∈[a,b],V64 v:=λv hv=>by
 simp only[List.mem_cons,List.mem_nil_iff,or_false]at hv
 rcases hv with rfl|rfl
 ·exact(Cp h).1
 ·exact(Cp h).2
theorem EW:bd WkN jj 2:=by
 intro c src x s hp hs hx
 unfold jj
 split
 ·rename_i h
  exact⟨hs,rfl,rfl,Nat.le_refl _,nH h.2.2,hx,Int.le_refl _,rfl,rfl,hp⟩
 ·exact⟨hs,rfl,rfl,Nat.zero_le _,(λv hv=>by cases hv),hx,Int.le_refl _,rfl,rfl,hp⟩
theorem D7:bd WkN jt 2:=by
 intro c src x s hp hs hx
 unfold jt
 split
 ·rename_i h
  exact⟨hs,rfl,rfl,Nat.le_refl _,nH h.2.2,hx,Int.le_refl _,rfl,rfl,hp⟩
 ·exact⟨hs,rfl,rfl,Nat.zero_le _,(λv hv=>by cases hv),hx,Int.le_refl _,rfl,rfl,hp⟩
theorem EB:bd WkN jg 2:=by
 intro c src x s hp hs hx
 unfold jg
 split
 ·rename_i h
  exact⟨hs,rfl,rfl,Nat.le_refl _,nH h.2.2,hx,Int.le_refl _,rfl,rfl,hp⟩
 ·exact⟨hs,rfl,rfl,Nat.zero_le _,(λv hv=>by cases hv),hx,Int.le_refl _,rfl,rfl,hp⟩
theorem B7:bd WkN fi 2:=by
 intro c src x s hp hs hx
 unfold fi
 split
 ·rename_i h
  exact⟨hs,rfl,rfl,Nat.le_refl _,nH h.2,hx,Int.le_refl _,rfl,rfl,hp⟩
 ·exact⟨hs,rfl,rfl,Nat.zero_le _,(λv hv=>by cases hv),hx,Int.le_refl _,rfl,rfl,hp⟩
theorem Bj:bd WkN fm 2:=by
 intro c src x s hp hs hx
 unfold fm
 split
 ·rename_i h
  exact⟨hs,rfl,rfl,Nat.le_refl _,nH h.2,hx,Int.le_refl _,rfl,rfl,hp⟩
 ·exact⟨hs,rfl,rfl,Nat.zero_le _,(λv hv=>by cases hv),hx,Int.le_refl _,rfl,rfl,hp⟩
theorem AI:bd WkN fl 1:=by
 intro c src x s hp hs hx
 unfold fl
 split
 ·rename_i h
  refine⟨hs,rfl,rfl,Nat.le_refl _,(λv hv=> ?_),hx,Int.le_refl _,rfl,rfl,hp⟩
  rw[List.mem_singleton.1 hv]
  unfold okC at h
  rw[Bool.and_eq_true]at h
  have k1:=cN h.1
  have k2:=cN h.2
  generalize ar s 2 0=X at *
  generalize ar s 2 1=Y at *
  have m1: (X*X).natAbs<=281474976710656:=by rw[Int.natAbs_mul];exact Nat.mul_le_mul k1 k1
  have m2: (Y*Y).natAbs<=281474976710656:=by rw[Int.natAbs_mul];exact Nat.mul_le_mul k2 k2
  generalize X*X=A at *
  generalize Y*Y=B at *
  unfold V64
  omega
 ·exact⟨hs,rfl,rfl,Nat.zero_le _,(λv hv=>by cases hv),hx,Int.le_refl _,rfl,rfl,hp⟩
theorem WkN.LS{c:Vc}{src:Value}{s:Mt}{S':Img}{D':Dc}(h:WkN c src s)(hS:S'.Ok)(hD:D'.Ok S')(ha:Alike s.S S')(hr:D'.rg=3):WkN c src (s.bq S' D'):=by
 have hd:dS (s.bq S' D')=D':=by
  obtain⟨rg,hh,ll⟩:=D'
  simp only at hr
  subst hr
  unfold dS Mt.bq
  simp
 refine⟨⟨⟨?_,?_,?_⟩,h.1.hk,h.1.lk,h.1.kat.dH ha hS,h.1.ws,h.1.tab,.inl h.2,h.1.v1,h.1.v2,h.1.v3⟩,h.2⟩
 ·show 0<=(D'.h:Int);omega
 ·show 0<=(D'.l:Int);omega
 ·rw[hd]
  exact h.1.dcs.at8.next hS hD ha hr
theorem lU{s:Mt}(hs:s.Ok)(S':Img)(D':Dc): (s.bq S' D').Ok:=⟨hs.pd,hs.pr,hs.d,hs.r,hs.du,hs.dv,hs.ru,hs.rv⟩
theorem Ef:bd WkN (λx s=>(⟨0,x,s⟩,[s.hs])) 1:=λc src x s hp hs hx=>⟨hs,rfl,rfl,Nat.le_refl _,(λv hv=>by
 rw[List.mem_singleton.1 hv]
 have h1:=hp.1.dcs.at8.lo.2
 have h2:=hp.1.dcs.at8.le
 have h3:=hp.1.dcs.h
 have h4: (dS s).h=s.hs.toNat:=rfl
 unfold V64
 omega),hx,Int.le_refl _,rfl,rfl,hp⟩
theorem Bl:bd WkN (λx s=>(⟨(dS s).hU s.S (ar s 1 0),x,s.bq s.S ((dS s).jQf s.S (ar s 1 0))⟩,[])) 0:=λc src x s hp hs hx=>
 ⟨lU hs _ _,rfl,rfl,Nat.le_refl _,(λv hv=>by cases hv),hx,Int.le_refl _,rfl,rfl,hp.LS hp.1.dcs.at8.img (Dc.Jc hp.1.dcs.at8.ok _) (Alike.refl _) (by unfold Dc.jQf;split<;>rfl)⟩
theorem Af:bd WkN (λx s=>(⟨(dS s).bm s.S,x,s.bq ((dS s).bi s.S (ar s 1 0)) ((dS s).bw s.S)⟩,[])) 0:=λc src x s hp hs hx=>
 ⟨lU hs _ _,rfl,rfl,Nat.le_refl _,(λv hv=>by cases hv),hx,Int.le_refl _,rfl,rfl,hp.LS (Dc.rR hp.1.dcs.at8.img hp.1.dcs.at8.ok _).1 (Dc.rR hp.1.dcs.at8.img hp.1.dcs.at8.ok _).2 (Dc.kW _ _ _) (by unfold Dc.bw;split<;>rfl)⟩
theorem zi:bd WkN (λx s=>(⟨(dS s).cA s.S,x,s.bq ((dS s).de s.S (byteOf (ar s 1 0))) ((dS s).eA s.S)⟩,[])) 0:=λc src x s hp hs hx=>
 ⟨lU hs _ _,rfl,rfl,Nat.le_refl _,(λv hv=>by cases hv),hx,Int.le_refl _,rfl,rfl,hp.LS (Dc.uy hp.1.dcs.at8.img hp.1.dcs.at8.ok _).1 (Dc.uy hp.1.dcs.at8.img hp.1.dcs.at8.ok _).2 (Dc.nj _ _ _) (by unfold Dc.eA;split<;>rfl)⟩
theorem Cd:bd WkN (λx s=>(⟨(dS s).fF s.S,x,s.bq ((dS s).fj s.S) ((dS s).iP s.S)⟩,[])) 0:=λc src x s hp hs hx=>
 ⟨lU hs _ _,rfl,rfl,Nat.le_refl _,(λv hv=>by cases hv),hx,Int.le_refl _,rfl,rfl,hp.LS (Dc.yA hp.1.dcs.at8.img hp.1.dcs.at8.ok).1 (Dc.yA hp.1.dcs.at8.img hp.1.dcs.at8.ok).2 (Dc.pR _ _) (by unfold Dc.iP;split<;>rfl)⟩
theorem EM(x:Rn)(s:Mt):dz s (bh x s).s:=by
 unfold bh
 split
 ·exact dz.refl s
 ·split
  ·exact dz.refl s
  ·split
   ·exact dz.refl s
   ·exact j9 s _ _ _
theorem cO.mf{P Q:Kn}(h: ∀c src s,Q c src s->P c src s){f:FuncId}{pre:Nat->Array Value}{i:aq}{q:Rn->Mt->Rs×List Int}(hq:cO P f pre i q):cO Q f pre i q:=λc g x src s ba w F hp=>hq c g x src s ba w F (h c src s hp)
theorem ej.mf{P Q:Kn}(h: ∀c src s,Q c src s->P c src s){i:aq}{q:Rn->Mt->Rs}(hq:ej P i q):ej Q i q:=λc g x src s w F hp=>hq c g x src s w F (h c src s hp)
theorem tH.mf{P Q:Kn}(h: ∀c src s,Q c src s->P c src s){f:FuncId}{i:aq}{q:Rn->Mt->Rs}(hq:tH P f i q):tH Q f i q:=λc g x src s ba w F hp=>hq c g x src s ba w F (h c src s hp)
theorem dj.toG{f:FuncId}{i:aq}{q:Rn->Mt->Rs}(h:dj f i q)(P:Kn):tH P f i q:=λc g x src s ba w F _=>h c g x src s ba w F
theorem Bf(arg lit cells:Int):jy WkN ⟨18,arg,lit,cells⟩ iX:=by
 intro c src x s hp hs hx RM Ry ha
 have k1:=Cv hs x
 have kx:=HY x s
 have kn:=EM x s
 have kt: (bh x s).s.au=s.au∧(bh x s).s.seen=s.seen:=by
  unfold bh
  split
  ·exact⟨rfl,rfl⟩
  ·split
   ·exact⟨rfl,rfl⟩
   ·split<;>exact⟨rfl,rfl⟩
 have hw:=hp.dH kn
 unfold iX
 split
 ·generalize (bh x s).s=s2 at *
  refine⟨?_,?_,?_,?_,?_,hw.dH (oG x s2)⟩
  ·unfold back
   split
   ·exact k1
   ·exact⟨k1.pd,k1.pr,k1.d,by have:=k1.r;show s2.r-1<=s2.pr.rm;omega,k1.du,k1.dv,k1.ru,k1.rv⟩
  ·unfold back
   split
   ·exact hx
   ·exact⟨hx.base,hx.dh,fO _ _ _ _,hx.pc,hx.left,hx.cG⟩
  ·unfold back;split<;>exact kt.1
  ·unfold back;split<;>exact Int.le_refl _
  ·unfold back;split<;>exact kt.2
 ·exact⟨k1,by rw[kx];exact hx,kt.1,by rw[kx];exact Int.le_refl _,kt.2,hw⟩
theorem ED(arg lit cells:Int):ej WkN ⟨18,arg,lit,cells⟩ iX:=tz WkN _ _ dd ((Ha arg lit cells).mf λc src s h=>h.1.dcs)
theorem s9(arg lit cells:Int):jy WkN ⟨85,arg,lit,cells⟩ lR:=λc src x s hp hs hx RM Ry ha=>⟨hs,hx,rfl,Int.le_refl _,rfl,hp⟩
theorem wi(arg lit cells:Int):ej WkN ⟨85,arg,lit,cells⟩ lR:=(pn arg lit cells).mf λc src s h=>h.2
def jQi(i:aq):Option (Rn->Mt->Rs):=
 if i.op=29 then some (λx s=>Rs.laid 1 (sq x s))
 else if i.op=30 then some (λx s=>Rs.laid 0 (((⟨0,x,s⟩,[(s.d:Int)]):Rs×List Int)))
 else if i.op=87 then some (λx s=>Rs.laid 0 (((⟨0,x,s⟩,[(s.S.beg 2:Int),s.hidden]):Rs×List Int)))
 else if i.op=67 then some (λx s=>Rs.laid 1 (((⟨s.S.bV x.mode (ar s 1 0) false,x,s⟩,[((s.S.iN x.mode (ar s 1 0)).toNat:Int)]):Rs×List Int)))
 else if i.op=68 then some (λx s=>Rs.laid 2 (((⟨s.S.bV x.mode (ar s 2 1) true,x,{ s with S:=s.S.aS x.mode (ar s 2 1) (byteOf (ar s 2 0)) }⟩,[]):Rs×List Int)))
 else if i.op=69 then some (λx s=>Rs.laid 2 (je x s))
 else if i.op=70 then some (λx s=>Rs.laid 3 (ks x s))
 else if i.op=71 then some (λx s=>Rs.laid 3 (kz x s))
 else if i.op=72 then some (λx s=>Rs.laid 0 (((⟨0,x,s⟩,[s.hs]):Rs×List Int)))
 else if i.op=73 then some (λx s=>Rs.laid 1 (((⟨(dS s).hU s.S (ar s 1 0),x,s.bq s.S ((dS s).jQf s.S (ar s 1 0))⟩,[]):Rs×List Int)))
 else if i.op=74 then some (λx s=>Rs.laid 1 (((⟨(dS s).bm s.S,x,s.bq ((dS s).bi s.S (ar s 1 0)) ((dS s).bw s.S)⟩,[]):Rs×List Int)))
 else if i.op=75 then some (λx s=>Rs.laid 1 (((⟨(dS s).cA s.S,x,s.bq ((dS s).de s.S (byteOf (ar s 1 0))) ((dS s).eA s.S)⟩,[]):Rs×List Int)))
 else if i.op=76 then some (λx s=>Rs.laid 0 (((⟨(dS s).fF s.S,x,s.bq ((dS s).fj s.S) ((dS s).iP s.S)⟩,[]):Rs×List Int)))
 else if i.op=78 then some (λx s=>Rs.laid 1 (((⟨i6 x s ⟨#[byteOf (ar s 1 0)]⟩,x,s.eT x ⟨#[byteOf (ar s 1 0)]⟩⟩,[]):Rs×List Int)))
 else if i.op=79 then some (λx s=>Rs.laid 2 (kG x s))
 else if i.op=80 then some (λx s=>Rs.laid 1 (jA GK x s))
 else if i.op=81 then some (λx s=>Rs.laid 1 (jA yi x s))
 else if i.op=82 then some (λx s=>Rs.laid 2 (ig x s))
 else if i.op=83 then some (λx s=>Rs.laid 0 (yw x s))
 else if i.op=84 then some (λx s=>Rs.laid 2 (ze x s))
 else if i.op=86 then some (λx s=>Rs.laid 2 (kH x s))
 else if i.op=94 then some (λx s=>Rs.laid 4 (jj x s))
 else if i.op=95 then some (λx s=>Rs.laid 4 (jt x s))
 else if i.op=96 then some (λx s=>Rs.laid 4 (jg x s))
 else if i.op=97 then some (λx s=>Rs.laid 2 (fi x s))
 else if i.op=98 then some (λx s=>Rs.laid 2 (fl x s))
 else if i.op=99 then some (λx s=>Rs.laid 3 (fm x s))
 else if i.op=18 then some iX
 else if i.op=85 then some lR
 else if i.op=105 then some (λx s=>⟨17,x,s⟩)
 else if i.op=106 then some (λx s=>⟨0,x,s⟩)
 else if i.op=17 then some (λx s=>if i.arg=0 then back { x with next:=i.arg } (s.ak 0 [wrap64 (x.pc+16)]).2 else⟨0,{ x with next:=i.arg },(s.ak 0 [wrap64 (x.pc+16)]).2⟩)
 else if i.op=19 then some (λx s=>aJ 0 [wrap64 (x.pc+8),i.arg] x s)
 else none
theorem bb: ∀c src s s',WkN c src s->dz s s'->WkN c src s':=λ_ _ _ _ h n=>h.dH n
theorem AO:bd WkN (λx s=>(⟨0,x,s⟩,[(s.d:Int)])) 1:=λc src x s hp hs hx=>⟨hs,rfl,rfl,Nat.le_refl _,(λv hv=>by
 rw[List.mem_singleton.1 hv]
 have:=hs.dle
 unfold V64
 omega),hx,Int.le_refl _,rfl,rfl,hp⟩
theorem yH:bd WkN (λx s=>(⟨0,x,s⟩,[(s.S.beg 2:Int),s.hidden])) 2:=λc src x s hp hs hx=>⟨hs,rfl,rfl,Nat.le_refl _,(λv hv=>by
 simp only[List.mem_cons,List.mem_nil_iff,or_false]at hv
 rcases hv with rfl|rfl
 ·have h1:=hp.1.dcs.at8.img.small
  have h2:=hp.1.dcs.at8.img.len
  have h3:s.S.beg 2<=s.S.beg 6:=by show s.S.k<=s.S.k+s.S.s+s.S.u+s.S.d+s.S.r;omega
  unfold V64
  omega
 ·exact hp.1.v3),hx,Int.le_refl _,rfl,rfl,hp⟩
theorem wZ(arg lit cells:Int):jy WkN ⟨105,arg,lit,cells⟩ (λx s=>⟨17,x,s⟩):=λc src x s hp hs hx RM Ry ha=>⟨hs,hx,rfl,Int.le_refl _,rfl,hp⟩
theorem DF(arg lit cells:Int):jy WkN ⟨106,arg,lit,cells⟩ (λx s=>⟨0,x,s⟩):=λc src x s hp hs hx RM Ry ha=>⟨hs,hx,rfl,Int.le_refl _,rfl,hp⟩
theorem AW{x:Rn}{s:Mt}(hs:s.Ok)(hx:x.Ok): (back x s).s.Ok∧(back x s).x.Ok∧(back x s).s.au=s.au∧(back x s).x.left=x.left∧(back x s).s.seen=s.seen:=by
 unfold back
 split
 ·exact⟨hs,hx,rfl,rfl,rfl⟩
 ·exact⟨⟨hs.pd,hs.pr,hs.d,by have:=hs.r;show s.r-1<=s.pr.rm;omega,hs.du,hs.dv,hs.ru,hs.rv⟩,⟨hx.base,hx.dh,fO _ _ _ _,hx.pc,hx.left,hx.cG⟩,rfl,rfl,rfl⟩
theorem vX(arg lit cells:Int):ej WkN ⟨17,arg,lit,cells⟩ (λx s=>if arg=0 then back { x with next:=arg } (s.ak 0 [wrap64 (x.pc+16)]).2 else⟨0,{ x with next:=arg },(s.ak 0 [wrap64 (x.pc+16)]).2⟩):=(aR _ _ dd (zu arg lit cells)).toG WkN
theorem tG(arg lit cells:Int):jy WkN ⟨17,arg,lit,cells⟩ (λx s=>if arg=0 then back { x with next:=arg } (s.ak 0 [wrap64 (x.pc+16)]).2 else⟨0,{ x with next:=arg },(s.ak 0 [wrap64 (x.pc+16)]).2⟩):=by
 intro c src x s hp hs hx RM Ry ha
 have h1: (s.ak 0 [wrap64 (x.pc+16)]).2.Ok:=gj hs (Nat.zero_le _) (ao ha dd 0 1 dd dd)
 obtain⟨h2,h3,_⟩:=aB s 0 [wrap64 (x.pc+16)]
 have SE: ({ x with next:=arg }:Rn).Ok:=⟨hx.base,hx.dh,RM,hx.pc,hx.left,hx.cG⟩
 have hw:=hp.dH (aW s 0 [wrap64 (x.pc+16)])
 dsimp only
 split
 ·obtain⟨k1,k2,k3,k4,k5⟩:=AW h1 SE
  exact⟨k1,k2,k3.trans h2,by rw[k4];exact Int.le_refl _,k5.trans h3,hw.dH (oG _ _)⟩
 ·exact⟨h1,SE,h2,Int.le_refl _,h3,hw⟩
theorem FW(arg lit cells:Int):ej WkN ⟨19,arg,lit,cells⟩ (λx s=>aJ 0 [wrap64 (x.pc+8),arg] x s):=(aR _ _ dd (Iq arg lit cells)).toG WkN
theorem By(arg lit cells:Int):jy WkN ⟨19,arg,lit,cells⟩ (λx s=>aJ 0 [wrap64 (x.pc+8),arg] x s):=by
 intro c src x s hp hs hx RM Ry ha
 have h1: (s.ak 0 [wrap64 (x.pc+8),arg]).2.Ok:=gj hs (Nat.zero_le _) (ao ha dd 0 2 dd dd)
 obtain⟨h2,h3,_⟩:=aB s 0 [wrap64 (x.pc+8),arg]
 exact⟨h1,hx,h2,Int.le_refl _,h3,hp.dH (aW _ _ _)⟩
theorem En(i:aq)(q:Rn->Mt->Rs)(hq:jQi i=some q):ej WkN i q∧jy WkN i q:=by
 obtain⟨op,arg,lit,cells⟩:=i
 unfold jQi at hq
 simp only at hq
 revert hq
 apply eli
 ·rintro rfl
  have hm:bd WkN (λx s=>sq x s) 1:=Ez
  have hl:gy WkN ⟨29,arg,lit,cells⟩ (λx s=>sq x s):=(aD (m:=1) 1 dd dd (by dsimp only;decide) hm)
  refine⟨?_,aH bb dd hl hm⟩
  intro c g x src s w F hp
  exact nk WkN _ _ dd dd ((PA arg lit cells).toG WkN) hl c g x src s w F hp
 apply eli
 ·rintro rfl
  have hm:bd WkN (λx s=>((⟨0,x,s⟩,[(s.d:Int)]):Rs×List Int)) 1:=AO
  have hl:gy WkN ⟨30,arg,lit,cells⟩ (λx s=>((⟨0,x,s⟩,[(s.d:Int)]):Rs×List Int)):=(aD (m:=1) 0 dd dd (by dsimp only;decide) hm)
  refine⟨?_,aH bb dd hl hm⟩
  intro c g x src s w F hp
  exact nk WkN _ _ dd dd ((K0 arg lit cells).toR.toG WkN) hl c g x src s w F hp
 apply eli
 ·rintro rfl
  have hm:bd WkN (λx s=>((⟨0,x,s⟩,[(s.S.beg 2:Int),s.hidden]):Rs×List Int)) 2:=yH
  exact⟨rP WkN _ _ dd dd ((Iw arg lit cells).toR.toG WkN) (aD (m:=2) 0 dd dd (by dsimp only;decide) hm),aH bb dd (aD (m:=2) 0 dd dd (by dsimp only;decide) hm) hm⟩
 apply eli
 ·rintro rfl
  have hm:bd WkN (λx s=>((⟨s.S.bV x.mode (ar s 1 0) false,x,s⟩,[((s.S.iN x.mode (ar s 1 0)).toNat:Int)]):Rs×List Int)) 1:=xz
  exact⟨fH WkN _ _ dd dd ((Iu arg lit cells).toG WkN) (aD (m:=1) 1 dd dd (by dsimp only;decide) hm),aH bb dd (aD (m:=1) 1 dd dd (by dsimp only;decide) hm) hm⟩
 apply eli
 ·rintro rfl
  have hm:bd WkN (λx s=>((⟨s.S.bV x.mode (ar s 2 1) true,x,{ s with S:=s.S.aS x.mode (ar s 2 1) (byteOf (ar s 2 0)) }⟩,[]):Rs×List Int)) 0:=xv
  exact⟨fH WkN _ _ dd dd ((Gw arg lit cells).toG WkN) (aD (m:=0) 2 dd dd (by dsimp only;decide) hm),aH bb dd (aD (m:=0) 2 dd dd (by dsimp only;decide) hm) hm⟩
 apply eli
 ·rintro rfl
  have hm:bd WkN (λx s=>je x s) 0:=Eg
  exact⟨fH WkN _ _ dd dd ((Og arg lit cells).toG WkN) (aD (m:=0) 2 dd dd (by dsimp only;decide) hm),aH bb dd (aD (m:=0) 2 dd dd (by dsimp only;decide) hm) hm⟩
 apply eli
 ·rintro rfl
  have hm:bd WkN (λx s=>ks x s) 0:=Ed
  exact⟨fH WkN _ _ dd dd ((PE arg lit cells).toG WkN) (aD (m:=0) 3 dd dd (by dsimp only;decide) hm),aH bb dd (aD (m:=0) 3 dd dd (by dsimp only;decide) hm) hm⟩
 apply eli
 ·rintro rfl
  have hm:bd WkN (λx s=>kz x s) 0:=Ee
  exact⟨fH WkN _ _ dd dd ((Nz arg lit cells).toG WkN) (aD (m:=0) 3 dd dd (by dsimp only;decide) hm),aH bb dd (aD (m:=0) 3 dd dd (by dsimp only;decide) hm) hm⟩
 apply eli
 ·rintro rfl
  have hm:bd WkN (λx s=>((⟨0,x,s⟩,[s.hs]):Rs×List Int)) 1:=Ef
  exact⟨gJ WkN _ _ dd dd ((Px arg lit cells).mf λc src s h=>h.1.dcs) (aD (m:=1) 0 dd dd (by dsimp only;decide) hm),aH bb dd (aD (m:=1) 0 dd dd (by dsimp only;decide) hm) hm⟩
 apply eli
 ·rintro rfl
  have hm:bd WkN (λx s=>((⟨(dS s).hU s.S (ar s 1 0),x,s.bq s.S ((dS s).jQf s.S (ar s 1 0))⟩,[]):Rs×List Int)) 0:=Bl
  exact⟨gJ WkN _ _ dd dd ((K2 arg lit cells).mf λc src s h=>h.1.dcs) (aD (m:=0) 1 dd dd (by dsimp only;decide) hm),aH bb dd (aD (m:=0) 1 dd dd (by dsimp only;decide) hm) hm⟩
 apply eli
 ·rintro rfl
  have hm:bd WkN (λx s=>((⟨(dS s).bm s.S,x,s.bq ((dS s).bi s.S (ar s 1 0)) ((dS s).bw s.S)⟩,[]):Rs×List Int)) 0:=Af
  exact⟨gJ WkN _ _ dd dd ((Lm arg lit cells).mf λc src s h=>h.1.dcs) (aD (m:=0) 1 dd dd (by dsimp only;decide) hm),aH bb dd (aD (m:=0) 1 dd dd (by dsimp only;decide) hm) hm⟩
 apply eli
 ·rintro rfl
  have hm:bd WkN (λx s=>((⟨(dS s).cA s.S,x,s.bq ((dS s).de s.S (byteOf (ar s 1 0))) ((dS s).eA s.S)⟩,[]):Rs×List Int)) 0:=zi
  exact⟨gJ WkN _ _ dd dd ((Hz arg lit cells).mf λc src s h=>h.1.dcs) (aD (m:=0) 1 dd dd (by dsimp only;decide) hm),aH bb dd (aD (m:=0) 1 dd dd (by dsimp only;decide) hm) hm⟩
 apply eli
 ·rintro rfl
  have hm:bd WkN (λx s=>((⟨(dS s).fF s.S,x,s.bq ((dS s).fj s.S) ((dS s).iP s.S)⟩,[]):Rs×List Int)) 0:=Cd
  exact⟨gJ WkN _ _ dd dd ((KN arg lit cells).mf λc src s h=>h.1.dcs) (aD (m:=0) 0 dd dd (by dsimp only;decide) hm),aH bb dd (aD (m:=0) 0 dd dd (by dsimp only;decide) hm) hm⟩
 apply eli
 ·rintro rfl
  have hm:bd WkN (λx s=>((⟨i6 x s ⟨#[byteOf (ar s 1 0)]⟩,x,s.eT x ⟨#[byteOf (ar s 1 0)]⟩⟩,[]):Rs×List Int)) 0:=D3
  exact⟨fc WkN _ _ dd dd ((Oa arg lit cells).mf λc src s h=>h.1) (aD (m:=0) 1 dd dd (by dsimp only;decide) hm),aH bb dd (aD (m:=0) 1 dd dd (by dsimp only;decide) hm) hm⟩
 apply eli
 ·rintro rfl
  have hm:bd WkN (λx s=>kG x s) 0:=DQ
  exact⟨fc WkN _ _ dd dd ((Pf arg lit cells).mf λc src s h=>h.1) (aD (m:=0) 2 dd dd (by dsimp only;decide) hm),aH bb dd (aD (m:=0) 2 dd dd (by dsimp only;decide) hm) hm⟩
 apply eli
 ·rintro rfl
  have hm:bd WkN (λx s=>jA GK x s) 0:=(xW GK)
  exact⟨fc WkN _ _ dd dd ((P9 arg lit cells).mf λc src s h=>h.1) (aD (m:=0) 1 dd dd (by dsimp only;decide) hm),aH bb dd (aD (m:=0) 1 dd dd (by dsimp only;decide) hm) hm⟩
 apply eli
 ·rintro rfl
  have hm:bd WkN (λx s=>jA yi x s) 0:=(xW yi)
  exact⟨fc WkN _ _ dd dd ((OZ arg lit cells).mf λc src s h=>h.1) (aD (m:=0) 1 dd dd (by dsimp only;decide) hm),aH bb dd (aD (m:=0) 1 dd dd (by dsimp only;decide) hm) hm⟩
 apply eli
 ·rintro rfl
  have hm:bd WkN (λx s=>ig x s) 0:=FQ
  exact⟨fc WkN _ _ dd dd ((PD arg lit cells).mf λc src s h=>h.1) (aD (m:=0) 2 dd dd (by dsimp only;decide) hm),aH bb dd (aD (m:=0) 2 dd dd (by dsimp only;decide) hm) hm⟩
 apply eli
 ·rintro rfl
  have hm:bd WkN (λx s=>yw x s) 1:=IU
  exact⟨fc WkN _ _ dd dd ((PR arg lit cells).mf λc src s h=>h.1) (aD (m:=1) 0 dd dd (by dsimp only;decide) hm),aH bb dd (aD (m:=1) 0 dd dd (by dsimp only;decide) hm) hm⟩
 apply eli
 ·rintro rfl
  have hm:bd WkN (λx s=>ze x s) 1:=yk
  exact⟨fc WkN _ _ dd dd ((G8 arg lit cells).toG WkN) (aD (m:=1) 2 dd dd (by dsimp only;decide) hm),aH bb dd (aD (m:=1) 2 dd dd (by dsimp only;decide) hm) hm⟩
 apply eli
 ·rintro rfl
  have hm:bd WkN (λx s=>kH x s) 2:=El
  exact⟨rP WkN _ _ dd dd ((N7 arg lit cells).mf λc src s h=>h.1) (aD (m:=2) 2 dd dd (by dsimp only;decide) hm),aH bb dd (aD (m:=2) 2 dd dd (by dsimp only;decide) hm) hm⟩
 apply eli
 ·rintro rfl
  have hm:bd WkN (λx s=>jj x s) 2:=EW
  have hl:gy WkN ⟨94,arg,lit,cells⟩ (λx s=>jj x s):=(aD (m:=2) 4 dd dd (by dsimp only;decide) hm)
  refine⟨?_,aH bb dd hl hm⟩
  intro c g x src s w F hp
  exact cU WkN _ _ dd dd ((NH arg lit cells).toG WkN) hl c g x src s w F hp
 apply eli
 ·rintro rfl
  have hm:bd WkN (λx s=>jt x s) 2:=D7
  have hl:gy WkN ⟨95,arg,lit,cells⟩ (λx s=>jt x s):=(aD (m:=2) 4 dd dd (by dsimp only;decide) hm)
  refine⟨?_,aH bb dd hl hm⟩
  intro c g x src s w F hp
  exact cU WkN _ _ dd dd ((OO arg lit cells).toG WkN) hl c g x src s w F hp
 apply eli
 ·rintro rfl
  have hm:bd WkN (λx s=>jg x s) 2:=EB
  have hl:gy WkN ⟨96,arg,lit,cells⟩ (λx s=>jg x s):=(aD (m:=2) 4 dd dd (by dsimp only;decide) hm)
  refine⟨?_,aH bb dd hl hm⟩
  intro c g x src s w F hp
  exact cU WkN _ _ dd dd ((Pv arg lit cells).toG WkN) hl c g x src s w F hp
 apply eli
 ·rintro rfl
  have hm:bd WkN (λx s=>fi x s) 2:=B7
  have hl:gy WkN ⟨97,arg,lit,cells⟩ (λx s=>fi x s):=(aD (m:=2) 2 dd dd (by dsimp only;decide) hm)
  refine⟨?_,aH bb dd hl hm⟩
  intro c g x src s w F hp
  exact cU WkN _ _ dd dd ((LG arg lit cells).toG WkN) hl c g x src s w F hp
 apply eli
 ·rintro rfl
  have hm:bd WkN (λx s=>fl x s) 1:=AI
  have hl:gy WkN ⟨98,arg,lit,cells⟩ (λx s=>fl x s):=(aD (m:=1) 2 dd dd (by dsimp only;decide) hm)
  refine⟨?_,aH bb dd hl hm⟩
  intro c g x src s w F hp
  exact cU WkN _ _ dd dd ((Mi arg lit cells).toG WkN) hl c g x src s w F hp
 apply eli
 ·rintro rfl
  have hm:bd WkN (λx s=>fm x s) 2:=Bj
  have hl:gy WkN ⟨99,arg,lit,cells⟩ (λx s=>fm x s):=(aD (m:=2) 3 dd dd (by dsimp only;decide) hm)
  refine⟨?_,aH bb dd hl hm⟩
  intro c g x src s w F hp
  exact cU WkN _ _ dd dd ((Kv arg lit cells).toG WkN) hl c g x src s w F hp
 apply eli
 ·rintro rfl
  exact⟨ED arg lit cells,Bf arg lit cells⟩
 apply eli
 ·rintro rfl
  exact⟨wi arg lit cells,s9 arg lit cells⟩
 apply eli
 ·rintro rfl
  exact⟨zW WkN arg lit cells,wZ arg lit cells⟩
 apply eli
 ·rintro rfl
  exact⟨Ht WkN arg lit cells,DF arg lit cells⟩
 apply eli
 ·rintro rfl
  exact⟨vX arg lit cells,tG arg lit cells⟩
 apply eli
 ·rintro rfl
  exact⟨FW arg lit cells,By arg lit cells⟩
 intro hq
 cases hq
def bZ(i:aq):Option (Rn->Mt->Rs):=match parts i with|some q=>some q|none=>jQi i
theorem fP(i:aq)(q:Rn->Mt->Rs)(hq:bZ i=some q):ej WkN i q∧jy WkN i q:=by
 unfold bZ at hq
 rcases h:parts i with _|q1
 ·rw[h]at hq
  exact En i q hq
 ·rw[h]at hq
  obtain rfl:=Option.some.inj hq
  exact F7 WkN bb i q1 h
theorem xV(i:aq)(h1:1<=i.op)(h2:i.op<=106)(h3:i.op<88∨94<=i.op)(h4:i.op<100∨105<=i.op): (bZ i).isSome=true:=by
 obtain⟨op,arg,lit,cells⟩:=i
 simp only at h1 h2 h3 h4
 by_cases h1_:op=1
 ·subst h1_;rfl
 by_cases h2_:op=2
 ·subst h2_;rfl
 by_cases h3_:op=3
 ·subst h3_;rfl
 by_cases h4_:op=4
 ·subst h4_;rfl
 by_cases h5_:op=5
 ·subst h5_;rfl
 by_cases h6_:op=6
 ·subst h6_;rfl
 by_cases h7_:op=7
 ·subst h7_;rfl
 by_cases h8_:op=8
 ·subst h8_;rfl
 by_cases h9_:op=9
 ·subst h9_;rfl
 by_cases h10_:op=10
 ·subst h10_;rfl
 by_cases h11_:op=11
 ·subst h11_;rfl
 by_cases h12_:op=12
 ·subst h12_;rfl
 by_cases h13_:op=13
 ·subst h13_;rfl
 by_cases h14_:op=14
 ·subst h14_;rfl
 by_cases h15_:op=15
 ·subst h15_;rfl
 by_cases h16_:op=16
 ·subst h16_;rfl
 by_cases h17_:op=17
 ·subst h17_;rfl
 by_cases h18_:op=18
 ·subst h18_;rfl
 by_cases h19_:op=19
 ·subst h19_;rfl
 by_cases h20_:op=20
 ·subst h20_;rfl
 by_cases h21_:op=21
 ·subst h21_;rfl
 by_cases h22_:op=22
 ·subst h22_;rfl
 by_cases h23_:op=23
 ·subst h23_;rfl
 by_cases h24_:op=24
 ·subst h24_;rfl
 by_cases h25_:op=25
 ·subst h25_;rfl
 by_cases h26_:op=26
 ·subst h26_;rfl
 by_cases h27_:op=27
 ·subst h27_;rfl
 by_cases h28_:op=28
 ·subst h28_;rfl
 by_cases h29_:op=29
 ·subst h29_;rfl
 by_cases h30_:op=30
 ·subst h30_;rfl
 by_cases h31_:op=31
 ·subst h31_;rfl
 by_cases h32_:op=32
 ·subst h32_;rfl
 by_cases h33_:op=33
 ·subst h33_;rfl
 by_cases h34_:op=34
 ·subst h34_;rfl
 by_cases h35_:op=35
 ·subst h35_;rfl
 by_cases h36_:op=36
 ·subst h36_;rfl
 by_cases h37_:op=37
 ·subst h37_;rfl
 by_cases h38_:op=38
 ·subst h38_;rfl
 by_cases h39_:op=39
 ·subst h39_;rfl
 by_cases h40_:op=40
 ·subst h40_;rfl
 by_cases h41_:op=41
 ·subst h41_;rfl
 by_cases h42_:op=42
 ·subst h42_;rfl
 by_cases h43_:op=43
 ·subst h43_;rfl
 by_cases h44_:op=44
 ·subst h44_;rfl
 by_cases h45_:op=45
 ·subst h45_;rfl
 by_cases h46_:op=46
 ·subst h46_;rfl
 by_cases h47_:op=47
 ·subst h47_;rfl
 by_cases h48_:op=48
 ·subst h48_;rfl
 by_cases h49_:op=49
 ·subst h49_;rfl
 by_cases h50_:op=50
 ·subst h50_;rfl
 by_cases h51_:op=51
 ·subst h51_;rfl
 by_cases h52_:op=52
 ·subst h52_;rfl
 by_cases h53_:op=53
 ·subst h53_;rfl
 by_cases h54_:op=54
 ·subst h54_;rfl
 by_cases h55_:op=55
 ·subst h55_;rfl
 by_cases h56_:op=56
 ·subst h56_;rfl
 by_cases h57_:op=57
 ·subst h57_;rfl
 by_cases h58_:op=58
 ·subst h58_;rfl
 by_cases h59_:op=59
 ·subst h59_;rfl
 by_cases h60_:op=60
 ·subst h60_;rfl
 by_cases h61_:op=61
 ·subst h61_;rfl
 by_cases h62_:op=62
 ·subst h62_;rfl
 by_cases h63_:op=63
 ·subst h63_;rfl
 by_cases h64_:op=64
 ·subst h64_;rfl
 by_cases h65_:op=65
 ·subst h65_;rfl
 by_cases h66_:op=66
 ·subst h66_;rfl
 by_cases h67_:op=67
 ·subst h67_;rfl
 by_cases h68_:op=68
 ·subst h68_;rfl
 by_cases h69_:op=69
 ·subst h69_;rfl
 by_cases h70_:op=70
 ·subst h70_;rfl
 by_cases h71_:op=71
 ·subst h71_;rfl
 by_cases h72_:op=72
 ·subst h72_;rfl
 by_cases h73_:op=73
 ·subst h73_;rfl
 by_cases h74_:op=74
 ·subst h74_;rfl
 by_cases h75_:op=75
 ·subst h75_;rfl
 by_cases h76_:op=76
 ·subst h76_;rfl
 by_cases h77_:op=77
 ·subst h77_;rfl
 by_cases h78_:op=78
 ·subst h78_;rfl
 by_cases h79_:op=79
 ·subst h79_;rfl
 by_cases h80_:op=80
 ·subst h80_;rfl
 by_cases h81_:op=81
 ·subst h81_;rfl
 by_cases h82_:op=82
 ·subst h82_;rfl
 by_cases h83_:op=83
 ·subst h83_;rfl
 by_cases h84_:op=84
 ·subst h84_;rfl
 by_cases h85_:op=85
 ·subst h85_;rfl
 by_cases h86_:op=86
 ·subst h86_;rfl
 by_cases h87_:op=87
 ·subst h87_;rfl
 by_cases h94_:op=94
 ·subst h94_;rfl
 by_cases h95_:op=95
 ·subst h95_;rfl
 by_cases h96_:op=96
 ·subst h96_;rfl
 by_cases h97_:op=97
 ·subst h97_;rfl
 by_cases h98_:op=98
 ·subst h98_;rfl
 by_cases h99_:op=99
 ·subst h99_;rfl
 by_cases h105_:op=105
 ·subst h105_;rfl
 by_cases h106_:op=106
 ·subst h106_;rfl
 omega
def kC(x:Rn)(s:Mt):Option Rs:=
 if x.left=0 then some ⟨13,x,s⟩
 else if(s.S.aE x.mode x.pc).2≠0 then some ⟨(s.S.aE x.mode x.pc).2,{ x with left:=x.left-1 },s⟩
 else
  let i:=(s.S.aE x.mode x.pc).1
  let x2:={ x with left:=x.left-1,next:=wrap64 (x.pc+8*i.cells) }
  if asks i x2 s≠0 then some ⟨asks i x2 s,x2,s⟩
  else(bZ i).map λq=>if(q x2 s).f≠0 then q x2 s else⟨0,{ (q x2 s).x with pc:=(q x2 s).x.next },(q x2 s).s.told (q x2 s).x i.op⟩
def jl:Nat->Rn->Mt->Option Rs
 | 0,_,_=>none
 | n+1,x,s=>
   match kC x s with
   | none=>none
   | some q=>if q.f≠0 then some q else if q.x.over then some q else jl n q.x q.s
theorem WkN.told{c:Vc}{src:Value}{s:Mt}(h:WkN c src s)(x:Rn)(op:Int):WkN c src (s.told x op):=by
 unfold Mt.told
 split
 ·exact⟨⟨⟨h.1.dcs.h,h.1.dcs.l,h.1.dcs.at8⟩,h.1.hk,h.1.lk,h.1.kat,h.1.ws,h.1.tab,.inl h.2,h.1.v1,h.1.v2,h.1.v3⟩,h.2⟩
 ·exact h
theorem zc(c:Vc)(src:Value): ∀(n:Nat) (x:Rn) (s:Mt) (q:Rs),WkN c src s->s.Ok->x.Ok->jl n x s=some q->q.s.Ok∧(0<=q.x.left∧q.x.left<=x.left)∧q.s.au=s.au∧WkN c src q.s
 | 0,_,_,_,_,_,_,h=>by cases h
 | n+1,x,s,q,Un,hs,hx,h=>by
   unfold jl at h
   have h1:=hx.left
   have h2:=hx.cG
   have Rj: ∀r,kC x s=some r->r.s.Ok∧(0<=r.x.left∧r.x.left<=x.left)∧r.s.au=s.au∧WkN c src r.s∧(r.f=0->r.x.Ok):=by
    intro r hr
    unfold kC at hr
    by_cases hl:x.left=0
    ·rw[if_pos hl]at hr
     obtain rfl:=Option.some.inj hr
     exact⟨hs,⟨h1,Int.le_refl _⟩,rfl,Un,λh=>by cases h⟩
    rw[if_neg hl]at hr
    by_cases hf: (s.S.aE x.mode x.pc).2≠0
    ·rw[if_pos hf]at hr
     obtain rfl:=Option.some.inj hr
     exact⟨hs,⟨by show 0<=x.left-1;omega,by show x.left-1<=x.left;omega⟩,rfl,Un,λh=>absurd h hf⟩
    rw[if_neg hf]at hr
    have SE: ({ x with left:=x.left-1,next:=wrap64 (x.pc+8* (s.S.aE x.mode x.pc).1.cells) }:Rn).Ok:=
     ⟨hx.base,hx.dh,aU _,hx.pc,by show 0<=x.left-1;omega,by show x.left-1<=1000000;omega⟩
    simp only at hr
    have hfv:=lL s.S x.mode x.pc
    generalize (s.S.aE x.mode x.pc).1=i at *
    have Ug: ({ x with left:=x.left-1,next:=wrap64 (x.pc+8*i.cells) }:Rn).left=x.left-1:=rfl
    generalize ({ x with left:=x.left-1,next:=wrap64 (x.pc+8*i.cells) }:Rn)=x2 at *
    by_cases ha:asks i x2 s≠0
    ·rw[if_pos ha]at hr
     obtain rfl:=Option.some.inj hr
     exact⟨hs,⟨by show 0<=x2.left;omega,by show x2.left<=x.left;omega⟩,rfl,Un,λh=>absurd h ha⟩
    rw[if_neg ha]at hr
    rcases hp:bZ i with _|Q
    ·rw[hp]at hr;cases hr
    rw[hp]at hr
    obtain⟨_,hke⟩:=fP i Q hp
    obtain⟨Yq,SO,ht3,hl3,_,Sx⟩:=hke c src x2 s Un hs SE hfv.1 hfv.2.1 (cw.of (by simpa using ha))
    simp only[Option.map_some]at hr
    generalize Q x2 s=R at *
    by_cases hR:R.f≠0
    ·rw[if_pos hR]at hr
     obtain rfl:=Option.some.inj hr
     exact⟨Yq,⟨by have:=SO.left;omega,by omega⟩,ht3,Sx,λh=>absurd h hR⟩
    rw[if_neg hR]at hr
    obtain rfl:=Option.some.inj hr
    refine⟨qL Yq _ _,⟨by have:=SO.left;show 0<=R.x.left;omega,by show R.x.left<=x.left;omega⟩,?_,Sx.told _ _,λ_=>⟨SO.base,SO.dh,SO.next,SO.next,SO.left,SO.cG⟩⟩
    show(R.s.told R.x i.op).au=s.au
    unfold Mt.told
    split<;>exact ht3
   rcases hr:kC x s with _|r
   ·rw[hr]at h;cases h
   rw[hr]at h
   obtain⟨a1,a2,a3,aw,a4⟩:=Rj r hr
   simp only at h
   by_cases hf:r.f≠0
   ·rw[if_pos hf]at h
    obtain rfl:=Option.some.inj h
    exact⟨a1,a2,a3,aw⟩
   rw[if_neg hf]at h
   by_cases ho:r.x.over=true
   ·rw[if_pos ho]at h
    obtain rfl:=Option.some.inj h
    exact⟨a1,a2,a3,aw⟩
   rw[if_neg ho]at h
   obtain⟨c1,c2,c3,c4⟩:=zc c src n r.x r.s q aw a1 (a4 (by simpa using hf)) h
   exact⟨c1,⟨c2.1,by omega⟩,c3.trans a3,c4⟩
theorem dO(p:Rn->Mt->Prop)[∀x s,Decidable (p x s)]{a b:Rn->Mt->Rs×List Int}(hp: ∀x s k l,p (x.up k) (s.sn l)↔p x s)(ha:cF a)(hb:cF b):cF (λx s=>if p x s then a x s else b x s):=by
 intro x s k l
 show(if p (x.up k) (s.sn l)then a (x.up k) (s.sn l)else b (x.up k) (s.sn l))=_
 by_cases h:p x s
 ·rw[if_pos ((hp x s k l).2 h),ha]
  simp only[if_pos h]
 ·rw[if_neg (λh2=>h ((hp x s k l).1 h2)),hb]
  simp only[if_neg h]
theorem FM:cF je:=dO _ (λ_ _ _ _=>Iff.rfl) (λ_ _ _ _=>rfl) (λ_ _ _ _=>rfl)
theorem GD(t:Mt->List UInt8)(ht: ∀s l,t (s.sn l)=t s):cF (jA t):=by
 refine dO (λx s=>mQ s=true) (λ_ _ _ _=>Iff.rfl) (λx s k l=> ?_) (λ_ _ _ _=>rfl)
 show((⟨i6 (x.up k) (s.sn l) ⟨(t (s.sn l)).toArray⟩,x.up k,(s.sn l).eT (x.up k) ⟨(t (s.sn l)).toArray⟩⟩,[]):Rs×List Int)=_
 rw[ht]
 rfl
theorem DH:cF ig:=dO _ (λ_ _ _ _=>Iff.rfl) (λ_ _ _ _=>rfl) (λ_ _ _ _=>rfl)
theorem It:cF yw:=λ_ _ _ _=>rfl
theorem EJ:cF jj:=dO _ (λ_ _ _ _=>Iff.rfl) (λ_ _ _ _=>rfl) (λ_ _ _ _=>rfl)
theorem Dx:cF jt:=dO _ (λ_ _ _ _=>Iff.rfl) (λ_ _ _ _=>rfl) (λ_ _ _ _=>rfl)
theorem FJ:cF jg:=dO _ (λ_ _ _ _=>Iff.rfl) (λ_ _ _ _=>rfl) (λ_ _ _ _=>rfl)
theorem Ba:cF fi:=dO _ (λ_ _ _ _=>Iff.rfl) (λ_ _ _ _=>rfl) (λ_ _ _ _=>rfl)
theorem Bh:cF fl:=dO _ (λ_ _ _ _=>Iff.rfl) (λ_ _ _ _=>rfl) (λ_ _ _ _=>rfl)
theorem Al:cF fm:=dO _ (λ_ _ _ _=>Iff.rfl) (λ_ _ _ _=>rfl) (λ_ _ _ _=>rfl)
theorem pu{x:Rn}{n k:Int}(hk:0<=k)(h:aX x n=0):aX (x.up k) n=0:=by
 unfold aX at *
 split at h
 ·cases h
 rename_i h1
 rw[if_neg h1]
 split at h
 ·cases h
 rename_i h2
 rw[if_neg]
 show¬x.left+k<n/8
 omega
theorem BW{x:Rn}{n k:Int}(h:aX x n≠0)(YL:aX x n≠13):aX x n=19∧aX (x.up k) n=19:=by
 unfold aX at *
 by_cases h1:n<0
 ·rw[if_pos h1,if_pos h1];exact⟨rfl,rfl⟩
 ·rw[if_neg h1]at h YL
  split at h
  ·rename_i h2;rw[if_pos h2]at YL;exact absurd rfl YL
  ·exact absurd rfl h
theorem HK{x:Rn}{n k:Int}(hk:0<=k)(h:aX x n=0): (x.up k).pay n= (x.pay n).up k:=by
 unfold Rn.pay
 rw[if_pos h,if_pos (pu hk h)]
 unfold Rn.up
 simp only[Rn.mk.injEq,true_and,and_true]
 omega
theorem Hy{x:Rn}{n k:Int}(h:aX x n=13)(h0:aX (x.up k) n=0): ((x.up k).pay n).left<k:=by
 unfold Rn.pay
 rw[if_pos h0]
 show x.left+k-n/8<k
 unfold aX at h
 split at h
 ·cases h
 split at h
 ·rename_i h2;omega
 ·cases h
theorem CI(x:Rn):x.up 0=x:=by
 unfold Rn.up
 rw[Int.add_zero]
theorem cF.seen{q:Rn->Mt->Rs×List Int}(h:cF q)(x:Rn)(s:Mt): (q x s).1.s.seen=s.seen:=by
 have h1:=h x s 0 s.seen
 rw[CI,show s.sn s.seen=s from rfl]at h1
 rw[h1]
 rfl
theorem Flat.seen{q:Rn->Mt->Rs}(h:Flat q)(x:Rn)(s:Mt): (q x s).s.seen=s.seen:=by
 have h1:=h x s 0 s.seen
 rw[CI,show s.sn s.seen=s from rfl]at h1
 rw[h1]
 rfl
structure FuA(q:Rn->Mt->Rs):Prop where
 fu:Fu q
 seen: ∀x s,(q x s).s.seen=s.seen
 mode: ∀x s,(q x s).x.mode=x.mode
 pup: ∀x s,(q x s).s.T.aC=s.T.aC
structure FuP(q:Rn->Mt->Rs×List Int):Prop where
 up: ∀x s k l,0<=k->(q x s).1.f≠13->q (x.up k) (s.sn l)= ((q x s).1.up k l,(q x s).2)
 stop: ∀x s k l,0<=k->(q x s).1.f=13->(q (x.up k) (s.sn l)).1.f≠13->(q (x.up k) (s.sn l)).1.x.left<k
 out: ∀x s,∃t:List UInt8,(q x s).1.s.T.out.data.toList=s.T.out.data.toList++t
 Nc: ∀x s,(q x s).1.f=13->(q x s).1.s.T.out=s.T.out
 seen: ∀x s,(q x s).1.s.seen=s.seen
 mode: ∀x s,(q x s).1.x.mode=x.mode
 pup: ∀x s,(q x s).1.s.T.aC=s.T.aC
theorem JX(n:Nat)(l:List Int)(x:Rn)(s:Mt): (aJ n l x s).f≠13:=by
 unfold aJ Mt.ak
 split
 ·show(2:Int)≠13;decide
 ·show(0:Int)≠13;decide
theorem Cj(n:Nat)(p:Rs×List Int): (Rs.laid n p).f=13->p.1.f=13∧Rs.laid n p=p.1:=by
 unfold Rs.laid
 split
 ·intro h
  exact absurd h (JX _ _ _ _)
 ·intro h
  exact⟨h,rfl⟩
theorem mV(n:Nat)(p:Rs×List Int): (Rs.laid n p).s.T=p.1.s.T∧(Rs.laid n p).s.seen=p.1.s.seen∧(Rs.laid n p).x=p.1.x:=by
 unfold Rs.laid
 split
 ·refine⟨(aW p.1.s n p.2).T,(aB p.1.s n p.2).2.1,rfl⟩
 ·exact⟨rfl,rfl,rfl⟩
theorem LU(n:Nat)(p:Rs×List Int)(k:Int)(l:List Stp):Rs.laid n (p.1.up k l,p.2)= (Rs.laid n p).up k l:=by
 unfold Rs.laid
 show(if p.1.f=0 then aJ n p.2 (p.1.x.up k) (p.1.s.sn l)else _)=_
 split
 ·unfold aJ
  rw[bo]
  rfl
 ·rfl
theorem FuP.laid{q:Rn->Mt->Rs×List Int}(h:FuP q)(n:Nat):FuA (λx s=>Rs.laid n (q x s)):=by
 refine⟨⟨λx s k l hk hf=> ?_,λx s k l hk hf hn=> ?_,λx s=> ?_,λx s hf=> ?_⟩,λx s=> ?_,λx s=> ?_,λx s=> ?_⟩
 ·show Rs.laid n (q (x.up k) (s.sn l))= (Rs.laid n (q x s)).up k l
  have YL: (q x s).1.f≠13:=λh2=>hf (by
   show(Rs.laid n (q x s)).f=13
   unfold Rs.laid
   rw[if_neg (by rw[h2];decide)]
   exact h2)
  rw[h.up x s k l hk YL,LU]
 ·obtain⟨h1,_⟩:=Cj n (q x s) hf
  show(Rs.laid n (q (x.up k) (s.sn l))).x.left<k
  rw[(mV n _).2.2]
  refine h.stop x s k l hk h1 λh2=>hn ?_
  show(Rs.laid n (q (x.up k) (s.sn l))).f=13
  unfold Rs.laid
  rw[if_neg (by rw[h2];decide)]
  exact h2
 ·show∃t,(Rs.laid n (q x s)).s.T.out.data.toList=_
  rw[(mV n _).1]
  exact h.out x s
 ·show(Rs.laid n (q x s)).s.T.out=_
  rw[(mV n _).1]
  exact h.Nc x s (Cj n _ hf).1
 ·show(Rs.laid n (q x s)).s.seen=_
  rw[(mV n _).2.1]
  exact h.seen x s
 ·show(Rs.laid n (q x s)).x.mode=_
  rw[(mV n _).2.2]
  exact h.mode x s
 ·show(Rs.laid n (q x s)).s.T.aC=_
  rw[(mV n _).1]
  exact h.pup x s
theorem cF.Gp{q:Rn->Mt->Rs×List Int}(h:cF q)(hx: ∀x s,(q x s).1.x=x)(hp: ∀x s,(q x s).1.s.T.aC=s.T.aC)(ho: ∀x s,∃t:List UInt8,(q x s).1.s.T.out.data.toList=s.T.out.data.toList++t)(ho2: ∀x s,(q x s).1.f=13->(q x s).1.s.T.out=s.T.out):FuP q:=
 ⟨λx s k l _ _=>h x s k l,λx s k l _ YL hn=>absurd (by rw[h];exact YL) hn,ho,ho2,h.seen,λx s=>by rw[hx],hp⟩
theorem cF.fup{q:Rn->Mt->Rs×List Int}(h:cF q)(hx: ∀x s,(q x s).1.x=x)(hT: ∀x s,(q x s).1.s.T=s.T):FuP q:=
 h.Gp hx (λx s=>by rw[hT]) (λx s=>⟨[],by rw[hT];simp⟩) (λx s _=>by rw[hT])
theorem Flat.fua{q:Rn->Mt->Rs}(h:Flat q)(hx: ∀x s,(q x s).x.mode=x.mode)(hT: ∀x s,(q x s).s.T=s.T):FuA q:=⟨h.fu hT,h.seen,hx,λx s=>by rw[hT]⟩
theorem oc(T:af.Tab)(m:Int)(t:ByteArray): ∃u:List UInt8,(af.gE T m t).out.data.toList=T.out.data.toList++u:=by
 unfold af.gE
 split
 ·split
  ·refine⟨(t.extract 0 (af.fit T.room T.out t)).data.toList,?_⟩
   show(T.out++t.extract 0 (af.fit T.room T.out t)).data.toList=_
   rw[ByteArray.data_append,Array.toList_append]
  ·exact⟨[],by simp⟩
 ·exact⟨[],by simp⟩
theorem nC(T:af.Tab)(m:Int)(t:ByteArray): (af.gE T m t).aC=T.aC:=by
 unfold af.gE
 split
 ·split<;>rfl
 ·rfl
theorem MP(T:af.Tab)(m:Int)(t:ByteArray):af.io T m t≠13:=by
 unfold af.io
 split
 ·split<;>decide
 ·decide
theorem qG(x:Rn)(s:Mt)(t:ByteArray):i6 x s t≠13:=MP _ _ _
theorem oA(T:af.Tab)(m:Int): (af.fE T m).out=T.out∧(af.fE T m).aC=T.aC:=by
 unfold af.fE
 split<;>exact⟨rfl,rfl⟩
theorem ow(T:af.Tab)(m n:Int): (af.cT T m n).out=T.out∧(af.cT T m n).aC=T.aC:=by
 unfold af.cT
 split<;>exact⟨rfl,rfl⟩
theorem Mm:FuP (λx s=>(⟨i6 x s ⟨#[byteOf (ar s 1 0)]⟩,x,s.eT x ⟨#[byteOf (ar s 1 0)]⟩⟩,[])):=
 cF.Gp (λ_ _ _ _=>rfl) (λ_ _=>rfl) (λx s=>nC _ _ _) (λx s=>oc _ _ _) (λx s h=>absurd h (qG _ _ _))
theorem GA(t:Mt->List UInt8)(ht: ∀s l,t (s.sn l)=t s):FuP (jA t):=by
 refine(GD t ht).Gp (λx s=> ?_) (λx s=> ?_) (λx s=> ?_) (λx s=> ?_)
 ·unfold jA;split<;>rfl
 ·unfold jA;split
  ·exact nC _ _ _
  ·rfl
 ·unfold jA;split
  ·exact oc _ _ _
  ·exact⟨[],by simp⟩
 ·unfold jA;split
  ·intro h;exact absurd h (qG _ _ _)
  ·intro h;rfl
theorem MM:FuP ig:=by
 refine DH.Gp (λx s=> ?_) (λx s=> ?_) (λx s=> ?_) (λx s=> ?_)
 ·unfold ig;split<;>rfl
 ·unfold ig;split
  ·exact nC _ _ _
  ·rfl
 ·unfold ig;split
  ·exact oc _ _ _
  ·exact⟨[],by simp⟩
 ·unfold ig;split
  ·intro h;exact absurd h (qG _ _ _)
  ·intro h;rfl
theorem N2:FuP yw:=It.Gp (λ_ _=>rfl) (λx s=>(oA _ _).2) (λx s=>⟨[],by rw[List.append_nil];exact congrArg (λb:ByteArray=>b.data.toList) (oA _ _).1⟩) (λx s _=>(oA _ _).1)
theorem iM(x:Rn)(n:Int): (x.pay n).mode=x.mode:=by
 unfold Rn.pay
 split<;>rfl
theorem Hv{x:Rn}{n:Int}(h:aX x n≠0):x.pay n=x:=by
 unfold Rn.pay
 rw[if_neg h]
theorem nM{q a:Rn->Mt->Rs×List Int}{L:Rn->Mt->List Int}(n:Mt->Int)(hn: ∀s l,n (s.sn l)=n s)(hq: ∀x s,q x s=if aX x (n s)=0 then a (x.pay (n s)) s else(⟨aX x (n s),x.pay (n s),s⟩,L x s))
 (ha:cF a) (hx: ∀x s,(a x s).1.x=x) (hL: ∀x s k l,L (x.up k) (s.sn l)=L x s) (hp: ∀x s,(a x s).1.s.T.aC=s.T.aC) (ho: ∀x s,∃t:List UInt8,(a x s).1.s.T.out.data.toList=s.T.out.data.toList++t) (ho2: ∀x s,(a x s).1.f=13->(a x s).1.s.T.out=s.T.out):FuP q:=by
 refine⟨λx s k l hk hf=> ?_,λx s k l hk hf hm=> ?_,λx s=> ?_,λx s hf=> ?_,λx s=> ?_,λx s=> ?_,λx s=> ?_⟩
 ·rw[hq x s]at hf⊢
  rw[hq (x.up k),hn]
  by_cases h0:aX x (n s)=0
  ·rw[if_pos (pu hk h0),if_pos h0,HK hk h0,ha]
  ·rw[if_neg h0]at hf⊢
   obtain⟨e1,e2⟩:=BW (k:=k) h0 hf
   rw[if_neg (by rw[e2];decide),Hv h0,Hv (by rw[e2];decide),e1,e2,hL]
   rfl
 ·rw[hq x s]at hf
  rw[hq (x.up k),hn]at hm⊢
  by_cases h0:aX x (n s)=0
  ·rw[if_pos h0]at hf
   rw[if_pos (pu hk h0),HK hk h0,ha]at hm
   exact absurd hf hm
  ·rw[if_neg h0]at hf
   by_cases h1:aX (x.up k) (n s)=0
   ·rw[if_pos h1,hx]
    exact Hy hf h1
   ·rw[if_neg h1]at hm
    exfalso
    have h2:aX (x.up k) (n s)≠13:=hm
    have h3:aX x (n s)=13:=hf
    unfold aX at h1 h2 h3
    by_cases h4:n s<0
    ·rw[if_pos h4]at h3
     cases h3
    ·rw[if_neg h4]at h1 h2
     split at h2
     ·exact h2 rfl
     ·rename_i h5
      rw[if_neg h5]at h1
      exact h1 rfl
 ·rw[hq]
  split
  ·exact ho _ _
  ·exact⟨[],by simp⟩
 ·rw[hq]at hf⊢
  split at hf
  ·rename_i h0
   rw[if_pos h0]
   exact ho2 _ _ hf
  ·rename_i h0
   rw[if_neg h0]
 ·rw[hq]
  split
  ·exact ha.seen _ _
  ·rfl
 ·rw[hq]
  split
  ·rw[hx];exact iM _ _
  ·exact iM _ _
 ·rw[hq]
  split
  ·exact hp _ _
  ·rfl
theorem Lq:FuP ks:=by
 refine nM (a:=λx s=>(⟨s.S.fM x.mode (ar s 3 0) (ar s 3 1) (ar s 3 2),x,{ s with S:=s.S.move x.mode (ar s 3 0) (ar s 3 1) (ar s 3 2) }⟩,[])) (L:=λ_ _=>[]) (λs=>ar s 3 2) (λ_ _=>rfl) (λx s=> ?_) (λ_ _ _ _=>rfl) (λ_ _=>rfl) (λ_ _ _ _=>rfl) (λ_ _=>rfl) (λx s=>⟨[],by simp⟩) (λx s _=>rfl)
 unfold ks
 rw[iM]
theorem Mh:FuP kz:=by
 refine nM (a:=λx s=>(⟨s.S.gL x.mode (ar s 3 0) (ar s 3 1),x,{ s with S:=s.S.fill x.mode (ar s 3 0) (ar s 3 1) (byteOf (ar s 3 2)) }⟩,[])) (L:=λ_ _=>[]) (λs=>ar s 3 1) (λ_ _=>rfl) (λx s=> ?_) (λ_ _ _ _=>rfl) (λ_ _=>rfl) (λ_ _ _ _=>rfl) (λ_ _=>rfl) (λx s=>⟨[],by simp⟩) (λx s _=>rfl)
 unfold kz
 rw[iM]
def sT(x:Rn)(s:Mt):Rs×List Int:=
 if s.S.cD x.mode (ar s 2 0) (ar s 2 1)=0 then(⟨i6 x s (s.S.text x.mode (ar s 2 0) (ar s 2 1)),x,s.eT x (s.S.text x.mode (ar s 2 0) (ar s 2 1))⟩,[])else(⟨s.S.cD x.mode (ar s 2 0) (ar s 2 1),x,s⟩,[])
theorem Bw:cF sT:=dO _ (λ_ _ _ _=>Iff.rfl) (λ_ _ _ _=>rfl) (λ_ _ _ _=>rfl)
theorem Co{x:Rn}{s:Mt}{a n:Int}(h:aX x n=0):cP x s a n=s.S.cD x.mode a n:=by
 unfold cP
 rw[if_pos h]
theorem Cl{x:Rn}{s:Mt}{a n:Int}(h:aX x n≠0):cP x s a n=aX x n:=by
 unfold cP
 rw[if_neg h]
theorem Mr:FuP kG:=by
 refine nM (a:=sT) (L:=λ_ _=>[]) (λs=>ar s 2 1) (λ_ _=>rfl) (λx s=> ?_) Bw (λx s=> ?_) (λ_ _ _ _=>rfl) (λx s=> ?_) (λx s=> ?_) (λx s=> ?_)
 ·unfold kG sT
  by_cases h:aX x (ar s 2 1)=0
  ·rw[if_pos h,Co h,iM]
  ·rw[if_neg h,Cl h,if_neg h]
 ·unfold sT;split<;>rfl
 ·unfold sT;split
  ·exact nC _ _ _
  ·rfl
 ·unfold sT;split
  ·exact oc _ _ _
  ·exact⟨[],by simp⟩
 ·unfold sT;split
  ·intro h;exact absurd h (qG _ _ _)
  ·intro h;rfl
def qS(x:Rn)(s:Mt):Rs×List Int:=
 if s.S.cD x.mode (ar s 2 0) (ar s 2 1)=0 then(⟨0,x,s⟩,jx (my s (s.S.text x.mode (ar s 2 0) (ar s 2 1)).data.toList))else(⟨s.S.cD x.mode (ar s 2 0) (ar s 2 1),x,s⟩,[])
theorem Ah:cF qS:=dO _ (λ_ _ _ _=>Iff.rfl) (λ_ _ _ _=>rfl) (λ_ _ _ _=>rfl)
theorem LH:FuP kH:=by
 refine nM (a:=qS) (L:=λ_ _=>[]) (λs=>ar s 2 1) (λ_ _=>rfl) (λx s=> ?_) Ah (λx s=> ?_) (λ_ _ _ _=>rfl) (λx s=> ?_) (λx s=> ?_) (λx s=> ?_)
 ·unfold kH qS
  by_cases h:aX x (ar s 2 1)=0
  ·rw[if_pos h,Co h,iM]
  ·rw[if_neg h,Cl h,if_neg h]
 ·unfold qS;split<;>rfl
 ·unfold qS;split<;>rfl
 ·unfold qS;split<;>exact⟨[],by simp⟩
 ·unfold qS;split<;>exact λ_=>rfl
def Ap(x:Rn)(s:Mt):Rs×List Int:=
 if 0<ar s 2 1∧(lx s.S (ar s 2 0) && (nh s.S (ar s 2 0) (ar s 2 1) &&o6 s.S x.mode (ar s 2 0)))=false then(⟨5,x,s⟩,[((af.cE s.T x.mode (ar s 2 1)).size:Int)])
 else if af.fq s.T x.mode (ar s 2 1)≠0 then(⟨af.fq s.T x.mode (ar s 2 1),x,{ s with T:=af.cT s.T x.mode (ar s 2 1) }⟩,[((af.cE s.T x.mode (ar s 2 1)).size:Int)])
 else(⟨(ed x.mode (ar s 2 0) 0 (af.cE s.T x.mode (ar s 2 1)).data.toList s.S).1,x,{ s with T:=af.cT s.T x.mode (ar s 2 1),S:=(ed x.mode (ar s 2 0) 0 (af.cE s.T x.mode (ar s 2 1)).data.toList s.S).2 }⟩,[((af.cE s.T x.mode (ar s 2 1)).size:Int)])
theorem FX:cF Ap:=dO _ (λ_ _ _ _=>Iff.rfl) (λ_ _ _ _=>rfl) (dO _ (λ_ _ _ _=>Iff.rfl) (λ_ _ _ _=>rfl) (λ_ _ _ _=>rfl))
theorem Pz:FuP ze:=by
 refine nM (a:=Ap) (L:=λx s=>[((af.cE s.T x.mode (ar s 2 1)).size:Int)]) (λs=>ar s 2 1) (λ_ _=>rfl) (λx s=> ?_) FX (λx s=> ?_) (λ_ _ _ _=>rfl) (λx s=> ?_) (λx s=> ?_) (λx s=> ?_)
 ·unfold ze Ap eh
  rw[iM]
  by_cases h:aX x (ar s 2 1)=0
  ·rw[if_pos h,if_neg (λh2=>h2 h)]
   split
   ·rfl
   ·split<;>rfl
  ·rw[if_neg h,if_pos h]
 ·unfold Ap;split
  ·rfl
  ·split<;>rfl
 ·unfold Ap;split
  ·rfl
  ·split<;>exact(ow _ _ _).2
 ·refine⟨[],?_⟩
  rw[List.append_nil]
  refine congrArg (λb:ByteArray=>b.data.toList) ?_
  unfold Ap;split
  ·rfl
  ·split<;>exact(ow _ _ _).1
 ·intro _
  unfold Ap;split
  ·rfl
  ·split<;>exact(ow _ _ _).1
theorem Lo:FuP je:=FM.fup (λx s=>by unfold je;split<;>rfl) (λx s=>by unfold je;split<;>rfl)
theorem My:FuP sq:=cF.fup (λ_ _ _ _=>rfl) (λ_ _=>rfl) (λ_ _=>rfl)
theorem MJ:FuP jj:=EJ.fup (λx s=>by unfold jj;split<;>rfl) (λx s=>by unfold jj;split<;>rfl)
theorem Lg:FuP jt:=Dx.fup (λx s=>by unfold jt;split<;>rfl) (λx s=>by unfold jt;split<;>rfl)
theorem LP:FuP jg:=FJ.fup (λx s=>by unfold jg;split<;>rfl) (λx s=>by unfold jg;split<;>rfl)
theorem Gj:FuP fi:=Ba.fup (λx s=>by unfold fi;split<;>rfl) (λx s=>by unfold fi;split<;>rfl)
theorem Hd:FuP fl:=Bh.fup (λx s=>by unfold fl;split<;>rfl) (λx s=>by unfold fl;split<;>rfl)
theorem H6:FuP fm:=Al.fup (λx s=>by unfold fm;split<;>rfl) (λx s=>by unfold fm;split<;>rfl)
theorem j3(x:Rn)(s:Mt): (bh x s).x=x∧(bh x s).s.T=s.T:=by
 unfold bh
 split
 ·exact⟨rfl,rfl⟩
 ·split
  ·exact⟨rfl,rfl⟩
  ·split<;>exact⟨rfl,rfl⟩
theorem zP:Flat bh:=by
 intro x s k l
 unfold bh
 show(match words s.S (dS s)with | []=>_|wd::_=>_)=_
 rcases words s.S (dS s)with _| ⟨wd,_⟩
 ·rfl
 ·dsimp only
  have e1: (s.sn l).S=s.S:=rfl
  have e2: (x.up k).mode=x.mode:=rfl
  rw[e1,e2]
  by_cases h1:s.S.ay x.mode wd.xt false≠0
  ·rw[if_pos h1,if_pos h1]
   rfl
  ·rw[if_neg h1,if_neg h1]
   by_cases h2: (Code.unpack (s.S.aP x.mode wd.xt)).1≠17
   ·rw[if_pos h2,if_pos h2]
    rfl
   ·rw[if_neg h2,if_neg h2]
    rfl
theorem jG(x:Rn)(s:Mt): (back x s).x.mode=x.mode∧(back x s).s.T=s.T:=by
 unfold back
 split<;>exact⟨rfl,rfl⟩
theorem EZ:Flat iX:=by
 intro x s k l
 unfold iX
 rw[zP]
 show(if(bh x s).f=0 then back (x.up k) ((bh x s).s.sn l)else _)=_
 split
 ·exact oE _ _ _ _
 ·rfl
theorem KD:FuA iX:=EZ.fua (λx s=>by
 unfold iX
 split
 ·exact(jG _ _).1
 ·rw[(j3 x s).1]) (λx s=>by
 unfold iX
 split
 ·rw[(jG _ _).2,(j3 x s).2]
 ·exact(j3 x s).2)
theorem wb(s:Mt)(n:Nat)(l:List Int): (s.ak n l).2.T=s.T:=(aW s n l).T
theorem vH(arg:Int):Flat (λx s=>if arg=0 then back { x with next:=arg } (s.ak 0 [wrap64 (x.pc+16)]).2 else⟨0,{ x with next:=arg },(s.ak 0 [wrap64 (x.pc+16)]).2⟩):=by
 intro x s k l
 dsimp only
 rw[bo]
 by_cases h:arg=0
 ·rw[if_pos h,if_pos h]
  exact oE { x with next:=arg } (s.ak 0 [wrap64 (x.pc+16)]).2 k l
 ·rw[if_neg h,if_neg h]
  rfl
theorem Bu(arg:Int):FuA (λx s=>if arg=0 then back { x with next:=arg } (s.ak 0 [wrap64 (x.pc+16)]).2 else⟨0,{ x with next:=arg },(s.ak 0 [wrap64 (x.pc+16)]).2⟩):=
 (vH arg).fua (λx s=>by
  split
  ·exact(jG _ _).1
  ·rfl) (λx s=>by
  split
  ·rw[(jG _ _).2,wb]
  ·exact wb _ _ _)
theorem ci(n:Nat)(p:Rs×List Int): (Rs.laid n p).x=p.1.x:=(mV n p).2.2
theorem ui(n:Int)(e:Bool)(a:Int)(x:Rn)(s:Mt): (dx n e a x s).x.mode=x.mode:=by
 unfold dx
 split<;>rfl
theorem B6(i:aq)(q:Rn->Mt->Rs)(hq:parts i=some q)(x:Rn)(s:Mt): (q x s).x.mode=x.mode:=by
 obtain⟨op,arg,lit,cells⟩:=i
 unfold parts at hq
 simp only at hq
 revert hq
 apply eli
 ·intro _
  exact(jG _ _).1
 iterate 3 (apply eli;·intro _;rfl)
 apply eli
 ·intro h5
  dsimp only
  split<;>rfl
 apply eli
 ·intro _
  rfl
 apply eli
 ·intro h7
  dsimp only
  split<;>rfl
 apply eli
 ·intro _
  exact ui _ _ _ _ _
 apply eli
 ·intro _
  exact ui _ _ _ _ _
 iterate 22 (apply eli;·intro _;rfl)
 iterate 5 (apply eli;·intro _;exact congrArg Rn.mode (ci _ _))
 apply eli
 ·intro _
  rfl
 apply eli
 ·intro _
  rfl
 iterate 5 (apply eli;·intro _;exact congrArg Rn.mode (ci _ _))
 iterate 19 (apply eli;·intro _;rfl)
 intro hq
 cases hq
theorem Dw(i:aq)(q:Rn->Mt->Rs)(hq:parts i=some q):FuA q:=(AZ i q hq).fua (B6 i q hq) (λx s=>(rj i q hq x s).T)
theorem zY(i:aq)(q:Rn->Mt->Rs)(hq:jQi i=some q):FuA q:=by
 obtain⟨op,arg,lit,cells⟩:=i
 unfold jQi at hq
 simp only at hq
 revert hq
 apply eli
 ·intro _
  exact FuP.laid My _
 iterate 4 (apply eli;·intro _;exact FuP.laid (cF.fup (λ_ _ _ _=>rfl) (λ_ _=>rfl) (λ_ _=>rfl)) _)
 apply eli
 ·intro _
  exact FuP.laid Lo _
 apply eli
 ·intro _
  exact FuP.laid Lq _
 apply eli
 ·intro _
  exact FuP.laid Mh _
 iterate 5 (apply eli;·intro _;exact FuP.laid (cF.fup (λ_ _ _ _=>rfl) (λ_ _=>rfl) (λ_ _=>rfl)) _)
 apply eli
 ·intro _
  exact FuP.laid Mm _
 apply eli
 ·intro _
  exact FuP.laid Mr _
 apply eli
 ·intro _
  exact FuP.laid (GA GK (λ_ _=>rfl)) _
 apply eli
 ·intro _
  exact FuP.laid (GA yi (λ_ _=>rfl)) _
 apply eli
 ·intro _
  exact FuP.laid MM _
 apply eli
 ·intro _
  exact FuP.laid N2 _
 apply eli
 ·intro _
  exact FuP.laid Pz _
 apply eli
 ·intro _
  exact FuP.laid LH _
 apply eli
 ·intro _
  exact FuP.laid MJ _
 apply eli
 ·intro _
  exact FuP.laid Lg _
 apply eli
 ·intro _
  exact FuP.laid LP _
 apply eli
 ·intro _
  exact FuP.laid Gj _
 apply eli
 ·intro _
  exact FuP.laid Hd _
 apply eli
 ·intro _
  exact FuP.laid H6 _
 apply eli
 ·intro _
  exact KD
 iterate 3 (apply eli;·intro _;exact Flat.fua (λ_ _ _ _=>rfl) (λ_ _=>rfl) (λ_ _=>rfl))
 apply eli
 ·intro _
  exact Bu arg
 apply eli
 ·intro _
  exact Flat.fua (eZ _ _ (λ_ _ _ _=>rfl)) (λ_ _=>rfl) (λx s=>wb _ _ _)
 intro hq
 cases hq
theorem Av(i:aq)(q:Rn->Mt->Rs)(hq:bZ i=some q):FuA q:=by
 unfold bZ at hq
 rcases h:parts i with _|q1
 ·rw[h]at hq
  exact zY i q hq
 ·rw[h]at hq
  obtain rfl:=Option.some.inj hq
  exact Dw i q1 h
end Vm
open Go.RowKit Go.Lib Go.Deep
namespace Vm
theorem qw: ∀(n:Nat) (x:Rn) (s:Mt),jl n x s=fo bZ n x s
 | 0,_,_=>rfl
 | n+1,x,s=>by
   unfold jl fo
   rw[show kC x s=stepT bZ x s from rfl]
   cases stepT bZ x s with
   | none=>rfl
   | some q=>simp only[qw n]
theorem Ld:sN bZ (λn c src s=>WkN c src s∧s.seen.length+n<=1000000000) (λn c src s=>WkN c src s∧s.seen.length+n+1<=1000000000) WkN where
 ok:=λn i q h=>⟨λc g x src s w F hp=>(fP i q h).1 c g x src s w F hp.1,λc src x s hp hs hx h1 h2 ha=>by
  have k:=(fP i q h).2 c src x s hp.1 hs hx h1 h2 ha
  exact⟨k.1,k.2.1,k.2.2.1,k.2.2.2.1,k.2.2.2.2.2,by rw[k.2.2.2.2.1];exact hp.2⟩⟩
 push:=λn c src s l h=>⟨h.1.dH (dW s l),h.2⟩
 told:=λn c src s x op h=>⟨h.1.told x op,by
  have h1:=l9 s x op
  have h2:=h.2
  omega⟩
 len:=λn c src s h=>by
  have h2:=h.2
  omega
 pr:=λ_ _ _ _ h=>h.1
 qr:=λ_ _ _ _ h=>h.1
section
variable {w w':World}{F:Nat->Prop}{c:Vc}{s:Mt}
end
def Stp.up(t:Stp)(k:Int):Stp:={ t with aZ:=t.aZ+k }
def Ow(x:Rn)(s:Mt)(op:Int):List Stp:=if s.au then [⟨x.pc,op,s.d,s.top 0,x.left⟩]else []
theorem gY(x:Rn)(s:Mt)(op:Int):s.told x op=s.sn (s.seen++Ow x s op):=by
 unfold Mt.told Ow
 split
 ·rfl
 ·rw[List.append_nil];rfl
def nxA(x:Rn)(c:Int):Rn:={ x with left:=x.left-1,next:=wrap64 (x.pc+8*c) }
def dec(x:Rn):Rn:={ x with left:=x.left-1 }
def nz(op:Int)(r:Rs):Rs:=if r.f≠0 then r else⟨0,{ r.x with pc:=r.x.next },r.s.told r.x op⟩
def O3(op:Int)(r:Rs):List Stp:=if r.f≠0 then []else Ow r.x r.s op
theorem D5(op:Int)(r:Rs): (nz op r).s.seen=r.s.seen++O3 op r:=by
 unfold nz O3
 split
 ·rw[List.append_nil]
 ·show(r.s.told r.x op).seen=_
  rw[gY]
  rfl
theorem HX(op:Int)(r:Rs): (nz op r).s.T=r.s.T:=by
 unfold nz
 split
 ·rfl
 ·show(r.s.told r.x op).T=_
  rw[gY]
  rfl
theorem OH(op:Int)(r:Rs): (nz op r).f=r.f:=by
 unfold nz
 split
 ·rfl
 ·rename_i h
  show 0=r.f
  omega
theorem tM(op:Int)(r:Rs): (nz op r).x.left=r.x.left∧(nz op r).x.mode=r.x.mode:=by
 unfold nz
 split<;>exact⟨rfl,rfl⟩
theorem lH(x:Rn)(s:Mt):kC x s =
 if x.left=0 then some ⟨13,x,s⟩
 else if(s.S.aE x.mode x.pc).2≠0 then some ⟨(s.S.aE x.mode x.pc).2,dec x,s⟩
 else if asks (s.S.aE x.mode x.pc).1 (nxA x (s.S.aE x.mode x.pc).1.cells) s≠0 then some ⟨asks (s.S.aE x.mode x.pc).1 (nxA x (s.S.aE x.mode x.pc).1.cells) s,nxA x (s.S.aE x.mode x.pc).1.cells,s⟩
 else(bZ (s.S.aE x.mode x.pc).1).map λq=>nz (s.S.aE x.mode x.pc).1.op (q (nxA x (s.S.aE x.mode x.pc).1.cells) s):=rfl
section
variable {c:Vc}{src:Value}{x:Rn}{s:Mt}{r r2:Rs}{k:Int}
theorem yX(hp:WkN c src s)(hs:s.Ok)(hx:x.Ok)(hr:kC x s=some r):
 r.s.Ok∧(0<=r.x.left∧r.x.left<=x.left)∧(x.left≠0->r.x.left<=x.left-1)∧WkN c src r.s∧(r.f=0->r.x.Ok):=by
 have h1:=hx.left
 have h2:=hx.cG
 rw[lH]at hr
 by_cases hl:x.left=0
 ·rw[if_pos hl]at hr
  obtain rfl:=Option.some.inj hr
  exact⟨hs,⟨h1,Int.le_refl _⟩,λh=>absurd hl h,hp,λh=>by cases h⟩
 rw[if_neg hl]at hr
 have hfv:=lL s.S x.mode x.pc
 generalize (s.S.aE x.mode x.pc).2=f at *
 by_cases hf:f≠0
 ·rw[if_pos hf]at hr
  obtain rfl:=Option.some.inj hr
  refine⟨hs,⟨?_,?_⟩,λ_=> ?_,hp,λh=>absurd h hf⟩
  ·show 0<=x.left-1;omega
  ·show x.left-1<=x.left;omega
  ·exact Int.le_refl _
 rw[if_neg hf]at hr
 generalize (s.S.aE x.mode x.pc).1=i at *
 have SE: (nxA x i.cells).Ok:=⟨hx.base,hx.dh,aU _,hx.pc,by show 0<=x.left-1;omega,by show x.left-1<=1000000;omega⟩
 have Ug: (nxA x i.cells).left=x.left-1:=rfl
 generalize nxA x i.cells=x2 at *
 by_cases ha:asks i x2 s≠0
 ·rw[if_pos ha]at hr
  obtain rfl:=Option.some.inj hr
  refine⟨hs,⟨?_,?_⟩,λ_=> ?_,hp,λh=>absurd h ha⟩
  ·show 0<=x2.left;omega
  ·show x2.left<=x.left;omega
  ·show x2.left<=x.left-1;omega
 rw[if_neg ha]at hr
 rcases ZN:bZ i with _|Q
 ·rw[ZN]at hr;cases hr
 rw[ZN]at hr
 obtain⟨_,hke⟩:=fP i Q ZN
 obtain⟨Yq,SO,ht3,hl3,_,Sx⟩:=hke c src x2 s hp hs SE hfv.1 hfv.2.1 (cw.of (by simpa using ha))
 simp only[Option.map_some]at hr
 obtain rfl:=Option.some.inj hr
 have ZD:=(tM i.op (Q x2 s)).1
 have h0:=SO.left
 refine⟨?_,⟨by omega,by omega⟩,λ_=>by omega,?_,λh=> ?_⟩
 ·unfold nz
  split
  ·exact Yq
  ·exact qL Yq _ _
 ·unfold nz
  split
  ·exact Sx
  ·exact Sx.told _ _
 ·rw[OH]at h
  unfold nz
  rw[if_neg (by simpa using h)]
  exact⟨SO.base,SO.dh,SO.next,SO.next,SO.left,SO.cG⟩
theorem mN(hr:kC x s=some r): (∃e,r.s.seen=s.seen++e)∧(∃t:List UInt8,r.s.T.out.data.toList=s.T.out.data.toList++t)∧r.x.mode=x.mode∧r.s.T.aC=s.T.aC:=by
 rw[lH]at hr
 by_cases hl:x.left=0
 ·rw[if_pos hl]at hr
  obtain rfl:=Option.some.inj hr
  exact⟨⟨[],by simp⟩,⟨[],by simp⟩,rfl,rfl⟩
 rw[if_neg hl]at hr
 generalize (s.S.aE x.mode x.pc).2=f at *
 by_cases hf:f≠0
 ·rw[if_pos hf]at hr
  obtain rfl:=Option.some.inj hr
  exact⟨⟨[],by simp⟩,⟨[],by simp⟩,rfl,rfl⟩
 rw[if_neg hf]at hr
 generalize (s.S.aE x.mode x.pc).1=i at *
 have hm: (nxA x i.cells).mode=x.mode:=rfl
 generalize nxA x i.cells=x2 at *
 by_cases ha:asks i x2 s≠0
 ·rw[if_pos ha]at hr
  obtain rfl:=Option.some.inj hr
  exact⟨⟨[],by simp⟩,⟨[],by simp⟩,hm,rfl⟩
 rw[if_neg ha]at hr
 rcases ZN:bZ i with _|Q
 ·rw[ZN]at hr;cases hr
 rw[ZN]at hr
 simp only[Option.map_some]at hr
 obtain rfl:=Option.some.inj hr
 have hq:=Av i Q ZN
 refine⟨⟨O3 i.op (Q x2 s),by rw[D5,hq.seen]⟩,?_,?_,?_⟩
 ·rw[HX];exact hq.fu.out x2 s
 ·rw[(tM _ _).2,hq.mode,hm]
 ·rw[HX,hq.pup]
end
theorem WkN.sn{c:Vc}{src:Value}{s:Mt}(h:WkN c src s)(l:List Stp):WkN c src (s.sn l):=
 ⟨⟨⟨h.1.dcs.h,h.1.dcs.l,h.1.dcs.at8⟩,h.1.hk,h.1.lk,h.1.kat,h.1.ws,h.1.tab,.inl h.2,h.1.v1,h.1.v2,h.1.v3⟩,h.2⟩
theorem I0{p:Int}(h0:0<=p)(h8:p<8):af.has p 1 8=false∧af.has p 1 16=false:=by
 have e1:p/8=0:=Int.ediv_eq_zero_of_lt h0 h8
 have e2:p/16=0:=Int.ediv_eq_zero_of_lt h0 oM
 unfold af.has
 rw[e1,e2]
 exact⟨rfl,rfl⟩
theorem J8{i:aq}{x:Rn}{s:Mt}(h: ¬asks i x s≠0): ¬(dM i.op≠0∧af.has s.T.aC x.mode (dM i.op)=false):=by
 intro h2
 apply h
 unfold asks
 repeat' split
 all_goals first|decide| (rename_i h3;exact absurd h2 h3)
theorem Jb{S:Img}{m a:Int}(h: ¬(S.aE m a).2≠0):1<=(S.aE m a).1.op∧(S.aE m a).1.op<=106:=by
 unfold Img.aE at h⊢
 by_cases h1:S.ay m a false≠0
 ·rw[if_pos h1]at h
  exact absurd h1 h
 rw[if_neg h1]at h⊢
 by_cases h2: (Code.unpack (S.aP m a)).2.2=false
 ·rw[if_pos h2]at h
  exact absurd (by decide: (14:Int)≠0) h
 rw[if_neg h2]at h⊢
 by_cases h3: (Code.unpack (S.aP m a)).1=2
 ·rw[if_pos h3]at h⊢
  split
  ·rename_i h4
   rw[if_pos h4]at h
   exact absurd h4 h
  ·exact⟨by show(1:Int)<=2;decide,by show(2:Int)<=106;decide⟩
 rw[if_neg h3]at h⊢
 by_cases h4: (Code.unpack (S.aP m a)).1=19
 ·rw[if_pos h4]at h⊢
  split
  ·rename_i h5
   rw[if_pos h5]at h
   exact absurd h5 h
  ·exact⟨by show(1:Int)<=19;decide,by show(19:Int)<=106;decide⟩
 rw[if_neg h4]at h⊢
 unfold Code.unpack at h2⊢
 split at h2
 ·rename_i h5
  rw[if_pos h5]
  unfold Code.right Code.pI at h5
  simp only[Bool.and_eq_true,decide_eq_true_eq]at h5
  refine⟨?_,?_⟩
  ·show 1<=Code.unOp _
   omega
  ·show Code.unOp _<=106
   omega
 ·exact absurd rfl h2
theorem Cg{x:Rn}{s:Mt}(hm:x.mode=1)(h0:0<=s.T.aC)(h8:s.T.aC<8): ∃r,kC x s=some r:=by
 rw[lH]
 split
 ·exact⟨_,rfl⟩
 split
 ·exact⟨_,rfl⟩
 rename_i hf
 obtain⟨h1,h2⟩:=Jb hf
 split
 ·exact⟨_,rfl⟩
 rename_i ha
 generalize (s.S.aE x.mode x.pc).1=i at *
 have hc:=J8 ha
 have e: (nxA x i.cells).mode=1:=hm
 rw[e]at hc
 obtain⟨c1,c2⟩:=I0 h0 h8
 have hs: (bZ i).isSome=true:=by
  refine xV i h1 h2 ?_ ?_
  ·by_cases h:i.op<88∨94<=i.op
   ·exact h
   ·exfalso
    have e2:dM i.op=8:=by
     unfold dM
     rw[if_neg oM,if_neg oM,if_neg oM,if_pos oM]
    rw[e2]at hc
    exact hc ⟨by decide,c1⟩
  ·by_cases h:i.op<100∨105<=i.op
   ·exact h
   ·exfalso
    have e2:dM i.op=16:=by
     unfold dM
     rw[if_neg oM,if_neg oM,if_neg oM,if_neg oM,if_pos oM]
    rw[e2]at hc
    exact hc ⟨by decide,c2⟩
 obtain⟨Q,hQ⟩:=Option.isSome_iff_exists.1 hs
 rw[hQ]
 exact⟨_,rfl⟩
theorem rp{c:Vc}{src:Value}: ∀(n:Nat) (x:Rn) (s:Mt),x.left.toNat<n->WkN c src s->s.Ok->x.Ok->x.mode=1->0<=s.T.aC->s.T.aC<8->∃q,jl n x s=some q
 | 0,_,_,h,_,_,_,_,_,_=>absurd h oM
 | n+1,x,s,h,hp,hs,hx,hm,h0,h8=>by
   obtain⟨r,hr⟩:=Cg hm h0 h8
   obtain⟨a1,a2,a3,a4,a5⟩:=yX hp hs hx hr
   obtain⟨_,_,b1,b2⟩:=mN hr
   unfold jl
   rw[hr]
   simp only
   by_cases hf:r.f≠0
   ·rw[if_pos hf];exact⟨_,rfl⟩
   rw[if_neg hf]
   by_cases ho:r.x.over=true
   ·rw[if_pos ho];exact⟨_,rfl⟩
   rw[if_neg ho]
   have hl:x.left≠0:=λh=>by
    rw[lH,if_pos h]at hr
    obtain rfl:=Option.some.inj hr
    exact hf (show(13:Int)≠0 by decide)
   have h1:=hx.left
   have h2:=a3 hl
   exact rp n r.x r.s oM a4 a1 (a5 (by simpa using hf)) (b1.trans hm) (by rw[b2];exact h0) (by rw[b2];exact h8)
structure Fit(c:Vc)(s:Mt):Prop where
 w:WkN c (.pointer none) s
 ok:s.Ok
 p0:0<=s.T.aC
 p8:s.T.aC<8
 seen:s.seen = []
section
variable {w w':World}{F:Nat->Prop}{c:Vc}{g:Nat}{x:Rn}{src:Value}{s:Mt}
theorem zC(hb: (VA c g x src s).holds w F)(hs:s.Ok)(xt:Int)(OF:s.pr.rm-s.r<1):
 Calls Tryz.prog 41 #[g,xt] w (Got (.returned (.int .i64 4)) (VA c g x src s) F w):=by
 have so:=(((On.refl hb).box #[(0:Int)] 46).box #[(0:Int),(0:Int),(0:Int),(0:Int)] 164).box #[(0:Int)] 3
 have hz: (w.alloc (.cells #[(0:Int)] 46)).heap.size=w.heap.size+1:=by simp
 have SQ: ((w.alloc (.cells #[(0:Int)] 46)).alloc (.cells #[(0:Int),(0:Int),(0:Int),(0:Int)] 164)).heap.size=w.heap.size+2:=by simp
 rw[hz,SQ]at so
 have r0:=(On.refl hb).r0
 have m6:=(On.refl hb).m6
 have Rd:=(On.refl hb).rlt
 have hfT:=(On.refl hb).mlt
 have RE: ∀W,On F w (aa (ae (w.heap.size+2) 3 #[(0:Int)]::plL c g w.heap.size aq.none 0 x src s)) W->Calls Tryz.prog 60 #[c.gR,.slice (some ⟨w.heap.size+2,0,none⟩) 1 1] W (λe W2=>e = .returned (.int .i64 4)∧On F w (aa (ae (w.heap.size+2) 3 #[(0:Int)]::plL c g w.heap.size aq.none 0 x src s)) W2):=λW h=>by
  have h1:=tK (h.stk 7 rfl) (some ⟨w.heap.size+2,0,none⟩) 1 1 hs.r hs.pr oM OF
  rw[hs.rv]at h1
  exact h1.mono λe W2 ⟨h2,h3⟩=>⟨h2,h.below h3⟩
 have hmf: ∀(fn:Fn) (first cap:Array Value) (w:World),(Instr.makeFunc fn first cap).run Tryz.prog w = .ok (.func fn first cap) w:=λ_ _ _ _=>rfl
 have htr:=λw=>cJ 4 (by decide) w
 replace RE:=hid (RE _ so)
 replace⟨so,htr⟩:=iB so htr
 clear hb hz SQ OF
 go_enter_defers Tryz.func41,Tryz.ntmps41
 go_wp2_with fail
 refine lg 0 (λ_ _ _=>False) rfl ?pass ?first
 case first=>
  intro Zl
  clear Zl
  go_wp2_with fail
  refine mo RE.out λw1 M0=>?_
  simp only[]
  have M0:=M0.tail
  replace M0:=hid M0
  go_wp2_with fail
  refine(htr.out _).mono ?_
  rintro e w5 ⟨rfl,rfl⟩
  exact j1 w.heap.size 4 0 w _ F c g _ src s aq.none M0.out _ rfl
 case pass=>
  intro n a wr hI
  exact hI.elim
end
theorem IH(b:List UInt8)(a:Nat)(l:List UInt8)(k:Nat)(h:a+l.length<=b.length)(hk:k<a∨a+l.length<=k): (cK b a l)[k]? = b[k]? :=by
 unfold cK
 rcases hk with hk|hk
 ·rw[List.getElem?_append_left (by rw[List.length_take];omega),List.getElem?_take,if_pos hk]
 ·rw[List.getElem?_append_right (by rw[List.length_take];omega),List.length_take,Nat.min_eq_left oM,List.getElem?_append_right oM,List.getElem?_drop]
  congr 1
  omega
structure Wr(P:Nat->Prop)(S S':Img):Prop where
 al:Alike S S'
 ok:S'.Ok
 eq: ∀k,¬P k->S'.b[k]? = S.b[k]?
section
variable {P:Nat->Prop}{S S' S2:Img}
theorem Wr.refl(h:S.Ok):Wr P S S:=⟨Alike.refl S,h,λ_ _=>rfl⟩
theorem Wr.trans(h:Wr P S S')(k:Wr P S' S2):Wr P S S2:=⟨h.al.trans k.al,k.ok,λj hj=>(k.eq j hj).trans (h.eq j hj)⟩
theorem Wr.put(hS:S.Ok)(a:Nat)(l:List UInt8)(hl:a+l.length<=S.beg 6)(hP: ∀k,a<=k->k<a+l.length->P k):Wr P S (S.put a l):=by
 refine⟨Alike.put S a l,cY hS a l hl,λk hk=>IH S.b a l k (by rw[hS.len];exact hl) ?_⟩
 rcases Nat.lt_or_ge k a with h|h
 ·exact .inl h
 ·refine .inr (Nat.le_of_not_lt λh2=>hk (hP k h h2))
theorem O8{a:Int}{n:Nat}(h:S.aO 1 a n true=true)(hn:n≠0):0<=a∧S.beg 3<=a.toNat∧a.toNat+n<=S.beg 4:=by
 unfold Img.aO at h
 simp only[Bool.or_eq_true,beq_iff_eq,hn,false_or,Bool.and_eq_true,bne_iff_ne,ne_eq,decide_eq_true_eq]at h
 obtain⟨⟨h1,h2⟩,h3⟩:=h
 obtain⟨r1,r2,r3,r4,r5,r6⟩:=S.lT h1
 have h4:S.region a=3:=by
  unfold Img.lets Img.may at h3
  simp only[if_true,beq_iff_eq]at h3
  generalize S.region a=r at *
  by_cases h5:r=3
  ·exact h5
  ·rw[if_neg oM,if_neg oM]at h3
   split at h3
   ·cases h3
   ·first
     | (exfalso;revert h3;decide)
     | (rw[if_neg h5]at h3;cases h3)
 rw[h4]at r2 h2
 have e:S.beg (3+1)=S.beg 4:=rfl
 rw[e]at h2
 omega
theorem K6{m a:Int}{n:Nat}{w:Bool}(h:S.aO m a n w=true)(hn:n≠0):0<=a∧a.toNat+n<=S.beg 6:=by
 obtain⟨h1,h2⟩:=S.lz h hn
 omega
theorem Wr.I1(hS:S.Ok)(a v:Int)(hP: ∀k,S.beg 3<=k->k<S.beg 4->P k):Wr P S (S.setCell 1 a v):=by
 unfold Img.setCell
 split
 ·rename_i h
  unfold Img.ay at h
  split at h
  ·cases h
  split at h
  ·rename_i hr
   obtain⟨_,h1,h2⟩:=O8 hr oM
   have h3:=K6 hr oM
   exact Wr.put hS _ _ (by rw[aI];omega) (λk ka kb=>hP k oM (by rw[aI]at kb;omega))
  ·cases h
 ·exact Wr.refl hS
theorem Wr.yQ(hS:S.Ok)(a:Int)(c:UInt8)(hP: ∀k,S.beg 3<=k->k<S.beg 4->P k):Wr P S (S.aS 1 a c):=by
 unfold Img.aS
 split
 ·rename_i hr
  obtain⟨_,h1,h2⟩:=O8 hr oM
  have h3:=K6 hr oM
  exact Wr.put hS _ _ (by show a.toNat+1<=_;omega) (λk ka kb=>hP k oM (by have:k<a.toNat+1:=kb;omega))
 ·exact Wr.refl hS
theorem Wr.Qk(hS:S.Ok)(a:Int)(l:List UInt8)(hr:S.aO 1 a l.length true=true)(hP: ∀k,S.beg 3<=k->k<S.beg 4->P k):Wr P S (S.put a.toNat l):=by
 by_cases hn:l.length=0
 ·rw[List.eq_nil_of_length_eq_zero hn,Img.fK]
  exact Wr.refl hS
 ·obtain⟨_,h1,h2⟩:=O8 hr hn
  have h3:=K6 hr hn
  exact Wr.put hS _ _ h3.2 (λk ka kb=>hP k oM oM)
theorem Wr.PS(hS:S.Ok)(a b n:Int)(hP: ∀k,S.beg 3<=k->k<S.beg 4->P k):Wr P S (S.move 1 a b n):=by
 unfold Img.move
 split
 ·rename_i hf
  unfold Img.fM at hf
  split at hf
  ·cases hf
  split at hf
  ·rename_i hr
   have hl: (S.bytes a n.toNat).length=n.toNat:=by
    rcases sG hS hr.1 with h0| ⟨h0,h1⟩
    ·rw[h0];simp[Img.bytes]
    ·unfold Img.bytes
     rw[List.length_take,List.length_drop,hS.len]
     omega
   exact Wr.Qk hS b _ (by rw[hl];exact hr.2) hP
  ·cases hf
 ·exact Wr.refl hS
theorem Wr.PN(hS:S.Ok)(a n:Int)(c:UInt8)(hP: ∀k,S.beg 3<=k->k<S.beg 4->P k):Wr P S (S.fill 1 a n c):=by
 unfold Img.fill
 split
 ·rename_i hf
  unfold Img.gL at hf
  split at hf
  ·cases hf
  split at hf
  ·rename_i hr
   exact Wr.Qk hS a _ (by rw[List.length_replicate];exact hr) hP
  ·cases hf
 ·exact Wr.refl hS
theorem Wr.mono{Q:Nat->Prop}(h:Wr P S S')(hPQ: ∀k,P k->Q k):Wr Q S S':=⟨h.al,h.ok,λk hk=>h.eq k λh2=>hk (hPQ k h2)⟩
theorem Wr.fh(hS:S.Ok)(fr i:Nat)(v:Int)(hP: ∀k,fr+8*i<=k->k<fr+8*i+8->P k):Wr P S (fh S fr i v):=by
 unfold Vm.fh Img.setCell
 split
 ·rename_i h
  unfold Img.ay at h
  split at h
  ·cases h
  split at h
  ·rename_i hr
   have h3:=K6 hr oM
   exact Wr.put hS _ _ (by rw[aI];exact h3.2) (λk ka kb=>hP k oM (by rw[aI]at kb;omega))
  ·cases h
 ·exact Wr.refl hS
theorem Wr.aY(fr:Nat): ∀(l:List Int) (S:Img) (d:Nat),S.Ok->(∀k,fr+8*d<=k->k<fr+8* (d+l.length)->P k)->Wr P S (aY S fr d l)
 | [],S,d,hS,_=>Wr.refl hS
 | x::l,S,d,hS,hP=>by
   have h1:Wr P S (Vm.fh S fr d x):=Wr.fh hS fr d x λk ka kb=>hP k ka (by rw[List.length_cons];omega)
   exact h1.trans (Wr.aY fr l _ (d+1) h1.ok λk ka kb=>hP k oM (by rw[List.length_cons];omega))
theorem Wr.Qz(a:Int): ∀(l:List UInt8) (i:Nat) (S:Img),S.Ok->(∀k,S.beg 3<=k->k<S.beg 4->P k)->Wr P S (ed 1 a i l S).2
 | [],i,S,hS,_=>Wr.refl hS
 | b::l,i,S,hS,hP=>by
   unfold ed
   have h1:=Wr.yQ (P:=P) hS (IntKind.i64.wrap (a+ (i:Int))) b hP
   split
   ·exact h1.trans (Wr.Qz a l (i+1) _ h1.ok λk ka kb=>hP k (by rw[h1.al.beg]at ka;exact ka) (by rw[h1.al.beg]at kb;exact kb))
   ·exact h1
theorem Wr.comma{D:Dc}(hS:S.Ok)(hD:D.Ok S)(hr:D.rg=3)(v:Int)(hP: ∀k,S.beg 3<=k->k<S.beg 4->P k):Wr P S (D.bi S v):=by
 have h46:S.beg 4<=S.beg 6:=S.bN oM oM oM
 have Sg:=hD.lo
 have e1:D.fr S=S.beg 3+8:=by unfold Dc.fr;rw[hr]
 have e2:D.lim S=S.beg 4:=by unfold Dc.lim;rw[hr]
 rw[e1]at Sg
 unfold Dc.bi
 split
 ·rename_i h
  unfold Dc.bm at h
  rw[e2]at h
  split at h
  ·cases h
  ·exact Wr.put hS _ _ (by rw[aI];omega) (λk ka kb=>hP k oM (by rw[aI]at kb;omega))
 ·exact Wr.refl hS
theorem Wr.Ph{D:Dc}(hS:S.Ok)(hD:D.Ok S)(hr:D.rg=3)(c:UInt8)(hP: ∀k,S.beg 3<=k->k<S.beg 4->P k):Wr P S (D.de S c):=by
 have h46:S.beg 4<=S.beg 6:=S.bN oM oM oM
 have Sg:=hD.lo
 have e1:D.fr S=S.beg 3+8:=by unfold Dc.fr;rw[hr]
 have e2:D.lim S=S.beg 4:=by unfold Dc.lim;rw[hr]
 rw[e1]at Sg
 unfold Dc.de
 split
 ·rename_i h
  unfold Dc.cA at h
  rw[e2]at h
  split at h
  ·cases h
  ·exact Wr.put hS _ _ (by show D.h+1<=_;omega) (λk ka kb=>hP k oM (by have:k<D.h+1:=kb;omega))
 ·exact Wr.refl hS
theorem Wr.align{D:Dc}(hS:S.Ok)(hD:D.Ok S)(hr:D.rg=3)(hP: ∀k,S.beg 3<=k->k<S.beg 4->P k):Wr P S (D.fj S):=by
 have h46:S.beg 4<=S.beg 6:=S.bN oM oM oM
 have Sg:=hD.lo
 have ZA:=hD.hi
 have RY:=hD.al.1
 have e1:D.fr S=S.beg 3+8:=by unfold Dc.fr;rw[hr]
 have e2:D.lim S=S.beg 4:=by unfold Dc.lim;rw[hr]
 rw[e1]at Sg
 rw[e2]at ZA RY
 have hu:=ee D.h
 unfold Dc.fj
 split
 ·exact Wr.put hS _ _ (by rw[List.length_replicate];omega) (λk ka kb=>hP k oM (by rw[List.length_replicate]at kb;omega))
 ·exact Wr.refl hS
end
def Fr(S:Img)(base:Nat)(k:Nat):Prop:=S.beg 3<=k∧(k<S.beg 5∨S.beg 5+8*base<=k)
structure Inn(x:Rn)(s:Mt):Prop where
 img:s.S.Ok
 df:s.pd.fr=s.S.beg 4
 dm:s.S.beg 4+8*s.pd.rm<=s.S.beg 5
 rf:s.pr.fr=s.S.beg 5
 mode:x.mode=1
 b0:0<=x.base
 rb:x.base<=s.r
 dc: (dS s).Ok s.S
structure Safe(x:Rn)(s s':Mt):Prop where
 wr:Wr (Fr s.S x.base.toNat) s.S s'.S
 pd:s'.pd=s.pd
 pr:s'.pr=s.pr
 rb:x.base<=s'.r
 pts:s'.T.points=s.T.points
 said:s'.T.said=s.T.said
 out:x.asked=true->s'.T.out=s.T.out
section
variable {x y:Rn}{s t:Mt}
theorem Safe.refl(h:Inn x s):Safe x s s:=⟨Wr.refl h.img,rfl,rfl,h.rb,rfl,rfl,λ_=>rfl⟩
theorem Safe.Lu(h:Safe x s t){S':Img}(hw:Wr (Fr s.S x.base.toNat) t.S S'):Safe x s { t with S:=S' }:=⟨h.wr.trans hw,h.pd,h.pr,h.rb,h.pts,h.said,h.out⟩
theorem NZ{S S':Img}(h:Alike S S')(b k:Nat):Fr S' b k↔Fr S b k:=by
 unfold Fr
 rw[h.beg,h.beg]
theorem jd{S S':Img}(h:Alike S S')(b:Nat): ∀k,S'.beg 3<=k->k<S'.beg 4->Fr S b k:=by
 intro k k1 k2
 rw[h.beg]at k1 k2
 exact⟨k1,.inl (Nat.lt_of_lt_of_le k2 (S.bN oM oM oM))⟩
theorem Safe.ak(hi:Inn x s)(h:Safe x s t)(n:Nat)(l:List Int):Safe x s (t.ak n l).2:=by
 unfold Mt.ak
 split
 ·exact⟨h.wr,h.pd,h.pr,h.rb,h.pts,h.said,h.out⟩
 ·rename_i OF
  have e1:t.pd.fr=s.S.beg 4:=by rw[h.pd,hi.df]
  have e2:t.pd.rm=s.pd.rm:=by rw[h.pd]
  have hdm:=hi.dm
  have h34:s.S.beg 3<=s.S.beg 4:=s.S.bN oM oM oM
  refine⟨h.wr.trans ?_,h.pd,h.pr,h.rb,h.pts,h.said,h.out⟩
  show Wr _ t.S (aY t.S t.pd.fr (t.d-n) l)
  refine Wr.aY _ l _ _ h.wr.ok λk ka kb=> ?_
  rw[e1]at ka kb
  refine⟨by omega,.inl ?_⟩
  by_cases hl:l.length=0
  ·omega
  ·omega
theorem Safe.az(hi:Inn x s)(h:Safe x s t)(l:List Int):Safe x s (t.az l):=by
 have e1:t.pr.fr=s.S.beg 5:=by rw[h.pr,hi.rf]
 have h35:s.S.beg 3<=s.S.beg 5:=s.S.bN oM oM oM
 have hb:=h.rb
 have RV:=hi.b0
 refine⟨h.wr.trans ?_,h.pd,h.pr,by show x.base<=((t.r+l.length:Nat):Int);omega,h.pts,h.said,h.out⟩
 show Wr _ t.S (aY t.S t.pr.fr t.r l)
 refine Wr.aY _ l _ _ h.wr.ok λk ka kb=> ?_
 rw[e1]at ka kb
 exact⟨by omega,.inr oM⟩
theorem Safe.eu(h:Safe x s t)(n:Nat)(hn:x.base<=(n:Int)):Safe x s (t.eu n):=⟨h.wr,h.pd,h.pr,hn,h.pts,h.said,h.out⟩
theorem Safe.nS(hi:Inn x s)(h:Safe x s t)(v:Int)(hr:x.base+1<=t.r):Safe x s (t.nS 0 v):=by
 have e1:t.pr.fr=s.S.beg 5:=by rw[h.pr,hi.rf]
 have h35:s.S.beg 3<=s.S.beg 5:=s.S.bN oM oM oM
 have RV:=hi.b0
 refine⟨h.wr.trans ?_,h.pd,h.pr,h.rb,h.pts,h.said,h.out⟩
 show Wr _ t.S (fh t.S t.pr.fr (t.r-1-0) v)
 refine Wr.fh h.wr.ok _ _ _ λk ka kb=> ?_
 rw[e1]at ka kb
 exact⟨by omega,.inr oM⟩
theorem Safe.dx(hi:Inn x s)(h:Safe x s t)(n:Int)(e:Bool)(a:Int)(hr:x.base+2<=t.r):Safe x s (dx n e a y t).s:=by
 unfold Vm.dx
 split
 ·exact h.eu _ oM
 ·exact h.nS hi _ oM
theorem Safe.back(h:Safe x s t)(hr:x.base+1<=t.r):Safe x s (back y t).s:=by
 unfold Vm.back
 split
 ·exact h
 ·refine⟨h.wr,h.pd,h.pr,?_,h.pts,h.said,h.out⟩
  show x.base<=((t.r-1:Nat):Int)
  omega
theorem Safe.laid(hi:Inn x s){p:Rs×List Int}(h:Safe x s p.1.s)(n:Nat):Safe x s (Rs.laid n p).s:=by
 unfold Rs.laid
 split
 ·exact h.ak hi n p.2
 ·exact h
theorem Safe.cell(hi:Inn x s)(h:Safe x s t)(a v:Int):Safe x s { t with S:=t.S.setCell x.mode a v }:=by
 rw[hi.mode]
 exact h.Lu (Wr.I1 h.wr.ok a v (jd h.wr.al _))
theorem Safe.bq(h:Safe x s t){S':Img}(D':Dc)(hw:Wr (Fr s.S x.base.toNat) t.S S'):Safe x s (t.bq S' D'):=⟨h.wr.trans hw,h.pd,h.pr,h.rb,h.pts,h.said,h.out⟩
theorem Dn(T:af.Tab)(m:Int)(b:ByteArray): (af.gE T m b).points=T.points∧(af.gE T m b).said=T.said∧(m≠1->(af.gE T m b).out=T.out):=by
 unfold af.gE
 split
 ·by_cases h:m=1
  ·rw[if_pos (by simp[h])]
   exact⟨rfl,rfl,λh2=>absurd h h2⟩
  ·rw[if_neg (by simp[h])]
   exact⟨rfl,rfl,λ_=>rfl⟩
 ·exact⟨rfl,rfl,λ_=>rfl⟩
theorem Safe.eT(h:Safe x s t)(y:Rn)(hy:y.asked=x.asked)(b:ByteArray):Safe x s (t.eT y b):=by
 obtain⟨h1,h2,h3⟩:=Dn t.T (tv y) b
 refine⟨h.wr,h.pd,h.pr,h.rb,h1.trans h.pts,h2.trans h.said,λha=>(h3 ?_).trans (h.out ha)⟩
 unfold tv
 rw[hy,ha,if_pos rfl]
 decide
theorem D9(T:af.Tab)(m:Int): (af.fE T m).points=T.points∧(af.fE T m).said=T.said∧(af.fE T m).out=T.out:=by
 unfold af.fE
 split<;>exact⟨rfl,rfl,rfl⟩
theorem DN(T:af.Tab)(m n:Int): (af.cT T m n).points=T.points∧(af.cT T m n).said=T.said∧(af.cT T m n).out=T.out:=by
 unfold af.cT
 split<;>exact⟨rfl,rfl,rfl⟩
theorem oJ(x:Rn)(n:Int): (x.pay n).asked=x.asked∧(x.pay n).base=x.base:=by
 unfold Rn.pay
 split<;>exact⟨rfl,rfl⟩
theorem wX(t0:Mt->List UInt8)(hi:Inn x s):Safe x s (jA t0 x s).1.s:=by
 unfold jA
 split
 ·exact(Safe.refl hi).eT x rfl _
 ·exact Safe.refl hi
theorem DW(hi:Inn x s):Safe x s (ig x s).1.s:=by
 unfold ig
 split
 ·exact(Safe.refl hi).eT x rfl _
 ·exact Safe.refl hi
theorem DM(hi:Inn x s):Safe x s (kG x s).1.s:=by
 unfold kG
 split
 ·exact(Safe.refl hi).eT _ (oJ _ _).1 _
 ·exact Safe.refl hi
theorem GJ(hi:Inn x s):Safe x s (yw x s).1.s:=by
 obtain⟨h1,h2,h3⟩:=D9 s.T x.mode
 exact⟨Wr.refl hi.img,rfl,rfl,hi.rb,h1,h2,λ_=>h3⟩
theorem FV(hi:Inn x s):Safe x s (je x s).1.s:=by
 unfold je
 split
 ·exact(Safe.refl hi).cell hi _ _
 ·exact Safe.refl hi
theorem Fi(hi:Inn x s):Safe x s (ks x s).1.s:=by
 unfold ks
 split
 ·show Safe x s { s with S:=s.S.move x.mode _ _ _ }
  rw[hi.mode]
  exact(Safe.refl hi).Lu (Wr.PS hi.img _ _ _ (jd (Alike.refl _) _))
 ·exact Safe.refl hi
theorem Ex(hi:Inn x s):Safe x s (kz x s).1.s:=by
 unfold kz
 split
 ·show Safe x s { s with S:=s.S.fill x.mode _ _ _ }
  rw[hi.mode]
  exact(Safe.refl hi).Lu (Wr.PN hi.img _ _ _ (jd (Alike.refl _) _))
 ·exact Safe.refl hi
theorem EI(hi:Inn x s):Safe x s (kH x s).1.s:=by
 unfold kH
 split<;>exact Safe.refl hi
theorem IW(hi:Inn x s):Safe x s (ze x s).1.s:=by
 obtain⟨h1,h2,h3⟩:=DN s.T x.mode (ar s 2 1)
 show Safe x s (eh x s (ar s 2 0) (ar s 2 1)).2
 unfold eh
 split
 ·exact Safe.refl hi
 split
 ·exact Safe.refl hi
 split
 ·exact⟨Wr.refl hi.img,rfl,rfl,hi.rb,h1,h2,λ_=>h3⟩
 ·refine⟨?_,rfl,rfl,hi.rb,h1,h2,λ_=>h3⟩
  show Wr _ s.S (ed x.mode _ 0 _ s.S).2
  rw[hi.mode]
  exact Wr.Qz _ _ _ _ hi.img (jd (Alike.refl _) _)
theorem FO(hi:Inn x s):Safe x s (bh x s).s∧(bh x s).s.r=s.r:=by
 unfold bh
 split
 ·exact⟨Safe.refl hi,rfl⟩
 split
 ·exact⟨Safe.refl hi,rfl⟩
 split
 ·exact⟨Safe.refl hi,rfl⟩
 ·exact⟨(Safe.refl hi).cell hi _ _,rfl⟩
theorem ER(hi:Inn x s)(hr:x.base+1<=s.r):Safe x s (iX x s).s:=by
 obtain⟨h1,h2⟩:=FO hi
 unfold iX
 split
 ·exact h1.back (by rw[h2];exact hr)
 ·exact h1
theorem Cm(s:Mt)(n:Nat)(l:List Int): (s.ak n l).2.r=s.r:=(aB s n l).2.2.1
end
theorem Ny(x:Rn)(s:Mt): (jj x s).1.s=s:=by unfold jj;split<;>rfl
theorem NI(x:Rn)(s:Mt): (jt x s).1.s=s:=by unfold jt;split<;>rfl
theorem PB(x:Rn)(s:Mt): (jg x s).1.s=s:=by unfold jg;split<;>rfl
theorem Mv(x:Rn)(s:Mt): (fi x s).1.s=s:=by unfold fi;split<;>rfl
theorem L8(x:Rn)(s:Mt): (fl x s).1.s=s:=by unfold fl;split<;>rfl
theorem Mc(x:Rn)(s:Mt): (fm x s).1.s=s:=by unfold fm;split<;>rfl
theorem AX(i:aq)(q:Rn->Mt->Rs)(hq:parts i=some q)(x:Rn)(s:Mt)(hi:Inn x s)(ha:cw i x s):Safe x s (q x s).s:=by
 obtain⟨op,arg,lit,cells⟩:=i
 unfold parts at hq
 simp only at hq
 revert hq
 apply eli
 ·rintro rfl
  have ho:=ha.off
  have hrb:=hi.rb
  exact(Safe.refl hi).back (by have e: (returns 1 arg s.same).1=1:=rfl;simp only[e]at ho;omega)
 apply eli
 ·intro _
  exact(Safe.refl hi).ak hi _ _
 apply eli
 ·intro _
  exact(Safe.refl hi).az hi _
 apply eli
 ·intro _
  exact Safe.refl hi
 apply eli
 ·intro _
  exact(Safe.refl hi).ak hi _ _
 apply eli
 ·intro _
  exact((Safe.refl hi).ak hi _ _).az hi _
 apply eli
 ·intro h7
  dsimp only
  split
  ·exact(Safe.refl hi).ak hi _ _
  ·exact((Safe.refl hi).ak hi _ _).az hi _
 apply eli
 ·rintro rfl
  have ho:=ha.off
  have hrb:=hi.rb
  exact(Safe.refl hi).dx hi _ _ _ (by have e: (returns 8 arg s.same).1=2:=rfl;simp only[e]at ho;omega)
 apply eli
 ·rintro rfl
  have ho:=ha.off
  have hrb:=hi.rb
  exact((Safe.refl hi).ak hi _ _).dx hi _ _ _ (by have e: (returns 9 arg s.same).1=2:=rfl;simp only[e]at ho;rw[Cm];omega)
 apply eli
 ·rintro rfl
  have ho:=ha.off
  have hrb:=hi.rb
  exact(Safe.refl hi).eu _ (by have e: (returns 10 arg s.same).1=2:=rfl;simp only[e]at ho;omega)
 apply eli
 ·intro _
  exact((Safe.refl hi).ak hi _ _).az hi _
 apply eli
 ·intro _
  exact((Safe.refl hi).az hi _).ak hi _ _
 apply eli
 ·intro _
  exact Safe.refl hi
 iterate 12 (apply eli;·intro _;exact(Safe.refl hi).ak hi _ _)
 apply eli
 ·rintro rfl
  have ho:=ha.off
  have hrb:=hi.rb
  exact((Safe.refl hi).eu _ (by have e: (returns 14 arg s.same).1=1:=rfl;simp only[e]at ho;omega)).ak hi _ _
 iterate 5 (apply eli;·intro _;exact(Safe.refl hi).ak hi _ _)
 iterate 5 (apply eli;·intro _;exact Safe.laid hi (Safe.refl hi) _)
 apply eli
 ·intro _
  exact(Safe.refl hi).ak hi _ _
 apply eli
 ·intro _
  exact(Safe.refl hi).ak hi _ _
 iterate 4 (apply eli;·intro _;exact Safe.laid hi (Safe.refl hi) _)
 apply eli
 ·intro _
  exact Safe.laid hi ((Safe.refl hi).cell hi _ _) _
 iterate 19 (apply eli;·intro _;exact(Safe.refl hi).ak hi _ _)
 intro hq
 cases hq
theorem yD(i:aq)(q:Rn->Mt->Rs)(hq:jQi i=some q)(x:Rn)(s:Mt)(hi:Inn x s)(ha:cw i x s):Safe x s (q x s).s:=by
 obtain⟨op,arg,lit,cells⟩:=i
 unfold jQi at hq
 simp only at hq
 revert hq
 iterate 4 (apply eli;·intro _;exact Safe.laid hi (Safe.refl hi) _)
 apply eli
 ·intro _
  exact Safe.laid hi (p:=(⟨_,x,{ s with S:=s.S.aS x.mode (ar s 2 1) (byteOf (ar s 2 0)) }⟩,[])) (by rw[hi.mode];exact(Safe.refl hi).Lu (Wr.yQ hi.img _ _ (jd (Alike.refl _) _))) _
 apply eli
 ·intro _
  exact Safe.laid hi (FV hi) _
 apply eli
 ·intro _
  exact Safe.laid hi (Fi hi) _
 apply eli
 ·intro _
  exact Safe.laid hi (Ex hi) _
 apply eli
 ·intro _
  exact Safe.laid hi (Safe.refl hi) _
 apply eli
 ·intro _
  exact Safe.laid hi ((Safe.refl hi).bq _ (Wr.refl hi.img)) _
 apply eli
 ·intro _
  exact Safe.laid hi ((Safe.refl hi).bq _ (Wr.comma hi.img hi.dc rfl _ (jd (Alike.refl _) _))) _
 apply eli
 ·intro _
  exact Safe.laid hi ((Safe.refl hi).bq _ (Wr.Ph hi.img hi.dc rfl _ (jd (Alike.refl _) _))) _
 apply eli
 ·intro _
  exact Safe.laid hi ((Safe.refl hi).bq _ (Wr.align hi.img hi.dc rfl (jd (Alike.refl _) _))) _
 apply eli
 ·intro _
  exact Safe.laid hi ((Safe.refl hi).eT x rfl _) _
 apply eli
 ·intro _
  exact Safe.laid hi (DM hi) _
 apply eli
 ·intro _
  exact Safe.laid hi (wX _ hi) _
 apply eli
 ·intro _
  exact Safe.laid hi (wX _ hi) _
 apply eli
 ·intro _
  exact Safe.laid hi (DW hi) _
 apply eli
 ·intro _
  exact Safe.laid hi (GJ hi) _
 apply eli
 ·intro _
  exact Safe.laid hi (IW hi) _
 apply eli
 ·intro _
  exact Safe.laid hi (EI hi) _
 apply eli
 ·intro _
  exact Safe.laid hi (by rw[Ny];exact Safe.refl hi) _
 apply eli
 ·intro _
  exact Safe.laid hi (by rw[NI];exact Safe.refl hi) _
 apply eli
 ·intro _
  exact Safe.laid hi (by rw[PB];exact Safe.refl hi) _
 apply eli
 ·intro _
  exact Safe.laid hi (by rw[Mv];exact Safe.refl hi) _
 apply eli
 ·intro _
  exact Safe.laid hi (by rw[L8];exact Safe.refl hi) _
 apply eli
 ·intro _
  exact Safe.laid hi (by rw[Mc];exact Safe.refl hi) _
 apply eli
 ·rintro rfl
  have ho:=ha.off
  have hrb:=hi.rb
  exact ER hi (by have e: (returns 18 arg s.same).1=1:=rfl;simp only[e]at ho;omega)
 iterate 3 (apply eli;·intro _;exact Safe.refl hi)
 apply eli
 ·rintro rfl
  have ho:=ha.off
  have hrb:=hi.rb
  dsimp only
  split
  ·rename_i h0
   refine((Safe.refl hi).ak hi _ _).back ?_
   have e: (returns 17 arg s.same).1=1:=by rw[h0];rfl
   simp only[e]at ho
   rw[Cm]
   omega
  ·exact(Safe.refl hi).ak hi _ _
 apply eli
 ·intro _
  exact(Safe.refl hi).ak hi _ _
 intro hq
 cases hq
def aQ(y x:Rn):Prop:=y.base=x.base∧y.asked=x.asked
theorem aQ.refl(x:Rn):aQ x x:=⟨rfl,rfl⟩
theorem aQ.of{y z x:Rn}(h:y=z)(k:aQ z x):aQ y x:=h▸k
theorem lm(x:Rn)(n:Int):aQ (x.pay n) x:=⟨(oJ x n).2,(oJ x n).1⟩
theorem pD(y x:Rn)(s:Mt)(h:aQ y x):aQ (back y s).x x:=by
 unfold back
 split<;>exact h
theorem tZ(n:Int)(e:Bool)(a:Int)(x:Rn)(s:Mt):aQ (dx n e a x s).x x:=by
 unfold dx
 split<;>exact⟨rfl,rfl⟩
theorem O5(x:Rn)(s:Mt): (je x s).1.x=x:=by unfold je;split<;>rfl
theorem MY(t:Mt->List UInt8)(x:Rn)(s:Mt): (jA t x s).1.x=x:=by unfold jA;split<;>rfl
theorem OS(x:Rn)(s:Mt): (ig x s).1.x=x:=by unfold ig;split<;>rfl
theorem N6(x:Rn)(s:Mt): (ks x s).1.x=x.pay (ar s 3 2):=by unfold ks;split<;>rfl
theorem Oj(x:Rn)(s:Mt): (kz x s).1.x=x.pay (ar s 3 1):=by unfold kz;split<;>rfl
theorem NK(x:Rn)(s:Mt): (kG x s).1.x=x.pay (ar s 2 1):=by unfold kG;split<;>rfl
theorem Po(x:Rn)(s:Mt): (kH x s).1.x=x.pay (ar s 2 1):=by unfold kH;split<;>rfl
theorem NO(x:Rn)(s:Mt): (jj x s).1.x=x:=by unfold jj;split<;>rfl
theorem Pd(x:Rn)(s:Mt): (jt x s).1.x=x:=by unfold jt;split<;>rfl
theorem NF(x:Rn)(s:Mt): (jg x s).1.x=x:=by unfold jg;split<;>rfl
theorem Ks(x:Rn)(s:Mt): (fi x s).1.x=x:=by unfold fi;split<;>rfl
theorem LJ(x:Rn)(s:Mt): (fl x s).1.x=x:=by unfold fl;split<;>rfl
theorem Lp(x:Rn)(s:Mt): (fm x s).1.x=x:=by unfold fm;split<;>rfl
theorem BU(i:aq)(q:Rn->Mt->Rs)(hq:parts i=some q)(x:Rn)(s:Mt):aQ (q x s).x x:=by
 obtain⟨op,arg,lit,cells⟩:=i
 unfold parts at hq
 simp only at hq
 revert hq
 apply eli
 ·intro _
  exact pD x x s (aQ.refl x)
 apply eli
 ·intro _
  exact aQ.refl x
 apply eli
 ·intro _
  exact⟨rfl,rfl⟩
 apply eli
 ·intro _
  exact⟨rfl,rfl⟩
 apply eli
 ·intro h5
  dsimp only
  split<;>exact⟨rfl,rfl⟩
 apply eli
 ·intro _
  exact⟨rfl,rfl⟩
 apply eli
 ·intro h7
  dsimp only
  split<;>exact⟨rfl,rfl⟩
 apply eli
 ·intro _
  exact tZ _ _ _ _ _
 apply eli
 ·intro _
  exact tZ _ _ _ _ _
 iterate 4 (apply eli;·intro _;exact⟨rfl,rfl⟩)
 iterate 10 (apply eli;·intro _;exact aQ.refl x)
 iterate 4 (apply eli;·intro _;exact⟨rfl,rfl⟩)
 iterate 4 (apply eli;·intro _;exact aQ.refl x)
 iterate 5 (apply eli;·intro _;exact aQ.of (ci _ _) (aQ.refl x))
 apply eli
 ·intro _
  exact aQ.refl x
 apply eli
 ·intro _
  exact aQ.refl x
 iterate 5 (apply eli;·intro _;exact aQ.of (ci _ _) (aQ.refl x))
 iterate 19 (apply eli;·intro _;exact aQ.refl x)
 intro hq
 cases hq
theorem xG(i:aq)(q:Rn->Mt->Rs)(hq:jQi i=some q)(x:Rn)(s:Mt):aQ (q x s).x x:=by
 obtain⟨op,arg,lit,cells⟩:=i
 unfold jQi at hq
 simp only at hq
 revert hq
 iterate 5 (apply eli;·intro _;exact aQ.of (ci _ _) (aQ.refl x))
 apply eli
 ·intro _
  exact aQ.of ((ci _ _).trans (O5 x s)) (aQ.refl x)
 apply eli
 ·intro _
  exact aQ.of ((ci _ _).trans (N6 x s)) (lm x _)
 apply eli
 ·intro _
  exact aQ.of ((ci _ _).trans (Oj x s)) (lm x _)
 iterate 6 (apply eli;·intro _;exact aQ.of (ci _ _) (aQ.refl x))
 apply eli
 ·intro _
  exact aQ.of ((ci _ _).trans (NK x s)) (lm x _)
 apply eli
 ·intro _
  exact aQ.of ((ci _ _).trans (MY _ x s)) (aQ.refl x)
 apply eli
 ·intro _
  exact aQ.of ((ci _ _).trans (MY _ x s)) (aQ.refl x)
 apply eli
 ·intro _
  exact aQ.of ((ci _ _).trans (OS x s)) (aQ.refl x)
 apply eli
 ·intro _
  exact aQ.of (ci _ _) (aQ.refl x)
 apply eli
 ·intro _
  exact aQ.of (ci _ _) (lm x _)
 apply eli
 ·intro _
  exact aQ.of ((ci _ _).trans (Po x s)) (lm x _)
 apply eli
 ·intro _
  exact aQ.of ((ci _ _).trans (NO x s)) (aQ.refl x)
 apply eli
 ·intro _
  exact aQ.of ((ci _ _).trans (Pd x s)) (aQ.refl x)
 apply eli
 ·intro _
  exact aQ.of ((ci _ _).trans (NF x s)) (aQ.refl x)
 apply eli
 ·intro _
  exact aQ.of ((ci _ _).trans (Ks x s)) (aQ.refl x)
 apply eli
 ·intro _
  exact aQ.of ((ci _ _).trans (LJ x s)) (aQ.refl x)
 apply eli
 ·intro _
  exact aQ.of ((ci _ _).trans (Lp x s)) (aQ.refl x)
 apply eli
 ·intro h18
  unfold iX
  split
  ·exact pD x x _ (aQ.refl x)
  ·exact aQ.of (j3 x s).1 (aQ.refl x)
 iterate 3 (apply eli;·intro _;exact aQ.refl x)
 apply eli
 ·intro h17
  dsimp only
  split
  ·exact pD _ x _ ⟨rfl,rfl⟩
  ·exact⟨rfl,rfl⟩
 apply eli
 ·intro _
  exact aQ.refl x
 intro hq
 cases hq
theorem yx(i:aq)(q:Rn->Mt->Rs)(hq:bZ i=some q)(x:Rn)(s:Mt):aQ (q x s).x x:=by
 unfold bZ at hq
 rcases h:parts i with _|q1
 ·rw[h]at hq
  exact xG i q hq x s
 ·rw[h]at hq
  obtain rfl:=Option.some.inj hq
  exact BU i q1 h x s
theorem zl(i:aq)(q:Rn->Mt->Rs)(hq:bZ i=some q)(x:Rn)(s:Mt)(hi:Inn x s)(ha:cw i x s):Safe x s (q x s).s:=by
 unfold bZ at hq
 rcases h:parts i with _|q1
 ·rw[h]at hq
  exact yD i q hq x s hi ha
 ·rw[h]at hq
  obtain rfl:=Option.some.inj hq
  exact AX i q1 h x s hi ha
theorem Safe.trans{x y:Rn}{s t u:Mt}(hi:Inn x s)(h:Safe x s t)(hy:aQ y x)(k:Safe y t u):Safe x s u:=by
 have e:Wr (Fr s.S x.base.toNat) t.S u.S:=k.wr.mono λj hj=>by
  rw[hy.1]at hj
  exact(NZ h.wr.al _ _).1 hj
 exact⟨h.wr.trans e,k.pd.trans h.pd,k.pr.trans h.pr,by have:=k.rb;rw[hy.1]at this;exact this,k.pts.trans h.pts,k.said.trans h.said,λha=>(k.out (hy.2.trans ha)).trans (h.out ha)⟩
theorem Inn.next{x y:Rn}{s t:Mt}(hi:Inn x s)(h:Safe x s t)(hy:aQ y x)(hm:y.mode=x.mode)(hd: (dS t).Ok t.S):Inn y t:=by
 have hb: ∀n,t.S.beg n=s.S.beg n:=λn=>h.wr.al.beg n
 exact⟨h.wr.ok,by rw[h.pd,hi.df,hb],by rw[h.pd,hb,hb];exact hi.dm,by rw[h.pr,hi.rf,hb],hm.trans hi.mode,by rw[hy.1];exact hi.b0,by rw[hy.1];exact h.rb,hd⟩
theorem Safe.told{x y:Rn}{s t:Mt}(h:Safe x s t)(op:Int):Safe x s (t.told y op):=by
 rw[gY]
 exact⟨h.wr,h.pd,h.pr,h.rb,h.pts,h.said,h.out⟩
theorem AQ{c:Vc}{src:Value}{x:Rn}{s:Mt}{r:Rs}(hp:WkN c src s)(hi:Inn x s)(hr:kC x s=some r):Safe x s r.s∧aQ r.x x:=by
 rw[lH]at hr
 by_cases hl:x.left=0
 ·rw[if_pos hl]at hr
  obtain rfl:=Option.some.inj hr
  exact⟨Safe.refl hi,⟨rfl,rfl⟩⟩
 rw[if_neg hl]at hr
 generalize (s.S.aE x.mode x.pc).2=f at *
 by_cases hf:f≠0
 ·rw[if_pos hf]at hr
  obtain rfl:=Option.some.inj hr
  exact⟨Safe.refl hi,⟨rfl,rfl⟩⟩
 rw[if_neg hf]at hr
 generalize (s.S.aE x.mode x.pc).1=i at *
 have YN:Inn (nxA x i.cells) s:=⟨hi.img,hi.df,hi.dm,hi.rf,hi.mode,hi.b0,hi.rb,hi.dc⟩
 have hk:aQ (nxA x i.cells) x:=⟨rfl,rfl⟩
 generalize nxA x i.cells=x2 at *
 by_cases ha:asks i x2 s≠0
 ·rw[if_pos ha]at hr
  obtain rfl:=Option.some.inj hr
  exact⟨Safe.refl hi,hk⟩
 rw[if_neg ha]at hr
 rcases ZN:bZ i with _|Q
 ·rw[ZN]at hr;cases hr
 rw[ZN]at hr
 simp only[Option.map_some]at hr
 obtain rfl:=Option.some.inj hr
 have h1:=zl i Q ZN x2 s YN (cw.of (by simpa using ha))
 have h2:=yx i Q ZN x2 s
 have h3:aQ (Q x2 s).x x:=⟨h2.1.trans hk.1,h2.2.trans hk.2⟩
 have h4:Safe x s (Q x2 s).s:=Safe.trans hi (Safe.refl hi) hk h1
 unfold nz
 split
 ·exact⟨h4,h3⟩
 ·exact⟨h4.told _,h3⟩
theorem sR{c:Vc}{src:Value}: ∀(n:Nat) (x:Rn) (s:Mt) (q:Rs),WkN c src s->s.Ok->x.Ok->Inn x s->jl n x s=some q->Safe x s q.s∧aQ q.x x
 | 0,_,_,_,_,_,_,_,h=>by cases h
 | n+1,x,s,q,hp,hs,hx,hi,h=>by
   unfold jl at h
   rcases hr:kC x s with _|r
   ·rw[hr]at h;cases h
   rw[hr]at h
   obtain⟨h1,h2⟩:=AQ hp hi hr
   obtain⟨a1,a2,a3,a4,a5⟩:=yX hp hs hx hr
   obtain⟨_,_,b1,b2⟩:=mN hr
   simp only at h
   by_cases hf:r.f≠0
   ·rw[if_pos hf]at h
    obtain rfl:=Option.some.inj h
    exact⟨h1,h2⟩
   rw[if_neg hf]at h
   by_cases ho:r.x.over=true
   ·rw[if_pos ho]at h
    obtain rfl:=Option.some.inj h
    exact⟨h1,h2⟩
   rw[if_neg ho]at h
   obtain⟨c1,c2⟩:=sR n r.x r.s q a4 a1 (a5 (by simpa using hf)) (hi.next h1 h2 b1 a4.1.dcs.at8.ok) h
   exact⟨Safe.trans hi h1 h2 c1,⟨c2.1.trans h2.1,c2.2.trans h2.2⟩⟩
def Fb(f:Int):Prop:=0<=f∧f<=255
theorem Fb.v64{f:Int}(h:Fb f):V64 f:=by unfold Fb at h;unfold V64;omega
theorem fb0:Fb 0:=by unfold Fb;omega
theorem qa{c:Prop}[Decidable c]{a b:Int}(ha:Fb a)(hb:Fb b):Fb (if c then a else b):=by split;exact ha;exact hb
theorem mT{c:Prop}[Decidable c]{a b:Rs}(ha:Fb a.f)(hb:Fb b.f):Fb (if c then a else b).f:=by split;exact ha;exact hb
theorem mH{c:Prop}[Decidable c]{a b:Rs×List Int}(ha:Fb a.1.f)(hb:Fb b.1.f):Fb (if c then a else b).1.f:=by split;exact ha;exact hb
theorem lY(S:Img)(m a:Int)(b:Bool):Fb (S.ay m a b):=by unfold Img.ay Fb;split;omega;split<;>omega
theorem Dk(S:Img)(m a:Int)(b:Bool):Fb (S.bV m a b):=by unfold Img.bV Fb;split<;>omega
theorem yY(S:Img)(m a n:Int):Fb (S.cD m a n):=by unfold Img.cD Fb;split;omega;split<;>omega
theorem KF(S:Img)(m a b n:Int):Fb (S.fM m a b n):=by unfold Img.fM Fb;split;omega;split<;>omega
theorem La(S:Img)(m a n:Int):Fb (S.gL m a n):=by unfold Img.gL Fb;split;omega;split<;>omega
theorem qH(x:Rn)(n:Int):Fb (aX x n):=by unfold aX Fb;split;omega;split<;>omega
theorem C5(x:Rn)(s:Mt)(a n:Int):Fb (cP x s a n):=qa (yY _ _ _ _) (qH _ _)
theorem zV(T:af.Tab)(m:Int)(b:ByteArray):Fb (af.io T m b):=by
 unfold af.io Fb
 repeat' split
 all_goals omega
theorem NV(T:af.Tab)(m:Int):Fb (af.jI T m):=by
 unfold af.jI Fb
 repeat' split
 all_goals omega
theorem OK(T:af.Tab)(m n:Int):Fb (af.fq T m n):=by
 unfold af.fq Fb
 repeat' split
 all_goals omega
theorem Ms(s:Mt)(n:Nat)(l:List Int):Fb (s.ak n l).1:=by
 unfold Mt.ak Fb
 split
 ·show(0:Int)<=2∧(2:Int)<=255;omega
 ·show(0:Int)<=0∧(0:Int)<=255;omega
theorem re(n:Nat)(l:List Int)(x:Rn)(s:Mt):Fb (aJ n l x s).f:=Ms s n l
theorem cM{n:Nat}{p:Rs×List Int}(h:Fb p.1.f):Fb (Rs.laid n p).f:=mT (re _ _ _ _) h
theorem vn(x:Rn)(s:Mt):Fb (back x s).f:=by unfold back Fb;split<;> (dsimp only;omega)
theorem LL(n:Int)(e:Bool)(a:Int)(x:Rn)(s:Mt):Fb (dx n e a x s).f:=by unfold dx Fb;split<;> (dsimp only;omega)
theorem KB(x:Rn)(s:Mt):Fb (bh x s).f:=by
 unfold bh
 split
 ·unfold Fb;dsimp only;omega
 ·exact mT (lY _ _ _ _) (mT (by unfold Fb;dsimp only;omega) (by unfold Fb;dsimp only;omega))
theorem Dl(m a:Int): ∀(l:List UInt8) (i:Nat) (S:Img),Fb (ed m a i l S).1
 | [],_,_=>fb0
 | b::l,i,S=>by
   unfold ed
   split
   ·exact Dl m a l _ _
   ·exact Dk _ _ _ _
theorem Ml(x:Rn)(s:Mt)(a n:Int):Fb (eh x s a n).1:=by
 unfold eh
 split
 ·exact qH _ _
 split
 ·unfold Fb;dsimp only;omega
 split
 ·exact OK _ _ _
 ·exact Dl _ _ _ _ _
theorem fbk(k:Int)(h:0<=k∧k<=255:=by decide):Fb k:=h
theorem Ix(i:aq)(q:Rn->Mt->Rs)(hq:parts i=some q)(x:Rn)(s:Mt):Fb (q x s).f:=by
 obtain⟨op,arg,lit,cells⟩:=i
 unfold parts at hq
 simp only at hq
 revert hq
 iterate 70 (try (apply eli;·intro _;first|exact fb0|exact re _ _ _ _|exact vn _ _|exact LL _ _ _ _ _|exact mT fb0 fb0|exact cM (qa (fbk 7) fb0) |exact(fbk 16:Fb 16) |exact cM (lY _ _ _ _)))
 intro hq
 cases hq
theorem Es(i:aq)(q:Rn->Mt->Rs)(hq:jQi i=some q)(x:Rn)(s:Mt):Fb (q x s).f:=by
 obtain⟨op,arg,lit,cells⟩:=i
 unfold jQi at hq
 simp only at hq
 revert hq
 iterate 40 (try (apply eli;·intro _;first|exact fb0|exact re _ _ _ _|exact(fbk 15:Fb 15) |exact(fbk 17:Fb 17) |exact mT (vn _ _) fb0|exact mT (vn _ _) (KB _ _) |exact cM fb0|exact cM (qa fb0 (fbk 1)) |exact cM (Dk _ _ _ _) |exact cM (zV _ _ _) |exact cM (NV _ _) |exact cM (Ml _ _ _ _) |exact cM (mH fb0 (fbk 19)) |exact cM (mH (lY _ _ _ _) (lY _ _ _ _)) |exact cM (mH (KF _ _ _ _ _) (qH _ _)) |exact cM (mH (La _ _ _ _) (qH _ _)) |exact cM (mH (zV _ _ _) (C5 _ _ _ _)) |exact cM (mH (zV _ _ _) (fbk 19)) |exact cM (mH fb0 (C5 _ _ _ _)) |exact cM (by unfold Fb;dsimp only;unfold Dc.hU;split<;>omega) |exact cM (by unfold Fb;dsimp only;unfold Dc.bm;repeat' split<;>omega) |exact cM (by unfold Fb;dsimp only;unfold Dc.cA;repeat' split<;>omega) |exact cM (by unfold Fb;dsimp only;unfold Dc.fF;split<;>omega)))
 intro hq
 cases hq
theorem FY(i:aq)(q:Rn->Mt->Rs)(hq:bZ i=some q)(x:Rn)(s:Mt):Fb (q x s).f:=by
 unfold bZ at hq
 rcases h:parts i with _|q1
 ·rw[h]at hq
  exact Es i q hq x s
 ·rw[h]at hq
  obtain rfl:=Option.some.inj hq
  exact Ix i q1 h x s
theorem Mz(i:aq)(x:Rn)(s:Mt):Fb (asks i x s):=by
 unfold asks
 exact qa (fbk _) (qa (fbk _) (qa (fbk _) (qa (fbk _) (qa (fbk _) fb0))))
theorem IB(S:Img)(m a:Int):Fb (S.aE m a).2:=by
 unfold Img.aE
 split
 ·exact lY _ _ _ _
 split
 ·exact(fbk 14:Fb 14)
 split
 ·split
  ·exact lY _ _ _ _
  ·exact fb0
 split
 ·split
  ·exact yY _ _ _ _
  ·exact fb0
 ·exact fb0
theorem CE: ∀(n:Nat) (x:Rn) (s:Mt) (q:Rs),fo bZ n x s=some q->Fb q.f
 | 0,_,_,_,h=>by cases h
 | n+1,x,s,q,h=>by
   unfold fo at h
   rcases hr:stepT bZ x s with _|r
   ·rw[hr]at h;cases h
   rw[hr]at h
   have h1:Fb r.f:=by
    unfold stepT at hr
    split at hr
    ·obtain rfl:=Option.some.inj hr;exact(fbk 13:Fb 13)
    split at hr
    ·obtain rfl:=Option.some.inj hr;exact IB _ _ _
    simp only at hr
    split at hr
    ·obtain rfl:=Option.some.inj hr;exact Mz _ _ _
    rcases hp:bZ (s.S.aE x.mode x.pc).1 with _|Q
    ·rw[hp]at hr;cases hr
    rw[hp]at hr
    simp only[Option.map_some]at hr
    obtain rfl:=Option.some.inj hr
    exact mT (FY _ Q hp _ _) fb0
   simp only at h
   split at h
   ·obtain rfl:=Option.some.inj h;exact h1
   split at h
   ·obtain rfl:=Option.some.inj h;exact h1
   ·exact CE n _ _ _ h
section
variable {w w':World}{F:Nat->Prop}{c:Vc}{g:Nat}{x:Rn}{src:Value}{s:Mt}
def cR(xt:Int)(y:Rn)(s:Mt):Rs:=if s.pr.rm-s.r<1 then⟨4,y,s⟩else(jl (y.left.toNat+1) { y with pc:=xt } (s.az [0])).getD ⟨0,y,s⟩
variable {y:Rn}{xt:Int}
theorem iR(hw:WkN c src s)(hs:s.Ok)(hy:y.Ok)(hm:y.mode=1)(h0:0<=s.T.aC)(h8:s.T.aC<8)(Ua:V64 xt)(OF: ¬s.pr.rm-s.r<1):
 jl (y.left.toNat+1) { y with pc:=xt } (s.az [0])=some (cR xt y s)∧(s.az [0]).Ok∧WkN c src (s.az [0])∧({ y with pc:=xt }:Rn).Ok:=by
 have h1: (s.az [0]).Ok:=eU hs [0] (by show 1<=_;omega)
 have h2:WkN c src (s.az [0]):=hw.dH (dW s [0])
 have h3: ({ y with pc:=xt }:Rn).Ok:=⟨hy.base,hy.dh,hy.next,Ua,hy.left,hy.cG⟩
 obtain⟨q,hq⟩:=rp (y.left.toNat+1) { y with pc:=xt } (s.az [0]) (by show y.left.toNat<_;omega) h2 h1 h3 hm h0 h8
 refine⟨?_,h1,h2,h3⟩
 unfold cR
 rw[if_neg OF,hq]
 rfl
theorem MK(hb: (VA c g y src s).holds w F)(hw:WkN c src s)(hs:s.Ok)(hy:y.Ok)(hm:y.mode=1)(h0:0<=s.T.aC)(h8:s.T.aC<8)(Ua:V64 xt)(RW:fX c s.au)(Sy:s.seen.length+y.left.toNat<1000000000):
 Calls Tryz.prog 41 #[g,xt] w (Got (.returned (.int .i64 (cR xt y s).f)) (VA c g (cR xt y s).x src (cR xt y s).s) F w):=by
 by_cases OF:s.pr.rm-s.r<1
 ·have e:cR xt y s= ⟨4,y,s⟩:=by unfold cR;rw[if_pos OF]
  rw[e]
  exact zC hb hs xt OF
 ·exact CV Ld (y.left.toNat+1) hb ⟨hw,by show s.seen.length+ (y.left.toNat+1)<=1000000000;omega⟩ hs hy xt Ua _ (by rw[<-qw];exact(iR hw hs hy hm h0 h8 Ua OF).1) oM RW
theorem qM(hw:WkN c src s)(hs:s.Ok)(hy:y.Ok)(hm:y.mode=1)(h0:0<=s.T.aC)(h8:s.T.aC<8)(Ua:V64 xt):
 (cR xt y s).s.Ok∧(0<=(cR xt y s).x.left∧(cR xt y s).x.left<=y.left)∧(cR xt y s).s.au=s.au∧WkN c src (cR xt y s).s:=by
 by_cases OF:s.pr.rm-s.r<1
 ·have e:cR xt y s= ⟨4,y,s⟩:=by unfold cR;rw[if_pos OF]
  rw[e]
  exact⟨hs,⟨hy.left,Int.le_refl _⟩,rfl,hw⟩
 ·obtain⟨g1,g2,g3,g4⟩:=iR hw hs hy hm h0 h8 Ua OF
  have h:=zc c src _ _ _ _ g3 g2 g4 g1
  exact h
end
theorem rT{c:Vc}{src:Value}{s:Mt}{y:Rn}{xt:Int}(hw:WkN c src s)(hs:s.Ok)(hy:y.Ok)(hm:y.mode=1)(h0:0<=s.T.aC)(h8:s.T.aC<8)(Ua:V64 xt):Fb (cR xt y s).f:=by
 by_cases OF:s.pr.rm-s.r<1
 ·have e:cR xt y s= ⟨4,y,s⟩:=by unfold cR;rw[if_pos OF]
  rw[e]
  exact(fbk 4:Fb 4)
 ·obtain⟨g1,_⟩:=iR hw hs hy hm h0 h8 Ua OF
  rw[qw]at g1
  exact CE _ _ _ _ g1
theorem mU{c:Vc}{src:Value}{s:Mt}{y:Rn}{xt:Int}(hw:WkN c src s)(hs:s.Ok)(hy:y.Ok)(hm:y.mode=1)(h0:0<=s.T.aC)(h8:s.T.aC<8)(Ua:V64 xt)(hi:Inn y s):Safe y s (cR xt y s).s∧aQ (cR xt y s).x y:=by
 by_cases OF:s.pr.rm-s.r<1
 ·have e:cR xt y s= ⟨4,y,s⟩:=by unfold cR;rw[if_pos OF]
  rw[e]
  exact⟨Safe.refl hi,⟨rfl,rfl⟩⟩
 ·obtain⟨g1,g2,g3,g4⟩:=iR hw hs hy hm h0 h8 Ua OF
  have hp:=Safe.az hi (Safe.refl hi) [0]
  have hk:aQ ({ y with pc:=xt }:Rn) y:=⟨rfl,rfl⟩
  have YN:=hi.next hp hk rfl g3.1.dcs.at8.ok
  obtain⟨a,b⟩:=sR _ _ _ _ g3 g2 g4 YN g1
  exact⟨Safe.trans hi hp hk a,⟨b.1.trans hk.1,b.2.trans hk.2⟩⟩
def jC(x:Rn)(s:Mt):Rn:=⟨1,min (ar s 3 2) x.left,0,0,false,true,(s.r:Int)⟩
def AJ(x:Rn)(s:Mt)(dD:Int)(q:Rs):Rs:=
 aJ 0 [q.f] { x with left:=x.left- (dD-q.x.left) } (if q.f=0 then q.s.cZ s.r else(q.s.cZ s.r).ik s.d)
def dt(x:Rn)(s:Mt):Rs:=
 if 0<=ar s 3 1∧0<=ar s 3 2 then
  (if cP x s (ar s 3 0) (ar s 3 1)=0 then
   (match gV s.S (dS s) (s.S.text x.mode (ar s 3 0) (ar s 3 1)).data.toList with
   | none=>aJ 3 [-1] (x.pay (ar s 3 1)) s
   | some wd=>AJ (x.pay (ar s 3 1)) (s.ak 3 []).2 (jC (x.pay (ar s 3 1)) s).left (cR wd.xt { jC (x.pay (ar s 3 1)) s with base:=((s.ak 3 []).2.r:Int) } (s.ak 3 []).2))
  else⟨cP x s (ar s 3 0) (ar s 3 1),x.pay (ar s 3 1),s⟩)
 else⟨19,x,s⟩
