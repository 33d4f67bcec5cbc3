/- Chapter 11: what a part leaves as it was; that a part goes alike with more fuel. No condition. -/
import Derived.Test.YteaijdgnagkllaaGreatDoorZd29
import Derived.Test.YteaijdgnagkllaaGreatDoorZd37
namespace Go.Proofs.YteaijdgnagkllaaGreatDoor
set_option linter.unusedVariables false
set_option linter.unusedSimpArgs false
open Go.RowKit Go.Lib
namespace Vm
theorem setCell_img_ok{S:Img}(h:S.Ok)(m a v:Int): (S.setCell m a v).Ok:=by
 unfold Img.setCell
 split
 ·rename_i hc
  unfold Img.cellF at hc
  split at hc
  ·cases hc
  split at hc
  ·rename_i hr
   obtain⟨h0,h1⟩:=S.row_in hr (by omega)
   exact put_ok h _ _ (by rw[toB_len];omega)
  ·cases hc
 ·exact h
theorem spush_img_ok: ∀(l:List Int) (S:Img) (fr d:Nat),S.Ok->(spush S fr d l).Ok
 | [],S,fr,d,h=>h
 | x::l,S,fr,d,h=>spush_img_ok l _ fr (d+1) (setCell_img_ok h _ _ _)
theorem Alike.setByte(S:Img)(m a:Int)(c:UInt8):Alike S (S.setByte m a c):=by
 unfold Img.setByte
 split
 ·exact Alike.put _ _ _
 ·exact Alike.refl S
structure Near(s s':Mt):Prop where
 al:Alike s.S s'.S
 ok:s.S.Ok->s'.S.Ok
 hs:s'.hs=s.hs
 ls:s'.ls=s.ls
 hk:s'.hk=s.hk
 lk:s'.lk=s.lk
 T:s'.T=s.T
 ext:s'.ext=s.ext
 fa:s'.fault=s.fault
 us:s'.used=s.used
 hd:s'.hidden=s.hidden
theorem Near.refl(s:Mt):Near s s:=⟨Alike.refl _,id,rfl,rfl,rfl,rfl,rfl,rfl,rfl,rfl,rfl⟩
theorem Near.trans{s t u:Mt}(h:Near s t)(g:Near t u):Near s u:=
 ⟨h.al.trans g.al,λo=>g.ok (h.ok o),g.hs.trans h.hs,g.ls.trans h.ls,g.hk.trans h.hk,g.lk.trans h.lk,g.T.trans h.T,g.ext.trans h.ext,g.fa.trans h.fa,g.us.trans h.us,g.hd.trans h.hd⟩
theorem near_S(s:Mt)(S':Img)(h1:Alike s.S S')(h2:s.S.Ok->S'.Ok):Near s { s with S:=S' }:=⟨h1,h2,rfl,rfl,rfl,rfl,rfl,rfl,rfl,rfl,rfl⟩
theorem near_pushD(s:Mt)(l:List Int):Near s (s.pushD l):=⟨Alike.spush _ _ _ _,λh=>spush_img_ok _ _ _ _ h,rfl,rfl,rfl,rfl,rfl,rfl,rfl,rfl,rfl⟩
theorem near_pushR(s:Mt)(l:List Int):Near s (s.pushR l):=⟨Alike.spush _ _ _ _,λh=>spush_img_ok _ _ _ _ h,rfl,rfl,rfl,rfl,rfl,rfl,rfl,rfl,rfl⟩
theorem near_cutD(s:Mt)(n:Nat):Near s (s.cutD n):=⟨Alike.refl _,id,rfl,rfl,rfl,rfl,rfl,rfl,rfl,rfl,rfl⟩
theorem near_cutR(s:Mt)(n:Nat):Near s (s.cutR n):=⟨Alike.refl _,id,rfl,rfl,rfl,rfl,rfl,rfl,rfl,rfl,rfl⟩
theorem near_pokeR(s:Mt)(n:Nat)(v:Int):Near s (s.pokeR n v):=⟨Alike.sset _ _ _ _,λh=>setCell_img_ok h _ _ _,rfl,rfl,rfl,rfl,rfl,rfl,rfl,rfl,rfl⟩
theorem near_lays(s:Mt)(n:Nat)(l:List Int):Near s (s.lays n l).2:=by
 unfold Mt.lays
 split
 ·exact near_cutD _ _
 ·exact(near_cutD _ _).trans (near_pushD _ _)
theorem near_setCell(s:Mt)(m a v:Int):Near s { s with S:=s.S.setCell m a v }:=near_S s _ (Alike.setCell _ _ _ _) λh=>setCell_img_ok h _ _ _
theorem near_back(x:Rn)(s:Mt):Near s (back x s).s:=by
 unfold back
 split
 ·exact Near.refl s
 ·exact⟨Alike.refl _,id,rfl,rfl,rfl,rfl,rfl,rfl,rfl,rfl,rfl⟩
theorem near_turn(n:Int)(e:Bool)(a:Int)(x:Rn)(s:Mt):Near s (turn n e a x s).s:=by
 unfold turn
 split
 ·exact near_cutR _ _
 ·exact near_pokeR _ _ _
theorem near_laysR(n:Nat)(l:List Int)(x:Rn)(s:Mt):Near s (laysR n l x s).s:=near_lays s n l
theorem near_laid(n:Nat)(p:Rs×List Int)(s:Mt)(h:Near s p.1.s):Near s (Rs.laid n p).s:=by
 unfold Rs.laid
 split
 ·exact h.trans (near_lays _ _ _)
 ·exact h
def Rn.up(x:Rn)(k:Int):Rn:={ x with left:=x.left+k }
def Mt.sn(s:Mt)(l:List Stp):Mt:={ s with seen:=l }
def Rs.up(q:Rs)(k:Int)(l:List Stp):Rs:=⟨q.f,q.x.up k,q.s.sn l⟩
def Flat(q:Rn->Mt->Rs):Prop:= ∀x s k l,q (x.up k) (s.sn l)= (q x s).up k l
theorem lays_sn(s:Mt)(n:Nat)(l:List Int)(t:List Stp): (s.sn t).lays n l= ((s.lays n l).1,(s.lays n l).2.sn t):=by
 unfold Mt.lays
 show(if s.pd.rm- (s.d-n) <l.length then _ else _)=_
 split<;>rfl
def FlatP(q:Rn->Mt->Rs×List Int):Prop:= ∀x s k l,q (x.up k) (s.sn l)= ((q x s).1.up k l,(q x s).2)
theorem FlatP.laid{q:Rn->Mt->Rs×List Int}(h:FlatP q)(n:Nat):Flat (λx s=>Rs.laid n (q x s)):=by
 intro x s k l
 show Rs.laid n (q (x.up k) (s.sn l))=_
 rw[h]
 show _= (Rs.laid n (q x s)).up k l
 unfold Rs.laid
 show(if(q x s).1.f=0 then laysR n (q x s).2 ((q x s).1.x.up k) ((q x s).1.s.sn l)else _)=_
 split
 ·unfold laysR
  rw[lays_sn]
  rfl
 ·rfl
structure Fu(q:Rn->Mt->Rs):Prop where
 up: ∀x s k l,0<=k->(q x s).f≠13->q (x.up k) (s.sn l)= (q x s).up k l
 stop: ∀x s k l,0<=k->(q x s).f=13->(q (x.up k) (s.sn l)).f≠13->(q (x.up k) (s.sn l)).x.left<k
 out: ∀x s,∃t:List UInt8,(q x s).s.T.out.data.toList=s.T.out.data.toList++t
 out13: ∀x s,(q x s).f=13->(q x s).s.T.out=s.T.out
end Vm
end Go.Proofs.YteaijdgnagkllaaGreatDoor
