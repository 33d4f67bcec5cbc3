/- Chapter 11: what a part leaves as it was; that a part goes alike with more fuel. No condition. -/
import Derived.Test.YtngdikikclfgjaaGreatDoorZ28
import Derived.Test.YtngdikikclfgjaaGreatDoorZ23
import Derived.Laws.EntriesVeiled
open Go.Proofs.Tryz
namespace Go.Proofs.YtngdikikclfgjaaGreatDoor
set_option linter.unusedVariables false
set_option linter.unusedSimpArgs false
open Go.RowKit Go.Lib
namespace Vm
theorem setCell_img_ok{S:Img}(h:S.Ok)(m a v:Int): (S.setCell m a v).Ok:=by
 unfold Img.setCell
 split
 ·rename_i hc
  unfold Img.cellF at hc
  split at hc
  ·cases hc
  split at hc
  ·rename_i hr
   obtain⟨h0,h1⟩:=S.row_in hr (by omega)
   exact put_ok h _ _ (by rw[toB_len];omega)
  ·cases hc
 ·exact h
theorem spush_img_ok: ∀(l:List Int) (S:Img) (fr d:Nat),S.Ok->(spush S fr d l).Ok
 | [],S,fr,d,h=>h
 | x::l,S,fr,d,h=>spush_img_ok l _ fr (d+1) (setCell_img_ok h _ _ _)
theorem Alike.setByte(S:Img)(m a:Int)(c:UInt8):Alike S (S.setByte m a c):=by
 unfold Img.setByte
 split
 ·exact Alike.put _ _ _
 ·exact Alike.refl S
structure Near(s s':Mt):Prop where
 al:Alike s.S s'.S
 ok:s.S.Ok->s'.S.Ok
 hs:s'.hs=s.hs
 ls:s'.ls=s.ls
 hk:s'.hk=s.hk
 lk:s'.lk=s.lk
 T:s'.T=s.T
 ext:s'.ext=s.ext
 fa:s'.fault=s.fault
 us:s'.used=s.used
 hd:s'.hidden=s.hidden
theorem Near.refl(s:Mt):Near s s:=⟨Alike.refl _,id,rfl,rfl,rfl,rfl,rfl,rfl,rfl,rfl,rfl⟩
theorem Near.trans{s t u:Mt}(h:Near s t)(g:Near t u):Near s u:=
 ⟨h.al.trans g.al,λo=>g.ok (h.ok o),g.hs.trans h.hs,g.ls.trans h.ls,g.hk.trans h.hk,g.lk.trans h.lk,g.T.trans h.T,g.ext.trans h.ext,g.fa.trans h.fa,g.us.trans h.us,g.hd.trans h.hd⟩
theorem near_S(s:Mt)(S':Img)(h1:Alike s.S S')(h2:s.S.Ok->S'.Ok):Near s { s with S:=S' }:=⟨h1,h2,rfl,rfl,rfl,rfl,rfl,rfl,rfl,rfl,rfl⟩
theorem near_pushD(s:Mt)(l:List Int):Near s (s.pushD l):=⟨Alike.spush _ _ _ _,λh=>spush_img_ok _ _ _ _ h,rfl,rfl,rfl,rfl,rfl,rfl,rfl,rfl,rfl⟩
theorem near_pushR(s:Mt)(l:List Int):Near s (s.pushR l):=⟨Alike.spush _ _ _ _,λh=>spush_img_ok _ _ _ _ h,rfl,rfl,rfl,rfl,rfl,rfl,rfl,rfl,rfl⟩
theorem near_cutD(s:Mt)(n:Nat):Near s (s.cutD n):=⟨Alike.refl _,id,rfl,rfl,rfl,rfl,rfl,rfl,rfl,rfl,rfl⟩
theorem near_cutR(s:Mt)(n:Nat):Near s (s.cutR n):=⟨Alike.refl _,id,rfl,rfl,rfl,rfl,rfl,rfl,rfl,rfl,rfl⟩
theorem near_pokeR(s:Mt)(n:Nat)(v:Int):Near s (s.pokeR n v):=⟨Alike.sset _ _ _ _,λh=>setCell_img_ok h _ _ _,rfl,rfl,rfl,rfl,rfl,rfl,rfl,rfl,rfl⟩
theorem near_lays(s:Mt)(n:Nat)(l:List Int):Near s (s.lays n l).2:=by
 unfold Mt.lays
 split
 ·exact near_cutD _ _
 ·exact(near_cutD _ _).trans (near_pushD _ _)
theorem near_setCell(s:Mt)(m a v:Int):Near s { s with S:=s.S.setCell m a v }:=near_S s _ (Alike.setCell _ _ _ _) λh=>setCell_img_ok h _ _ _
theorem near_back(x:Rn)(s:Mt):Near s (back x s).s:=by
 unfold back
 split
 ·exact Near.refl s
 ·exact⟨Alike.refl _,id,rfl,rfl,rfl,rfl,rfl,rfl,rfl,rfl,rfl⟩
theorem near_turn(n:Int)(e:Bool)(a:Int)(x:Rn)(s:Mt):Near s (turn n e a x s).s:=by
 unfold turn
 split
 ·exact near_cutR _ _
 ·exact near_pokeR _ _ _
theorem near_laysR(n:Nat)(l:List Int)(x:Rn)(s:Mt):Near s (laysR n l x s).s:=near_lays s n l
theorem near_laid(n:Nat)(p:Rs×List Int)(s:Mt)(h:Near s p.1.s):Near s (Rs.laid n p).s:=by
 unfold Rs.laid
 split
 ·exact h.trans (near_lays _ _ _)
 ·exact h
def Rn.up(x:Rn)(k:Int):Rn:={ x with left:=x.left+k }
def Mt.sn(s:Mt)(l:List Stp):Mt:={ s with seen:=l }
def Rs.up(q:Rs)(k:Int)(l:List Stp):Rs:=⟨q.f,q.x.up k,q.s.sn l⟩
def Flat(q:Rn->Mt->Rs):Prop:= ∀x s k l,q (x.up k) (s.sn l)= (q x s).up k l
theorem lays_sn(s:Mt)(n:Nat)(l:List Int)(t:List Stp): (s.sn t).lays n l= ((s.lays n l).1,(s.lays n l).2.sn t):=by
 unfold Mt.lays
 show(if s.pd.rm- (s.d-n) <l.length then _ else _)=_
 split<;>rfl
def FlatP(q:Rn->Mt->Rs×List Int):Prop:= ∀x s k l,q (x.up k) (s.sn l)= ((q x s).1.up k l,(q x s).2)
theorem FlatP.laid{q:Rn->Mt->Rs×List Int}(h:FlatP q)(n:Nat):Flat (λx s=>Rs.laid n (q x s)):=by
 intro x s k l
 show Rs.laid n (q (x.up k) (s.sn l))=_
 rw[h]
 show _= (Rs.laid n (q x s)).up k l
 unfold Rs.laid
 show(if(q x s).1.f=0 then laysR n (q x s).2 ((q x s).1.x.up k) ((q x s).1.s.sn l)else _)=_
 split
 ·unfold laysR
  rw[lays_sn]
  rfl
 ·rfl
structure Fu(q:Rn->Mt->Rs):Prop where
 up: ∀x s k l,0<=k->(q x s).f≠13->q (x.up k) (s.sn l)= (q x s).up k l
 stop: ∀x s k l,0<=k->(q x s).f=13->(q (x.up k) (s.sn l)).f≠13->(q (x.up k) (s.sn l)).x.left<k
 out: ∀x s,∃t:List UInt8,(q x s).s.T.out.data.toList=s.T.out.data.toList++t
 out13: ∀x s,(q x s).f=13->(q x s).s.T.out=s.T.out
end Vm
set_option maxRecDepth 100000
open Go.RowKit Go.Lib Go.Deep
namespace Vm
section
variable {w w':World}{F:Nat->Prop}{c:Vc}{s:Mt}{L:List Asr}{gI gb:Nat}{S:Img}
theorem x_data(h:Blk w c.gM 104 (machC c s)):Calls prog 10 #[.pointer (some ⟨c.gM,0,none⟩)] w (Same (.pointer (some ⟨c.gD,0,none⟩)) w):=by
 have c5:w.cell? (c.gM,5)=some (.pointer (some ⟨c.gD,0,none⟩)):=h.cell 5
 clear h
 go_enter func10,ntmps10
 go_wp2
 go_ret
 exact⟨rfl,rfl⟩
theorem x_told(h:On F w (AllA (MachA c s::L)) w')(ft us hd:Int):Calls prog 31 #[.pointer (some ⟨c.gM,0,none⟩),ft,us,hd] w' (Got (.returned (.tuple #[])) (AllA (MachA c { s with fault:=ft,used:=us,hidden:=hd }::L)) F w):=by
 have hb:Blk w' c.gM 104 (machC c s):=h.blkAt 0 rfl
 have c8:w'.cell? (c.gM,8)=some (s.fault:Vl):=hb.cell 8
 have c9:w'.cell? (c.gM,9)=some (s.used:Vl):=hb.cell 9
 have c10:w'.cell? (c.gM,10)=some (s.hidden:Vl):=hb.cell 10
 have f8:=hb.frozen 8
 have f9:=hb.frozen 9
 have f10:=hb.frozen 10
 have hfin:=((h.setAt 0 rfl 8 (.int .i64 ft)).setAt 0 rfl 9 (.int .i64 us)).setAt 0 rfl 10 (.int .i64 hd)
 replace hfin:=hid hfin
 clear hb h
 go_enter func31,ntmps31
 go_wp2
 refine bodyPost_end (v:= .tuple #[]) (results_none (by rfl) _ _ _) (by rfl) ⟨rfl,?_⟩
 exact hfin.out
def Vc.tells(c:Vc)(v:Value)(tl:List Stp->Asr)(rest:Ext->List Asr):Vc:={ c with tell:=v,tl:=tl,rest:=rest }
theorem x_watch(h:On F w (AllA (MachA c s::L)) w')(ht:c.tell = .nilFunc)(fn:Fn)(first cap:Array Value)(tl:List Stp->Asr)(rest:Ext->List Asr):Calls prog 32 #[.pointer (some ⟨c.gM,0,none⟩),.func fn first cap] w' (Got (.returned (.tuple #[])) (AllA (MachA (c.tells (.func fn first cap) tl rest) s::L)) F w):=by
 have hb:Blk w' c.gM 104 (machC c s):=h.blkAt 0 rfl
 have c7:w'.cell? (c.gM,7)=some c.tell:=hb.cell 7
 rw[ht]at c7
 have f7:=hb.frozen 7
 have hfin:=h.setAt 0 rfl 7 (.func fn first cap)
 replace hfin:=hid hfin
 clear hb h ht
 go_enter func32,ntmps32
 go_wp2
 refine bodyPost_end (v:= .tuple #[]) (results_none (by rfl) _ _ _) (by rfl) ⟨rfl,?_⟩
 exact hfin.out
def MadeDict(gI fr en rg:Nat)(e:Ending)(B:Asr):Prop:= ∃g,e = .returned (.tuple #[.pointer (some ⟨g,0,none⟩),(0:Int)])∧B=DcA gI g fr en ⟨rg,fr,0⟩
theorem n_dict(hi:IRep w gI gb S)(rg:Nat)(hrg:rg=1∨rg=3):Calls prog 19 #[.pointer (some ⟨gI,0,none⟩),(rg:Int)] w (PostE (MadeDict gI (S.beg rg+8) (S.beg (rg+1)) rg) Nob w):=by
 have hon:=On.refl (A:=AllA []) (F:=Nob) (w:=w) (λ_ h=>h)
 have hsm:S.beg rg<=143360:=by
  rcases hrg with rfl|rfl
  ·show 0<=_;omega
  ·exact Nat.le_trans (S.beg_mono (by omega) (by omega) (by omega)) hi.ok.small
 have hsp:=i_span hi rg (by rcases hrg with rfl|rfl<;>omega) (by rcases hrg with rfl|rfl<;>omega)
 generalize S.beg rg=b at *
 generalize S.beg (rg+1)=en at *
 replace hsp:=hid hsp
 replace hon:=hid hon
 clear hi
 have hb8: ((b+8:Nat):Int)= (b:Int) +8:=by omega
 rcases hrg with rfl|rfl
 ·go_enter func19,ntmps19
  go_wp2_with fail
  refine hsp.out.mono ?_
  rintro e w1 ⟨rfl,n,rfl⟩
  have hfin:=(hon.out.drewN n).box (dictC gI (b+8) en ((b+8:Nat):Int) 0) 102
  replace hfin:=hid hfin
  go_wp2
  go_ret2
  exact⟨_,⟨_,rfl,rfl⟩,hfin.out.ofOne⟩
 ·go_enter func19,ntmps19
  go_wp2_with fail
  refine hsp.out.mono ?_
  rintro e w1 ⟨rfl,n,rfl⟩
  have hfin:=(hon.out.drewN n).box (dictC gI (b+8) en ((b+8:Nat):Int) 0) 102
  replace hfin:=hid hfin
  go_wp2
  go_ret2
  exact⟨_,⟨_,rfl,rfl⟩,hfin.out.ofOne⟩
end
end Vm
end Go.Proofs.YtngdikikclfgjaaGreatDoor
