/- Chapter 3: the document's image: the secret laid; a cell. Conditions: as written. -/
import Derived.Test.YtngdikikclfgjaaGreatDoorZ20
import Derived.Test.YtngdikikclfgjaaGreatDoorZ30
import Derived.Test.YtngdikikclfgjaaGreatDoorZ21
open Go.Proofs.Tryz
namespace Go.Proofs.YtngdikikclfgjaaGreatDoor
set_option linter.unusedVariables false
set_option linter.unusedSimpArgs false
set_option maxHeartbeats 8000000
set_option maxRecDepth 100000
open Go.RowKit Go.Lib Go.Deep
namespace Vm
def rimL(gM gb:Nat)(S:Img):List Asr:=[BlkA gM 121 (rimgCells gb S),RbA gb S]
section
variable {w w1:World}{F:Nat->Prop}{gM gb:Nat}{S:Img}
theorem rim_rep(h:On F w (AllA (rimL gM gb S)) w1)(hS:S.Ok):IRRep w1 gM gb S:=rep_of (L:=rimL gM gb S) h 0 1 rfl rfl hS
theorem rim_put{k:Nat}{l:List UInt8}(h:On F w (AllA [BlkA gM 121 (rimgCells gb S),RbA gb (S.put k l)]) w1):On F w (AllA (rimL gM gb (S.put k l))) w1:=by
 unfold rimL
 rw[rimg_alike gb (Alike.put S k l)]
 exact h
theorem fill_len(S:Img)(l:List UInt8)(h:l.length<=S.s): (l++List.replicate (S.s-l.length) (0:UInt8)).length=S.s:=by simp;omega
theorem r_load(h:On F w (AllA (rimL gM gb S)) w1)(hS:S.Ok)(s:ByteArray)(hs:s.size<=S.s)(hs2:S.s<=4096):
 Calls prog 27 #[gM,.string s] w1 (Got (.returned (.int .i64 0)) (AllA (rimL gM gb (Setup.load S s.data.toList))) F w):=by
 have hnl:s.data.toList.length=s.size:=by rw[Lib.size_eq]
 have hspan:=r_span (rim_rep h hS) 2
 have ha:spanFrom S 2= (S.beg 2:Int):=by unfold spanFrom;rw[if_pos oM];rfl
 have hb:spanTo S 2= ((S.beg 2+S.s:Nat):Int):=by unfold spanTo;rw[if_pos oM];rfl
 rw[ha,hb]at hspan
 have hfl:=fill_len S s.data.toList (by rw[hnl];exact hs)
 have hall:S.beg 2+S.s<=S.beg 6:=by simp only[Img.beg];omega
 have hsm:=hS.small
 have hlen:=hS.len
 have e:Setup.load S s.data.toList=S.put (S.beg 2) (s.data.toList++List.replicate (S.s-s.data.toList.length) 0):=rfl
 rw[e]
 have hgl: ∀j,j<s.size->(s.data.toList++List.replicate (S.s-s.data.toList.length) (0:UInt8)).getD j 0=s.data.toList.getD j 0:=λj hj=>by
  rw[List.getD_eq_getElem?_getD,List.getElem?_append_left (by rw[hnl];exact hj),List.getD_eq_getElem?_getD]
 have hgz: ∀j,s.size<=j->(s.data.toList++List.replicate (S.s-s.data.toList.length) (0:UInt8)).getD j 0=0:=λj hj=>by
  rw[List.getD_eq_getElem?_getD,List.getElem?_append_right (by rw[hnl];exact hj),List.getElem?_replicate]
  split<;>rfl
 have hix:=λ(j:Nat) (h:j<s.size)=>idx_str s j h
 generalize hfull:s.data.toList++List.replicate (S.s-s.data.toList.length) (0:UInt8)=full at *
 have hB: ∀(j:Nat) W,j<S.s->On F w (AllA [BlkA gM 121 (rimgCells gb S),RbA gb (S.put (S.beg 2) (full.take j))]) W->
  (W.cell? (gM,1)=some ((S.s:Int):Vl)∧W.cell? (gM,5)=some (.slice gb (S.beg 6) (S.beg 6)))∧(∃x,W.cell? ⟨gb,S.beg 2+j,none⟩=some (.int .u8 x))∧W.frozen? ⟨gb,S.beg 2+j,none⟩=false∧gM≠gb:=λj W hj h=>by
  have h1:Blk W gM 121 (rimgCells gb S):=h.blkAt 0 rfl
  have h2:Blk W gb 5 (bcells (S.put (S.beg 2) (full.take j)).b).toArray:=h.blkAt 1 rfl
  have hl2: (S.put (S.beg 2) (full.take j)).b.length=S.b.length:=S.put_len _ _ (by rw[List.length_take,hlen];omega)
  refine⟨⟨h1.cell 1,h1.cell 5⟩,⟨((S.put (S.beg 2) (full.take j)).b.getD (S.beg 2+j) 0).toNat,?_⟩,h2.frozen _,h1.ne_ h2 (by decide)⟩
  rw[h2.cell]
  have h3:S.beg 2+j< (S.put (S.beg 2) (full.take j)).b.length:=by omega
  simp[bcells,h3]
 have hset: ∀(j:Nat) W,j<S.s->On F w (AllA [BlkA gM 121 (rimgCells gb S),RbA gb (S.put (S.beg 2) (full.take j))]) W->∀(W2:World),On F w (AllA [BlkA gM 121 (rimgCells gb S),BlkA gb 5 ((bcells (S.put (S.beg 2) (full.take j)).b).toArray.setIfInBounds (S.beg 2+j) (.int .u8 ((full.getD j 0).toNat:Int)))]) W2->
  On F w (AllA [BlkA gM 121 (rimgCells gb S),RbA gb (S.put (S.beg 2) (full.take (j+1)))]) W2:=λj W hj h W2 h2=>by
  have e:=putL_snoc S.b (S.beg 2) full j (by rw[hfl];exact hj) (by rw[hlen];omega)
  have e2: (bcells (S.put (S.beg 2) (full.take j)).b).toArray.setIfInBounds (S.beg 2+j) (.int .u8 ((full.getD j 0).toNat:Int))= (bcells (S.put (S.beg 2) (full.take (j+1))).b).toArray:=e
  rw[e2]at h2
  exact h2
 have hone: ∀(j:Nat) W,j<S.s->On F w (AllA [BlkA gM 121 (rimgCells gb S),RbA gb (S.put (S.beg 2) (full.take j))]) W->s.size<=j->On F w (AllA [BlkA gM 121 (rimgCells gb S),RbA gb (S.put (S.beg 2) (full.take (j+1)))]) (W.setCell ⟨gb,S.beg 2+j,none⟩ (.int .u8 0)):=λj W hj h hz=>by
  have h2:=h.setAt 1 rfl (S.beg 2+j) (.int .u8 0)
  refine hset j W hj h _ ?_
  rw[hgz j hz]
  exact h2
 have htwo: ∀(j:Nat) W,j<S.s->On F w (AllA [BlkA gM 121 (rimgCells gb S),RbA gb (S.put (S.beg 2) (full.take j))]) W->j<s.size->On F w (AllA [BlkA gM 121 (rimgCells gb S),RbA gb (S.put (S.beg 2) (full.take (j+1)))]) ((W.setCell ⟨gb,S.beg 2+j,none⟩ (.int .u8 0)).setCell ⟨gb,S.beg 2+j,none⟩ (.int .u8 ((s.data.toList.getD j 0).toNat:Int))):=λj W hj h hz=>by
  have h1:=h.setAt 1 rfl (S.beg 2+j) (.int .u8 0)
  have h2:=h1.setAt 1 rfl (S.beg 2+j) (.int .u8 ((s.data.toList.getD j 0).toNat:Int))
  refine hset j W hj h _ ?_
  rw[hgl j hz]
  rw[Array.setIfInBounds_setIfInBounds]at h2
  exact h2
 have hend:=λW (h:On F w (AllA [BlkA gM 121 (rimgCells gb S),RbA gb (S.put (S.beg 2) (full.take S.s))]) W)=>(by
  rw[List.take_of_length_le (by rw[hfl];exact Nat.le_refl _)]at h
  exact rim_put h:On F w (AllA (rimL gM gb (S.put (S.beg 2) full))) W)
 have hst: ∀W,On F w (AllA (rimL gM gb S)) W->On F w (AllA [BlkA gM 121 (rimgCells gb S),RbA gb (S.put (S.beg 2) (full.take 0))]) W:=λW h=>by
  rw[List.take_zero,Img.put_nil]
  exact h
 have c1:w1.cell? (gM,1)=some ((S.s:Int):Vl):=(rim_rep h hS).cells.2.1
 generalize S.put (S.beg 2) full=Sf at *
 generalize S.beg 2=b at *
 generalize S.beg 6=N at *
 generalize S.s=n at *
 replace h:=hid h
 replace hspan:=hid hspan
 replace hix:=hid hix
 replace hB:=hid hB
 replace hone:=hid hone
 replace htwo:=hid htwo
 replace hend:=hid hend
 replace hst:=hid hst
 clear hset hgl hgz ha hb hfl e hnl hfull hlen hS
 go_enter func27,ntmps27
 go_wp2_with fail
 refine mo hspan.out λw2 hbl=>?_
 have h2:=hid (hst.out _ (h.out.below hbl))
 clear hbl h c1
 go_wp2
 go_loopg [7] n (λk t wr=> ∃j:Nat,j+k=n∧t = .int .i64 (j:Int)∧On F w (AllA [BlkA gM 121 (rimgCells gb S),RbA gb (S.put b (full.take j))]) wr)
 case atStart=>exact⟨0,by omega,rfl,h2.out⟩
 case round=>
  obtain⟨j,hj,rfl,hon⟩:=hrel
  by_cases hjn:j<n
  ·obtain⟨⟨c1,c5⟩,⟨xo,cx⟩,fx,hne⟩:=hB.out j wr hjn hon
   by_cases hz:j<s.size
   ·have hf:=hid (htwo.out j wr hjn hon hz)
    have hx:=hix.out j hz (wr.setCell ⟨gb,b+j,none⟩ (.int .u8 0)).drew
    replace hon:=hid hon
    generalize ((s.data.toList.getD j 0).toNat:Int)=c at *
    go_wp2_with fail
    go_region
    go_wp2
    go_roundg (gk-1)
    case measure=>omega
    case rel=>exact⟨j+1,by omega,by go_num,hf.out.drew⟩
   ·have hf:=hid (hone.out j wr hjn hon oM)
    replace hon:=hid hon
    go_wp2
    go_roundg (gk-1)
    case measure=>omega
    case rel=>exact⟨j+1,by omega,by go_num,hf.out⟩
  ·have hjj:j=n:=by omega
   subst hjj
   replace hon:=hid (hend.out _ hon)
   go_wp2
   go_ret
   exact⟨rfl,hon.out⟩
end
structure Bc where
 gB:Nat
 gI:Nat
 gK:Nat
 gS:Nat
 gT:Nat
 gP:Nat
 gM:Nat
 gW:Nat
def bothC(b:Bc)(v:Value):Array Value:=#[b.gI,b.gK,b.gS,b.gT,b.gP,b.gM,b.gW,v]
def stepC(p:Stp):List Value:=[.int .i64 p.at_,.int .i64 p.op,.int .i64 p.dep,.int .i64 p.top,.int .i64 p.fuel]
def stepsC(l:List Stp):List Value:=l.flatMap stepC
theorem stepsC_snoc(l:List Stp)(p:Stp):stepsC (l ++ [p])=stepsC l++stepC p:=by simp[stepsC]
theorem step_one(p:Stp): ∀u∈stepC p,u.oneCell'=true:=by
 intro u hu
 unfold stepC at hu
 simp only[List.mem_cons,List.mem_nil_iff,or_false]at hu
 rcases hu with rfl|rfl|rfl|rfl|rfl<;>rfl
theorem info_step: (prog.info? 154).map (λi=>(i.zero,i.size,i.bytes))=some (some (.agg #[(0:Int),(0:Int),(0:Int),(0:Int),(0:Int)]),5,40):=by kernel_rfl
def bothL(b:Bc)(l:List Stp)(v:Value):List Asr:=[BlkA b.gB 46 (bothC b v),RowK 154 5 v l.length (stepsC l)]
def BothA(b:Bc)(l:List Stp):Asr where
 holds w F:= ∃v,All (bothL b l v) w F
 lt h hk:=let⟨_,h⟩:=h;All.lt h hk
 kept h hk hT:=let⟨v,h⟩:=h;⟨v,h.kept hk hT⟩
theorem step_news{w:World}{B:Nat}{t:TypeId}{a1 a2 a3 a4 a5:Int}(hb:Blk w B t #[a1,a2,a3,a4,a5]): ∀j u,[Value.int .i64 a1,.int .i64 a2,.int .i64 a3,.int .i64 a4,.int .i64 a5][j]? = some u->w.cell? ((⟨B,0,none⟩:Addr).add j)=some u:=
 λj u hu=>World.news_of_block hb j u hu
theorem both_tell(b:Bc)(l:List Stp)(p:Stp)(w:World)(F:Nat->Prop)(hl:l.length<1000000000)(hb: (BothA b l).holds w F):
 Calls prog 33 #[b.gB,.agg #[(p.at_:Int),p.op,p.dep,p.top,p.fuel]] w (Got (.returned (.tuple #[])) (BothA b (l ++ [p])) F w):=by
 obtain⟨v,hb⟩:=hb
 have hon:On F w (AllA (bothL b l v)) w:=On.refl hb
 have hbl:Blk w b.gB 46 (bothC b v):=hon.blkAt 0 rfl
 have c7:w.cell? (b.gB,7)=some v:=hbl.cell 7
 obtain⟨F1,hR⟩:=hon.at_ 1 rfl
 have hown:=hR.1
 obtain⟨i0,hi0,hz0,hz1,hz2⟩:=info_parts info_step
 have hlt:=hbl.lt
 have hone:=step_one p
 have hsn:=stepsC_snoc l p
 have hlen1: (l ++ [p]).length=l.length+1:=by simp
 have hnl:l.length+1<=maxLen∧(l.length+1)*40<=140737488355328:=by unfold maxLen;omega
 have hfin:=λ(w2 w3:World) (sg cap:Nat) (hon:On F w (AllA (bothL b l v)) w2) (hG:w3.ownsRow 0 154 5 (.slice sg (l.length+1) cap) (l.length+1) (stepsC l++stepC p)) (hgrow:w2.grownBy w3 v.ownBlock) (hat:v.ownBlock=some sg∨sg=w2.heap.size)=>(by
  have h1:=hon.growAt 1 rfl hG hgrow (grew_at hat)
  have h2:=h1.setAt 0 rfl 7 (.slice sg (l.length+1) cap)
  rw[<-hsn,<-hlen1]at h2
  have h3:On F w (AllA (bothL b (l ++ [p]) (.slice sg (l ++ [p]).length cap))) (w3.setCell (b.gB,7) (.slice sg (l ++ [p]).length cap)):=h2
  rw[hlen1]at h3
  exact h3.mono λF' ha=>⟨_,ha⟩:On F w (BothA b (l ++ [p])) (w3.setCell (b.gB,7) (.slice sg (l.length+1) cap)))
 have hne:v.ownBlock≠some b.gB:=λe=>by
  obtain⟨F1,F2,h1,h2,hd⟩:=hon.apart 0 1 (by decide) rfl rfl
  exact hd b.gB ((h1.2 _).2 rfl) ((h2.2 _).2 e)
 obtain⟨at_,op,dep,top,fuel⟩:=p
 have hc7:=λw2 (h:On F w (AllA (bothL b l v)) w2)=>(show Blk w2 b.gB 46 (bothC b v)from h.blkAt 0 rfl)
 have hone': ∀u∈[Value.int .i64 at_,.int .i64 op,.int .i64 dep,.int .i64 top,.int .i64 fuel],u.oneCell'=true:=hone
 replace hon:=hid hon
 replace hown:=hid hown
 replace hi0:=hid hi0
 replace hz0:=hid hz0
 replace hz1:=hid hz1
 replace hz2:=hid hz2
 replace hone':=hid hone'
 replace hnl:=hid hnl
 replace hfin:=hid hfin
 replace hc7:=hid hc7
 replace hbl:=hid hbl
 replace hne:=hid hne
 clear hb hsn hlen1 hone hR
 show Calls prog 33 #[b.gB,.agg #[at_,op,dep,top,fuel]] w _
 go_enter func33,ntmps33
 go_wp2_with fail
 go_region_law ((refine step_append_lies _ rfl (.tmp 8) (.tmp 10) 44 rfl 0 154 i0 (.agg #[(0:Int),(0:Int),(0:Int),(0:Int),(0:Int)]) 5 40 ?_ ?_ ?_ ?_ ?_ ?_ ?_ v l.length (stepsC l) ?_ ?_ ⟨w.heap.size+1,0,none⟩ 1 1 [.int .i64 at_,.int .i64 op,.int .i64 dep,.int .i64 top,.int .i64 fuel] ?_ ?_ ?_ ?_ ?_ ?_ ?_ ?_ (w.heap.size+1+1) ?_ ?_;exact underlying44;exact hi0.out;exact hz0.out;exact hz1.out;exact hz2.out;rfl;omega;rfl;exact ownsRow_drew ((hown.out.alloc _).alloc _);rfl;rfl;refine step_news (t:=154) ?_;refine Blk.drew (Blk.new' ?_);simp;exact hone'.out;omega;exact hnl.out.1;exact hnl.out.2;omega;simp;intro sg cap w3 hG hgrow hat hlt3;have hB1:=Blk.grown ((hbl.out.alloc _).alloc _).drew hgrow (λe=>hne.out e.symm);have c7b:=hB1.cell 7;have f7b:=hB1.frozen 7;simp[bothC]at c7b))
 all_goals
  have hd:=hfin.out _ w3 sg cap ((hon.out.alloc _).alloc _).drew hG hgrow (by
   rcases hat with h|h
   ·exact .inl h
   ·exact .inr (by rw[h];simp))
  go_end0
  exact⟨rfl,hd⟩
def ptrsC(l:List Nat):List Value:=l.map λg=> .pointer (some ⟨g,0,none⟩)
def newC(gI gS gT gP:Nat)(ws d r:Value):Array Value:=#[gI,gS,ws,gT,gP,d,r,.nilFunc,(0:Int),(0:Int),(0:Int)]
def RowP(v:Value)(l:List Nat):Asr:=RowK 39 1 v l.length (ptrsC l)
theorem info_dp: (prog.info? 39).map (λi=>(i.zero,i.size,i.bytes))=some (some (.pointer none),1,8):=by kernel_rfl
theorem ptr_news{w:World}{B:Nat}{t:TypeId}{g:Nat}(hb:Blk w B t #[g]): ∀j u,[Value.pointer g][j]? = some u->w.cell? ((⟨B,0,none⟩:Addr).add j)=some u:=λj u hu=>World.news_of_block hb j u hu
theorem ptr_one(g:Nat): ∀u∈[Value.pointer (some (⟨g,0,none⟩:Addr))],u.oneCell'=true:=λu hu=>by rw[List.mem_singleton.1 hu];rfl
section
variable {w:World}{F:Nat->Prop}
def WordsAt(w:World)(rb n:Nat)(ds:List Nat)(bad:Bool):Prop:=
 (∀j g,ds[j]? = some g->w.cell? ⟨rb,j,none⟩=some (.pointer (some ⟨g,0,none⟩)))∧(if bad then ds.length<n∧w.cell? (rb,ds.length)=some (.pointer none)else ds.length=n)
def MadeVm(gI gS gT gP:Nat)(pd pr:Pl)(ds:List Nat)(e:Ending)(B:Asr):Prop:=
 ∃gM gD gR ws,e = .returned (.tuple #[.pointer (some ⟨gM,0,none⟩),(0:Int)])∧B=AllA [BlkA gM 104 (newC gI gS gT gP ws (.pointer (some ⟨gD,0,none⟩)) (.pointer (some ⟨gR,0,none⟩))),StkA gI gD pd 0,StkA gI gR pr 0,RowP ws ds]
theorem newC_ws(gI gS gT gP:Nat)(ws d r v:Value): (newC gI gS gT gP ws d r).setIfInBounds 2 v=newC gI gS gT gP v d r:=rfl
theorem newC_d(gI gS gT gP:Nat)(ws d r v:Value): (newC gI gS gT gP ws d r).setIfInBounds 5 v=newC gI gS gT gP ws v r:=rfl
def VmI(w:World)(gM gI gS gT gP:Nat)(ds:List Nat)(j:Nat)(wr:World):Prop:=
 ∃v,On Nob w (AllA [BlkA gM 104 (newC gI gS gT gP v (.pointer none) (.pointer none)),RowP v (ds.take j)]) wr
theorem vm_new{gI gb gS gT gP rb n cap:Nat}{S:Img}{ds:List Nat}(hi:IRep w gI gb S)(hd:S.d<=4096)(hr:S.r<=4096)(hn:n<=1000)(bad:Bool)(hw:WordsAt w rb n ds bad):
 Calls prog 21 #[gI,gS,.slice rb n cap,gT,gP] w
  (λe w'=>if bad then e = .returned (.tuple #[.pointer none,(1:Int)])∧Below w.heap.size w w' else PostE (MadeVm gI gS gT gP (pdOf S) (prOf S) ds) Nob w e w'):=by
 have hbx:=(On.refl (A:=AllA []) (F:=Nob) (w:=w) (λ_ h=>h)).addNew (A:=RowP (.slice none 0 0) []) (F2:=Nob) ⟨World.ownsRow_nil _ _ _ _,λk=>⟨λh=>h.elim,λh=>by cases h⟩⟩ (Kept.refl _ _) (λ_ h=>h.elim)
 have hbm:=hbx.box (newC gI gS gT gP (.slice none 0 0) (.pointer none) (.pointer none)) 104
 have h0:VmI w w.heap.size gI gS gT gP ds 0 _:=⟨_,hbm⟩
 unfold newC at h0
 obtain⟨i0,hi0,hz0,hz1,hz2⟩:=info_parts info_dp
 have hwl:ds.length<=n:=by
  have:=hw.2
  cases bad
  ·simp at this;omega
  ·simp at this;omega
 replace h0:=hid h0
 replace hi:=hid hi
 replace hw:=hid hw
 replace hi0:=hid hi0
 replace hz0:=hid hz0
 replace hz1:=hid hz1
 replace hz2:=hid hz2
 replace hd:=hid hd
 replace hr:=hid hr
 clear hbx hbm
 go_enter func21,ntmps21
 go_wp2_with fail
 go_loopg [37] (n+1) (λk t wr=> ∃j:Nat,j+k=n+1∧j<=ds.length∧t = .int .i64 (j:Int)∧VmI w w.heap.size gI gS gT gP ds j wr)
 case atStart=>exact⟨0,by omega,by omega,rfl,h0.out⟩
 case round=>
  obtain⟨j,hj,hjd,rfl,v,hon⟩:=hrel
  by_cases hlt:j<ds.length
  ·obtain⟨g,hg⟩: ∃g,ds[j]? = some g:=⟨ds[j],by simp[hlt]⟩
   have cj:=hon.cellOut (hw.out.1 j g hg) (λh=>h)
   have hm:Blk wr w.heap.size 104 (newC gI gS gT gP v (.pointer none) (.pointer none)):=hon.blkAt 0 rfl
   have c2:wr.cell? (w.heap.size,2)=some v:=hm.cell 2
   have hml:=hm.lt
   have honA:=hon.alloc (.cells #[g] 39)
   obtain⟨F1,hR⟩:=honA.at_ 1 rfl
   have hown:=hR.1
   have hlj: (ds.take j).length=j:=by rw[List.length_take];omega
   have hsn:ptrsC (ds.take (j+1))=ptrsC (ds.take j)++ [.pointer g]:=by
    rw[List.take_add_one,hg]
    simp[ptrsC]
   have hlj1: (ds.take (j+1)).length=j+1:=by rw[List.length_take];omega
   have hfin:=λ(w3:World) (sg cap:Nat) (hG:w3.ownsRow 0 39 1 (.slice sg (j+1) cap) (j+1) (ptrsC (ds.take j)++ [.pointer g])) (hgrow: (wr.alloc (.cells #[g] 39)).grownBy w3 v.ownBlock) (hat:v.ownBlock=some sg∨sg=wr.heap.size+1)=>(by
    have h1:=honA.growAt 1 rfl hG hgrow (grew_at (by simpa using hat))
    have h2:On Nob w (AllA [BlkA w.heap.size 104 (newC gI gS gT gP v (.pointer none) (.pointer none)),RowP (.slice sg (j+1) cap) (ds.take (j+1))]) w3:=by
     unfold RowP
     rw[hsn,hlj1]
     exact h1
    exact h2:On Nob w (AllA [BlkA w.heap.size 104 (newC gI gS gT gP v (.pointer none) (.pointer none)),RowP (.slice sg (j+1) cap) (ds.take (j+1))]) w3)
   rw[hlj]at hown
   have hnl:j+1<=maxLen∧(j+1)*8<=140737488355328:=by unfold maxLen;omega
   have hcap:w.heap.size<wr.heap.size:=hml
   replace hon:=hid hon
   replace honA:=hid honA
   replace hown:=hid hown
   replace hfin:=hid hfin
   replace hnl:=hid hnl
   replace hm:=hid hm
   replace hsn:=hid hsn
   replace hlj:=hid hlj
   replace hlj1:=hid hlj1
   clear hR
   go_wp2_with (at_builtin;refine wpList_append_lies _ rfl (.tmp 47) (.tmp 49) 73 rfl 0 39 i0 (.pointer none) 1 8 underlying73 hi0.out hz0.out hz1.out hz2.out rfl oM v j (ptrsC (ds.take j)) (by rfl) hown.out ⟨wr.heap.size,0,none⟩ 1 1 [.pointer g] (by rfl) rfl (ptr_news (t:=39) (Blk.new _ _ _)) (ptr_one g) oM hnl.out.1 hnl.out.2 (Nat.zero_le _) (wr.heap.size+1) (by simp) ?_;intro sg cap w3 hG hgrow hat hlt3;have h3:=hfin.out w3 sg cap hG hgrow hat;have d2:w3.cell? (w.heap.size,2)=some v:=(h3.blkAt 0 rfl).cell 2;have f2:=(h3.blkAt 0 rfl).frozen 2;have h4:=h3.setAt 0 rfl 2 (.slice sg (j+1) cap);rw[newC_ws]at h4;replace h3:=hid h3;replace h4:=hid h4;replace hG:=hid hG;replace hgrow:=hid hgrow)
   go_roundg (gk-1)
   case measure=>omega
   case rel=>exact⟨j+1,by omega,by omega,by go_num,_,h4.out⟩
  ·have hjj:j=ds.length:=by omega
   have h2:=hw.out.2
   cases bad with
   | true=>
     simp only[if_true]at h2
     have cj:=hon.cellOut h2.2 (λh=>h)
     rw[<-hjj]at cj
     have hjn:j<n:=by omega
     have hout:=hid hon.outB
     replace hon:=hid hon
     replace hjj:=hid hjj
     clear h2
     go_wp2
     go_ret2
     exact⟨rfl,hout.out⟩
   | false=>
     simp only[Bool.false_eq_true,if_false]at h2
     have hjn:j=n:=by omega
     have hds:ds.take j=ds:=List.take_of_length_le oM
     rw[hds]at hon
     have hib: ∀W,Below w.heap.size w W->IRep W gI gb S:=λW hb=>⟨hi.out.blk.below hb hi.out.blk.lt,hi.out.row.below hb hi.out.row.lt,hi.out.ok⟩
     have hs4:=hid (hon.make (n_stackD (hib _ hon.outB) hd.out))
     replace hib:=hid hib
     replace hon:=hid hon
     replace hds:=hid hds
     subst hjn
     have hdj:decide ((j:Int) < (j:Int))=false:=by simp
     clear h2
     go_wp2_with fail
     refine hs4.out.mono ?_
     rintro e w2 ⟨B,⟨gD,rfl,rfl⟩,hon2⟩
     have c5:w2.cell? (w.heap.size,5)=some (.pointer none):=(hon2.blkAt 1 rfl).cell 5
     have f5:=(hon2.blkAt 1 rfl).frozen 5
     have hon3:=hon2.setAt 1 rfl 5 (.pointer gD)
     rw[newC_d]at hon3
     have hs5:=hid (hon3.make (n_stackR (hib.out _ hon3.outB) hr.out))
     replace hon2:=hid hon2
     replace hon3:=hid hon3
     clear hs4
     go_wp2_with fail
     refine hs5.out.mono ?_
     rintro e w4 ⟨B,⟨gR,rfl,rfl⟩,hon4⟩
     have c6:w4.cell? (w.heap.size,6)=some (.pointer none):=(hon4.blkAt 2 rfl).cell 6
     have f6:=(hon4.blkAt 2 rfl).frozen 6
     have hon5:=hon4.setAt 2 rfl 6 (.pointer gR)
     have hon6:On Nob w (AllA [StkA gI gR (prOf S) 0,StkA gI gD (pdOf S) 0,BlkA w.heap.size 104 (newC gI gS gT gP v (.pointer gD) (.pointer gR)),RowP v ds]) _:=hon5
     have hon7:=hid ((hon6.front 1 rfl).front 2 rfl)
     replace hon4:=hid hon4
     clear hs5 hon5 hon6
     go_wp2
     go_ret2
     exact⟨_,⟨w.heap.size,gD,gR,v,rfl,rfl⟩,hon7.out⟩
end
structure Dy where
 mode:Int
 left:Int
 pc:Int
 next:Int
 over:Bool
def drC(gW:Nat)(y:Dy)(src:Value):Array Value:=#[.pointer (some ⟨gW,0,none⟩),.int .i64 y.mode,.int .i64 y.left,.int .i64 y.pc,.int .i64 y.next,.bool y.over,.bool false,.int .i64 0,src]
def worldV(r:Rc)(list:Nat)(ws sv:Value)(x:Rw):Array Value:=
 #[.pointer (some ⟨r.gM,0,none⟩),.pointer (some ⟨r.gK,0,none⟩),.pointer (some ⟨r.gS,0,none⟩),.pointer (some ⟨list,0,none⟩),ws,.pointer (some ⟨r.gD,0,none⟩),.pointer (some ⟨r.gR,0,none⟩),.pointer (some ⟨r.gC,0,none⟩),.pointer (some ⟨r.gT,0,none⟩),.int .i64 x.fault,.int .i64 x.used,.int .i64 x.hidden,.bool x.tells,sv]
def dXL(gx:Nat)(src:Value)(y:Dy)(r:Rc)(ws sv:Value)(x:Rw)(seen:List Stp):List Asr:=
 [BlkA gx 163 (drC r.gW y src),BlkA r.gW 81 (worldV r r.gS ws sv x),RowK 154 5 sv seen.length (stepsC seen),RefA r.gC x.T,AllA (rstkL r.gR r.gRr x.rd 3 4 x.ra),AllA (rstkL r.gD r.gDr x.dd 1 2 x.da),
  RDicA r.gS r.gb 16448 16960 704 false x.D,RDicA r.gK r.gb 0 16384 17152 x.kcl x.K,BlkA r.gT 179 (rturC 0 0 1 0 true),
  BlkA r.gM 121 (rimgCells r.gb x.S),RbA r.gb x.S]
structure DOk(x:Rw):Prop where
 dd:x.dd<=16
 da:x.da.length=16
 rd:x.rd<=8
 ra:x.ra.length=8
 S:x.S.Ok
 L:Lay0 x.S
theorem info_int1: (prog.info? 3).map (λi=>(i.zero,i.size,i.bytes))=some (some (.int .i64 0),1,8):=by kernel_rfl
section
variable {w W:World}{F:Nat->Prop}{gx:Nat}{src:Value}{y:Dy}{r:Rc}{ws sv:Value}{x:Rw}{seen:List Stp}
structure DxC(W:World)(gx:Nat)(src:Value)(y:Dy)(r:Rc)(ws sv:Value)(x:Rw):Prop where
 x0:W.cell? (gx,0)=some (.pointer (some ⟨r.gW,0,none⟩))
 x1:W.cell? (gx,1)=some (.int .i64 y.mode)
 x2:W.cell? (gx,2)=some (.int .i64 y.left)
 x3:W.cell? (gx,3)=some (.int .i64 y.pc)
 x4:W.cell? (gx,4)=some (.int .i64 y.next)
 x5:W.cell? (gx,5)=some (.bool y.over)
 x7:W.cell? (gx,7)=some (.int .i64 0)
 x8:W.cell? (gx,8)=some src
 xf: ∀i,W.frozen? ⟨gx,i,none⟩=false
 w0:W.cell? (r.gW,0)=some (.pointer (some ⟨r.gM,0,none⟩))
 w3:W.cell? (r.gW,3)=some (.pointer (some ⟨r.gS,0,none⟩))
 w5:W.cell? (r.gW,5)=some (.pointer (some ⟨r.gD,0,none⟩))
 w6:W.cell? (r.gW,6)=some (.pointer (some ⟨r.gR,0,none⟩))
 w7:W.cell? (r.gW,7)=some (.pointer (some ⟨r.gC,0,none⟩))
 w12:W.cell? (r.gW,12)=some (.bool x.tells)
 w13:W.cell? (r.gW,13)=some sv
theorem dx_cells(h:On F w (AllA (dXL gx src y r ws sv x seen)) W):DxC W gx src y r ws sv x:=by
 have hx:Blk W gx 163 (drC r.gW y src):=h.blkAt 0 rfl
 have hw:Blk W r.gW 81 (worldV r r.gS ws sv x):=h.blkAt 1 rfl
 exact⟨hx.cell 0,hx.cell 1,hx.cell 2,hx.cell 3,hx.cell 4,hx.cell 5,hx.cell 7,hx.cell 8,hx.frozen,hw.cell 0,hw.cell 3,hw.cell 5,hw.cell 6,hw.cell 7,hw.cell 12,hw.cell 13⟩
theorem dx_stk(i:Nat){L L':List Asr}(h:On F w (AllA L) W)(hi:L[i]? = some (AllA L')): ∃F',On F' W (AllA L') W:=by
 obtain⟨F',hF⟩:=h.at_ i hi
 exact⟨F',On.refl hF⟩
theorem dx_peekD(h:On F w (AllA (dXL gx src y r ws sv x seen)) W)(ho:DOk x)(n:Nat)(hn:n<=512):Calls prog 189 #[.pointer (some ⟨r.gD,0,none⟩),.int .i64 (n:Int)] W (Quiet (.tuple #[.int .i64 (rtop x.dd x.da n),.int .i64 (if n<x.dd then 0 else 1)]) W):=by
 obtain⟨F',h'⟩:=dx_stk 5 h rfl
 exact rs_peek h' (by rw[ho.da];exact ho.dd) (by rw[ho.da];omega) n hn
theorem r_args1(h:On F w (AllA (dXL gx src y r ws sv x seen)) W)(ho:DOk x)(h1:1<=x.dd):Calls prog 201 #[.pointer (some ⟨gx,0,none⟩),.int .i64 1] W
 (λe w'=> ∃g cap,e = .returned (.slice (some ⟨g,0,none⟩) 1 cap)∧w'.cell? (g,0)=some (.int .i64 (rtop x.dd x.da 0))∧Below W.heap.size W w'):=by
 have hp:=dx_peekD h ho 0 oM
 rw[if_pos oM]at hp
 have hp:Calls prog 189 #[.pointer (some ⟨r.gD,0,none⟩),.int .i64 0] W (Quiet (.tuple #[.int .i64 (rtop x.dd x.da 0),.int .i64 0]) W):=hp
 have hc:=dx_cells h
 have c0:=hc.x0
 have c5:=hc.w5
 obtain⟨i0,hi0,hz0,hz1,hz2⟩:=info_parts info_int1
 generalize rtop x.dd x.da 0=v at *
 replace hp:=hid hp
 replace hi0:=hid hi0
 replace hz0:=hid hz0
 replace hz1:=hid hz1
 replace hz2:=hid hz2
 clear hc h ho h1
 go_enter func201,ntmps201
 go_wp2
 go_loopg [5,6] 1 (λk t u wr=>(k=1∧t = .slice none 0 0∧u = .int .i64 0∧wr=W)∨(k=0∧u = .int .i64 (-1)∧∃g cap,t = .slice (some ⟨g,0,none⟩) 1 cap∧wr.cell? (g,0)=some (.int .i64 v)∧Below W.heap.size W wr))
 case atStart=>exact .inl ⟨rfl,rfl,rfl,rfl⟩
 case round=>
  rcases hrel with⟨hk,rfl,rfl,rfl⟩ | ⟨hk,rfl,g,cap,rfl,hc,hb⟩
  ·replace hk:=hid hk
   go_wp2_with fail
   refine mo hp.out λw2 hb=>?_
   simp only[]
   have hnews:=World.news_of_block (Blk.new w2 3 #[.int .i64 v])
   replace hnews:=hid hnews
   replace hb:=hid hb
   go_wp2_with ((at_builtin;refine wpList_append_lies _ rfl (.tmp 27) (.tmp 29) 25 rfl 0 3 i0 (.int .i64 0) 1 8 underlying25 hi0.out hz0.out hz1.out hz2.out rfl oM (.slice none 0 0) 0 [] ?_ (World.ownsRow_nil _ _ _ _) ⟨w2.heap.size,0,none⟩ 1 1 [.int .i64 v] ?_ ?_ ?_ ?_ oM (by decide) (by decide) (Nat.zero_le _) _ rfl ?_;(case refine_1=>rfl);(case refine_2=>rfl);(case refine_3=>rfl);(case refine_4=>exact hnews.out);(case refine_5=>(intro u hu;rw[List.mem_singleton.1 hu];rfl));intro g1 cap1 w3 hown hgrow hat hlt))
   have hcell:=World.ownsRow.cells hown rfl 0 _ rfl
   have hbl:Below wr.heap.size wr w3:=by
    have h1:=hb.out.alloc hb.out.size (.cells #[.int .i64 v] 3)
    exact⟨hgrow.os.trans h1.os,hgrow.tape.trans h1.tape,hgrow.output.trans h1.output,Nat.le_trans h1.size hgrow.size,λk hk=>(hgrow.block k (by have:=h1.size;omega) (λe=>by cases e)).trans (h1.block k hk)⟩
   replace hcell:=hid hcell
   replace hbl:=hid hbl
   clear hown hgrow hat hlt
   go_wp2
   go_roundg 0
   case measure=>rw[hk.out];omega
   case rel=>exact .inr ⟨rfl,rfl,g1,cap1,rfl,hcell.out,hbl.out⟩
  ·replace hc:=hid hc
   replace hb:=hid hb
   replace hk:=hid hk
   go_wp2
   go_ret
   exact⟨g,cap,rfl,hc.out,hb.out⟩
theorem r_args0(h:On F w (AllA (dXL gx src y r ws sv x seen)) W):Calls prog 201 #[.pointer (some ⟨gx,0,none⟩),.int .i64 0] W (Quiet (.slice none 0 0) W):=by
 go_enter func201,ntmps201
 replace h:=hid h
 go_wp2
 go_loopg [5,6] 1 (λk t u wr=>t = .slice none 0 0∧u = .int .i64 (-1)∧wr=W)
 case atStart=>exact⟨rfl,rfl,rfl⟩
 case round=>
  obtain⟨rfl,rfl,rfl⟩:=hrel
  go_wp2
  go_ret
  exact⟨rfl,Below.refl _ _⟩
theorem r_lays(h:On F w (AllA (dXL gx src y r ws sv x seen)) W)(ho:DOk x)(n:Nat)(hn:n<=x.dd):Calls prog 202 #[.pointer (some ⟨gx,0,none⟩),.int .i64 (n:Int),.slice none 0 0] W (Got (.returned (.int .i64 0)) (AllA (dXL gx src y r ws sv { x with dd:=x.dd-n } seen)) F w):=by
 have hc:=dx_cells h
 obtain⟨F5,h5⟩:=dx_stk 5 h rfl
 obtain⟨s0,s1,s2,s3,sf⟩:=rs_cells h5
 have hset:=h.stepAt 5 rfl (A':=AllA (rstkL r.gD r.gDr (x.dd-n) 1 2 x.da)) (w'':=W.setCell (r.gD,1) (.int .i64 ((x.dd-n:Nat):Int))) λF' hb=>by
  have h1:=On.setAt 0 (g:=r.gD) (t:=181) (cs:=rstkC r.gDr x.da.length x.dd 1 2) (On.refl hb) rfl 1 (.int .i64 ((x.dd-n:Nat):Int))
  exact h1
 have hset:On F w (AllA (dXL gx src y r ws sv { x with dd:=x.dd-n } seen)) (W.setCell (r.gD,1) (.int .i64 ((x.dd-n:Nat):Int))):=hset
 have hp: ∀W2,On F w (AllA (dXL gx src y r ws sv { x with dd:=x.dd-n } seen)) W2->Calls prog 57 #[.pointer (some ⟨r.gD,0,none⟩),.slice none 0 0] W2 (Quiet (.int .i64 0) W2):=λW2 h2=>by
  obtain⟨F',h'⟩:=dx_stk 5 h2 rfl
  exact rs_push0 h' (by show x.dd-n<=x.da.length;rw[ho.da];have:=ho.dd;omega) (by rw[ho.da];omega)
 have hcs: ∀W2,On F w (AllA (dXL gx src y r ws sv { x with dd:=x.dd-n } seen)) W2->W2.cell? (gx,0)=some (.pointer (some ⟨r.gW,0,none⟩))∧W2.cell? (r.gW,5)=some (.pointer (some ⟨r.gD,0,none⟩)):=λW2 h2=>⟨(dx_cells h2).x0,(dx_cells h2).w5⟩
 have e1: ((x.dd-n:Nat):Int)= (x.dd:Int) - (n:Int):=by omega
 rw[e1]at hset
 have hd16:=ho.dd
 have c0:=hc.x0
 have c5:=hc.w5
 generalize x.dd=d at *
 replace hset:=hid hset
 replace hp:=hid hp
 replace hcs:=hid hcs
 replace h:=hid h
 clear hc h5 s0 s2 s3 e1 ho
 go_enter func202,ntmps202
 go_upto_region 1 with fail
 go_cut [] (λwx=>On F w (AllA (dXL gx src y r ws sv { x with dd:=d-n } seen)) wx)
 case first=>
  go_region
  all_goals(try go_wp2_with fail)
  all_goals go_meet
  all_goals first|exact hset.out.drew|exact hset.out|exact hset.out.drewN _
 case rest=>
 have hpp:=hp.out _ hcut
 obtain⟨k0,k5⟩:=hcs.out _ hcut
 have hon:=hcut
 replace hon:=hid hon
 replace hpp:=hid hpp
 clear hcut hp hcs hset c0 c5 s1 sf h
 go_wp2_with fail
 refine mo hpp.out λw2 hb=>?_
 simp only[]
 have hon2:=hon.out.below hb
 replace hon2:=hid hon2
 replace hb:=hid hb
 go_wp2
 go_ret
 exact⟨rfl,hon2.out⟩
end
section
variable {w W:World}{F:Nat->Prop}{gx:Nat}{src:Value}{y:Dy}{r:Rc}{ws sv:Value}{x:Rw}{seen:List Stp}
def Rw.dic(x:Rw)(S':Img)(D':Dc):Rw:={ x with S:=S',D:=D' }
theorem dx_dic{S':Img}{D':Dc}(al:Alike x.S S')(h:On F w (AllA (((dXL gx src y r ws sv x seen).set 10 (RbA r.gb S')).set 6 (RDicA r.gS r.gb 16448 16960 704 false D'))) W):On F w (AllA (dXL gx src y r ws sv (x.dic S' D') seen)) W:=by
 have e:=rimg_alike r.gb al
 show On F w (AllA [_,_,_,_,_,_,_,_,_,BlkA r.gM 121 (rimgCells r.gb S'),_]) W
 rw[e]
 exact h
theorem dx_comma(h:On F w (AllA (dXL gx src y r ws sv x seen)) W)(h8:At8 x.S x.D 16456 16960)(hsh:x.D.shut x.S=false)(v:Int)(hv:V64 v):
 Calls prog 80 #[.pointer (some ⟨r.gS,0,none⟩),.int .i64 v] W (Got (.returned (.int .i64 (x.D.commaF x.S))) (AllA (dXL gx src y r ws sv (x.dic (x.D.commaS x.S v) (x.D.commaD x.S)) seen)) F w):=by
 refine mo (h.callAt2G 6 10 (by decide) rfl rfl λF' hb=>rd_comma (On.refl hb) h8 hsh v hv) λw' h2=>?_
 exact⟨rfl,dx_dic (Dc.alike_comma _ _ _) h2⟩
def Rw.comma(x:Rw):Rw:=x.dic (x.D.commaS x.S (rtop x.dd x.da 0)) (x.D.commaD x.S)
def Rw.commaE(x:Rw):Rw:=if x.D.commaF x.S=0 then { x.comma with dd:=x.comma.dd-1 } else x.comma
theorem r_comma(h:On F w (AllA (dXL gx src y r ws sv x seen)) W)(ho:DOk x)(h1:1<=x.dd)(h8:At8 x.S x.D 16456 16960)(hsh:x.D.shut x.S=false)(hv:V64 (rtop x.dd x.da 0)):
 Calls prog 196 #[.pointer (some ⟨gx,0,none⟩),.int .i64 74] W (Got (.returned (.int .i64 (x.D.commaF x.S))) (AllA (dXL gx src y r ws sv x.commaE seen)) F w):=by
 have hw:=λW=>Wants_walk 74 W
 rw[show Code.wants 74= (1,0)by decide]at hw
 have ha:=r_args1 h ho h1
 have hcm: ∀W2,On F w (AllA (dXL gx src y r ws sv x seen)) W2->Calls prog 80 #[.pointer (some ⟨r.gS,0,none⟩),.int .i64 (rtop x.dd x.da 0)] W2 (Got (.returned (.int .i64 (x.D.commaF x.S))) (AllA (dXL gx src y r ws sv x.comma seen)) F w):=λW2 h2=>dx_comma h2 h8 hsh (rtop x.dd x.da 0) hv
 have hly:=λW2 (h2:On F w (AllA (dXL gx src y r ws sv x.comma seen)) W2)=>r_lays h2 (x:=x.comma) ⟨ho.dd,ho.da,ho.rd,ho.ra,(Dc.ok_comma h8.img h8.ok _).1,ho.L.alike (Dc.alike_comma _ _ _)⟩ 1 h1
 have hcs:=λW2 (h2:On F w (AllA (dXL gx src y r ws sv x seen)) W2)=>dx_cells h2
 have hE0:x.D.commaF x.S=0->x.commaE = { x.comma with dd:=x.comma.dd-1 }:=λh=>by unfold Rw.commaE;rw[if_pos h]
 have hE1:x.D.commaF x.S≠0->x.commaE=x.comma:=λh=>by unfold Rw.commaE;rw[if_neg h]
 generalize rtop x.dd x.da 0=v at *
 generalize x.D.commaF x.S=f at *
 generalize x.commaE=xe at *
 replace hE0:=hid hE0
 replace hE1:=hid hE1
 replace hw:=hid hw
 replace ha:=hid ha
 replace hcm:=hid hcm
 replace hly:=hid hly
 replace hcs:=hid hcs
 replace h:=hid h
 clear ho h1 h8 hsh hv
 go_enter func196,ntmps196
 go_wp2_with fail
 refine(hw.out _).mono ?_
 rintro e w1 ⟨rfl,rfl⟩
 simp only[]
 go_wp2_with fail
 refine ha.out.mono ?_
 rintro e w2 ⟨g,cap,rfl,hc0,hb⟩
 simp only[]
 have hon:=h.out.below hb
 have hc:=hcs.out _ hon
 have x0:=hc.x0
 have x3:=hc.w3
 have hcall:=hcm.out _ hon
 replace hcall:=hid hcall
 replace hon:=hid hon
 replace hb:=hid hb
 clear hc
 go_wp2_with fail
 refine mo hcall.out λw3 hon2=>?_
 simp only[]
 by_cases hf:f=0
 ·subst hf
  have hl:=hly.out _ hon2
  replace hl:=hid hl
  replace hon2:=hid hon2
  clear x0 x3 hc0
  go_wp2_with fail
  refine mo hl.out λw4 hon3=>?_
  simp only[]
  replace hon3:=hid hon3
  go_wp2
  go_ret
  rw[hE0.out (by trivial)]
  exact⟨rfl,hon3.out⟩
 ·have hfb: (f != 0)=true:=by simpa using hf
  replace hf:=hid hf
  replace hon2:=hid hon2
  clear x0 x3 hc0
  go_wp2
  go_ret
  rw[hE1.out hf.out]
  exact⟨rfl,hon2.out⟩
def Rw.pop(x:Rw)(k:Nat):Rw:={ x with rd:=k }
theorem dx_pop(k:Nat)(hk:x.rd=k+1)(ho:DOk x)(h:On F w (AllA (dXL gx src y r ws sv x seen)) W):Calls prog 288 #[.pointer (some ⟨r.gR,0,none⟩)] W (Got (.returned (.tuple #[.int .i64 (x.ra.getD k 0),.int .i64 0])) (AllA (dXL gx src y r ws sv (x.pop k) seen)) F w):=
 h.callAtG 4 rfl λF' hb=>rs_pop (d:=k) (by rw[hk]at hb;exact On.refl hb) (by rw[ho.ra];have:=ho.rd;omega) (by rw[ho.ra];omega)
theorem r_back(k:Nat)(hk:x.rd=k+1)(ho:DOk x)(h:On F w (AllA (dXL gx src y r ws sv x seen)) W):Calls prog 235 #[.pointer (some ⟨gx,0,none⟩)] W (Got (.returned (.int .i64 0)) (AllA (dXL gx src { y with next:=x.ra.getD k 0,over:=x.ra.getD k 0==0 } r ws sv (x.pop k) seen)) F w):=by
 have hp:=dx_pop k hk ho h
 have hc:=dx_cells h
 have x0:=hc.x0
 have x6:=hc.w6
 generalize x.ra.getD k 0=a at *
 generalize x.pop k=x2 at *
 have hset:=λW2 (h2:On F w (AllA (dXL gx src y r ws sv x2 seen)) W2)=>((h2.setAt 0 rfl 4 (.int .i64 a)).setAt 0 rfl 5 (.bool (a==0)):On F w (AllA (dXL gx src { y with next:=a,over:=a==0 } r ws sv x2 seen)) ((W2.setCell ⟨gx,4,none⟩ (.int .i64 a)).setCell ⟨gx,5,none⟩ (.bool (a==0))))
 have hcs:=λW2 (h2:On F w (AllA (dXL gx src y r ws sv x2 seen)) W2)=>dx_cells h2
 replace hp:=hid hp
 replace hset:=hid hset
 replace hcs:=hid hcs
 clear hc h ho hk
 go_enter func235,ntmps235
 go_wp2_with fail
 refine mo hp.out λw2 hon=>?_
 simp only[]
 have hs:=hset.out _ hon
 have hc:=hcs.out _ hon
 have y4:=hc.x4
 have y5:=hc.x5
 have f4:=hc.xf 4
 have f5:=hc.xf 5
 replace hs:=hid hs
 clear hc hon x0 x6 hset hcs
 go_wp2
 go_ret
 exact⟨rfl,hs.out⟩
end
theorem r_returns(op arg off:Int)(h: (op=85∧off=0)∨(op=74∧off=0)∨(op=18∧off=1))(W:World):Calls prog 188 #[.int .i64 op,.int .i64 arg] W (Same (.tuple #[.int .i64 off,.int .i64 0]) W):=by
 rcases h with⟨rfl,rfl⟩ | ⟨rfl,rfl⟩ | ⟨rfl,rfl⟩
 all_goals
  go_enter func188,ntmps188
  go_wp2
  go_ret2
  exact⟨rfl,rfl⟩
theorem r_cap(op:Int)(h:op=85∨op=74∨op=18)(W:World):Calls prog 190 #[.int .i64 op] W (Same (.int .i64 0) W):=by
 rcases h with rfl|rfl|rfl
 all_goals
  go_enter func190,ntmps190
  go_wp2
  go_ret
  exact⟨rfl,rfl⟩
section
variable {w W:World}{F:Nat->Prop}{gx:Nat}{src:Value}{y:Dy}{r:Rc}{ws sv:Value}{x:Rw}{seen:List Stp}
structure DsC(W:World)(r:Rc)(x:Rw):Prop where
 d0:W.cell? (r.gD,0)=some (.slice (some ⟨r.gDr,0,none⟩) 16 16)
 d1:W.cell? (r.gD,1)=some (.int .i64 (x.dd:Int))
 r0:W.cell? (r.gR,0)=some (.slice (some ⟨r.gRr,0,none⟩) 8 8)
 r1:W.cell? (r.gR,1)=some (.int .i64 (x.rd:Int))
theorem ds_cells(h:On F w (AllA (dXL gx src y r ws sv x seen)) W)(ho:DOk x):DsC W r x:=by
 obtain⟨F5,h5⟩:=dx_stk 5 h rfl
 obtain⟨F4,h4⟩:=dx_stk 4 h rfl
 have a:=rs_cells h5
 have b:=rs_cells h4
 rw[ho.da]at a
 rw[ho.ra]at b
 exact⟨a.1,a.2.1,b.1,b.2.1⟩
theorem r_asks(op arg lit cells off t l:Int)(hop: (op=85∧off=0)∨(op=74∧off=0)∨(op=18∧off=1))(hw:Code.wants op= (t,l))(h:On F w (AllA (dXL gx src y r ws sv x seen)) W)(ho:DOk x)(h0:0<=t∧t<=x.dd)(hl:0<=l∧(x.dd:Int) -t+l<=16)(hr:off<=x.rd):
 Calls prog 132 #[.pointer (some ⟨gx,0,none⟩),.agg #[.int .i64 op,.int .i64 arg,.int .i64 lit,.int .i64 cells]] W (Quiet (.int .i64 0) W):=by
 have hwt:=λW=>Wants_walk op W
 rw[hw]at hwt
 have hrt:=λW=>r_returns op arg off hop W
 have hcp:=λW=>r_cap op oM W
 have hon1:=h.alloc (.cells #[.int .i64 op,.int .i64 arg,.int .i64 lit,.int .i64 cells] 213)
 have hb1:=Blk.new W 213 #[.int .i64 op,.int .i64 arg,.int .i64 lit,.int .i64 cells]
 have hpk: ∀W2,On F w (AllA (dXL gx src y r ws sv x seen)) W2->∃v f,Calls prog 189 #[.pointer (some ⟨r.gD,0,none⟩),.int .i64 0] W2 (Quiet (.tuple #[.int .i64 v,.int .i64 f]) W2):=λW2 h2=>⟨_,_,dx_peekD h2 ho 0 oM⟩
 have hpk1: ∀W2,On F w (AllA (dXL gx src y r ws sv x seen)) W2->∃v f,Calls prog 189 #[.pointer (some ⟨r.gD,0,none⟩),.int .i64 1] W2 (Quiet (.tuple #[.int .i64 v,.int .i64 f]) W2):=λW2 h2=>⟨_,_,dx_peekD h2 ho 1 oM⟩
 have hcs: ∀W2,On F w (AllA (dXL gx src y r ws sv x seen)) W2->DxC W2 gx src y r ws sv x∧DsC W2 r x:=λW2 h2=>⟨dx_cells h2,ds_cells h2 ho⟩
 have e26: (op==26)=false:=by rw[beq_eq_false_iff_ne];omega
 have e7: (op==7)=false:=by rw[beq_eq_false_iff_ne];omega
 have g1:decide ((x.dd:Int) <t)=false:=decide_eq_false oM
 have g2:decide ((x.rd:Int) <off)=false:=decide_eq_false oM
 have g3:decide ((16:Int) < (x.dd:Int) -t+l)=false:=decide_eq_false oM
 have g4:decide ((8:Int) < (x.rd:Int) -off)=false:=decide_eq_false (by have:=ho.rd;omega)
 obtain⟨h00,h01⟩:=h0
 obtain⟨hl0,hl1⟩:=hl
 have hof:0<=off∧off<=1:=by omega
 obtain⟨hof0,hof1⟩:=hof
 have hdd:=ho.dd
 have hrd:=ho.rd
 have hsz: (W.alloc (.cells #[.int .i64 op,.int .i64 arg,.int .i64 lit,.int .i64 cells] 213)).heap.size=W.heap.size+1:=by simp
 obtain⟨hc,hs⟩:=hcs _ hon1
 have x0:=hc.x0
 have x7:=hc.x7
 have w5:=hc.w5
 have w6:=hc.w6
 have d1:=hs.d1
 have r1:=hs.r1
 replace hon1:=hid hon1
 replace hb1:=hid hb1
 replace hpk:=hid hpk
 replace hpk1:=hid hpk1
 replace hcs:=hid hcs
 replace hwt:=hid hwt
 replace hrt:=hid hrt
 replace hcp:=hid hcp
 replace hsz:=hid hsz
 replace hop:=hid hop
 replace hw:=hid hw
 replace ho:=hid ho
 replace h:=hid h
 clear hc hs
 go_enter func132,ntmps132
 go_wp2_with fail
 refine mo (hwt.out _) λw1 hw1=>?_
 simp only[]
 have hon2:=hon1.out
 have hb2:=hb1.out
 rw[<-hw1]at hon2 hb2
 have b0:w1.cell? (W.heap.size,0)=some (.int .i64 op):=hb2.cell 0
 have b1:w1.cell? (W.heap.size,1)=some (.int .i64 arg):=hb2.cell 1
 obtain⟨hc,hs⟩:=hcs.out _ hon2
 replace hw1:=hid hw1
 clear x0 x7 w5 w6 d1 r1
 have x0:=hc.x0
 have x7:=hc.x7
 have w5:=hc.w5
 have w6:=hc.w6
 have d1:=hs.d1
 have r1:=hs.r1
 replace hon2:=hid hon2
 replace hb2:=hid hb2
 clear hc hs
 go_wp2_with fail
 refine(hrt.out _).mono ?_
 rintro e w2 ⟨rfl,rfl⟩
 simp only[]
 go_wp2_with fail
 go_quiet (fail)
 go_wp2_with fail
 have hon3:=hon2.out.drewN nq
 obtain⟨v0,f0,hp0⟩:=hpk.out _ hon3
 have hb3:Blk (w2.drewN nq) W.heap.size 213 #[.int .i64 op,.int .i64 arg,.int .i64 lit,.int .i64 cells]:=hb2.out
 refine mo hp0 λw3 hbl=>?_
 simp only[]
 have hon4:=hon3.below hbl
 have hb4:=hb3.below hbl hb3.lt
 obtain⟨v1,f1,hp1⟩:=hpk1.out _ hon4
 obtain⟨hc,hs⟩:=hcs.out _ hon4
 clear x0 x7 w5 w6 d1 r1 hon3 hb3
 have x0:=hc.x0
 have x7:=hc.x7
 have w5:=hc.w5
 have w6:=hc.w6
 replace hp1:=hid hp1
 replace hon4:=hid hon4
 replace hb4:=hid hb4
 replace hbl:=hid hbl
 clear hc hs hp0 b0 b1
 go_wp2_with fail
 refine mo hp1.out λw4 hbm=>?_
 simp only[]
 have hon5:=hon4.out.below hbm
 have hb5:=hb4.out.below hbm hb4.out.lt
 obtain⟨hc,hs⟩:=hcs.out _ hon5
 have b0:w4.cell? (W.heap.size,0)=some (.int .i64 op):=hb5.cell 0
 clear x0 x7 w5 w6
 have x0:=hc.x0
 have w5:=hc.w5
 have w6:=hc.w6
 have d0:=hs.d0
 have d1:=hs.d1
 have r0:=hs.r0
 have r1:=hs.r1
 have hbel:Below W.heap.size W w4:=by
  have h1:Below W.heap.size W (w2.drewN nq):=by
   rw[hw1.out]
   exact below_dN ((Below.refl _ _).alloc (Nat.le_refl _) _) nq
  have hz:=h1.size
  exact(h1.trans (hbl.out.mono hz)).trans (hbm.mono (Nat.le_trans hz hbl.out.size))
 replace hbel:=hid hbel
 replace hbm:=hid hbm
 replace hon5:=hid hon5
 replace hb5:=hid hb5
 clear hc hs
 go_wp2_with fail
 go_quiet (fail)
 go_wp2_with fail
 go_quiet (fail)
 go_wp2_with fail
 refine(hcp.out _).mono ?_
 rintro e w5 ⟨rfl,rfl⟩
 simp only[]
 go_wp2_with fail
 go_quiet (fail)
 go_wp2
 go_ret
 exact⟨rfl,below_dN hbel.out _⟩
end
section
variable {w W:World}{F:Nat->Prop}{gx:Nat}{src:Value}{y:Dy}{r:Rc}{ws sv:Value}{x:Rw}{seen:List Stp}
def stpA(p:Stp):Array Value:=#[.int .i64 p.at_,.int .i64 p.op,.int .i64 p.dep,.int .i64 p.top,.int .i64 p.fuel]
theorem w_tell(h:On F w (AllA (dXL gx src y r ws sv x seen)) W)(ho:DOk x)(ht:x.tells=true)(hsn:seen.length<=1000)(at_ op left:Int):
 Calls prog 134 #[.pointer (some ⟨r.gW,0,none⟩),.int .i64 at_,.int .i64 op,.int .i64 left] W (λe w'=>e = .returned (.tuple #[])∧∃sv' seen',seen'.length=seen.length+1∧On F w (AllA (dXL gx src y r ws sv' x seen')) w'):=by
 have hc:=dx_cells h
 have hs:=ds_cells h ho
 have c12:=hc.w12
 have c5:=hc.w5
 have d1:=hs.d1
 rw[ht]at c12
 obtain⟨i0,hi0,hz0,hz1,hz2⟩:=info_parts info_step
 have hbx:=h.box (stpA ⟨at_,op,(x.dd:Int),0,left⟩) 154
 have hpk:1<=x.dd->∀W2 p,On F w (AllA (BlkA W.heap.size 154 (stpA p)::dXL gx src y r ws sv x seen)) W2->Calls prog 189 #[.pointer (some ⟨r.gD,0,none⟩),.int .i64 0] W2 (Quiet (.tuple #[.int .i64 (rtop x.dd x.da 0),.int .i64 0]) W2):=λh1 W2 p h2=>by
  have:=dx_peekD h2.tail ho 0 oM
  rw[if_pos oM]at this
  exact this
 have hcs: ∀W2 p,On F w (AllA (BlkA W.heap.size 154 (stpA p)::dXL gx src y r ws sv x seen)) W2->W2.cell? (r.gW,5)=some (.pointer (some ⟨r.gD,0,none⟩))∧W2.cell? (r.gW,13)=some sv∧W2.cell? (r.gD,1)=some (.int .i64 (x.dd:Int))∧Blk W2 W.heap.size 154 (stpA p):=λW2 p h2=>⟨(dx_cells h2.tail).w5,(dx_cells h2.tail).w13,(ds_cells h2.tail ho).d1,h2.blkAt 0 rfl⟩
 replace hi0:=hid hi0
 replace hz0:=hid hz0
 replace hz1:=hid hz1
 replace hz2:=hid hz2
 replace hbx:=hid hbx
 replace hpk:=hid hpk
 replace hcs:=hid hcs
 replace h:=hid h
 replace ho:=hid ho
 clear hc hs ht
 go_enter func134,ntmps134
 go_upto_region 1 with fail
 go_cut [8] (λt wx=>t = .pointer (some ⟨W.heap.size,0,none⟩)∧On F w (AllA (BlkA W.heap.size 154 (stpA ⟨at_,op,(x.dd:Int),0,left⟩)::dXL gx src y r ws sv x seen)) wx)
 case first=>
  go_wp2_with fail
  go_meet
  exact⟨rfl,hbx.out⟩
 case rest=>
 obtain⟨rfl,hon⟩:=hcut
 obtain⟨k5,k13,kd,kb⟩:=hcs.out _ _ hon
 have f3:=kb.frozen 3
 have b3:wc.cell? (W.heap.size,3)=some (.int .i64 0):=kb.cell 3
 have hlt:=kb.lt
 replace hon:=hid hon
 clear c12 c5 d1 kb k13
 go_upto_if 32 with fail
 go_cut [] (λwx=> ∃top:Int,On F w (AllA (BlkA W.heap.size 154 (stpA ⟨at_,op,(x.dd:Int),top,left⟩)::dXL gx src y r ws sv x seen)) wx)
 case first=>
  go_wp2_with fail
  ·have hq:0<x.dd:=by assumption
   have hp:=hpk.out hq _ _ hon.out
   refine mo hp λw2 hb=>?_
   simp only[]
   have hon2:=hon.out.below hb
   obtain⟨q5,q13,qd,qb⟩:=hcs.out _ _ hon2
   have g3:=qb.frozen 3
   have e3:w2.cell? (W.heap.size,3)=some (.int .i64 0):=qb.cell 3
   have hst:=hon2.setAt 0 rfl 3 (.int .i64 (rtop x.dd x.da 0))
   replace hst:=hid hst
   replace hon2:=hid hon2
   replace hb:=hid hb
   clear f3 b3 qb k5 kd hp
   go_wp2_with fail
   go_meet
   exact⟨rtop x.dd x.da 0,hst.out⟩
  ·go_meet
   exact⟨0,hon.out⟩
 case rest=>
 obtain⟨top,hon2⟩:=hcut
 obtain⟨q5,q13,qd,qb⟩:=hcs.out _ _ hon2
 have e0:wc.cell? (W.heap.size,0)=some (.int .i64 at_):=qb.cell 0
 have e1:wc.cell? (W.heap.size,1)=some (.int .i64 op):=qb.cell 1
 have e2:wc.cell? (W.heap.size,2)=some (.int .i64 (x.dd:Int)):=qb.cell 2
 have e3:wc.cell? (W.heap.size,3)=some (.int .i64 top):=qb.cell 3
 have e4:wc.cell? (W.heap.size,4)=some (.int .i64 left):=qb.cell 4
 have hbl:Blk wc r.gW 81 (worldV r r.gS ws sv x):=hon2.blkAt 2 rfl
 have f13:=hbl.frozen 13
 have hgw:=hbl.lt
 have hgs:=qb.lt
 obtain⟨F1,hR⟩:=hon2.at_ 3 rfl
 have hown:=hR.1
 have hne:sv.ownBlock≠some r.gW:=λe=>by
  obtain⟨F1,F2,h1,h2,hd⟩:=hon2.apart 2 3 (by decide) rfl rfl
  exact hd r.gW ((h1.2 _).2 rfl) ((h2.2 _).2 e)
 have hsn1:=stepsC_snoc seen ⟨at_,op,(x.dd:Int),top,left⟩
 have hlen1: (seen ++ [(⟨at_,op,(x.dd:Int),top,left⟩:Stp)]).length=seen.length+1:=by simp
 have hnl:seen.length+1<=maxLen∧(seen.length+1)*40<=140737488355328:=by unfold maxLen;omega
 have hone': ∀u∈[Value.int .i64 at_,.int .i64 op,.int .i64 (x.dd:Int),.int .i64 top,.int .i64 left],u.oneCell'=true:=step_one ⟨at_,op,(x.dd:Int),top,left⟩
 have hfin:=λ(w2 w3:World) (sg cap:Nat) (hon:On F w (AllA (BlkA W.heap.size 154 (stpA ⟨at_,op,(x.dd:Int),top,left⟩)::dXL gx src y r ws sv x seen)) w2) (hG:w3.ownsRow 0 154 5 (.slice (some ⟨sg,0,none⟩) (seen.length+1) cap) (seen.length+1) (stepsC seen++stepC ⟨at_,op,(x.dd:Int),top,left⟩)) (hgrow:w2.grownBy w3 sv.ownBlock) (hat:sv.ownBlock=some sg∨sg=w2.heap.size)=>(by
  have h1:=hon.growAt 3 rfl hG hgrow (grew_at hat)
  have h2:=h1.setAt 2 rfl 13 (.slice (some ⟨sg,0,none⟩) (seen.length+1) cap)
  rw[<-hsn1,<-hlen1]at h2
  have h3:On F w (AllA (BlkA W.heap.size 154 (stpA ⟨at_,op,(x.dd:Int),top,left⟩)::dXL gx src y r ws (.slice (some ⟨sg,0,none⟩) (seen ++ [(⟨at_,op,(x.dd:Int),top,left⟩:Stp)]).length cap) x (seen ++ [(⟨at_,op,(x.dd:Int),top,left⟩:Stp)]))) (w3.setCell ⟨r.gW,13,none⟩ (.slice (some ⟨sg,0,none⟩) (seen ++ [(⟨at_,op,(x.dd:Int),top,left⟩:Stp)]).length cap)):=h2
  rw[hlen1]at h3
  exact⟨_,_,hlen1,h3.tail⟩: ∃sv' seen',List.length seen'=seen.length+1∧On F w (AllA (dXL gx src y r ws sv' x seen')) (w3.setCell ⟨r.gW,13,none⟩ (.slice (some ⟨sg,0,none⟩) (seen.length+1) cap)))
 generalize hst:stepsC seen=xs at *
 generalize hdd: (x.dd:Int)=dd at *
 replace hown:=hid hown
 replace hbl:=hid hbl
 replace hne:=hid hne
 replace hnl:=hid hnl
 replace hone':=hid hone'
 replace hfin:=hid hfin
 replace hon2:=hid hon2
 replace hst:=hid hst
 replace hdd:=hid hdd
 clear hR hsn1 hlen1 qb hpk hcs q5 qd k5 kd f3 b3 hon hbx
 go_upto_region 4 with fail
 go_region_law ((refine step_append_lies _ rfl (.tmp 46) (.tmp 48) 44 rfl 0 154 i0 (.agg #[(0:Int),(0:Int),(0:Int),(0:Int),(0:Int)]) 5 40 ?_ ?_ ?_ ?_ ?_ ?_ ?_ sv seen.length xs ?_ ?_ ⟨wc.heap.size,0,none⟩ 1 1 [.int .i64 at_,.int .i64 op,.int .i64 dd,.int .i64 top,.int .i64 left] ?_ ?_ ?_ ?_ ?_ ?_ ?_ ?_ (wc.heap.size+1) ?_ ?_;exact underlying44;exact hi0.out;exact hz0.out;exact hz1.out;exact hz2.out;rfl;omega;rfl;exact ownsRow_drew (hown.out.alloc _);rfl;rfl;refine step_news (t:=154) ?_;refine Blk.drew (Blk.new' ?_);simp;exact hone'.out;omega;exact hnl.out.1;exact hnl.out.2;omega;simp;intro sg cap w3 hG hgrow hat hlt3;have hB1:=Blk.grown (hbl.out.alloc _).drew hgrow (λe=>hne.out e.symm);have c7b:=hB1.cell 13;have f7b:=hB1.frozen 13;simp[worldV]at c7b))
 all_goals
  have hd:=hfin.out _ w3 sg cap (hon2.out.alloc _).drew hG hgrow (by
   rcases hat with h|h
   ·exact .inl h
   ·exact .inr (by rw[h];simp))
  go_end0
  exact⟨rfl,hd⟩
end
def srC(T:ByteArray)(i:Nat):Array Value:=#[.string T,.int .i64 (i:Int)]
theorem emptyD(s:ByteArray):s.toList.isEmpty=decide (s.size=0):=by
 have h:s.toList=s.data.toList:=ByteArray.toList_eq s
 have h2:s.data.toList.length=s.size:=by rw[Array.length_toList];rfl
 rw[h,<-h2]
 cases s.data.toList<;>simp
def wdT(T:ByteArray)(i:Nat):ByteArray:=T.extract (wordFrom T.data.toList i) (wordTo T.data.toList i)
def wdE(T:ByteArray)(i:Nat):Nat:=wordEnd T.data.toList i
def wdC(T:ByteArray)(i:Nat):Int:=(wdE T i:Int) - (i:Int) + (if(wdT T i).size=0 then 0 else 1)
section
variable {w W:World}{F:Nat->Prop}{L:List Asr}{gs i:Nat}{T:ByteArray}{left:Int}
theorem s_word(h:On F w (AllA (BlkA gs 95 (srC T i)::L)) W)(hT:T.size<=60000)(hi:i<=T.size)(hE:wdE T i<=T.size∧i<=wdE T i)(hl:0<=left∧left<=1000000):
 Calls prog 260 #[.pointer (some ⟨gs,0,none⟩),.int .i64 left] W
  (Got (.returned (if left<wdC T i then .tuple #[.string ⟨#[]⟩,.int .i64 left,.int .i64 13]else .tuple #[.string (wdT T i),.int .i64 (left-wdC T i),.int .i64 0])) (AllA (BlkA gs 95 (srC T (if left<wdC T i then i else wdE T i))::L)) F w):=by
 have hw: ∀W,Calls prog 298 #[.string T,.int .i64 (i:Int)] W (Same (.tuple #[.string (wdT T i),.int .i64 ((wdE T i:Int) - (i:Int))]) W):=λW=>Look.d_word T oM i hi W
 obtain⟨hE1,hE2⟩:=hE
 obtain⟨hl0,hl1⟩:=hl
 have hb:Blk W gs 95 (srC T i):=h.blkAt 0 rfl
 have c0:W.cell? (gs,0)=some (.string T):=hb.cell 0
 have c1:W.cell? (gs,1)=some (.int .i64 (i:Int)):=hb.cell 1
 have f1:=hb.frozen 1
 have hst: ∀W2,On F w (AllA (BlkA gs 95 (srC T i)::L)) W2->On F w (AllA (BlkA gs 95 (srC T (wdE T i))::L)) (W2.setCell (gs,1) (.int .i64 (wdE T i:Int))):=λW2 h2=>h2.setAt 0 rfl 1 (.int .i64 (wdE T i:Int))
 have hem:=emptyD (wdT T i)
 have hC:wdC T i= (wdE T i:Int) - (i:Int) + (if(wdT T i).size=0 then 0 else 1):=rfl
 generalize wdC T i=c at *
 generalize wdT T i=t at *
 generalize wdE T i=E at *
 have hres: ∃v k,(if left<c then Value.tuple #[.string ⟨#[]⟩,.int .i64 left,.int .i64 13]else .tuple #[.string t,.int .i64 (left-c),.int .i64 0])=v∧(if left<c then i else E)=k:=⟨_,_,rfl,rfl⟩
 obtain⟨v,k,hv,hk⟩:=hres
 rw[hv,hk]
 replace hv:=hid hv
 replace hk:=hid hk
 replace hem:=hid hem
 replace hC:=hid hC
 replace hw:=hid hw
 replace hst:=hid hst
 replace h:=hid h
 clear hb
 go_enter func260,ntmps260
 go_wp2_with fail
 go_quiet ((go_at_call 298;exact Calls.quiet_of_same (hw.out _)))
 go_wp2
 ·have q1: (!t.toList.isEmpty)=true:=by assumption
  have hs: ¬t.size=0:=by rw[hem.out]at q1;simpa using q1
  have q2:left< (E:Int) - (i:Int) +1:=by assumption
  have hlt:left<c:=by rw[hC.out,if_neg hs];omega
  have e1:=hv.out
  have e2:=hk.out
  rw[if_pos hlt]at e1 e2
  rw[<-e1,<-e2]
  go_ret3
  exact⟨rfl,h.out.drewN _⟩
 ·have q1: (!t.toList.isEmpty)=true:=by assumption
  have hs: ¬t.size=0:=by rw[hem.out]at q1;simpa using q1
  have q2: (E:Int) - (i:Int) +1<=left:=by assumption
  have hlt: ¬left<c:=by rw[hC.out,if_neg hs];omega
  have e1:=hv.out
  have e2:=hk.out
  rw[if_neg hlt]at e1 e2
  rw[<-e1,<-e2]
  have ec:c= (E:Int) - (i:Int) +1:=by rw[hC.out,if_neg hs]
  rw[ec]
  go_ret3
  rw[show(i:Int) + ((E:Int) - (i:Int))= (E:Int)by omega]
  exact⟨rfl,hst.out _ (h.out.drewN _)⟩
 ·have q1: (!t.toList.isEmpty)=false:=by assumption
  have hs:t.size=0:=by rw[hem.out]at q1;simpa using q1
  have q2:left< (E:Int) - (i:Int):=by assumption
  have hlt:left<c:=by rw[hC.out,if_pos hs];omega
  have e1:=hv.out
  have e2:=hk.out
  rw[if_pos hlt]at e1 e2
  rw[<-e1,<-e2]
  go_ret3
  exact⟨rfl,h.out.drewN _⟩
 ·have q1: (!t.toList.isEmpty)=false:=by assumption
  have hs:t.size=0:=by rw[hem.out]at q1;simpa using q1
  have q2: (E:Int) - (i:Int)<=left:=by assumption
  have hlt: ¬left<c:=by rw[hC.out,if_pos hs];omega
  have e1:=hv.out
  have e2:=hk.out
  rw[if_neg hlt]at e1 e2
  rw[<-e1,<-e2]
  have ec:c= (E:Int) - (i:Int):=by rw[hC.out,if_pos hs];omega
  rw[ec]
  go_ret3
  rw[show(i:Int) + ((E:Int) - (i:Int))= (E:Int)by omega]
  exact⟨rfl,hst.out _ (h.out.drewN _)⟩
end
structure Dr where
 f:Int
 y:Dy
 x:Rw
 i:Nat
def Rw.crt(x:Rw)(n:List UInt8):Rw:=x.dic (x.D.createS x.S n) (x.D.createD x.S n)
def Rw.shw(x:Rw):Rw:=x.dic (x.D.turnS x.S showT) x.D
def Rw.cma(x:Rw)(v:Int):Rw:=x.dic (x.D.commaS x.S v) (x.D.commaD x.S)
def dCreate(T:ByteArray)(i:Nat)(y:Dy)(x:Rw):Dr:=
 if y.left<wdC T i then⟨13,y,x,i⟩
 else
  let y1:={ y with left:=y.left-wdC T i }
  let n:=(wdT T i).data.toList
  if x.D.createF x.S n≠0 then⟨x.D.createF x.S n,y1,x.crt n,wdE T i⟩
  else
   let x2:=(x.crt n).shw
   if x2.D.commaF x2.S≠0 then⟨x2.D.commaF x2.S,y1,x2.cma 17,wdE T i⟩
   else⟨(x2.cma 17).D.commaF (x2.cma 17).S,y1,(x2.cma 17).cma 0,wdE T i⟩
structure DW(x:Rw):Prop where
 ok:DOk x
 h8:At8 x.S x.D 16456 16960
 sh:x.D.shut x.S=false
theorem DW.grew{x:Rw}{S':Img}{D':Dc}(h:DW x)(g:Grew (x.S,x.D) (S',D')):DW (x.dic S' D'):=
 ⟨⟨h.ok.dd,h.ok.da,h.ok.rd,h.ok.ra,g.img,h.ok.L.alike g.al⟩,h.h8.next g.img g.dc g.al g.rg,g.shut.trans h.sh⟩
theorem DW.crt{x:Rw}(h:DW x)(n:List UInt8):DW (x.crt n):=h.grew (grew_create h.h8.img h.h8.ok n)
theorem DW.shw{x:Rw}(h:DW x):DW x.shw:=h.grew (grew_show h.h8.img h.h8.ok)
theorem DW.cma{x:Rw}(h:DW x)(v:Int):DW (x.cma v):=h.grew (grew_comma h.h8.img h.h8.ok v)
section
variable {w W:World}{F:Nat->Prop}{gx gs i:Nat}{src:Value}{y:Dy}{r:Rc}{ws sv:Value}{x:Rw}{seen:List Stp}{T:ByteArray}
theorem dx_create(h:On F w (AllA (dXL gx src y r ws sv x seen)) W)(hw:DW x)(s:ByteArray)(hs:s.size<=9223372036854775807):
 Calls prog 75 #[.pointer (some ⟨r.gS,0,none⟩),.string s] W (Got (.returned (.tuple #[.int .i64 (x.D.createV x.S s.data.toList),.int .i64 (x.D.createF x.S s.data.toList)])) (AllA (dXL gx src y r ws sv (x.crt s.data.toList) seen)) F w):=by
 refine mo (h.callAt2G 6 10 (by decide) rfl rfl λF' hb=>rd_create (On.refl hb) hw.h8 hw.sh s hs) λw' h2=>?_
 exact⟨rfl,dx_dic (Dc.alike_create _ _ _) h2⟩
theorem dx_show(h:On F w (AllA (dXL gx src y r ws sv x seen)) W)(hw:DW x):
 Calls prog 77 #[.pointer (some ⟨r.gS,0,none⟩),.int .i64 32,.int .i64 0] W (Got (.returned (.tuple #[])) (AllA (dXL gx src y r ws sv x.shw seen)) F w):=by
 refine mo (h.callAt2G 6 10 (by decide) rfl rfl λF' hb=>rd_flag (On.refl hb) hw.h8 hw.sh 32 0 showT flags_show oM oM) λw' h2=>?_
 exact⟨rfl,dx_dic (by rw[turn_show];exact Dc.alike_flag _ _ _ _) h2⟩
theorem dx_cma(h:On F w (AllA (dXL gx src y r ws sv x seen)) W)(hw:DW x)(v:Int)(hv:V64 v):
 Calls prog 80 #[.pointer (some ⟨r.gS,0,none⟩),.int .i64 v] W (Got (.returned (.int .i64 (x.D.commaF x.S))) (AllA (dXL gx src y r ws sv (x.cma v) seen)) F w):=dx_comma h hw.h8 hw.sh v hv
def sXL(gs:Nat)(T:ByteArray)(i:Nat)(gx:Nat)(y:Dy)(r:Rc)(ws sv:Value)(x:Rw)(seen:List Stp):List Asr:=BlkA gs 95 (srC T i)::dXL gx (.pointer (some ⟨gs,0,none⟩)) y r ws sv x seen
theorem r_create_few(h:On F w (AllA (sXL gs T i gx y r ws sv x seen)) W)(hT:T.size<=60000)(hi:i<=T.size)(hE:wdE T i<=T.size∧i<=wdE T i)(hl:0<=y.left∧y.left<=1000000)(hc:y.left<wdC T i):
 Calls prog 198 #[.pointer (some ⟨gx,0,none⟩)] W (Got (.returned (.int .i64 13)) (AllA (sXL gs T i gx y r ws sv x seen)) F w):=by
 have hw: ∀W2,On F w (AllA (sXL gs T i gx y r ws sv x seen)) W2->Calls prog 260 #[.pointer (some ⟨gs,0,none⟩),.int .i64 y.left] W2 (Got (.returned (.tuple #[.string ⟨#[]⟩,.int .i64 y.left,.int .i64 13])) (AllA (sXL gs T i gx y r ws sv x seen)) F w):=λW2 h2=>by
  have h3:=s_word h2 hT hi hE hl
  rw[if_pos hc,if_pos hc]at h3
  exact h3
 have hcs: ∀W2,On F w (AllA (sXL gs T i gx y r ws sv x seen)) W2->W2.cell? (gx,2)=some (.int .i64 y.left)∧W2.cell? (gx,8)=some (.pointer (some ⟨gs,0,none⟩)):=λW2 h2=>⟨(dx_cells h2.tail).x2,(dx_cells h2.tail).x8⟩
 obtain⟨x2,x8⟩:=hcs _ h
 generalize y.left=left at *
 replace hw:=hid hw
 replace hcs:=hid hcs
 replace h:=hid h
 clear hT hi hE hl hc
 go_enter func198,ntmps198
 go_upto_region 3 with fail
 go_cut [5] (λt5 wx=>t5 = .int .i64 13∧On F w (AllA (sXL gs T i gx y r ws sv x seen)) wx)
 case first=>
  go_region_held (λw'=>w'.cell? (gx,2)=some (.int .i64 left)∧w'.cell? (gx,8)=some (.pointer (some ⟨gs,0,none⟩))) (go_keep)
   ((go_at_call 260;refine mo (hw.out _ (h.out.drewN _)) λw3 h=>?_;simp only[];obtain⟨n2,n8⟩:=hcs.out _ h;replace h:=hid h))
  all_goals go_wp2_with fail
  all_goals go_meet
  all_goals exact⟨rfl,h.out⟩
 case rest=>
 obtain⟨rfl,hon⟩:=hcut
 replace hon:=hid hon
 clear x2 x8 h
 go_wp2
 go_ret
 exact⟨rfl,hon.out⟩
theorem r_create(h:On F w (AllA (sXL gs T i gx y r ws sv x seen)) W)(hT:T.size<=60000)(hi:i<=T.size)(hE:wdE T i<=T.size∧i<=wdE T i)(hl:0<=y.left∧y.left<=1000000)(hw0:DW x):
 Calls prog 198 #[.pointer (some ⟨gx,0,none⟩)] W (Got (.returned (.int .i64 (dCreate T i y x).f)) (AllA (sXL gs T (dCreate T i y x).i gx (dCreate T i y x).y r ws sv (dCreate T i y x).x seen)) F w):=by
 by_cases hc:y.left<wdC T i
 ·have e:dCreate T i y x= ⟨13,y,x,i⟩:=by unfold dCreate;rw[if_pos hc]
  rw[e]
  exact r_create_few h hT hi hE hl hc
 have e:dCreate T i y x= (if x.D.createF x.S (wdT T i).data.toList≠0 then⟨x.D.createF x.S (wdT T i).data.toList,{ y with left:=y.left-wdC T i },x.crt (wdT T i).data.toList,wdE T i⟩
  else if(x.crt (wdT T i).data.toList).shw.D.commaF (x.crt (wdT T i).data.toList).shw.S≠0 then⟨(x.crt (wdT T i).data.toList).shw.D.commaF (x.crt (wdT T i).data.toList).shw.S,{ y with left:=y.left-wdC T i },(x.crt (wdT T i).data.toList).shw.cma 17,wdE T i⟩
  else⟨((x.crt (wdT T i).data.toList).shw.cma 17).D.commaF ((x.crt (wdT T i).data.toList).shw.cma 17).S,{ y with left:=y.left-wdC T i },((x.crt (wdT T i).data.toList).shw.cma 17).cma 0,wdE T i⟩):=by unfold dCreate;rw[if_neg hc]
 rw[e]
 have hw: ∀W2,On F w (AllA (sXL gs T i gx y r ws sv x seen)) W2->Calls prog 260 #[.pointer (some ⟨gs,0,none⟩),.int .i64 y.left] W2 (Got (.returned (.tuple #[.string (wdT T i),.int .i64 (y.left-wdC T i),.int .i64 0])) (AllA (sXL gs T (wdE T i) gx y r ws sv x seen)) F w):=λW2 h2=>by
  have h3:=s_word h2 hT hi hE hl
  rw[if_neg hc,if_neg hc]at h3
  exact h3
 have hn: (wdT T i).size<=9223372036854775807:=by
  have: (wdT T i).size<=T.size:=by unfold wdT;rw[ByteArray.size_extract];omega
  omega
 have hcr:=λ(y':Dy) (k:Nat) W2 (h2:On F w (AllA (sXL gs T k gx y' r ws sv x seen)) W2)=>On.callTail h2 λF' hb _ _=>dx_create (On.refl hb) hw0 (wdT T i) hn
 have hw1:=hw0.crt (wdT T i).data.toList
 generalize x.D.createV x.S (wdT T i).data.toList=cv at *
 generalize x.D.createF x.S (wdT T i).data.toList=f1 at *
 generalize x.crt (wdT T i).data.toList=x1 at *
 have hsh:=λ(y':Dy) (k:Nat) W2 (h2:On F w (AllA (sXL gs T k gx y' r ws sv x1 seen)) W2)=>On.callTail h2 λF' hb _ _=>dx_show (On.refl hb) hw1
 have hw2:=hw1.shw
 generalize x1.shw=x2 at *
 have hc1:=λ(y':Dy) (k:Nat) W2 (h2:On F w (AllA (sXL gs T k gx y' r ws sv x2 seen)) W2)=>On.callTail h2 λF' hb _ _=>dx_cma (On.refl hb) hw2 17 (by unfold V64;omega)
 have hw3:=hw2.cma 17
 generalize x2.D.commaF x2.S=f2 at *
 generalize x2.cma 17=x3 at *
 have hc2:=λ(y':Dy) (k:Nat) W2 (h2:On F w (AllA (sXL gs T k gx y' r ws sv x3 seen)) W2)=>On.callTail h2 λF' hb _ _=>dx_cma (On.refl hb) hw3 0 (by unfold V64;omega)
 generalize x3.D.commaF x3.S=f3 at *
 generalize x3.cma 0=x4 at *
 have hcs: ∀(y':Dy) (k:Nat) (x':Rw) W2,On F w (AllA (sXL gs T k gx y' r ws sv x' seen)) W2->DxC W2 gx (.pointer (some ⟨gs,0,none⟩)) y' r ws sv x':=λy' k x' W2 h2=>dx_cells h2.tail
 have hst: ∀(k:Nat) (v:Int) W2,On F w (AllA (sXL gs T k gx y r ws sv x seen)) W2->On F w (AllA (sXL gs T k gx { y with left:=v } r ws sv x seen)) (W2.setCell ⟨gx,2,none⟩ (.int .i64 v)):=λk v W2 h2=>h2.setAt 1 rfl 2 (.int .i64 v)
 have hc:=hcs _ _ _ _ h
 have x2':=hc.x2
 have x8:=hc.x8
 generalize wdT T i=nm at *
 generalize wdC T i=c at *
 generalize wdE T i=E at *
 clear e
 obtain⟨q,hq⟩: ∃q:Dr,(if f1≠0 then⟨f1,{ y with left:=y.left-c },x1,E⟩else if f2≠0 then⟨f2,{ y with left:=y.left-c },x3,E⟩else⟨f3,{ y with left:=y.left-c },x4,E⟩)=q:=⟨_,rfl⟩
 rw[hq]
 replace hq:=hid hq
 replace hw:=hid hw
 replace hcr:=hid hcr
 replace hsh:=hid hsh
 replace hc1:=hid hc1
 replace hc2:=hid hc2
 replace hcs:=hid hcs
 replace hst:=hid hst
 replace h:=hid h
 clear hT hi hE hw0 hw1 hw2 hw3 hn hc
 go_enter func198,ntmps198
 go_upto_region 3 with fail
 go_cut [3,4,5] (λt3 t4 t5 wx=>t3 = .string nm∧t4 = .int .i64 (y.left-c)∧t5 = .int .i64 0∧On F w (AllA (sXL gs T E gx y r ws sv x seen)) wx)
 case first=>
  go_region_held (λw'=>w'.cell? (gx,2)=some (.int .i64 y.left)∧w'.cell? (gx,8)=some (.pointer (some ⟨gs,0,none⟩))) (go_keep)
   ((go_at_call 260;refine mo (hw.out _ (h.out.drewN _)) λw3 h=>?_;simp only[];have n2:=(hcs.out _ _ _ _ h).x2;have n8:=(hcs.out _ _ _ _ h).x8;replace h:=hid h))
  all_goals go_wp2_with fail
  all_goals go_meet
  all_goals exact⟨rfl,rfl,rfl,h.out⟩
 case rest=>
 obtain⟨rfl,rfl,rfl,hon⟩:=hcut
 have hc:=hcs.out _ _ _ _ hon
 have k2:=hc.x2
 have kf:=hc.xf 2
 have hs:=hst.out _ (y.left-c) _ hon
 replace hs:=hid hs
 clear x2' x8 h hw hc hon
 go_upto_region 6 with fail
 go_cut [] (λwx=>On F w (AllA (sXL gs T E gx { y with left:=y.left-c } r ws sv x seen)) wx)
 case first=>
  go_wp2_with fail
  go_meet
  exact hs.out
 case rest=>
 have hon:=hcut
 have hc:=hcs.out _ _ _ _ hon
 have k0:=hc.x0
 have k3:=hc.w3
 have hcall:=hcr.out _ _ _ hon
 replace hcall:=hid hcall
 clear hc hcut hon k2 kf hs
 go_wp2_with fail
 refine mo hcall.out λw3 hon=>?_
 simp only[]
 by_cases hf:f1=0
 ·subst hf
  have hcall:=hsh.out _ _ _ hon
  replace hcall:=hid hcall
  clear hon
  go_wp2_with fail
  refine mo hcall.out λw4 hon=>?_
  simp only[]
  have hcall:=hc1.out _ _ _ hon
  replace hcall:=hid hcall
  clear hon
  go_wp2_with fail
  refine mo hcall.out λw5 hon=>?_
  simp only[]
  by_cases hf2:f2=0
  ·subst hf2
   have e1:q= ⟨f3,{ y with left:=y.left-c },x4,E⟩:=by rw[<-hq.out,if_neg (by simp),if_neg (by simp)]
   have hcall:=hc2.out _ _ _ hon
   replace hcall:=hid hcall
   replace e1:=hid e1
   clear hon
   go_wp2_with fail
   refine mo hcall.out λw6 hon=>?_
   simp only[]
   replace hon:=hid hon
   go_wp2
   go_ret
   rw[e1.out]
   exact⟨rfl,hon.out⟩
  ·have e1:q= ⟨f2,{ y with left:=y.left-c },x3,E⟩:=by rw[<-hq.out,if_neg (by simp),if_pos hf2]
   have hfb: (f2 != 0)=true:=by simpa using hf2
   replace hf2:=hid hf2
   replace hon:=hid hon
   replace e1:=hid e1
   go_wp2
   go_ret
   rw[e1.out]
   exact⟨rfl,hon.out⟩
 ·have e1:q= ⟨f1,{ y with left:=y.left-c },x1,E⟩:=by rw[<-hq.out,if_pos hf]
  have hfb: (f1 != 0)=true:=by simpa using hf
  replace hf:=hid hf
  replace hon:=hid hon
  replace e1:=hid e1
  clear hcall
  go_wp2
  go_ret
  rw[e1.out]
  exact⟨rfl,hon.out⟩
end
end Vm
namespace Img
variable {w:World}{g gb:Nat}{S:Img}
theorem q_cell(hr:IRRep w g gb S)(m a:Int):Calls prog 184 #[.pointer (some ⟨g,0,none⟩),.int .i64 m,.int .i64 a] w (Gives (.tuple #[.int .i64 (S.cellV m a),.int .i64 (S.cellF m a false)]) w):=by
 by_cases hal:a % 8=0
 ·have h80: (8:Nat)≠0:=by omega
  have h8: (8:Nat)<=9223372036854775807:=by omega
  rcases r_row_of hr m a 8 h80 h8 false with⟨hk,hrow⟩ | ⟨hk,k,rfl,hle,hrow⟩
  ·have hF:S.cellF m a false=5:=by unfold Img.cellF;simp[hal,hk]
   have hV:S.cellV m a=0:=by unfold Img.cellV;simp[hF]
   rw[hF,hV]
   exact r_cell_no _ m a w hal hrow
  ·have hF:S.cellF m k false=0:=by unfold Img.cellF;simp[hal,hk]
   have hV:S.cellV m k=ofB (S.bytes k 8):=by unfold Img.cellV;simp[hF]
   rw[hF,hV]
   exact r_cell_yes hr m k hle hal hrow
 ·have hF:S.cellF m a false=6:=by unfold Img.cellF;simp[hal]
  have hV:S.cellV m a=0:=by unfold Img.cellV;simp[hF]
  rw[hF,hV]
  exact r_cell_mis _ m a w hal
theorem q_fetch(hr:IRRep w g gb S)(m a v:Int)(hf:S.cellF m a false=0)(hv:S.cellV m a=v)(hvr : -9223372036854775808<=v∧v<=9223372036854775807)(ha : -9223372036854775808<=a∧a<=9223372036854775807)(op arg:Int)(hun:Code.unpack v= (op,arg,true))(n2: (op==2)=false)(n19: (op==19)=false):
 Calls prog 131 #[.pointer (some ⟨g,0,none⟩),.int .i64 m,.int .i64 a] w (Gives (.tuple #[Inst.v ⟨op,arg,0,1⟩,.int .i64 0]) w):=by
 have hb:=(At.refl w).box Inst.none.c 213
 have hrb:=hr.below hb.below
 have hc:=q_cell hrb m a
 rw[hf,hv]at hc
 obtain⟨q1,q2⟩:=ha
 replace hc:=hid hc
 replace hb:=hid hb
 clear hf hv hr hrb
 have hu:=λw=>Unpack_walk v hvr w
 rw[hun]at hu
 replace hu:=hid hu
 clear hvr
 clear hun
 go_enter func131,ntmps131
 go_wp2_with fail
 refine mo hc.out λw1 hbl=>?_
 simp only[]
 have h1:=hb.out.ofBelow hbl
 replace h1:=hid h1
 replace hbl:=hid hbl
 go_wp2_with fail
 refine(hu.out w1).mono ?_
 rintro e w2 ⟨rfl,rfl⟩
 have hz:=h1.out.below.size
 have hB:=hid ((h1.out.box (Inst.c ⟨op,arg,0,1⟩) 213).swap)
 obtain⟨⟨c0,c1,c2,c3⟩,f0,f1,f2,f3⟩:=box4 hB.out.blk
 obtain⟨⟨d0,d1,d2,d3⟩,e0,e1,e2,e3⟩:=box4 hB.out.swap.blk
 have h2:=hid (hB.out.put4 ⟨op,arg,0,1⟩)
 simp only[Inst.none,Inst.c]at c0 c1 c2 c3 d0 d1 d2 d3 f0 f1 f2 f3
 go_wp2
 refine bodyPost_ret (v:= .tuple #[Inst.v ⟨op,arg,0,1⟩,.int .i64 _]) (by simp[results,results131,go_sem,c0,c1,c2,c3,Inst.v]) rfl ⟨rfl,?_⟩
 exact h2.out.below
end Img
end Go.Proofs.YtngdikikclfgjaaGreatDoor
