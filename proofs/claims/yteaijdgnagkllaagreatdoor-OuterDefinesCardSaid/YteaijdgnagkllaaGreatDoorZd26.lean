/- Chapter 8: going over the words of the program's wordlist. Conditions: as written. -/
import Derived.RangeFuncNested
import Derived.RangeFuncBound
import Derived.Shelf.RegionOpen
import Derived.OwnWalkIn
import Derived.LoopNIn
import Derived.LoopIn
import Derived.Test.YteaijdgnagkllaaGreatDoorZd25
open Go.Proofs.Tryz
namespace Go.Proofs.YteaijdgnagkllaaGreatDoor
set_option linter.unusedVariables false
set_option linter.unusedSimpArgs false
set_option maxHeartbeats 8000000
set_option maxRecDepth 100000
open Go.RowKit Go.Lib Go.Shelf
attribute [local go_sem] Oper.semAt_some
namespace Vm
structure KeepsCells(A B:World):Prop where
 size:A.heap.size<=B.heap.size
 same: ∀(k:Nat) (o:Obj),A.heap[k]? = some o->o.isCells=true->B.heap[k]? = some o
theorem KeepsCells.refl(A:World):KeepsCells A A:=⟨Nat.le_refl _,λ_ _ h _=>h⟩
theorem keepsCells_t{A B C:World}(h:KeepsCells A B)(k:KeepsCells B C):KeepsCells A C:=⟨Nat.le_trans h.size k.size,λi o hi ho=>k.same i o (h.same i o hi ho) ho⟩
theorem keepsCells_b{w:World}(W:World)(l:Nat)(o o':Obj)(_:w.heap.size<=l)(h:W.heap[l]? = some o)(hc:o.isCells=false)(_:o.isWalk=false):KeepsCells W (W.putObj l o'):=
 ⟨by simp,λk o2 hk ho=>by
  by_cases e:k=l
  ·subst e;rw[h]at hk;cases hk;rw[hc]at ho;cases ho
  ·exact(World.putObj_heap_other e).trans hk⟩
theorem keepsCells_below{A B:World}(h:Below A.heap.size A B):KeepsCells A B:=⟨h.size,λk o hk _=>(h.block k (Array.getElem?_eq_some_iff.1 hk).1).trans hk⟩
theorem grown_of_below{A B:World}(h:Below A.heap.size A B):A.grownBy B none:=⟨h.os,h.tape,h.output,h.size,λk hk _=>h.block k hk⟩
theorem rowW_keeps{A B:World}{F:Nat->Prop}{v:Value}{l:List Wd}(h: (RowW v l).holds A F)(hk:KeepsCells A B): (RowW v l).holds B F:=by
 refine⟨?_,h.2⟩
 obtain⟨hx,h1| ⟨g,cap,cur,rfl,hg,hc,r⟩⟩:=h.1
 ·exact⟨hx,.inl h1⟩
 ·exact⟨hx,.inr ⟨g,cap,cur,rfl,hg,hk.same g _ hc rfl,r⟩⟩
theorem wordsC_get: ∀(l:List Wd) (k i:Nat) (hk:k<l.length) (hi:i<6),(wordsC l)[k*6+i]? = ((l.getD k ⟨[],0,0,false,false,false⟩).c)[i]?
 | [],k,i,hk,_=>by simp at hk
 | x::l,0,i,_,hi=>by
   show(x.c.toList++wordsC l)[0*6+i]? = _
   have e:0*6+i=i:=by omega
   rw[e,List.getElem?_append_left (by simp[Wd.c];exact hi)]
   simp
 | x::l,k+1,i,hk,hi=>by
   show(x.c.toList++wordsC l)[(k+1)*6+i]? = _
   have hl:x.c.toList.length=6:=rfl
   rw[List.getElem?_append_right (by rw[hl];omega),hl,show(k+1)*6+i-6=k*6+i by omega,wordsC_get l k i (by simpa using hk) hi]
   simp
theorem rowW_form{A:World}{F:Nat->Prop}{v:Value}{l:List Wd}(h: (RowW v l).holds A F): (v = .slice none 0 0∧l = [])∨∃g cap,v = .slice (some ⟨g,0,none⟩) l.length cap∧
 ∀k,k<l.length->∀i,i<6->A.cell? ⟨g,k*6+i,none⟩= ((l.getD k ⟨[],0,0,false,false,false⟩).c)[i]? :=by
 have hcs:=λg hg=>World.ownsRow.cells (g:=g) h.1 hg
 obtain⟨hx,⟨h1,h2⟩ | ⟨g,cap,cur,rfl,hg,hc,r⟩⟩:=h.1
 ·exact .inl ⟨h1,List.eq_nil_of_length_eq_zero h2⟩
 ·refine .inr ⟨g,cap,rfl,λk hk i hi=> ?_⟩
  have hi2:i< ((l.getD k ⟨[],0,0,false,false,false⟩).c).size:=hi
  have h3:=wordsC_get l k i hk hi
  rw[Array.getElem?_eq_getElem hi2]at h3⊢
  have h4:=hcs g rfl (k*6+i) _ h3
  have h5: ((⟨g,0,none⟩:Addr).add (k*6+i))= ⟨g,k*6+i,none⟩:=by simp[Addr.add];intro h;omega
  rw[h5]at h4
  exact h4
section
variable {g gI gb fr en:Nat}{D:Dc}{S:Img}
abbrev WdS:={ x:Wd // x.name.length<=31 }
def wd0:WdS:=⟨⟨[],0,0,false,false,false⟩,by simp⟩
def vals(l:List WdS):List Wd:=l.map (·.1)
theorem vals_len(l:List WdS): (vals l).length=l.length:=by simp[vals]
theorem vals_get(l:List WdS)(k:Nat)(hk:k<l.length): (vals l).getD k ⟨[],0,0,false,false,false⟩= (l.getD k wd0).1:=by
 rw[List.getD_eq_getElem?_getD,List.getD_eq_getElem?_getD,List.getElem?_eq_getElem (by rw[vals_len];exact hk),List.getElem?_eq_getElem hk]
 simp[vals]
theorem headW_name{a n:Int}{x:Wd}(h:headW S D a=some (x,n)):x.name.length<=31:=by
 unfold headW at h
 by_cases ho:a % 8≠0∨a<D.fr S∨(D.lim S:Int) <a+16
 ·rw[if_pos ho]at h;cases h
 rw[if_neg ho]at h
 simp only at h
 split at h
 ·cases h
 ·injection h with h
  injection h with h _
  rw[<-h]
  simp
  omega
theorem wordsF_name(S:Img)(D:Dc): ∀(k:Nat) (a:Int),∀x∈wordsF S D k a,x.name.length<=31
 | 0,_,x,hx=>by simp[wordsF]at hx
 | k+1,a,x,hx=>by
   unfold wordsF at hx
   rcases hh:headW S D a with _| ⟨y,n⟩
   ·rw[hh]at hx;simp at hx
   ·rw[hh]at hx
    simp only at hx
    have hy:=headW_name hh
    split at hx
    ·rw[List.mem_singleton.1 hx];exact hy
    ·rcases List.mem_cons.1 hx with rfl|hx
     ·exact hy
     ·exact wordsF_name S D k n x hx
def wordsS(S:Img)(D:Dc):List WdS:=(words S D).attach.map λx=>⟨x.1,wordsF_name S D _ _ x.1 x.2⟩
theorem vals_words(S:Img)(D:Dc):vals (wordsS S D)=words S D:=by
 unfold vals wordsS
 rw[List.map_map]
 exact List.attach_map_subtype_val _
theorem wordsF_le(S:Img)(D:Dc): ∀(k:Nat) (a:Int),(wordsF S D k a).length<=k
 | 0,_=>Nat.le_refl _
 | k+1,a=>by
   unfold wordsF
   rcases headW S D a with _| ⟨x,n⟩
   ·simp
   ·simp only
    split
    ·simp
    ·have:=wordsF_le S D k n
     simp
     omega
theorem words_le(h8:At8 S D fr en): (words S D).length<=1000000:=by
 have h1:=wordsF_le S D (D.l+1) D.l
 have h2:=h8.ok.l
 rw[h8.lim]at h2
 have h3:=h8.le
 unfold words
 omega
theorem all1_in(n:Nat)(hn:1<=n)(l Bd:Nat)(wl:List WdS)(hws:wl.length<=1000000)(J Jx:List WdS->World->Prop)(W:World)(hJ:AbidesFrom W.heap.size J)
 (hY: ∀pre x W1,J pre W1->pre.length<wl.length->YieldAt Fence.wide (n-1) prog l #[.agg x.1.c] W1 λe W'=>
  (e = .returned (.bool true)∧J (pre ++ [x]) W'∧KeepsCells W1 W')∨(e = .returned (.bool false)∧Jx (pre ++ [x]) W'))
 (hBd:W.cell? ⟨Bd,0,none⟩=some (.pointer (some ⟨g,0,none⟩))) (hwk:Calls prog 81 #[.pointer (some ⟨g,0,none⟩)] W (WalkPost (vals wl) W)) (h0:J [] W):
 CallsIn Fence.wide n prog 80 #[.func (.yield l) #[] #[],.pointer (some ⟨Bd,0,none⟩)] W λe W'=>(∃v,e = .returned v)∧
  ((∃ys,ys=wl∧J ys W')∨(∃pre,pre <+: wl∧Jx pre W')):=by
 refine callsIn_of_wp func80 rfl trivial ?_ rfl
 simp only[ntmps80,List.size_toArray,List.length_cons,List.length_nil,Nat.reduceAdd,Nat.reduceSub,Array.replicate_succ,Array.replicate_zero,List.push_toArray,List.append_toArray,List.nil_append,List.cons_append]
 obtain⟨ws,hws2⟩: ∃ws,vals wl=ws:=⟨_,rfl⟩
 have hwl:ws.length=wl.length:=by rw[<-hws2];exact vals_len wl
 have hvg:=λk hk=>vals_get wl k hk
 rw[hws2]at hwk hvg
 rw[<-hwl]at hws
 have hwk2:Calls prog 81 #[.pointer (some ⟨g,0,none⟩)] W (λe w'=> ∃A cap,e = .returned (.slice A ws.length cap)∧On Nob W (AllA [RowW (.slice A ws.length cap) ws]) w'):=hwk.mono λe w' ⟨v,he,hon⟩=>by
  obtain⟨F1,hR⟩:=hon.at_ 0 rfl
  rcases rowW_form hR with⟨rfl,rfl⟩ | ⟨g1,cap,rfl,_⟩
  ·exact⟨none,0,he,hon⟩
  ·exact⟨_,_,he,hon⟩
 replace hwk2:=hid hwk2
 replace hwl:=hid hwl
 replace hvg:=hid hvg
 clear hws2
 replace hY:=hid hY
 replace hJ:=hid hJ
 clear hwk
 gi_wp2_with (refine⟨trivial,?_⟩;gi_at_call 81;refine(callsIn_wide.2 hwk2.out).mono ?_;rintro e w' ⟨A,cap,rfl,hon⟩)
 have hJ0:J [] w':=hJ.out _ _ _ none h0 (grown_of_below hon.outB) (λr e=>by cases e)
 have hsz:W.heap.size<=w'.heap.size:=hon.outB.size
 replace hon:=hid hon
 replace hJ0:=hid hJ0
 clear h0
 gi_loopw [8] (λi wr=> ∃k:Nat,k<=ws.length∧i = .int .i64 k∧J (wl.take k) wr∧(∃F',(RowW (.slice A ws.length cap) ws).holds wr F')∧W.heap.size<=wr.heap.size)
  (λi _=>ws.length- (intOf i).toNat)
 case atStart=>exact⟨0,Nat.zero_le _,rfl,hJ0.out,hon.out.at_ 0 rfl,hsz⟩
 case round=>
  obtain⟨k,hk,rfl,hJs,⟨F',hR⟩,hsr⟩:=hrel
  by_cases hlt:k<ws.length
  ·have hlt2:k<wl.length:=by rw[<-hwl.out];exact hlt
   obtain⟨xs,hxs⟩: ∃xs,wl.getD k wd0=xs:=⟨_,rfl⟩
   obtain⟨x,hx⟩: ∃x,ws.getD k ⟨[],0,0,false,false,false⟩=x:=⟨_,rfl⟩
   have hxx:xs.1=x:=by rw[<-hx,hvg.out k hlt2,hxs]
   have htk:wl.take k ++ [xs]=wl.take (k+1):=by
    rw[List.take_succ_eq_append_getElem hlt2,<-hxs,List.getD_eq_getElem?_getD,List.getElem?_eq_getElem hlt2]
    rfl
   have hJ1:J (wl.take k) (wr.alloc (.cells x.c 55)):=hJ.out _ _ _ none hJs (grown_of_below ((Below.refl _ _).alloc (Nat.le_refl _) _)) (λr e=>by cases e)
   obtain⟨fn,tmps,assign,body,hy,hRd⟩:=hY.out _ xs _ hJ1 (by rw[List.length_take];omega)
   rw[hxx]at hy
   rcases rowW_form hR with⟨h1,h1'⟩ | ⟨g1,cap1,hv,hcs⟩
   ·rw[h1']at hlt;simp at hlt
   injection hv with hA _ hcap
   subst hA hcap
   have hc0:=hcs k hlt 0 oM
   have hc1:=hcs k hlt 1 oM
   have hc2:=hcs k hlt 2 oM
   have hc3:=hcs k hlt 3 oM
   have hc4:=hcs k hlt 4 oM
   have hc5:=hcs k hlt 5 oM
   rw[hx]at hc0 hc1 hc2 hc3 hc4 hc5
   have hR1: ∃F',(RowW (.slice (some ⟨g1,0,none⟩) ws.length cap) ws).holds (wr.alloc (.cells x.c 55)) F':=⟨F',rowW_keeps hR (keepsCells_below ((Below.refl _ _).alloc (Nat.le_refl _) _))⟩
   have hwa:W.heap.size<=(wr.alloc (.cells x.c 55)).heap.size:=by simp;omega
   obtain⟨nm,hd,xt,im,hh,il⟩:=x
   have e0: (⟨nm,hd,xt,im,hh,il⟩:Wd).c=#[.string ⟨nm.toArray⟩,.int .i64 (hd:Int),.int .i64 (xt:Int),.bool im,.bool hh,.bool il]:=rfl
   rw[e0]at hc0 hc1 hc2 hc3 hc4 hc5 hy hRd hR1 hwa
   simp only[List.getElem?_toArray,List.getElem?_cons_zero,List.getElem?_cons_succ,Nat.add_zero]at hc0 hc1 hc2 hc3 hc4 hc5
   replace hRd:=hid hRd
   replace hR1:=hid hR1
   replace hx:=hid hx
   replace hxs:=hid hxs
   replace hxx:=hid hxx
   replace htk:=hid htk
   replace hcs:=hid hcs
   replace hR:=hid hR
   replace hJ1:=hid hJ1
   replace hJs:=hid hJs
   (try dsimp only at hy)
   gi_wp2
   refine hRd.out.mono ?_
   rintro e W3 (⟨rfl,hJ3,hk3⟩ | ⟨rfl,hJx3⟩)
   ·obtain⟨F3,hR3⟩:=hR1.out
    have hR4:=rowW_keeps hR3 hk3
    have hs3:=Nat.le_trans hwa hk3.size
    rw[htk.out]at hJ3
    replace hJ3:=hid hJ3
    replace hR4:=hid hR4
    clear hR3 hk3
    gi_wp2
    go_roundw
    case rel=>exact⟨k+1,by omega,by simp,hJ3.out,⟨F3,hR4.out⟩,hs3⟩
    case measure=>simp[intOf];omega
   ·rw[htk.out]at hJx3
    replace hJx3:=hid hJx3
    gi_wp2
    refine bodyPost_ret (results_none rfl _ _ _) rfl ?_
    exact⟨⟨_,rfl⟩,.inr ⟨_,List.take_prefix _ _,hJx3.out⟩⟩
  ·obtain rfl:k=ws.length:=by omega
   gi_wp2
   go_end0
   exact⟨⟨_,rfl⟩,.inl ⟨_,rfl,by rw[List.take_of_length_le (by rw[<-hwl.out];exact Nat.le_refl _)]at hJs;exact hJs⟩⟩
theorem all_stops(n:Nat)(hn:1<=n)(Bd:Nat)(w:World)(hs:Blk w g 146 (dictC gI fr en (D.h:Int) (D.l:Int)))(hi:IRep w gI gb S)(h8:At8 S D fr en)(hBd:Bd<w.heap.size)(hc:w.cell? ⟨Bd,0,none⟩=some (.pointer (some ⟨g,0,none⟩))):
 SeqStopsK Fence.wide n prog 80 #[.pointer (some ⟨Bd,0,none⟩)] (λx:WdS=>#[Value.agg x.1.c]) KeepsCells (λys=>ys=wordsS S D) (λpre=>pre <+: wordsS S D) (wordsS S D).length w:=λl J Jx W hW hJ hJx hY h0=>
 all1_in n hn l Bd (wordsS S D) (by rw[<-vals_len,vals_words];exact words_le h8) J Jx W hJ hY ((hW.cell (p:=⟨Bd,0,none⟩) hBd).trans hc) (by rw[vals_words];exact d_walk (hs.below hW hs.lt) ⟨hi.blk.below hW hi.blk.lt,hi.row.below hW hi.row.lt,hi.ok⟩ h8) h0
theorem d_all(w:World):Calls prog 47 #[.pointer (some ⟨g,0,none⟩)] w λe w'=>e = .returned (.func (.func 80) #[] #[.pointer (some ⟨w.heap.size,0,none⟩)])∧w'=w.alloc (.cells #[.pointer (some ⟨g,0,none⟩)] 29):=by
 have hmf: ∀(fn:Fn) (first cap:Array Value) (w:World),(Instr.makeFunc fn first cap).run prog w = .ok (.func fn first cap) w:=λ_ _ _ _=>rfl
 go_enter func47,ntmps47
 go_wp2
 go_ret
 exact⟨rfl,rfl⟩
end
end Vm
attribute [local go_sem] Oper.semAt_some
namespace Vm
def fits(nm:List UInt8)(x:Wd):Bool:= !x.hid&&sameB x.name nm
def foundV(r:Option Wd):Value:= .tuple #[.agg (match r with|some x=>x.c|none=>noWd),.bool r.isSome]
def FindPost(r:Option Wd)(w:World)(e:Ending)(w':World):Prop:=e = .returned (foundV r)∧Below w.heap.size w w'
theorem own_blk{B':Nat}{B:Nat}{t:TypeId}{cs:Array Value}{X Y:World}{row:Option Nat}(hs:Blk X B t cs)(hg:X.grownBy Y row)(hrow: ∀r,row=some r->B'<=r∧∃o:Obj,X.heap[r]? = some o∧o.isCells=false):Blk Y B t cs:=
 (hg.block B (Blk.lt hs) (λe=>by obtain⟨_,o,ho,hc⟩:=hrow B e.symm;rw[show X.heap[B]? = _ from hs]at ho;cases ho;cases hc)).trans hs
theorem own_below{B B':Nat}{w X Y:World}{row:Option Nat}(h:Below B w X)(hB:B<=w.heap.size)(hBB:B<=B')(hg:X.grownBy Y row)(hrow: ∀r,row=some r->B'<=r∧∃o:Obj,X.heap[r]? = some o∧o.isCells=false):Below B w Y:=
 ⟨hg.os.trans h.os,hg.tape.trans h.tape,hg.output.trans h.output,Nat.le_trans h.size hg.size,λk hk=>(hg.block k (by have:=h.size;omega) (λe=>by have:=(hrow k e.symm).1;omega)).trans (h.block k hk)⟩
structure FindI(b0:Nat)(w:World)(nm:ByteArray)(pre:List WdS)(W:World):Prop where
 no: ∀y∈pre,fits nm.data.toList y.1=false
 b1:Blk W b0 9 #[.string nm]
 b2:Blk W (b0+1) 55 noWd
 b3:Blk W (b0+1+1) 4 #[.bool false]
 below:Below b0 w W
 sz:b0+4<=W.heap.size
structure FindX(b0:Nat)(w:World)(nm:ByteArray)(c:Code)(pre:List WdS)(W:World):Prop where
 ret:c = .ret
 yes: ∃p x,pre=p ++ [x]∧fits nm.data.toList x.1=true∧(∀y∈p,fits nm.data.toList y.1=false)∧Blk W (b0+1) 55 x.1.c
 b3:Blk W (b0+1+1) 4 #[.bool true]
 below:Below b0 w W
def FindA(b0 g:Nat)(nm:ByteArray)(x:WdS)(a:Act)(W:World):Prop:=
 ∃Bx,b0+4<=Bx∧Blk W Bx 55 x.1.c∧a = { tmps:=#[g,.string nm,undef,b0,.pointer (some ⟨b0+1,0,none⟩),.pointer (some ⟨b0+1+1,0,none⟩),Bx,g,.func (.func 80) #[] #[.pointer (some ⟨b0+1+1+1,0,none⟩)],.agg x.1.c,undef,undef,undef,undef,undef,undef,undef,undef,undef,undef,undef],defers:=[] }
theorem keepsFrom_below{B:Nat}{W W':World}(h:Below W.heap.size W W'):KeepsFrom B W W':=⟨h.size,λk o _ hk _=>(h.block k (Array.getElem?_eq_some_iff.1 hk).1).trans hk⟩
theorem keepsFrom_setCell{B:Nat}{W:World}{g:Nat}{t:TypeId}{cs:Array Value}(hb:Blk W g t cs)(i:Nat)(v:Value):KeepsFrom B W (W.setCell (g,i) v):=⟨by simp,λk o _ hk ho=>by
 by_cases e:k=g
 ·subst e
  rw[show W.heap[k]? = _ from hb]at hk
  cases hk
  cases ho
 ·exact(Below.heap_setCell _ _ _ _ e).trans hk⟩
theorem find_next{b0:Nat}{w W W':World}{nm:ByteArray}{pre:List WdS}{x:WdS}(hI:FindI b0 w nm pre W)(hb:Below W.heap.size W W')(hx:fits nm.data.toList x.1=false):FindI b0 w nm (pre ++ [x]) W':=by
 refine⟨λy hy=> ?_,hI.b1.below hb hI.b1.lt,hI.b2.below hb hI.b2.lt,hI.b3.below hb hI.b3.lt,hI.below.trans (hb.mono (by have:=hI.sz;omega)),Nat.le_trans hI.sz hb.size⟩
 rcases List.mem_append.1 hy with h|h
 ·exact hI.no y h
 ·rw[List.mem_singleton.1 h];exact hx
theorem mem_wordsS{S:Img}{D:Dc}{x:Wd}(h:x∈words S D): ∃y:WdS,y∈wordsS S D∧x=y.1:=by
 rw[<-vals_words]at h
 obtain⟨y,hy,rfl⟩:=List.mem_map.1 h
 exact⟨y,hy,rfl⟩
theorem find_close{w W:World}{b0 dB:Nat}{r:Option Wd}{a0 a1 a2 a3 a4 a5:Value}{fd:Bool}(hr:foundV r = .tuple #[.agg #[a0,a1,a2,a3,a4,a5],.bool fd])(b2:Blk W (b0+1) 55 #[a0,a1,a2,a3,a4,a5])(b3:Blk W (b0+1+1) 4 #[.bool fd])
 (hK:W.heap[dB]? = some (.deferred (some []))) (hD:b0<=dB) (hb0:b0<=w.heap.size) (hbl:Below b0 w W) (tm:Array Value) (h4:tm.getD 4 undef = .pointer (some ⟨b0+1,0,none⟩)) (h5:tm.getD 5 undef = .pointer (some ⟨b0+1+1,0,none⟩)):
 bodyPostM Fence.wide 3 prog Tryz.f18 (λe w'=>e = .returned (foundV r)∧Below b0 w w') Exit.ret { tmps:=tm,defers:=[{ target:=Target.collected dB,args:=#[] }] } W:=by
 have hrow: ∀k,some dB=some k->b0<=k∧∃o:Obj,W.heap[k]? = some o∧o.isCells=false:=λk e=>by
  cases e
  exact⟨hD,_,hK,rfl⟩
 refine⟨by simp,.inl ⟨_,_,rfl,run_takeDeferred hK,?_⟩⟩
 have c2:=own_blk b2 (grownBy_putObj' W dB (.deferred none)) hrow
 have c3:=own_blk b3 (grownBy_putObj' W dB (.deferred none)) hrow
 have q0:=c2.cell 0
 have q1:=c2.cell 1
 have q2:=c2.cell 2
 have q3:=c2.cell 3
 have q4:=c2.cell 4
 have q5:=c2.cell 5
 have q6:=c3.cell 0
 have h4':tm[4]?.getD undef = .pointer (some ⟨b0+1,0,none⟩):=by simpa using h4
 have h5':tm[5]?.getD undef = .pointer (some ⟨b0+1+1,0,none⟩):=by simpa using h5
 refine⟨foundV r,?_,rfl,own_below hbl hb0 (Nat.le_refl _) (grownBy_putObj' W dB (.deferred none)) hrow⟩
 rw[hr]
 simp[results,results18,go_sem,h4',h5',q0,q1,q2,q3,q4,q5,q6]
theorem find_pre{l:List WdS}{nm:List UInt8}{pre p:List WdS}{x:WdS}(hS:pre <+: l)(hp:pre=p ++ [x])(hx:fits nm x.1=true)(hn: ∀y∈p,fits nm y.1=false): (vals l).find? (λw=> !w.hid&&sameB w.name nm)=some x.1:=by
 obtain⟨t,rfl⟩:=hS
 subst hp
 have e:vals (p ++ [x]++t)=vals p++x.1::vals t:=by unfold vals;simp
 rw[e,List.find?_append]
 have h1: (vals p).find? (λw=> !w.hid&&sameB w.name nm)=none:=by
  rw[List.find?_eq_none]
  intro y hy
  obtain⟨z,hz,rfl⟩:=List.mem_map.1 hy
  have:=hn z hz
  unfold fits at this
  simp[this]
 rw[h1,Option.none_or,List.find?_cons]
 have: (!x.1.hid&&sameB x.1.name nm)=true:=hx
 rw[this]
section
variable {g gI fr en:Nat}{D:Dc}{S:Img}
theorem d_find(w:World)(hs:Blk w g 146 (dictC gI fr en (D.h:Int) (D.l:Int))){gb:Nat}(hi:IRep w gI gb S)(h8:At8 S D fr en)(nm:ByteArray)(hn:nm.size<=140737488355327):
 Calls prog 18 #[g,.string nm] w (FindPost (findW S D nm.data.toList) w):=by
 refine(callsIn_wide (n:=3)).1 ?_
 refine callsIn_of_wp_marks func18 rfl trivial ?_ rfl
 simp only[ntmps18,List.size_toArray,List.length_cons,List.length_nil,Nat.reduceAdd,Nat.reduceSub,Array.replicate_succ,Array.replicate_zero,List.push_toArray,List.append_toArray,List.nil_append,List.cons_append]
 replace hs:=hid hs
 replace hi:=hid hi
 replace h8:=hid h8
 gi_wp2_with (refine⟨trivial,?_⟩;gi_at_call 47;refine(callsIn_wide.2 (d_all _)).mono ?_;rintro e w' ⟨rfl,rfl⟩)
 have hon:=((((On.refl (A:=AllA []) (F:=Nob) (w:=w) (λ_ h=>h)).box #[.string nm] 9).box noWd 55).box #[.bool false] 4).box #[g] 29
 simp only[World.size_alloc]at hon
 unfold noWd at hon
 obtain⟨W0,hW0⟩: ∃W0,((((w.alloc (Obj.cells #[Value.string nm] 9)).alloc (Obj.cells #[Value.string ⟨#[]⟩,Value.int IntKind.i64 0,Value.int IntKind.i64 0,Value.bool false,Value.bool false,Value.bool false] 55)).alloc (Obj.cells #[Value.bool false] 4)).alloc (Obj.cells #[Value.pointer g] 29))=W0:=⟨_,rfl⟩
 have hsz:W0.heap.size=w.heap.size+1+1+1+1:=by rw[<-hW0];simp
 rw[hW0]at hon⊢
 have hb0:=hon.outB
 have q3:=hon.blkAt 0 rfl
 have q2:=hon.blkAt 1 rfl
 have q1:=hon.blkAt 2 rfl
 have q0:=hon.blkAt 3 rfl
 have hd3:=q3.cell 0
 clear hon hW0
 refine wpIn_rangeFunc_ownH rfl oM (gf:=80) (lb:=#[.pointer (some ⟨w.heap.size+1+1+1,0,none⟩)]) rfl trivial (enters_of func80 kR rfl)
  (all_stops (3-1) oM (w.heap.size+1+1+1) W0 (hs.out.below hb0 hs.out.lt) ⟨hi.out.blk.below hb0 hi.out.blk.lt,hi.out.row.below hb0 hi.out.row.lt,hi.out.ok⟩ h8.out oM hd3) keepsCells_t keepsCells_b (Below.refl _ _) (λ_=>rfl)
  (FindI w.heap.size w nm) (FindX w.heap.size w nm)
  (λs A B row h hg hr=>⟨h.no,own_blk h.b1 hg hr,own_blk h.b2 hg hr,own_blk h.b3 hg hr,own_below h.below (Nat.le_refl _) oM hg hr,Nat.le_trans h.sz hg.size⟩)
  (λc s A B row h hg hr=>⟨h.ret,(let⟨p,x,h1,h2,h3,h4⟩:=h.yes;⟨p,x,h1,h2,h3,own_blk h4 hg hr⟩),own_blk h.b3 hg hr,own_below h.below (Nat.le_refl _) oM hg hr⟩)
  ⟨by simp,q0,q1,q2,hb0,by omega⟩ (FindA w.heap.size g nm) (λx a' s A B row h hg hr=>let⟨Bx,h1,h2,h3⟩:=h;⟨Bx,h1,own_blk h2 hg hr,h3⟩) ?assign ?body ?done ?stop
 case assign=>
  rintro l pre x W K hI hK
  obtain⟨⟨nm1,hd1,xt1,im1,hh1,il1⟩,hx⟩:=x
  simp only[Wd.c]
  gi_wp2
  have hal:Below W.heap.size W (W.alloc (.cells #[.string ⟨nm1.toArray⟩,(hd1:Int),(xt1:Int),.bool im1,.bool hh1,.bool il1] 55)):=(Below.refl _ _).alloc (Nat.le_refl _) _
  have hge:=hI.below.size
  exact hK _ _ ((KeepsOthers.alloc _ _).from _) (keepsCells_below hal) ⟨hI.no,hI.b1.alloc _,hI.b2.alloc _,hI.b3.alloc _,hI.below.trans (hal.mono hge),Nat.le_trans hI.sz hal.size⟩ ⟨W.heap.size,hI.sz,Blk.new _ _ _,rfl⟩
 case body=>
  rintro l pre ⟨⟨nm1,hd1,xt1,im1,hh1,il1⟩,hx⟩ a' W hl hr hI ⟨Bx,hBx,bX,rfl⟩ hlt
  simp only at hx
  have bX':Blk W Bx 55 #[.string ⟨nm1.toArray⟩,(hd1:Int),(xt1:Int),.bool im1,.bool hh1,.bool il1]:=bX
  have z0:=bX'.cell 0
  have z1:=bX'.cell 1
  have z2:=bX'.cell 2
  have z3:=bX'.cell 3
  have z4:=bX'.cell 4
  have z5:=bX'.cell 5
  have n0:=hI.b1.cell 0
  rcases hhid:hh1 with _|_
  ·subst hhid
   have hsame:=n_same ⟨nm1.toArray⟩ nm (by show nm1.toArray.size<=_;simp;omega) hn W
   rcases hsv:sameB nm1 nm.data.toList with _|_
   ·have hsame':Calls prog 48 #[.string ⟨nm1.toArray⟩,.string nm] W (Quiet (.bool false) W):=by rw[<-hsv];exact hsame
    replace hsame':=hid hsame'
    replace hI:=hid hI
    clear hsame
    gi_wp2_with (refine⟨trivial,?_⟩;gi_at_call 48;refine(callsIn_wide.2 hsame'.out).mono ?_;rintro e w' ⟨rfl,hb⟩;replace hb:=hid hb)
    have hfx:fits nm.data.toList (⟨nm1,hd1,xt1,im1,false,il1⟩:Wd)=false:=by show(!false&&sameB nm1 nm.data.toList)=false;rw[hsv];rfl
    exact⟨keepsFrom_below hb.out,keepsCells_below hb.out,find_next hI.out hb.out hfx⟩
   ·have hsame':Calls prog 48 #[.string ⟨nm1.toArray⟩,.string nm] W (Quiet (.bool true) W):=by rw[<-hsv];exact hsame
    replace hsame':=hid hsame'
    replace bX':=hid bX'
    replace hI:=hid hI
    clear hsame bX
    gi_wp2_with (refine⟨trivial,?_⟩;gi_at_call 48;refine(callsIn_wide.2 hsame'.out).mono ?_;rintro e w' ⟨rfl,hb⟩;have bY:=bX'.out.below hb bX'.out.lt;have y0:=bY.cell 0;have y1:=bY.cell 1;have y2:=bY.cell 2;have y3:=bY.cell 3;have y4:=bY.cell 4;have y5:=bY.cell 5;have d2:Blk w' (w.heap.size+1) 55 #[.string ⟨#[]⟩,(0:Int),(0:Int),.bool false,.bool false,.bool false]:=hI.out.b2.below hb hI.out.b2.lt;have d3:=hI.out.b3.below hb hI.out.b3.lt;have e0:=d2.cell 0;have e1:=d2.cell 1;have e2:=d2.cell 2;have e3:=d2.cell 3;have e4:=d2.cell 4;have e5:=d2.cell 5;have g0:=d3.cell 0;have ff:=λi=>d2.frozen i;have f0:=ff 0;have f1:=ff 1;have f2:=ff 2;have f3:=ff 3;have f4:=ff 4;have f5:=ff 5;have fg:=d3.frozen 0;replace hb:=hid hb;replace bY:=hid bY;replace d2:=hid d2;replace d3:=hid d3;replace ff:=hid ff)
    have k1:=(keepsFrom_below (B:=W0.heap.size) hb.out)
    have v1:=d2.out.set_ 0 (.string ⟨nm1.toArray⟩)
    have v2:=v1.set_ 1 (.int .i64 (hd1:Int))
    have v3:=v2.set_ 2 (.int .i64 (xt1:Int))
    have v4:=v3.set_ 3 (.bool im1)
    have v5:=v4.set_ 4 (.bool false)
    have v6:=v5.set_ 5 (.bool il1)
    have n21:w.heap.size+1+1≠w.heap.size+1:=by omega
    have u6:=((((((d3.out.far (p:=⟨w.heap.size+1,0,none⟩) n21 (.string ⟨nm1.toArray⟩)).far (p:=⟨w.heap.size+1,1,none⟩) n21 (.int .i64 (hd1:Int))).far (p:=⟨w.heap.size+1,2,none⟩) n21 (.int .i64 (xt1:Int))).far (p:=⟨w.heap.size+1,3,none⟩) n21 (.bool im1)).far (p:=⟨w.heap.size+1,4,none⟩) n21 (.bool false)).far (p:=⟨w.heap.size+1,5,none⟩) n21 (.bool il1))
    have u7:=u6.set_ 0 (.bool true)
    have n12:w.heap.size+1≠w.heap.size+1+1:=by omega
    have v7:=v6.far (p:=⟨w.heap.size+1+1,0,none⟩) n12 (.bool true)
    have hq2:w.heap.size<=w.heap.size+1+1:=by omega
    have hfx:fits nm.data.toList (⟨nm1,hd1,xt1,im1,false,il1⟩:Wd)=true:=by show(!false&&sameB nm1 nm.data.toList)=true;rw[hsv];rfl
    have hq:w.heap.size<=w.heap.size+1:=by omega
    refine⟨(((((((k1.trans (keepsFrom_setCell d2.out 0 _)).trans (keepsFrom_setCell v1 1 _)).trans (keepsFrom_setCell v2 2 _)).trans (keepsFrom_setCell v3 3 _)).trans (keepsFrom_setCell v4 4 _)).trans (keepsFrom_setCell v5 5 _)).trans (keepsFrom_setCell u6 0 _)),rfl,⟨pre,_,rfl,hfx,hI.out.no,v7⟩,u7,?_⟩
    exact((((((((hI.out.below.trans (hb.out.mono (by have:=hI.out.sz;omega))).setCell hq _).setCell hq _).setCell hq _).setCell hq _).setCell hq _).setCell hq _).setCell hq2 _)
  ·subst hhid
   gi_wp2_with (refine⟨trivial,?_⟩)
   have hfx:fits nm.data.toList (⟨nm1,hd1,xt1,im1,true,il1⟩:Wd)=false:=rfl
   exact⟨KeepsFrom.refl _ _,keepsCells_below (Below.refl _ _),find_next hI (Below.refl _ _) hfx⟩
 case done=>
  intro dB xs W hD hS hI hK
  have hno:findW S D nm.data.toList=none:=by
   unfold findW
   rw[List.find?_eq_none]
   intro x hx
   obtain⟨y,hy,rfl⟩:=mem_wordsS hx
   have:=hI.no y (by rw[hS];exact hy)
   unfold fits at this
   simp[this]
  rw[hno]
  have b2:Blk W (w.heap.size+1) 55 #[.string ⟨#[]⟩,(0:Int),(0:Int),.bool false,.bool false,.bool false]:=hI.b2
  have e0:=b2.cell 0
  have e1:=b2.cell 1
  have e2:=b2.cell 2
  have e3:=b2.cell 3
  have e4:=b2.cell 4
  have e5:=b2.cell 5
  have f0:=b2.frozen 0
  have f1:=b2.frozen 1
  have f2:=b2.frozen 2
  have f3:=b2.frozen 3
  have f4:=b2.frozen 4
  have f5:=b2.frozen 5
  have g0:=hI.b3.cell 0
  have fg:=hI.b3.frozen 0
  replace b2:=hid b2
  replace hI:=hid hI
  replace hS:=hid hS
  replace hno:=hid hno
  replace hK:=hid hK
  gi_wp2
  have v1:=b2.out.set_ 0 (.string ⟨#[]⟩)
  have v2:=v1.set_ 1 (.int .i64 0)
  have v3:=v2.set_ 2 (.int .i64 0)
  have v4:=v3.set_ 3 (.bool false)
  have v5:=v4.set_ 4 (.bool false)
  have v6:=v5.set_ 5 (.bool false)
  have n21:w.heap.size+1+1≠w.heap.size+1:=by omega
  have n12:w.heap.size+1≠w.heap.size+1+1:=by omega
  have hq:w.heap.size<=w.heap.size+1:=by omega
  have hq2:w.heap.size<=w.heap.size+1+1:=by omega
  have u6:=((((((hI.out.b3.far (p:=⟨w.heap.size+1,0,none⟩) n21 (.string ⟨#[]⟩)).far (p:=⟨w.heap.size+1,1,none⟩) n21 (.int .i64 0)).far (p:=⟨w.heap.size+1,2,none⟩) n21 (.int .i64 0)).far (p:=⟨w.heap.size+1,3,none⟩) n21 (.bool false)).far (p:=⟨w.heap.size+1,4,none⟩) n21 (.bool false)).far (p:=⟨w.heap.size+1,5,none⟩) n21 (.bool false))
  have u7:=u6.set_ 0 (.bool false)
  have v7:=v6.far (p:=⟨w.heap.size+1+1,0,none⟩) n12 (.bool false)
  have kf:=((((((((keepsFrom_setCell (B:=0) b2.out 0 (.string ⟨#[]⟩))).trans (keepsFrom_setCell v1 1 (.int .i64 0))).trans (keepsFrom_setCell v2 2 (.int .i64 0))).trans (keepsFrom_setCell v3 3 (.bool false))).trans (keepsFrom_setCell v4 4 (.bool false))).trans (keepsFrom_setCell v5 5 (.bool false))).trans (keepsFrom_setCell u6 0 (.bool false)))
  have hK2:=kf.same dB _ (Nat.zero_le _) hK.out rfl
  have hb2:=(((((((hI.out.below.setCell (p:=⟨w.heap.size+1,0,none⟩) hq (.string ⟨#[]⟩)).setCell (p:=⟨w.heap.size+1,1,none⟩) hq (.int .i64 0)).setCell (p:=⟨w.heap.size+1,2,none⟩) hq (.int .i64 0)).setCell (p:=⟨w.heap.size+1,3,none⟩) hq (.bool false)).setCell (p:=⟨w.heap.size+1,4,none⟩) hq (.bool false)).setCell (p:=⟨w.heap.size+1,5,none⟩) hq (.bool false)).setCell (p:=⟨w.heap.size+1+1,0,none⟩) hq2 (.bool false))
  unfold FindPost
  rw[hno.out]
  exact find_close rfl v7 u7 hK2 oM (Nat.le_refl _) hb2 _ rfl rfl
 case stop=>
  intro dB c pre W hD hS hI hK
  obtain⟨rfl,hyes,b3,hbl⟩:=hI
  replace hK:=hid hK
  replace hyes:=hid hyes
  gi_wp2
  obtain⟨p,⟨⟨nm1,hd1,xt1,im1,hh1,il1⟩,hx⟩,hp,hfx,hnp,v7⟩:=hyes.out
  have hyy:findW S D nm.data.toList=some ⟨nm1,hd1,xt1,im1,hh1,il1⟩:=by
   unfold findW
   rw[<-vals_words]
   exact find_pre hS hp hfx hnp
  unfold FindPost
  rw[hyy]
  exact find_close rfl v7 b3 hK.out oM (Nat.le_refl _) hbl _ rfl rfl
end
end Vm
end Go.Proofs.YteaijdgnagkllaaGreatDoor
