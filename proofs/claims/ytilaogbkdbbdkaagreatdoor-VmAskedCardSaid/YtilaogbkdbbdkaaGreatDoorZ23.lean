/- Chapter 8. Conditions: as written. -/
import Derived.Test.YtilaogbkdbbdkaaGreatDoorOm
import Derived.RangeFuncNested
import Derived.RangeFuncBound
import Derived.Shelf.RegionOpen
import Derived.OwnWalkIn
import Derived.LoopNIn
import Derived.LoopIn
import Derived.Test.YtilaogbkdbbdkaaGreatDoorZ22
open Go.Proofs.Tryz
namespace Go.Proofs.YtilaogbkdbbdkaaGreatDoor
set_option linter.unusedVariables false
set_option maxHeartbeats 8000000
set_option maxRecDepth 100000
open Go.RowKit Go.Lib Go.Shelf
attribute [local go_sem] Oper.semAt_some
namespace Vm
structure dr(A B:World):Prop where
 size:A.heap.size<=B.heap.size
 same: ∀(k:Nat) (o:Obj),A.heap[k]? = some o->o.isCells=true->B.heap[k]? = some o
theorem dr.refl(A:World):dr A A:=⟨Nat.le_refl _,λ_ _ h _=>h⟩
theorem wg{A B C:World}(h:dr A B)(k:dr B C):dr A C:=⟨Nat.le_trans h.size k.size,λi o hi ho=>k.same i o (h.same i o hi ho) ho⟩
theorem vM{w:World}(W:World)(l:Nat)(o o':Obj)(_:w.heap.size<=l)(h:W.heap[l]? = some o)(hc:o.isCells=false)(_:o.isWalk=false):dr W (W.putObj l o'):=
 ⟨by simp,λk o2 hk ho=>by
  by_cases e:k=l
  ·subst e;rw[h]at hk;cases hk;rw[hc]at ho;cases ho
  ·exact(World.putObj_heap_other e).trans hk⟩
theorem eM{A B:World}(h:Below A.heap.size A B):dr A B:=⟨h.size,λk o hk _=>(h.block k (Array.getElem?_eq_some_iff.1 hk).1).trans hk⟩
theorem kT{A B:World}(h:Below A.heap.size A B):A.grownBy B none:=⟨h.os,h.tape,h.output,h.size,λk hk _=>h.block k hk⟩
theorem qT{A B:World}{F:Nat->Prop}{v:Value}{l:List Wd}(h: (pF v l).holds A F)(hk:dr A B): (pF v l).holds B F:=by
 refine⟨?_,h.2⟩
 obtain⟨hx,h1| ⟨g,cap,cur,rfl,hg,hc,r⟩⟩:=h.1
 ·exact⟨hx,.inl h1⟩
 ·exact⟨hx,.inr ⟨g,cap,cur,rfl,hg,hk.same g _ hc rfl,r⟩⟩
theorem se: ∀(l:List Wd) (k i:Nat) (hk:k<l.length) (hi:i<6),(fB l)[k*6+i]? = ((l.getD k ⟨[],0,0,false,false,false⟩).c)[i]?
 | [],k,i,hk,_=>by simp at hk
 | x::l,0,i,_,hi=>by
   show(x.c.toList++fB l)[0*6+i]? = _
   have e:0*6+i=i:=by omega
   rw[e,List.getElem?_append_left (by simp[Wd.c];exact hi)]
   simp
 | x::l,k+1,i,hk,hi=>by
   show(x.c.toList++fB l)[(k+1)*6+i]? = _
   have hl:x.c.toList.length=6:=rfl
   rw[List.getElem?_append_right (by rw[hl];omega),hl,show(k+1)*6+i-6=k*6+i by omega,se l k i (by simpa using hk) hi]
   simp
theorem jL{A:World}{F:Nat->Prop}{v:Value}{l:List Wd}(h: (pF v l).holds A F): (v = .slice none 0 0∧l = [])∨∃g cap,v = .slice (some ⟨g,0,none⟩) l.length cap∧
 ∀k,k<l.length->∀i,i<6->A.cell? ⟨g,k*6+i,none⟩= ((l.getD k ⟨[],0,0,false,false,false⟩).c)[i]? :=by
 have Sb:=λg hg=>World.ownsRow.cells (g:=g) h.1 hg
 obtain⟨hx,⟨h1,h2⟩ | ⟨g,cap,cur,rfl,hg,hc,r⟩⟩:=h.1
 ·exact .inl ⟨h1,List.eq_nil_of_length_eq_zero h2⟩
 ·refine .inr ⟨g,cap,rfl,λk hk i hi=> ?_⟩
  have YN:i< ((l.getD k ⟨[],0,0,false,false,false⟩).c).size:=hi
  have h3:=se l k i hk hi
  rw[Array.getElem?_eq_getElem YN]at h3⊢
  have h4:=Sb g rfl (k*6+i) _ h3
  have h5: ((⟨g,0,none⟩:Addr).add (k*6+i))= ⟨g,k*6+i,none⟩:=by simp[Addr.add];intro h;omega
  rw[h5]at h4
  exact h4
section
variable {g gI gb fr en:Nat}{D:Dc}{S:Img}
abbrev WdS:={ x:Wd // x.name.length<=31 }
def wd0:WdS:=⟨⟨[],0,0,false,false,false⟩,by simp⟩
def nL(l:List WdS):List Wd:=l.map (·.1)
theorem qP(l:List WdS): (nL l).length=l.length:=by simp[nL]
theorem GI(l:List WdS)(k:Nat)(hk:k<l.length): (nL l).getD k ⟨[],0,0,false,false,false⟩= (l.getD k wd0).1:=by
 rw[List.getD_eq_getElem?_getD,List.getD_eq_getElem?_getD,List.getElem?_eq_getElem (by rw[qP];exact hk),List.getElem?_eq_getElem hk]
 simp[nL]
theorem B5{a n:Int}{x:Wd}(h:eB S D a=some (x,n)):x.name.length<=31:=by
 unfold eB at h
 by_cases ho:a % 8≠0∨a<D.fr S∨(D.lim S:Int) <a+16
 ·rw[if_pos ho]at h;cases h
 rw[if_neg ho]at h
 simp only at h
 split at h
 ·cases h
 ·injection h with h
  injection h with h _
  rw[<-h]
  simp
  omega
theorem p9(S:Img)(D:Dc): ∀(k:Nat) (a:Int),∀x∈eI S D k a,x.name.length<=31
 | 0,_,x,hx=>by simp[eI]at hx
 | k+1,a,x,hx=>by
   unfold eI at hx
   rcases hh:eB S D a with _| ⟨y,n⟩
   ·rw[hh]at hx;simp at hx
   ·rw[hh]at hx
    simp only at hx
    have hy:=B5 hh
    split at hx
    ·rw[List.mem_singleton.1 hx];exact hy
    ·rcases List.mem_cons.1 hx with rfl|hx
     ·exact hy
     ·exact p9 S D k n x hx
def na(S:Img)(D:Dc):List WdS:=(words S D).attach.map λx=>⟨x.1,p9 S D _ _ x.1 x.2⟩
theorem kp(S:Img)(D:Dc):nL (na S D)=words S D:=by
 unfold nL na
 rw[List.map_map]
 exact List.attach_map_subtype_val _
theorem vk(S:Img)(D:Dc): ∀(k:Nat) (a:Int),(eI S D k a).length<=k
 | 0,_=>Nat.le_refl _
 | k+1,a=>by
   unfold eI
   rcases eB S D a with _| ⟨x,n⟩
   ·simp
   ·simp only
    split
    ·simp
    ·have:=vk S D k n
     simp
     omega
theorem HN(h8:At8 S D fr en): (words S D).length<=1000000:=by
 have h1:=vk S D (D.l+1) D.l
 have h2:=h8.ok.l
 rw[h8.lim]at h2
 have h3:=h8.le
 unfold words
 omega
theorem K4(n:Nat)(hn:1<=n)(l Bd:Nat)(wl:List WdS)(Uo:wl.length<=1000000)(J Jx:List WdS->World->Prop)(W:World)(hJ:AbidesFrom W.heap.size J)
 (hY: ∀pre x W1,J pre W1->pre.length<wl.length->YieldAt Fence.wide (n-1) prog l #[.agg x.1.c] W1 λe W'=>
  (e = .returned (.bool true)∧J (pre ++ [x]) W'∧dr W1 W')∨(e = .returned (.bool false)∧Jx (pre ++ [x]) W'))
 (VR:W.cell? ⟨Bd,0,none⟩=some (.pointer (some ⟨g,0,none⟩))) (hwk:Calls prog 66 #[.pointer (some ⟨g,0,none⟩)] W (yJ (nL wl) W)) (h0:J [] W):
 CallsIn Fence.wide n prog 65 #[.func (.yield l) #[] #[],.pointer (some ⟨Bd,0,none⟩)] W λe W'=>(∃v,e = .returned v)∧
  ((∃ys,ys=wl∧J ys W')∨(∃pre,pre <+: wl∧Jx pre W')):=by
 refine callsIn_of_wp func65 rfl trivial ?_ rfl
 simp only[ntmps65,List.size_toArray,List.length_cons,List.length_nil,Nat.reduceAdd,Nat.reduceSub,Array.replicate_succ,Array.replicate_zero,List.push_toArray,List.append_toArray,List.nil_append,List.cons_append]
 obtain⟨ws,hbn⟩: ∃ws,nL wl=ws:=⟨_,rfl⟩
 have hwl:ws.length=wl.length:=by rw[<-hbn];exact qP wl
 have hvg:=λk hk=>GI wl k hk
 rw[hbn]at hwk hvg
 rw[<-hwl]at Uo
 have WK:Calls prog 66 #[.pointer (some ⟨g,0,none⟩)] W (λe w'=> ∃A cap,e = .returned (.slice A ws.length cap)∧On Nob W (aa [pF (.slice A ws.length cap) ws]) w'):=hwk.mono λe w' ⟨v,he,so⟩=>by
  obtain⟨F1,hR⟩:=so.at_ 0 rfl
  rcases jL hR with⟨rfl,rfl⟩ | ⟨g1,cap,rfl,_⟩
  ·exact⟨none,0,he,so⟩
  ·exact⟨_,_,he,so⟩
 replace⟨WK,hwl,hvg,hY,hJ⟩:=iE WK hwl hvg hY hJ
 clear hbn
 clear hwk
 gi_wp2_with (refine⟨trivial,?_⟩;gi_at_call 66;refine(callsIn_wide.2 WK.out).mono ?_;rintro e w' ⟨A,cap,rfl,so⟩)
 have hJ0:J [] w':=hJ.out _ _ _ none h0 (kT so.dY) (λr e=>by cases e)
 have hsz:W.heap.size<=w'.heap.size:=so.dY.size
 replace⟨so,hJ0⟩:=iB so hJ0
 clear h0
 gi_loopw [8] (λi wr=> ∃k:Nat,k<=ws.length∧i = .int .i64 k∧J (wl.take k) wr∧(∃F',(pF (.slice A ws.length cap) ws).holds wr F')∧W.heap.size<=wr.heap.size)
  (λi _=>ws.length- (intOf i).toNat)
 case atStart=>exact⟨0,Nat.zero_le _,rfl,hJ0.out,so.out.at_ 0 rfl,hsz⟩
 case round=>
  obtain⟨k,hk,rfl,hJs,⟨F',hR⟩,hsr⟩:=hrel
  by_cases Rd:k<ws.length
  ·have Wv:k<wl.length:=by rw[<-hwl.out];exact Rd
   obtain⟨xs,hxs⟩: ∃xs,wl.getD k wd0=xs:=⟨_,rfl⟩
   obtain⟨x,hx⟩: ∃x,ws.getD k ⟨[],0,0,false,false,false⟩=x:=⟨_,rfl⟩
   have hxx:xs.1=x:=by rw[<-hx,hvg.out k Wv,hxs]
   have Wy:wl.take k ++ [xs]=wl.take (k+1):=by
    rw[List.take_succ_eq_append_getElem Wv,<-hxs,List.getD_eq_getElem?_getD,List.getElem?_eq_getElem Wv]
    rfl
   have hJ1:J (wl.take k) (wr.alloc (.cells x.c 43)):=hJ.out _ _ _ none hJs (kT ((Below.refl _ _).alloc (Nat.le_refl _) _)) (λr e=>by cases e)
   obtain⟨fn,tmps,assign,body,hy,hRd⟩:=hY.out _ xs _ hJ1 (by rw[List.length_take];omega)
   rw[hxx]at hy
   rcases jL hR with⟨h1,h1'⟩ | ⟨g1,ZC,hv,Sb⟩
   ·rw[h1']at Rd;simp at Rd
   injection hv with hA _ Yd
   subst hA Yd
   have Za:=Sb k Rd 0 oM
   have Si:=Sb k Rd 1 oM
   have RZ:=Sb k Rd 2 oM
   have VQ:=Sb k Rd 3 oM
   have WZ:=Sb k Rd 4 oM
   have R3:=Sb k Rd 5 oM
   rw[hx]at Za Si RZ VQ WZ R3
   have hR1: ∃F',(pF (.slice (some ⟨g1,0,none⟩) ws.length cap) ws).holds (wr.alloc (.cells x.c 43)) F':=⟨F',qT hR (eM ((Below.refl _ _).alloc (Nat.le_refl _) _))⟩
   have Sh:W.heap.size<=(wr.alloc (.cells x.c 43)).heap.size:=by simp;omega
   obtain⟨nm,hd,xt,im,hh,il⟩:=x
   have e0: (⟨nm,hd,xt,im,hh,il⟩:Wd).c=#[.string ⟨nm.toArray⟩,.int .i64 (hd:Int),.int .i64 (xt:Int),.bool im,.bool hh,.bool il]:=rfl
   rw[e0]at Za Si RZ VQ WZ R3 hy hRd hR1 Sh
   simp only[List.getElem?_toArray,List.getElem?_cons_zero,List.getElem?_cons_succ,Nat.add_zero]at Za Si RZ VQ WZ R3
   replace⟨hRd,hR1,hx,hxs,hxx,Wy,Sb,hR,hJ1,hJs⟩:=iJ hRd hR1 hx hxs hxx Wy Sb hR hJ1 hJs
   (try dsimp only at hy)
   gi_wp2
   refine hRd.out.mono ?_
   rintro e W3 (⟨rfl,hJ3,V5⟩ | ⟨rfl,hcL⟩)
   ·obtain⟨F3,hR3⟩:=hR1.out
    have hR4:=qT hR3 V5
    have Yq:=Nat.le_trans Sh V5.size
    rw[Wy.out]at hJ3
    replace⟨hJ3,hR4⟩:=iB hJ3 hR4
    clear hR3 V5
    gi_wp2
    go_roundw
    case rel=>exact⟨k+1,by omega,by simp,hJ3.out,⟨F3,hR4.out⟩,Yq⟩
    case measure=>simp[intOf];omega
   ·rw[Wy.out]at hcL
    replace hcL:=hid hcL
    gi_wp2
    refine bodyPost_ret (results_none rfl _ _ _) rfl ?_
    exact⟨⟨_,rfl⟩,.inr ⟨_,List.take_prefix _ _,hcL.out⟩⟩
  ·obtain rfl:k=ws.length:=by omega
   gi_wp2
   go_end0
   exact⟨⟨_,rfl⟩,.inl ⟨_,rfl,by rw[List.take_of_length_le (by rw[<-hwl.out];exact Nat.le_refl _)]at hJs;exact hJs⟩⟩
theorem Fy(n:Nat)(hn:1<=n)(Bd:Nat)(w:World)(hs:Blk w g 123 (cm gI fr en (D.h:Int) (D.l:Int)))(hi:b9 w gI gb S)(h8:At8 S D fr en)(VR:Bd<w.heap.size)(hc:w.cell? ⟨Bd,0,none⟩=some (.pointer (some ⟨g,0,none⟩))):
 SeqStopsK Fence.wide n prog 65 #[.pointer (some ⟨Bd,0,none⟩)] (λx:WdS=>#[Value.agg x.1.c]) dr (λys=>ys=na S D) (λpre=>pre <+: na S D) (na S D).length w:=λl J Jx W hW hJ hJx hY h0=>
 K4 n hn l Bd (na S D) (by rw[<-qP,kp];exact HN h8) J Jx W hJ hY ((hW.cell (p:=⟨Bd,0,none⟩) VR).trans hc) (by rw[kp];exact Bv (hs.below hW hs.lt) ⟨hi.blk.below hW hi.blk.lt,hi.row.below hW hi.row.lt,hi.ok⟩ h8) h0
theorem Di(w:World):Calls prog 39 #[.pointer (some ⟨g,0,none⟩)] w λe w'=>e = .returned (.func (.func 65) #[] #[.pointer (some ⟨w.heap.size,0,none⟩)])∧w'=w.alloc (.cells #[.pointer (some ⟨g,0,none⟩)] 33):=by
 have hmf: ∀(fn:Fn) (first cap:Array Value) (w:World),(Instr.makeFunc fn first cap).run prog w = .ok (.func fn first cap) w:=λ_ _ _ _=>rfl
 go_enter func39,ntmps39
 go_wp2
 go_ret
 exact⟨rfl,rfl⟩
end
end Vm
attribute [local go_sem] Oper.semAt_some
namespace Vm
def fits(nm:List UInt8)(x:Wd):Bool:= !x.hid&&kY x.name nm
def fL(r:Option Wd):Value:= .tuple #[.agg (match r with|some x=>x.c|none=>eS),.bool r.isSome]
def ef(r:Option Wd)(w:World)(e:Ending)(w':World):Prop:=e = .returned (fL r)∧Below w.heap.size w w'
theorem jm{B':Nat}{B:Nat}{t:TypeId}{cs:Array Value}{X Y:World}{row:Option Nat}(hs:Blk X B t cs)(hg:X.grownBy Y row)(An: ∀r,row=some r->B'<=r∧∃o:Obj,X.heap[r]? = some o∧o.isCells=false):Blk Y B t cs:=
 (hg.block B (Blk.lt hs) (λe=>by obtain⟨_,o,ho,hc⟩:=An B e.symm;rw[show X.heap[B]? = _ from hs]at ho;cases ho;cases hc)).trans hs
theorem oF{B B':Nat}{w X Y:World}{row:Option Nat}(h:Below B w X)(hB:B<=w.heap.size)(hBB:B<=B')(hg:X.grownBy Y row)(An: ∀r,row=some r->B'<=r∧∃o:Obj,X.heap[r]? = some o∧o.isCells=false):Below B w Y:=
 ⟨hg.os.trans h.os,hg.tape.trans h.tape,hg.output.trans h.output,Nat.le_trans h.size hg.size,λk hk=>(hg.block k (by have:=h.size;omega) (λe=>by have:=(An k e.symm).1;omega)).trans (h.block k hk)⟩
structure J7(b0:Nat)(w:World)(nm:ByteArray)(pre:List WdS)(W:World):Prop where
 no: ∀y∈pre,fits nm.data.toList y.1=false
 b1:Blk W b0 9 #[.string nm]
 b2:Blk W (b0+1) 43 eS
 b3:Blk W (b0+1+1) 4 #[.bool false]
 below:Below b0 w W
 sz:b0+4<=W.heap.size
structure QD(b0:Nat)(w:World)(nm:ByteArray)(c:Code)(pre:List WdS)(W:World):Prop where
 ret:c = .ret
 yes: ∃p x,pre=p ++ [x]∧fits nm.data.toList x.1=true∧(∀y∈p,fits nm.data.toList y.1=false)∧Blk W (b0+1) 43 x.1.c
 b3:Blk W (b0+1+1) 4 #[.bool true]
 below:Below b0 w W
def PW(b0 g:Nat)(nm:ByteArray)(x:WdS)(a:Act)(W:World):Prop:=
 ∃Bx,b0+4<=Bx∧Blk W Bx 43 x.1.c∧a = { tmps:=#[g,.string nm,undef,b0,.pointer (some ⟨b0+1,0,none⟩),.pointer (some ⟨b0+1+1,0,none⟩),Bx,g,.func (.func 65) #[] #[.pointer (some ⟨b0+1+1+1,0,none⟩)],.agg x.1.c,undef,undef,undef,undef,undef,undef,undef,undef,undef,undef,undef],defers:=[] }
theorem kv{B:Nat}{W W':World}(h:Below W.heap.size W W'):KeepsFrom B W W':=⟨h.size,λk o _ hk _=>(h.block k (Array.getElem?_eq_some_iff.1 hk).1).trans hk⟩
theorem aK{B:Nat}{W:World}{g:Nat}{t:TypeId}{cs:Array Value}(hb:Blk W g t cs)(i:Nat)(v:Value):KeepsFrom B W (W.setCell (g,i) v):=⟨by simp,λk o _ hk ho=>by
 by_cases e:k=g
 ·subst e
  rw[show W.heap[k]? = _ from hb]at hk
  cases hk
  cases ho
 ·exact(Below.heap_setCell _ _ _ _ e).trans hk⟩
theorem uL{b0:Nat}{w W W':World}{nm:ByteArray}{pre:List WdS}{x:WdS}(hI:J7 b0 w nm pre W)(hb:Below W.heap.size W W')(hx:fits nm.data.toList x.1=false):J7 b0 w nm (pre ++ [x]) W':=by
 refine⟨λy hy=> ?_,hI.b1.below hb hI.b1.lt,hI.b2.below hb hI.b2.lt,hI.b3.below hb hI.b3.lt,hI.below.trans (hb.mono (by have:=hI.sz;omega)),Nat.le_trans hI.sz hb.size⟩
 rcases List.mem_append.1 hy with h|h
 ·exact hI.no y h
 ·rw[List.mem_singleton.1 h];exact hx
theorem B8{S:Img}{D:Dc}{x:Wd}(h:x∈words S D): ∃y:WdS,y∈na S D∧x=y.1:=by
 rw[<-kp]at h
 obtain⟨y,hy,rfl⟩:=List.mem_map.1 h
 exact⟨y,hy,rfl⟩
theorem rh{w W:World}{b0 dB:Nat}{r:Option Wd}{a0 a1 a2 a3 a4 a5:Value}{fd:Bool}(hr:fL r = .tuple #[.agg #[a0,a1,a2,a3,a4,a5],.bool fd])(b2:Blk W (b0+1) 43 #[a0,a1,a2,a3,a4,a5])(b3:Blk W (b0+1+1) 4 #[.bool fd])
 (hK:W.heap[dB]? = some (.deferred (some []))) (hD:b0<=dB) (RV:b0<=w.heap.size) (Q9:Below b0 w W) (tm:Array Value) (h4:tm.getD 4 undef = .pointer (some ⟨b0+1,0,none⟩)) (h5:tm.getD 5 undef = .pointer (some ⟨b0+1+1,0,none⟩)):
 bodyPostM Fence.wide 3 prog Tryz.f9 (λe w'=>e = .returned (fL r)∧Below b0 w w') Exit.ret { tmps:=tm,defers:=[{ target:=Target.collected dB,args:=#[] }] } W:=by
 have An: ∀k,some dB=some k->b0<=k∧∃o:Obj,W.heap[k]? = some o∧o.isCells=false:=λk e=>by
  cases e
  exact⟨hD,_,hK,rfl⟩
 refine⟨by simp,.inl ⟨_,_,rfl,run_takeDeferred hK,?_⟩⟩
 have c2:=jm b2 (grownBy_putObj' W dB (.deferred none)) An
 have c3:=jm b3 (grownBy_putObj' W dB (.deferred none)) An
 have q0:=c2.cell 0
 have q1:=c2.cell 1
 have q2:=c2.cell 2
 have q3:=c2.cell 3
 have q4:=c2.cell 4
 have q5:=c2.cell 5
 have q6:=c3.cell 0
 have h4':tm[4]?.getD undef = .pointer (some ⟨b0+1,0,none⟩):=by simpa using h4
 have h5':tm[5]?.getD undef = .pointer (some ⟨b0+1+1,0,none⟩):=by simpa using h5
 refine⟨fL r,?_,rfl,oF Q9 RV (Nat.le_refl _) (grownBy_putObj' W dB (.deferred none)) An⟩
 rw[hr]
 simp[results,results9,go_sem,h4',h5',q0,q1,q2,q3,q4,q5,q6]
theorem Hw{l:List WdS}{nm:List UInt8}{pre p:List WdS}{x:WdS}(hS:pre <+: l)(hp:pre=p ++ [x])(hx:fits nm x.1=true)(hn: ∀y∈p,fits nm y.1=false): (nL l).find? (λw=> !w.hid&&kY w.name nm)=some x.1:=by
 obtain⟨t,rfl⟩:=hS
 subst hp
 have e:nL (p ++ [x]++t)=nL p++x.1::nL t:=by unfold nL;simp
 rw[e,List.find?_append]
 have h1: (nL p).find? (λw=> !w.hid&&kY w.name nm)=none:=by
  rw[List.find?_eq_none]
  intro y hy
  obtain⟨z,hz,rfl⟩:=List.mem_map.1 hy
  have:=hn z hz
  unfold fits at this
  simp[this]
 rw[h1,Option.none_or,List.find?_cons]
 have: (!x.1.hid&&kY x.1.name nm)=true:=hx
 rw[this]
section
variable {g gI fr en:Nat}{D:Dc}{S:Img}
theorem rW(w:World)(hs:Blk w g 123 (cm gI fr en (D.h:Int) (D.l:Int))){gb:Nat}(hi:b9 w gI gb S)(h8:At8 S D fr en)(nm:ByteArray)(hn:nm.size<=140737488355327):
 Calls prog 9 #[g,.string nm] w (ef (gV S D nm.data.toList) w):=by
 refine(callsIn_wide (n:=3)).1 ?_
 refine callsIn_of_wp_marks func9 rfl trivial ?_ rfl
 simp only[ntmps9,List.size_toArray,List.length_cons,List.length_nil,Nat.reduceAdd,Nat.reduceSub,Array.replicate_succ,Array.replicate_zero,List.push_toArray,List.append_toArray,List.nil_append,List.cons_append]
 replace⟨hs,hi,h8⟩:=iC hs hi h8
 gi_wp2_with (refine⟨trivial,?_⟩;gi_at_call 39;refine(callsIn_wide.2 (Di _)).mono ?_;rintro e w' ⟨rfl,rfl⟩)
 have so:=((((On.refl (A:=aa []) (F:=Nob) (w:=w) (λ_ h=>h)).box #[.string nm] 9).box eS 43).box #[.bool false] 4).box #[g] 33
 simp only[World.size_alloc]at so
 unfold eS at so
 obtain⟨W0,hW0⟩: ∃W0,((((w.alloc (Obj.cells #[Value.string nm] 9)).alloc (Obj.cells #[Value.string ⟨#[]⟩,Value.int IntKind.i64 0,Value.int IntKind.i64 0,Value.bool false,Value.bool false,Value.bool false] 43)).alloc (Obj.cells #[Value.bool false] 4)).alloc (Obj.cells #[Value.pointer g] 33))=W0:=⟨_,rfl⟩
 have hsz:W0.heap.size=w.heap.size+1+1+1+1:=by rw[<-hW0];simp
 rw[hW0]at so⊢
 have RV:=so.dY
 have q3:=so.ab 0 rfl
 have q2:=so.ab 1 rfl
 have q1:=so.ab 2 rfl
 have q0:=so.ab 3 rfl
 have hd3:=q3.cell 0
 clear so hW0
 refine wpIn_rangeFunc_ownH rfl oM (gf:=65) (lb:=#[.pointer (some ⟨w.heap.size+1+1+1,0,none⟩)]) rfl trivial (enters_of func65 kR rfl)
  (Fy (3-1) oM (w.heap.size+1+1+1) W0 (hs.out.below RV hs.out.lt) ⟨hi.out.blk.below RV hi.out.blk.lt,hi.out.row.below RV hi.out.row.lt,hi.out.ok⟩ h8.out oM hd3) wg vM (Below.refl _ _) (λ_=>rfl)
  (J7 w.heap.size w nm) (QD w.heap.size w nm)
  (λs A B row h hg hr=>⟨h.no,jm h.b1 hg hr,jm h.b2 hg hr,jm h.b3 hg hr,oF h.below (Nat.le_refl _) oM hg hr,Nat.le_trans h.sz hg.size⟩)
  (λc s A B row h hg hr=>⟨h.ret,(let⟨p,x,h1,h2,h3,h4⟩:=h.yes;⟨p,x,h1,h2,h3,jm h4 hg hr⟩),jm h.b3 hg hr,oF h.below (Nat.le_refl _) oM hg hr⟩)
  ⟨by simp,q0,q1,q2,RV,by omega⟩ (PW w.heap.size g nm) (λx a' s A B row h hg hr=>let⟨Bx,h1,h2,h3⟩:=h;⟨Bx,h1,jm h2 hg hr,h3⟩) ?assign ?body ?done ?stop
 case assign=>
  rintro l pre x W K hI hK
  obtain⟨⟨nm1,hd1,xt1,im1,hh1,il1⟩,hx⟩:=x
  simp only[Wd.c]
  gi_wp2
  have RY:Below W.heap.size W (W.alloc (.cells #[.string ⟨nm1.toArray⟩,(hd1:Int),(xt1:Int),.bool im1,.bool hh1,.bool il1] 43)):=(Below.refl _ _).alloc (Nat.le_refl _) _
  have Ud:=hI.below.size
  exact hK _ _ ((KeepsOthers.alloc _ _).from _) (eM RY) ⟨hI.no,hI.b1.alloc _,hI.b2.alloc _,hI.b3.alloc _,hI.below.trans (RY.mono Ud),Nat.le_trans hI.sz RY.size⟩ ⟨W.heap.size,hI.sz,Blk.new _ _ _,rfl⟩
 case body=>
  rintro l pre ⟨⟨nm1,hd1,xt1,im1,hh1,il1⟩,hx⟩ a' W hl hr hI ⟨Bx,hBx,bX,rfl⟩ Rd
  simp only at hx
  have bX':Blk W Bx 43 #[.string ⟨nm1.toArray⟩,(hd1:Int),(xt1:Int),.bool im1,.bool hh1,.bool il1]:=bX
  have z0:=bX'.cell 0
  have z1:=bX'.cell 1
  have z2:=bX'.cell 2
  have z3:=bX'.cell 3
  have z4:=bX'.cell 4
  have z5:=bX'.cell 5
  have n0:=hI.b1.cell 0
  rcases hbp:hh1 with _|_
  ·subst hbp
   have Sz:=Nx ⟨nm1.toArray⟩ nm (by show nm1.toArray.size<=_;simp;omega) hn W
   rcases hsv:kY nm1 nm.data.toList with _|_
   ·have Vy:Calls prog 40 #[.string ⟨nm1.toArray⟩,.string nm] W (Quiet (.bool false) W):=by rw[<-hsv];exact Sz
    replace⟨Vy,hI⟩:=iB Vy hI
    clear Sz
    gi_wp2_with (refine⟨trivial,?_⟩;gi_at_call 40;refine(callsIn_wide.2 Vy.out).mono ?_;rintro e w' ⟨rfl,hb⟩;replace hb:=hid hb)
    have hfx:fits nm.data.toList (⟨nm1,hd1,xt1,im1,false,il1⟩:Wd)=false:=by show(!false&&kY nm1 nm.data.toList)=false;rw[hsv];rfl
    exact⟨kv hb.out,eM hb.out,uL hI.out hb.out hfx⟩
   ·have Vy:Calls prog 40 #[.string ⟨nm1.toArray⟩,.string nm] W (Quiet (.bool true) W):=by rw[<-hsv];exact Sz
    replace⟨Vy,bX',hI⟩:=iC Vy bX' hI
    clear Sz bX
    gi_wp2_with (refine⟨trivial,?_⟩;gi_at_call 40;refine(callsIn_wide.2 Vy.out).mono ?_;rintro e w' ⟨rfl,hb⟩;have bY:=bX'.out.below hb bX'.out.lt;have y0:=bY.cell 0;have y1:=bY.cell 1;have y2:=bY.cell 2;have y3:=bY.cell 3;have y4:=bY.cell 4;have y5:=bY.cell 5;have d2:Blk w' (w.heap.size+1) 43 #[.string ⟨#[]⟩,(0:Int),(0:Int),.bool false,.bool false,.bool false]:=hI.out.b2.below hb hI.out.b2.lt;have d3:=hI.out.b3.below hb hI.out.b3.lt;have e0:=d2.cell 0;have e1:=d2.cell 1;have e2:=d2.cell 2;have e3:=d2.cell 3;have e4:=d2.cell 4;have e5:=d2.cell 5;have g0:=d3.cell 0;have ff:=λi=>d2.frozen i;have f0:=ff 0;have f1:=ff 1;have f2:=ff 2;have f3:=ff 3;have f4:=ff 4;have f5:=ff 5;have fg:=d3.frozen 0;replace hb:=hid hb;replace bY:=hid bY;replace d2:=hid d2;replace d3:=hid d3;replace ff:=hid ff)
    have k1:=(kv (B:=W0.heap.size) hb.out)
    have v1:=d2.out.bE 0 (.string ⟨nm1.toArray⟩)
    have v2:=v1.bE 1 (.int .i64 (hd1:Int))
    have v3:=v2.bE 2 (.int .i64 (xt1:Int))
    have v4:=v3.bE 3 (.bool im1)
    have v5:=v4.bE 4 (.bool false)
    have v6:=v5.bE 5 (.bool il1)
    have n21:w.heap.size+1+1≠w.heap.size+1:=by omega
    have u6:=((((((d3.out.far (p:=⟨w.heap.size+1,0,none⟩) n21 (.string ⟨nm1.toArray⟩)).far (p:=⟨w.heap.size+1,1,none⟩) n21 (.int .i64 (hd1:Int))).far (p:=⟨w.heap.size+1,2,none⟩) n21 (.int .i64 (xt1:Int))).far (p:=⟨w.heap.size+1,3,none⟩) n21 (.bool im1)).far (p:=⟨w.heap.size+1,4,none⟩) n21 (.bool false)).far (p:=⟨w.heap.size+1,5,none⟩) n21 (.bool il1))
    have u7:=u6.bE 0 (.bool true)
    have n12:w.heap.size+1≠w.heap.size+1+1:=by omega
    have v7:=v6.far (p:=⟨w.heap.size+1+1,0,none⟩) n12 (.bool true)
    have Sk:w.heap.size<=w.heap.size+1+1:=by omega
    have hfx:fits nm.data.toList (⟨nm1,hd1,xt1,im1,false,il1⟩:Wd)=true:=by show(!false&&kY nm1 nm.data.toList)=true;rw[hsv];rfl
    have hq:w.heap.size<=w.heap.size+1:=by omega
    refine⟨(((((((k1.trans (aK d2.out 0 _)).trans (aK v1 1 _)).trans (aK v2 2 _)).trans (aK v3 3 _)).trans (aK v4 4 _)).trans (aK v5 5 _)).trans (aK u6 0 _)),rfl,⟨pre,_,rfl,hfx,hI.out.no,v7⟩,u7,?_⟩
    exact((((((((hI.out.below.trans (hb.out.mono (by have:=hI.out.sz;omega))).setCell hq _).setCell hq _).setCell hq _).setCell hq _).setCell hq _).setCell hq _).setCell Sk _)
  ·subst hbp
   gi_wp2_with (refine⟨trivial,?_⟩)
   have hfx:fits nm.data.toList (⟨nm1,hd1,xt1,im1,true,il1⟩:Wd)=false:=rfl
   exact⟨KeepsFrom.refl _ _,eM (Below.refl _ _),uL hI (Below.refl _ _) hfx⟩
 case done=>
  intro dB xs W hD hS hI hK
  have Um:gV S D nm.data.toList=none:=by
   unfold gV
   rw[List.find?_eq_none]
   intro x hx
   obtain⟨y,hy,rfl⟩:=B8 hx
   have:=hI.no y (by rw[hS];exact hy)
   unfold fits at this
   simp[this]
  rw[Um]
  have b2:Blk W (w.heap.size+1) 43 #[.string ⟨#[]⟩,(0:Int),(0:Int),.bool false,.bool false,.bool false]:=hI.b2
  have e0:=b2.cell 0
  have e1:=b2.cell 1
  have e2:=b2.cell 2
  have e3:=b2.cell 3
  have e4:=b2.cell 4
  have e5:=b2.cell 5
  have f0:=b2.frozen 0
  have f1:=b2.frozen 1
  have f2:=b2.frozen 2
  have f3:=b2.frozen 3
  have f4:=b2.frozen 4
  have f5:=b2.frozen 5
  have g0:=hI.b3.cell 0
  have fg:=hI.b3.frozen 0
  replace⟨b2,hI,hS,Um,hK⟩:=iE b2 hI hS Um hK
  gi_wp2
  have v1:=b2.out.bE 0 (.string ⟨#[]⟩)
  have v2:=v1.bE 1 (.int .i64 0)
  have v3:=v2.bE 2 (.int .i64 0)
  have v4:=v3.bE 3 (.bool false)
  have v5:=v4.bE 4 (.bool false)
  have v6:=v5.bE 5 (.bool false)
  have n21:w.heap.size+1+1≠w.heap.size+1:=by omega
  have n12:w.heap.size+1≠w.heap.size+1+1:=by omega
  have hq:w.heap.size<=w.heap.size+1:=by omega
  have Sk:w.heap.size<=w.heap.size+1+1:=by omega
  have u6:=((((((hI.out.b3.far (p:=⟨w.heap.size+1,0,none⟩) n21 (.string ⟨#[]⟩)).far (p:=⟨w.heap.size+1,1,none⟩) n21 (.int .i64 0)).far (p:=⟨w.heap.size+1,2,none⟩) n21 (.int .i64 0)).far (p:=⟨w.heap.size+1,3,none⟩) n21 (.bool false)).far (p:=⟨w.heap.size+1,4,none⟩) n21 (.bool false)).far (p:=⟨w.heap.size+1,5,none⟩) n21 (.bool false))
  have u7:=u6.bE 0 (.bool false)
  have v7:=v6.far (p:=⟨w.heap.size+1+1,0,none⟩) n12 (.bool false)
  have kf:=((((((((aK (B:=0) b2.out 0 (.string ⟨#[]⟩))).trans (aK v1 1 (.int .i64 0))).trans (aK v2 2 (.int .i64 0))).trans (aK v3 3 (.bool false))).trans (aK v4 4 (.bool false))).trans (aK v5 5 (.bool false))).trans (aK u6 0 (.bool false)))
  have hK2:=kf.same dB _ (Nat.zero_le _) hK.out rfl
  have Rm:=(((((((hI.out.below.setCell (p:=⟨w.heap.size+1,0,none⟩) hq (.string ⟨#[]⟩)).setCell (p:=⟨w.heap.size+1,1,none⟩) hq (.int .i64 0)).setCell (p:=⟨w.heap.size+1,2,none⟩) hq (.int .i64 0)).setCell (p:=⟨w.heap.size+1,3,none⟩) hq (.bool false)).setCell (p:=⟨w.heap.size+1,4,none⟩) hq (.bool false)).setCell (p:=⟨w.heap.size+1,5,none⟩) hq (.bool false)).setCell (p:=⟨w.heap.size+1+1,0,none⟩) Sk (.bool false))
  unfold ef
  rw[Um.out]
  exact rh rfl v7 u7 hK2 oM (Nat.le_refl _) Rm _ rfl rfl
 case stop=>
  intro dB c pre W hD hS hI hK
  obtain⟨rfl,hdZ,b3,Q9⟩:=hI
  replace⟨hK,hdZ⟩:=iB hK hdZ
  gi_wp2
  obtain⟨p,⟨⟨nm1,hd1,xt1,im1,hh1,il1⟩,hx⟩,hp,hfx,hnp,v7⟩:=hdZ.out
  have hyy:gV S D nm.data.toList=some ⟨nm1,hd1,xt1,im1,hh1,il1⟩:=by
   unfold gV
   rw[<-kp]
   exact Hw hS hp hfx hnp
  unfold ef
  rw[hyy]
  exact rh rfl v7 b3 hK.out oM (Nat.le_refl _) Q9 _ rfl rfl
