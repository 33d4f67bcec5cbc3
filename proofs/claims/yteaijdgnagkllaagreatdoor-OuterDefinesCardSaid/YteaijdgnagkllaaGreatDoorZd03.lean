/- Words for memory, and what is kept of it: plain lemmas on worlds, blocks and owned byte slices. No condition beyond those written in each lemma. -/
import Derived.Test.YteaijdgnagkllaaGreatDoorOm
import Derived.Test.YteaijdgnagkllaaGreatDoorZ02
import Derived.Test.YteaijdgnagkllaaGreatDoorRows
import Derived.WalkSpells
import Derived.WalkLawsBesides
import Derived.BigQuiet
import Derived.Deep.AppendLies
import Derived.Shelf.Small.Strs
import Derived.StillTailTactics
open Go.Proofs.Tryz
namespace Go.Proofs.YteaijdgnagkllaaGreatDoor
set_option linter.unusedVariables false
set_option linter.unusedSimpArgs false
set_option maxHeartbeats 8000000
open Go.RowKit Go.Lib
def Blk(w:World)(g:Nat)(t:TypeId)(cs:Array Value):Prop:=w.heap[g]? = some (.cells cs t (0,0))
structure Kept(S:Nat->Prop)(w w':World):Prop where
 os:w'.os=w.os
 tape:w'.tape=w.tape
 output:w'.output=w.output
 size:w.heap.size<=w'.heap.size
 block: ∀k,k<w.heap.size->¬S k->w'.heap[k]? = w.heap[k]?
def Nob:Nat->Prop:=λ_=>False
section
variable {S T:Nat->Prop}{w w1 w':World}
theorem Kept.refl(S:Nat->Prop)(w:World):Kept S w w:=⟨rfl,rfl,rfl,Nat.le_refl _,λ_ _ _=>rfl⟩
theorem Kept.trans(h:Kept S w w1)(k:Kept S w1 w'):Kept S w w':=
 ⟨k.os.trans h.os,k.tape.trans h.tape,k.output.trans h.output,Nat.le_trans h.size k.size,
  λi hi hs=>(k.block i (Nat.lt_of_lt_of_le hi h.size) hs).trans (h.block i hi hs)⟩
theorem Kept.trans'(h:Kept S w w1)(k:Kept T w1 w')(hT: ∀i,T i->S i∨w.heap.size<=i):Kept S w w':=
 ⟨k.os.trans h.os,k.tape.trans h.tape,k.output.trans h.output,Nat.le_trans h.size k.size,
  λi hi hs=>(k.block i (Nat.lt_of_lt_of_le hi h.size) (λht=>by rcases hT i ht with h1|h1;exact hs h1;omega)).trans (h.block i hi hs)⟩
theorem Kept.mono(h:Kept S w w')(hST: ∀k,S k->T k):Kept T w w':=
 ⟨h.os,h.tape,h.output,h.size,λk hk ht=>h.block k hk λhs=>ht (hST k hs)⟩
theorem Kept.drew(h:Kept S w w'):Kept S w w'.drew:=⟨h.os,h.tape,h.output,h.size,h.block⟩
theorem Kept.drewN(h:Kept S w w')(n:Nat):Kept S w (w'.drewN n):=⟨h.os,h.tape,h.output,h.size,h.block⟩
theorem Kept.alloc(h:Kept S w w')(o:Obj):Kept S w (w'.alloc o):=
 h.trans ⟨rfl,rfl,rfl,by simp,λk hk _=>Below.heap_alloc _ _ _ oM⟩
theorem Kept.setCell(h:Kept S w w'){p:Addr}(hp:S p.block∨w.heap.size<=p.block)(u:Value):Kept S w (w'.setCell p u):=
 ⟨h.os,h.tape,h.output,Nat.le_trans h.size (by simp[World.setCell]),λk hk hs=>by
  rw[Below.heap_setCell _ _ _ _ (λe=>by subst e;rcases hp with hp|hp;exact hs hp;omega)]
  exact h.block k hk hs⟩
theorem Kept.grown(h:Kept S w w'){row:Option Nat}(hg:w'.grownBy w1 row)(hr: ∀k,row=some k->S k∨w.heap.size<=k):Kept S w w1:=
 ⟨hg.os.trans h.os,hg.tape.trans h.tape,hg.output.trans h.output,Nat.le_trans h.size hg.size,λk hk hs=>
  (hg.block k (Nat.lt_of_lt_of_le hk h.size) (λe=>by rcases hr k e.symm with h1|h1;exact hs h1;omega)).trans (h.block k hk hs)⟩
theorem Kept.ofBelow{B:Nat}(h:Below B w w'):Kept (λk=>B<=k) w w':=
 ⟨h.os,h.tape,h.output,h.size,λk _ hs=>h.block k oM⟩
theorem Kept.below{B:Nat}(h:Kept S w w')(hS: ∀k,S k->B<=k)(hB:B<=w.heap.size):Below B w w':=
 ⟨h.os,h.tape,h.output,h.size,λk hk=>h.block k oM λhs=>by have:=hS k hs;omega⟩
theorem Kept.below0(h:Kept Nob w w'):Below w.heap.size w w':=h.below (λ_ h=>h.elim) (Nat.le_refl _)
theorem Below.andKept{B:Nat}{a:World}(h:Below B a w)(k:Kept S w w')(hS: ∀k,S k->B<=k)(hB:B<=a.heap.size):Below B a w':=
 h.trans (k.below hS (Nat.le_trans hB h.size))
theorem Kept.cell(h:Kept S w w'){p:Addr}{v:Value}(hc:w.cell? p=some v)(hp: ¬S p.block):w'.cell? p=some v:=
 (World.cell?_of_block (w:=w) (h.block p.block (World.block_lt_of_cell? w p hc) hp)).trans hc
end
section
variable {S:Nat->Prop}{w w':World}{g:Nat}{t:TypeId}{cs:Array Value}
theorem Blk.lt(h:Blk w g t cs):g<w.heap.size:=by
 rcases Nat.lt_or_ge g w.heap.size with hlt|hge
 ·exact hlt
 ·unfold Blk at h;rw[Array.getElem?_eq_none hge]at h;cases h
theorem Blk.cell(h:Blk w g t cs)(i:Nat):w.cell? (g,i)=cs[i]? :=cell_of_row w g i cs t (0,0) h
theorem Blk.frozen(h:Blk w g t cs)(i:Nat):w.frozen? (g,i)=false:=by
 unfold Blk at h
 simp[World.frozen?,h]
theorem Blk.new(w:World)(t:TypeId)(cs:Array Value):Blk (w.alloc (.cells cs t)) w.heap.size t cs:=heap_alloc_new w _
theorem Blk.new'{w:World}{g:Nat}{t:TypeId}{cs:Array Value}(h:g=w.heap.size):Blk (w.alloc (.cells cs t)) g t cs:=by subst h;exact heap_alloc_new w _
theorem Blk.drew(h:Blk w g t cs):Blk w.drew g t cs:=h
theorem Blk.drewN(h:Blk w g t cs)(n:Nat):Blk (w.drewN n) g t cs:=h
theorem Blk.alloc(h:Blk w g t cs)(o:Obj):Blk (w.alloc o) g t cs:=(Below.heap_alloc w o g h.lt).trans h
theorem Blk.set_(h:Blk w g t cs)(i:Nat)(u:Value):Blk (w.setCell (g,i) u) g t (cs.setIfInBounds i u):=by
 unfold Blk at h⊢
 simp[World.setCell,Array.getElem?_modify,h]
theorem Blk.far(h:Blk w g t cs){p:Addr}(hp:g≠p.block)(u:Value):Blk (w.setCell p u) g t cs:=(Below.heap_setCell w p u g hp).trans h
theorem Blk.kept(h:Blk w g t cs)(hk:Kept S w w')(hS: ¬S g):Blk w' g t cs:=(hk.block g h.lt hS).trans h
theorem Blk.below{B:Nat}(h:Blk w g t cs)(hb:Below B w w')(hg:g<B):Blk w' g t cs:=(hb.block g hg).trans h
theorem Blk.grown{row:Option Nat}(h:Blk w g t cs)(hb:w.grownBy w' row)(hg:some g≠row):Blk w' g t cs:=(hb.block g h.lt hg).trans h
theorem Blk.ne_{g':Nat}{t':TypeId}{cs':Array Value}(h:Blk w g t cs)(h':Blk w g' t' cs')(hne:t≠t'):g≠g':=by
 rintro rfl
 unfold Blk at h h'
 rw[h]at h'
 injection h' with h'
 injection h' with _ ht
 exact hne ht
end
def bcells(bs:List UInt8):List Value:=bs.map λb=> .int .u8 b.toNat
def Buf(w:World)(e:TypeId)(v:Value)(bs:List UInt8):Prop:=w.ownsRow 0 e 1 v bs.length (bcells bs)
section
variable {S:Nat->Prop}{w w':World}{e:TypeId}{v:Value}{bs:List UInt8}
theorem Buf.nil(w:World)(e:TypeId):Buf w e (.slice none 0 0) []:=World.ownsRow_nil w 0 e 1
theorem Buf.lt(h:Buf w e v bs){k:Nat}(hk:v.ownBlock=some k):k<w.heap.size:=(World.ownsRow.lt h k hk).2
theorem Buf.of_block(h:Buf w e v bs)(hb: ∀k,v.ownBlock=some k->w'.heap[k]? = w.heap[k]?):Buf w' e v bs:=by
 refine⟨h.1,?_⟩
 rcases h.2 with h2| ⟨g,cap,cur,rfl,hg,hh,r⟩
 ·exact .inl h2
 ·exact .inr ⟨g,cap,cur,rfl,hg,by rw[hb g rfl];exact hh,r⟩
theorem Buf.kept(h:Buf w e v bs)(hk:Kept S w w')(hS: ∀k,v.ownBlock=some k->¬S k):Buf w' e v bs:=
 h.of_block λk hv=>hk.block k (h.lt hv) (hS k hv)
theorem Buf.drew(h:Buf w e v bs):Buf w.drew e v bs:=h
theorem Buf.drewN(h:Buf w e v bs)(n:Nat):Buf (w.drewN n) e v bs:=h
theorem Buf.alloc(h:Buf w e v bs)(o:Obj):Buf (w.alloc o) e v bs:=h.of_block λk hv=>Below.heap_alloc w o k (h.lt hv)
theorem Buf.setCell(h:Buf w e v bs){p:Addr}(hp:v.ownBlock≠some p.block)(u:Value):Buf (w.setCell p u) e v bs:=
 h.of_block λk hv=>Below.heap_setCell w p u k λe=>hp (by rw[hv,e])
theorem Buf.ne_blk{g:Nat}{t:TypeId}{cs:Array Value}(h:Buf w e v bs)(hg:Blk w g t cs)(hne:e≠t):v.ownBlock≠some g:=by
 rcases h.2 with⟨rfl,_⟩ | ⟨g',cap,cur,rfl,_,hh,_⟩
 ·simp[Value.ownBlock]
 ·intro he
  have:g'=g:=by simpa [Value.ownBlock]using he
  subst this
  exact Blk.ne_ (t:=e) hh hg hne rfl
theorem Buf.form(h:Buf w e v bs): (v = .slice none 0 0∧bs = [])∨∃g cap,v = .slice (some ⟨g,0,none⟩) bs.length cap∧v.ownBlock=some g∧bs.length<=cap∧cap<=maxLen:=by
 rcases h.2 with⟨rfl,h2⟩ | ⟨g,cap,cur,rfl,hg,hh,h3,h4,_⟩
 ·exact .inl ⟨rfl,List.eq_nil_of_length_eq_zero h2⟩
 ·exact .inr ⟨g,cap,rfl,rfl,h3,h4⟩
theorem Buf.len(h:Buf w e v bs):bs.length<=maxLen:=by
 rcases h.form with⟨_,rfl⟩ | ⟨_,_,_,_,h1,h2⟩
 ·simp
 ·omega
theorem run_append_buf{P:Program}(w:World)(t u ty e:TypeId)(i:TypeInfo)(ht:P.underlying t=some (.slice e))(hu:P.underlying u=some .string)(hi:P.info? e=some i)(hz:i.zero=some (.int .u8 0))
 (hsize:i.size=1) (hby:i.bytes=1) (v:Value) (bs:List UInt8) (hown:Buf w e v bs) (s:ByteArray) (hbytes:bs.length+s.size<=140737488355328):
 ∃v' w',(Builtin.append_ #[t,u] ty #[v,.string s]).run P w = .ok v' w'∧Buf w' e v' (bs++s.data.toList)∧w.grownBy w' v.ownBlock∧
  (v'.ownBlock=v.ownBlock∨v'.ownBlock=some w.heap.size):=by
 have hss:s.data.toList.length=s.size:=by rw[Array.length_toList];rfl
 obtain⟨v',w',hr,ho,hg,hiff⟩:=run_append_own_string (P:=P) w 0 t u ty e i ht hu hi hz hsize hby v bs.length (bcells bs) hown s (by unfold maxLen;omega) hbytes (Nat.zero_le _)
 have hbuf:Buf w' e v' (bs++s.data.toList):=by
  unfold Buf
  rw[List.length_append,hss]
  simpa [bcells,strCells]using ho
 refine⟨v',w',hr,hbuf,hg,?_⟩
 rcases hown.2 with⟨rfl,h2⟩ | ⟨g,cap,cur,rfl,_,hh,hc1,hc2,hc3,hc4⟩
 ·by_cases hm:s.size=0
  ·left;rw[hiff.2 ⟨rfl,hm⟩]
  ·right
   have hbs:bs = []:=List.eq_nil_of_length_eq_zero h2
   subst hbs
   have hrun:=run_append_nil_string (P:=P) w t u ty e i (.int .u8 0) ht hu hi hz s oM (by simp at hbytes;omega) (by simp at hbytes;rw[hby];omega)
   rw[hr]at hrun
   injection hrun with e1 _
   rw[e1];rfl
 ·by_cases hroom:bs.length+s.size<=cap
  ·left
   have hrun:=run_append_room_string (P:=P) w t u ty e i ht hu hi hsize g bs.length cap cur hh s hroom oM
   rw[hr]at hrun
   injection hrun with e1 _
   rw[e1];rfl
  ·right
   have hxl: (bcells bs).length=bs.length:=by simp[bcells]
   have holds: ∀j u,(bcells bs)[j]? = some u->w.cell? ((⟨g,0,none⟩:Addr).add j)=some u:=World.ownsRow.cells (g:=g) hown rfl
   have hrun:=run_append_grow_string (P:=P) w t u ty e i (.int .u8 0) ht hu hi hz ⟨g,0,none⟩ bs.length cap (bcells bs) (by rw[hsize];simpa using hxl) holds s oM oM (by rw[hby];exact growslice_fits oM oM)
   rw[hr]at hrun
   injection hrun with e1 _
   rw[e1];rfl
theorem step_append_buf{P:Program}{w:World}{ops:Array Oper}{o:Oper}{a:Act}{K:Act->World->Prop}{Q:Exit->Act->World->Prop}{E:Prop}(hgd:o.guard=none)(sl x:Operand)(t u:TypeId)
 (ho:o.op = .call { callee:= .builtin .append,args:=#[sl,x],argTypes:=#[t,u] })
 (e:TypeId) (i:TypeInfo) (ht:P.underlying t=some (.slice e)) (hu:P.underlying u=some .string) (hi:P.info? e=some i) (hz:i.zero=some (.int .u8 0)) (hsize:i.size=1) (hby:i.bytes=1)
 (v:Value) (bs:List UInt8) (hs:a.eval sl=v) (hown:Buf w e v bs) (s:ByteArray) (hx:a.eval x = .string s) (hbytes:bs.length+s.size<=140737488355328)
 (h: ∀v' w',Buf w' e v' (bs++s.data.toList)->w.grownBy w' v.ownBlock->(v'.ownBlock=v.ownBlock∨v'.ownBlock=some w.heap.size)->K (a.put o.dst v') w'):
 if Region.wanted o (yielded ops a.tmps)=true then Oper.wp P o a w K Q else E:=by
 have hw:Region.wanted o (yielded ops a.tmps)=true:=by simp[Region.wanted,hgd]
 rw[if_pos hw]
 obtain⟨v',w',hr,h2,h3,h4⟩:=run_append_buf (P:=P) w t u o.type e i ht hu hi hz hsize hby v bs hown s hbytes
 unfold Oper.wp execOp
 simp only[ho,resolve,invoke,builtin,Sem.run_bind,Sem.run_pure,Result.andThen_ok,List.map_toArray,List.map_cons,List.map_nil,hs,hx,hr]
 exact h v' w' h2 h3 h4
theorem Buf.form'(h:Buf w e v bs): ∃A cap,v = .slice A bs.length cap∧cap<=maxLen:=by
 rcases h.form with⟨rfl,rfl⟩ | ⟨g,cap,rfl,_,_,h2⟩
 ·exact⟨none,0,rfl,Nat.zero_le _⟩
 ·exact⟨_,cap,rfl,h2⟩
theorem Buf.to_string{P:Program}(h:Buf w e v bs)(src dst:TypeId)(hs:P.underlying src=some (.slice e))(he:P.underlying e=some (.int .u8))(hd:P.underlying dst=some .string):
 (convert src dst v).run P w = .ok (.string ⟨bs.toArray⟩) w:=by
 rcases h.form with⟨rfl,rfl⟩ | ⟨g,cap,rfl,_,_,_⟩
 ·exact run_convert_bytes_nil w src e hs he 0 0 dst hd
 ·refine run_convert_bytes_back w src dst e ⟨g,0,none⟩ cap bs hs he hd λj hj=> ?_
  exact World.ownsRow.cells (g:=g) h rfl j _ (by simp[bcells,hj])
end
structure Asr where
 holds:World->(Nat->Prop)->Prop
 lt: ∀{w F k},holds w F->F k->k<w.heap.size
 kept: ∀{w w' F T},holds w F->Kept T w w'->(∀k,F k->¬T k)->holds w' F
def BlkA(g:Nat)(t:TypeId)(cs:Array Value):Asr where
 holds w F:=Blk w g t cs∧∀k,F k↔k=g
 lt h hk:=by have:=(h.2 _).1 hk;subst this;exact h.1.lt
 kept h hk hT:=⟨h.1.kept hk (hT _ ((h.2 _).2 rfl)),h.2⟩
def All:List Asr->World->(Nat->Prop)->Prop
 | [],_,F=> ∀k,¬F k
 | A::L,w,F=> ∃F1 F2,A.holds w F1∧All L w F2∧(∀k,F1 k->F2 k->False)∧∀k,F k↔F1 k∨F2 k
theorem All.lt: ∀{L:List Asr} {w F k},All L w F->F k->k<w.heap.size
 | [],_,_,_,h,hk=>(h _ hk).elim
 | A::L,_,_,_,⟨F1,F2,h1,h2,_,hF⟩,hk=>by
   rcases(hF _).1 hk with h|h
   ·exact A.lt h1 h
   ·exact All.lt h2 h
theorem All.kept: ∀{L:List Asr} {w w' F T},All L w F->Kept T w w'->(∀k,F k->¬T k)->All L w' F
 | [],_,_,_,_,h,_,_=>h
 | A::L,_,_,_,_,⟨F1,F2,h1,h2,hd,hF⟩,hk,hT=>
   ⟨F1,F2,A.kept h1 hk (λk h=>hT k ((hF k).2 (.inl h))),All.kept h2 hk (λk h=>hT k ((hF k).2 (.inr h))),hd,hF⟩
theorem All.swap{A B:Asr}{L:List Asr}{w F}(h:All (A::B::L) w F):All (B::A::L) w F:=by
 obtain⟨F1,F2,h1,⟨F3,F4,h3,h4,hd2,hF2⟩,hd,hF⟩:=h
 refine⟨F3,λk=>F1 k∨F4 k,h3,⟨F1,F4,h1,h4,λk a b=>hd k a ((hF2 k).2 (.inr b)),λk=>Iff.rfl⟩,?_,?_⟩
 ·intro k a b
  rcases b with b|b
  ·exact hd k b ((hF2 k).2 (.inl a))
  ·exact hd2 k a b
 ·intro k
  rw[hF,hF2]
  constructor
  ·rintro(h|h|h)
   ·exact .inr (.inl h)
   ·exact .inl h
   ·exact .inr (.inr h)
  ·rintro(h|h|h)
   ·exact .inr (.inl h)
   ·exact .inl h
   ·exact .inr (.inr h)
def At(w0 w:World)(L:List Asr):Prop:= ∃F,All L w F∧(∀k,F k->w0.heap.size<=k)∧Below w0.heap.size w0 w
def Post(R:Value->Asr->Prop)(F:Nat->Prop)(w:World)(e:Ending)(w':World):Prop:=
 ∃v A' F',R v A'∧e = .returned v∧A'.holds w' F'∧Kept F w w'∧∀k,F' k->F k∨w.heap.size<=k
section
variable {P:Program}{f:FuncId}{args:Array Value}{w0 w w':World}{A A' B C D:Asr}{L:List Asr}{R:Value->Asr->Prop}
theorem At.refl(w:World):At w w []:=⟨Nob,λ_ h=>h,λ_ h=>h.elim,Below.refl _ _⟩
theorem At.swap(h:At w0 w (A::B::L)):At w0 w (B::A::L):=let⟨F,h1,h2,h3⟩:=h;⟨F,h1.swap,h2,h3⟩
theorem At.tail(h:At w0 w (A::L)):At w0 w L:=by
 obtain⟨F,⟨F1,F2,h1,h2,hd,hF⟩,hb,hbl⟩:=h
 exact⟨F2,h2,λk hk=>hb k ((hF k).2 (.inr hk)),hbl⟩
theorem At.cons{L L':List Asr}(hL: ∀w F,All L w F->All L' w F)(h:At w0 w (A::L)):At w0 w (A::L'):=by
 obtain⟨F,⟨F1,F2,h1,h2,hd,hF⟩,hb,hbl⟩:=h
 exact⟨F,⟨F1,F2,h1,hL _ _ h2,hd,hF⟩,hb,hbl⟩
theorem At.rot3(h:At w0 w (A::B::C::L)):At w0 w (C::A::B::L):=(At.cons (λ_ _=>All.swap) h).swap
theorem At.below(h:At w0 w L):Below w0.heap.size w0 w:=let⟨_,_,_,h3⟩:=h;h3
theorem At.keptNob(h:At w0 w L)(hk:Kept Nob w w'):At w0 w' L:=by
 obtain⟨F,h1,h2,h3⟩:=h
 exact⟨F,h1.kept hk (λ_ _ h=>h),h2,Below.andKept h3 hk (λ_ h=>h.elim) (Nat.le_refl _)⟩
theorem At.drewN(h:At w0 w L)(n:Nat):At w0 (w.drewN n) L:=h.keptNob ((Kept.refl _ _).drewN n)
theorem At.drew(h:At w0 w L):At w0 w.drew L:=h.keptNob (Kept.refl _ _).drew
theorem At.alloc(h:At w0 w L)(o:Obj):At w0 (w.alloc o) L:=h.keptNob ((Kept.refl _ _).alloc o)
theorem At.add(h:At w0 w L){F':Nat->Prop}(ha:A.holds w' F')(hk:Kept Nob w w')(hF': ∀k,F' k->w.heap.size<=k):At w0 w' (A::L):=by
 obtain⟨F,h1,h2,h3⟩:=h
 refine⟨λk=>F' k∨F k,⟨F',F,ha,h1.kept hk (λ_ _ h=>h),λk a b=> ?_,λk=>Iff.rfl⟩,?_,Below.andKept h3 hk (λ_ h=>h.elim) (Nat.le_refl _)⟩
 ·have:=hF' k a
  have:=h1.lt b
  omega
 ·intro k hk'
  rcases hk' with h|h
  ·exact Nat.le_trans h3.size (hF' k h)
  ·exact h2 k h
theorem At.step_aux{F F1 F2 F':Nat->Prop}(h2:All L w F2)(hd: ∀k,F1 k->F2 k->False)(hF: ∀k,F k↔F1 k∨F2 k)(hb: ∀k,F k->w0.heap.size<=k)(hbl:Below w0.heap.size w0 w)
 (ha:A'.holds w' F') (hk:Kept F1 w w') (hF': ∀k,F' k->F1 k∨w.heap.size<=k):At w0 w' (A'::L):=by
 refine⟨λk=>F' k∨F2 k,⟨F',F2,ha,h2.kept hk (λk a b=>hd k b a),λk a b=> ?_,λk=>Iff.rfl⟩,?_,?_⟩
 ·rcases hF' k a with c|c
  ·exact hd k c b
  ·have:=h2.lt b;omega
 ·intro k hk'
  rcases hk' with h|h
  ·rcases hF' k h with c|c
   ·exact hb k ((hF k).2 (.inl c))
   ·exact Nat.le_trans hbl.size c
  ·exact hb k ((hF k).2 (.inr h))
 ·exact Below.andKept hbl hk (λk hk=>hb k ((hF k).2 (.inl hk))) (Nat.le_refl _)
theorem At.step(h:At w0 w (A::L))(hs: ∀F,A.holds w F->∃F',A'.holds w' F'∧Kept F w w'∧∀k,F' k->F k∨w.heap.size<=k):At w0 w' (A'::L):=by
 obtain⟨F,⟨F1,F2,h1,h2,hd,hF⟩,hb,hbl⟩:=h
 obtain⟨F',ha,hk,hF'⟩:=hs F1 h1
 exact At.step_aux h2 hd hF hb hbl ha hk hF'
def Got(R:Value->Asr->Prop)(w0:World)(L:List Asr)(e:Ending)(w':World):Prop:= ∃v A',R v A'∧e = .returned v∧At w0 w' (A'::L)
def Got1(v:Value)(A':Asr)(w0:World)(L:List Asr)(e:Ending)(w':World):Prop:=e = .returned v∧At w0 w' (A'::L)
theorem At.call(h:At w0 w (A::L))(hc: ∀F,A.holds w F->Calls P f args w (Post R F w)):Calls P f args w (Got R w0 L):=by
 obtain⟨F,⟨F1,F2,h1,h2,hd,hF⟩,hb,hbl⟩:=h
 refine(hc F1 h1).mono ?_
 rintro e w' ⟨v,A',F',hR,he,ha,hk,hF'⟩
 exact⟨v,A',hR,he,At.step_aux h2 hd hF hb hbl ha hk hF'⟩
theorem At.call1{v:Value}(h:At w0 w (A::L))(hc: ∀F,A.holds w F->Calls P f args w (Post (λu B=>u=v∧B=A') F w)):Calls P f args w (Got1 v A' w0 L):=by
 refine(At.call h hc).mono ?_
 rintro e w' ⟨u,B,⟨rfl,rfl⟩,he,h⟩
 exact⟨he,h⟩
theorem At.make(h:At w0 w L)(hc:Calls P f args w (Post R Nob w)):Calls P f args w (Got R w0 L):=by
 refine hc.mono ?_
 rintro e w' ⟨v,A',F',hR,he,ha,hk,hF'⟩
 exact⟨v,A',hR,he,At.add h ha hk (λk hk=>(hF' k hk).elim (λh=>h.elim) id)⟩
theorem At.box(h:At w0 w L)(cs:Array Value)(t:TypeId):At w0 (w.alloc (.cells cs t)) (BlkA w.heap.size t cs::L):=
 h.add (A:=BlkA w.heap.size t cs) (F':=λk=>k=w.heap.size) ⟨Blk.new w t cs,λ_=>Iff.rfl⟩ ((Kept.refl _ _).alloc _) (λk hk=>Nat.le_of_eq hk.symm)
theorem At.set{g:Nat}{t:TypeId}{cs:Array Value}(h:At w0 w (BlkA g t cs::L))(i:Nat)(u:Value):At w0 (w.setCell (g,i) u) (BlkA g t (cs.setIfInBounds i u)::L):=
 h.step λF hF=>⟨F,⟨hF.1.set_ i u,hF.2⟩,Kept.setCell (Kept.refl _ _) (.inl ((hF.2 _).2 rfl)) _,λ_ h=> .inl h⟩
theorem At.blk{g:Nat}{t:TypeId}{cs:Array Value}(h:At w0 w (BlkA g t cs::L)):Blk w g t cs:=by
 obtain⟨F,⟨F1,F2,h1,_⟩,_⟩:=h
 exact h1.1
theorem At.first(h:At w0 w (A::L)): ∃F,A.holds w F:=by
 obtain⟨F,⟨F1,F2,h1,_⟩,_⟩:=h
 exact⟨F1,h1⟩
theorem At.old(h:At w0 w L){p:Addr}{v:Value}(hc:w0.cell? p=some v):w.cell? p=some v:=
 (h.below.cell (World.block_lt_of_cell? w0 p hc)).trans hc
end
namespace Vm
def AllA(L:List Asr):Asr where
 holds:=All L
 lt:=All.lt
 kept:=All.kept
def On(F:Nat->Prop)(w:World)(A:Asr)(w':World):Prop:= ∃F',A.holds w' F'∧Kept F w w'∧∀k,F' k->F k∨w.heap.size<=k
def PostE(R:Ending->Asr->Prop)(F:Nat->Prop)(w:World)(e:Ending)(w':World):Prop:= ∃A',R e A'∧On F w A' w'
def Got(e0:Ending)(A':Asr)(F:Nat->Prop)(w:World)(e:Ending)(w':World):Prop:=e=e0∧On F w A' w'
def ret(v:Value):Ending:= .returned v
section
variable {P:Program}{f:FuncId}{args:Array Value}{w w' w'':World}{F:Nat->Prop}{A A' B B' C D:Asr}{L L':List Asr}{R:Ending->Asr->Prop}{i j:Nat}
theorem On.refl(h:A.holds w F):On F w A w:=⟨F,h,Kept.refl F w,λ_ h=> .inl h⟩
theorem On.step(h:On F w A w')(hs: ∀F',A.holds w' F'->On F' w' A' w''):On F w A' w'':=by
 obtain⟨F',ha,hk,hF⟩:=h
 obtain⟨F2,ha2,hk2,hF2⟩:=hs F' ha
 refine⟨F2,ha2,hk.trans' hk2 hF,λk h=> ?_⟩
 rcases hF2 k h with h|h
 ·exact hF k h
 ·exact .inr (Nat.le_trans hk.size h)
theorem On.mono(h:On F w A w')(hs: ∀F',A.holds w' F'->A'.holds w' F'):On F w A' w':=by
 obtain⟨F',ha,hk,hF⟩:=h
 exact⟨F',hs F' ha,hk,hF⟩
theorem On.keptNob(h:On F w A w')(hk:Kept Nob w' w''):On F w A w'':=by
 obtain⟨F',ha,hk1,hF⟩:=h
 exact⟨F',A.kept ha hk (λ_ _ h=>h),hk1.trans' hk (λ_ h=>h.elim),hF⟩
theorem On.drewN(h:On F w A w')(n:Nat):On F w A (w'.drewN n):=h.keptNob ((Kept.refl _ _).drewN n)
theorem On.drew(h:On F w A w'):On F w A w'.drew:=h.keptNob (Kept.refl _ _).drew
theorem On.alloc(h:On F w A w')(o:Obj):On F w A (w'.alloc o):=h.keptNob ((Kept.refl _ _).alloc o)
theorem On.below(h:On F w A w')(hb:Below w'.heap.size w' w''):On F w A w'':=h.keptNob ⟨hb.os,hb.tape,hb.output,hb.size,λk hk _=>hb.block k hk⟩
theorem On.size(h:On F w A w'):w.heap.size<=w'.heap.size:=let⟨_,_,hk,_⟩:=h;hk.size
theorem On.post{e:Ending}(h:On F w A w')(hR:R e A):PostE R F w e w':=⟨A,hR,h⟩
theorem Got.postE{e0:Ending}{e:Ending}(h:Got e0 A' F w e w'):PostE (λe B=>e=e0∧B=A') F w e w':=⟨A',⟨h.1,rfl⟩,h.2⟩
theorem All.congrF: ∀{L:List Asr} {w:World} {F F':Nat->Prop},All L w F->(∀k,F' k↔F k)->All L w F'
 | [],_,_,_,h,hF=>λk hk=>h k ((hF k).1 hk)
 | A::L,_,_,_,⟨F1,F2,h1,h2,hd,h3⟩,hF=>⟨F1,F2,h1,h2,hd,λk=>(hF k).trans (h3 k)⟩
theorem All.part: ∀{L:List Asr} {i:Nat} {A:Asr} {w:World} {F:Nat->Prop},All L w F->L[i]? = some A->∃F1 F2,A.holds w F1∧All (L.eraseIdx i) w F2∧(∀k,F1 k->F2 k->False)∧(∀k,F k↔F1 k∨F2 k)
 | [],_,_,_,_,_,h=>by simp at h
 | A::L,0,A1,w,F,⟨F1,F2,h1,h2,hd,hF⟩,h=>by
   obtain rfl:A=A1:=by simpa using h
   exact⟨F1,F2,h1,h2,hd,hF⟩
 | A::L,i+1,A1,w,F,⟨F1,F2,h1,h2,hd,hF⟩,h=>by
   obtain⟨G1,G2,g1,g2,gd,gF⟩:=All.part h2 (i:=i) (A:=A1) (by simpa using h)
   refine⟨G1,λk=>F1 k∨G2 k,g1,⟨F1,G2,h1,g2,λk a b=>hd k a ((gF k).2 (.inr b)),λ_=>Iff.rfl⟩,?_,?_⟩
   ·rintro k a (b|b)
    ·exact hd k b ((gF k).2 (.inl a))
    ·exact gd k a b
   ·intro k
    rw[hF,gF]
    constructor
    ·rintro(h|h|h)
     ·exact .inr (.inl h)
     ·exact .inl h
     ·exact .inr (.inr h)
    ·rintro(h|h|h)
     ·exact .inr (.inl h)
     ·exact .inl h
     ·exact .inr (.inr h)
theorem All.putAt: ∀{L:List Asr} {i:Nat} {A':Asr} {w':World} {F3 F4:Nat->Prop},i<L.length->A'.holds w' F3->All (L.eraseIdx i) w' F4->(∀k,F3 k->F4 k->False)->All (L.set i A') w' (λk=>F3 k∨F4 k)
 | [],_,_,_,_,_,h,_,_,_=>by simp at h
 | A::L,0,A',w',F3,F4,_,h3,h4,hd=>⟨F3,F4,h3,h4,hd,λ_=>Iff.rfl⟩
 | A::L,i+1,A',w',F3,F4,hi,h3,⟨H1,H2,k1,k2,kd,kF⟩,hd'=>by
   refine⟨H1,λk=>F3 k∨H2 k,k1,All.putAt (by simpa using hi) h3 k2 (λk a b=>hd' k a ((kF k).2 (.inr b))),?_,?_⟩
   ·rintro k a (b|b)
    ·exact hd' k b ((kF k).2 (.inl a))
    ·exact kd k a b
   ·intro k
    show F3 k∨F4 k↔H1 k∨F3 k∨H2 k
    rw[kF]
    constructor
    ·rintro(h|h|h)
     ·exact .inr (.inl h)
     ·exact .inl h
     ·exact .inr (.inr h)
    ·rintro(h|h|h)
     ·exact .inr (.inl h)
     ·exact .inl h
     ·exact .inr (.inr h)
theorem lt_of_at{L:List Asr}{i:Nat}{A:Asr}(h:L[i]? = some A):i<L.length:=(List.getElem?_eq_some_iff.1 h).1
theorem All.turn{F1 F2 F3:Nat->Prop}(h2:All L w F2)(hd: ∀k,F1 k->F2 k->False)(hk:Kept F1 w w')(hF: ∀k,F3 k->F1 k∨w.heap.size<=k):All L w' F2∧∀k,F3 k->F2 k->False:=by
 refine⟨h2.kept hk (λk a b=>hd k b a),λk a b=> ?_⟩
 rcases hF k a with c|c
 ·exact hd k c b
 ·have:=h2.lt b;omega
theorem On.stepAt(i:Nat)(h:On F w (AllA L) w')(hA:L[i]? = some A)(hs: ∀F',A.holds w' F'->On F' w' A' w''):On F w (AllA (L.set i A')) w'':=by
 refine h.step λF' ha=> ?_
 obtain⟨F1,F2,h1,h2,hd,hF⟩:=All.part ha hA
 obtain⟨F3,h3,hk3,hF3⟩:=hs F1 h1
 obtain⟨h2',hd'⟩:=All.turn h2 hd hk3 hF3
 refine⟨_,All.putAt (lt_of_at hA) h3 h2' hd',hk3.mono λk h=>(hF k).2 (.inl h),?_⟩
 rintro k (h|h)
 ·exact(hF3 k h).imp (λh=>(hF k).2 (.inl h)) id
 ·exact .inl ((hF k).2 (.inr h))
theorem On.at_(i:Nat)(h:On F w (AllA L) w')(hA:L[i]? = some A): ∃F',A.holds w' F':=by
 obtain⟨F',ha,_⟩:=h
 obtain⟨F1,F2,h1,_⟩:=All.part ha hA
 exact⟨F1,h1⟩
theorem On.blkAt(i:Nat){g:Nat}{t:TypeId}{cs:Array Value}(h:On F w (AllA L) w')(hA:L[i]? = some (BlkA g t cs)):Blk w' g t cs:=by
 obtain⟨F',h1⟩:=h.at_ i hA
 exact h1.1
theorem On.call(h:On F w A w')(hc: ∀F',A.holds w' F'->Calls P f args w' (PostE R F' w')):Calls P f args w' (λe w''=> ∃A',R e A'∧On F w A' w''):=by
 obtain⟨F',ha,hk,hF⟩:=h
 refine(hc F' ha).mono ?_
 rintro e w2 ⟨A',hR,F2,ha2,hk2,hF2⟩
 refine⟨A',hR,F2,ha2,hk.trans' hk2 hF,λk h=> ?_⟩
 rcases hF2 k h with h|h
 ·exact hF k h
 ·exact .inr (Nat.le_trans hk.size h)
theorem On.callG{e0:Ending}(h:On F w A w')(hc: ∀F',A.holds w' F'->Calls P f args w' (Got e0 A' F' w')):Calls P f args w' (Got e0 A' F w):=by
 refine(On.call (R:=λe B=>e=e0∧B=A') h λF' hb=>(hc F' hb).mono λe w2 h=>h.postE).mono ?_
 rintro e w2 ⟨B,⟨rfl,rfl⟩,h⟩
 exact⟨rfl,h⟩
theorem On.callAt(i:Nat)(h:On F w (AllA L) w')(hA:L[i]? = some A)(hc: ∀F',A.holds w' F'->Calls P f args w' (PostE R F' w')):Calls P f args w' (λe w''=> ∃A',R e A'∧On F w (AllA (L.set i A')) w''):=by
 obtain⟨F',ha,hk,hF⟩:=h
 obtain⟨F1,F2,h1,h2,hd,hF12⟩:=All.part ha hA
 refine(hc F1 h1).mono ?_
 rintro e w2 ⟨A',hR,F3,h3,hk3,hF3⟩
 obtain⟨h2',hd'⟩:=All.turn h2 hd hk3 hF3
 refine⟨A',hR,_,All.putAt (lt_of_at hA) h3 h2' hd',hk.trans' hk3 (λk h=>hF k ((hF12 k).2 (.inl h))),?_⟩
 rintro k (h|h)
 ·rcases hF3 k h with c|c
  ·exact hF k ((hF12 k).2 (.inl c))
  ·exact .inr (Nat.le_trans hk.size c)
 ·exact hF k ((hF12 k).2 (.inr h))
theorem On.callAtG{e0:Ending}(i:Nat)(h:On F w (AllA L) w')(hA:L[i]? = some A)(hc: ∀F',A.holds w' F'->Calls P f args w' (Got e0 A' F' w')):Calls P f args w' (Got e0 (AllA (L.set i A')) F w):=by
 refine(On.callAt (R:=λe B=>e=e0∧B=A') i h hA λF' hb=>(hc F' hb).mono λe w2 h=>h.postE).mono ?_
 rintro e w2 ⟨B,⟨rfl,rfl⟩,h⟩
 exact⟨rfl,h⟩
theorem set_erase{α:Type}(L:List α)(i j:Nat)(hij:i≠j)(B:α): (L.eraseIdx i).set (if j<i then j else j-1) B= (L.set j B).eraseIdx i:=by
 apply List.ext_getElem?
 intro n
 simp only[List.getElem?_set,List.getElem?_eraseIdx,List.length_eraseIdx]
 repeat' split
 all_goals first
  | rfl
  | (exfalso;omega)
  | simp_all
theorem get_erase{α:Type}(L:List α)(i j:Nat)(hij:i≠j): (L.eraseIdx i)[if j<i then j else j-1]? = L[j]? :=by
 rw[List.getElem?_eraseIdx]
 repeat' split
 all_goals first
  | rfl
  | (exfalso;omega)
  | (rw[show j-1+1=j by omega])
theorem All.part2{w:World}{F:Nat->Prop}(h:All L w F)(hij:i≠j)(hA:L[i]? = some A)(hB:L[j]? = some B): ∃F1 F2:Nat->Prop,All [A,B] w F1∧All ((L.eraseIdx i).eraseIdx (if j<i then j else j-1)) w F2∧(∀k,F1 k->F2 k->False)∧(∀k,F k↔F1 k∨F2 k)∧
 ∀(A' B':Asr) (w':World) (F3:Nat->Prop),All [A',B'] w' F3->Kept F1 w w'->(∀k,F3 k->F1 k∨w.heap.size<=k)->All ((L.set j B').set i A') w' (λk=>F3 k∨F2 k):=by
 obtain⟨F1,F2,h1,h2,hd,hF⟩:=All.part h hA
 obtain⟨G1,G2,g1,g2,gd,gF⟩:=All.part h2 ((get_erase L i j hij).trans hB)
 refine⟨λk=>F1 k∨G1 k,G2,⟨F1,G1,h1,⟨G1,λ_=>False,g1,λ_ h=>h,λ_ _ h=>h,λk=>⟨λh=> .inl h,λh=>h.elim id (λh=>h.elim)⟩⟩,λk a b=>hd k a ((gF k).2 (.inl b)),λ_=>Iff.rfl⟩,g2,?_,?_,?_⟩
 ·rintro k (a|a) b
  ·exact hd k a ((gF k).2 (.inr b))
  ·exact gd k a b
 ·intro k
  rw[hF,gF,or_assoc]
 ·rintro A' B' w' F3 ⟨M1,M2,m1,⟨M3,M4,m3,m4,md2,mF2⟩,md,mF⟩ hk hF3
  have hr:=g2.kept hk (λk a b=>by
   rcases b with b|b
   ·exact hd k b ((gF k).2 (.inr a))
   ·exact gd k b a)
  have hdis: ∀k,F3 k->G2 k->False:=by
   intro k a b
   rcases hF3 k a with(c|c) |c
   ·exact hd k c ((gF k).2 (.inr b))
   ·exact gd k c b
   ·have:=g2.lt b;omega
  have e3: ∀k,M2 k↔M3 k:=λk=>by rw[mF2];exact⟨λh=>h.elim id (λh=>(m4 k h).elim),.inl⟩
  have hB'':=All.putAt (L:=L.eraseIdx i) (i:=if j<i then j else j-1) (lt_of_at ((get_erase L i j hij).trans hB)) m3 hr (λk a b=>hdis k ((mF k).2 (.inr ((e3 k).2 a))) b)
  rw[set_erase L i j hij]at hB''
  refine All.congrF (All.putAt (by simpa using lt_of_at hA) m1 hB'' ?_) ?_
  ·rintro k a (b|b)
   ·exact md k a ((e3 k).2 b)
   ·exact hdis k ((mF k).2 (.inl a)) b
  ·intro k
   rw[mF,e3,or_assoc]
theorem On.callAt2{R:Ending->Asr->Asr->Prop}(i j:Nat)(hij:i≠j)(h:On F w (AllA L) w')(hA:L[i]? = some A)(hB:L[j]? = some B)
 (hc: ∀F',(AllA [A,B]).holds w' F'->Calls P f args w' (PostE (λe X=> ∃A' B',R e A' B'∧X=AllA [A',B']) F' w')):Calls P f args w' (λe w''=> ∃A' B',R e A' B'∧On F w (AllA ((L.set j B').set i A')) w''):=by
 obtain⟨F',ha,hk,hF⟩:=h
 obtain⟨F1,F2,h1,_,hd,hF12,hset⟩:=All.part2 ha hij hA hB
 refine(hc F1 h1).mono ?_
 rintro e w2 ⟨X,⟨A',B',hR,rfl⟩,F3,h3,hk3,hF3⟩
 refine⟨A',B',hR,_,hset A' B' w2 F3 h3 hk3 hF3,hk.trans' hk3 (λk h=>hF k ((hF12 k).2 (.inl h))),?_⟩
 rintro k (h|h)
 ·rcases hF3 k h with c|c
  ·exact hF k ((hF12 k).2 (.inl c))
  ·exact .inr (Nat.le_trans hk.size c)
 ·exact hF k ((hF12 k).2 (.inr h))
theorem On.callAt2G{e0:Ending}(i j:Nat)(hij:i≠j)(h:On F w (AllA L) w')(hA:L[i]? = some A)(hB:L[j]? = some B)
 (hc: ∀F',(AllA [A,B]).holds w' F'->Calls P f args w' (Got e0 (AllA [A',B']) F' w')):Calls P f args w' (Got e0 (AllA ((L.set j B').set i A')) F w):=by
 refine(On.callAt2 (R:=λe X Y=>e=e0∧X=A'∧Y=B') i j hij h hA hB λF' hb=>(hc F' hb).mono λe w2 h=>⟨_,⟨A',B',⟨h.1,rfl,rfl⟩,rfl⟩,h.2⟩).mono ?_
 rintro e w2 ⟨X,Y,⟨rfl,rfl,rfl⟩,h⟩
 exact⟨rfl,h⟩
def Outs(L:List Asr)(i j:Nat)(F:Nat->Prop)(w w':World)(F':Nat->Prop):Prop:=
 (∀k,F' k->F k∨w.heap.size<=k)∧∀m C,m≠i->m≠j->L[m]? = some C->∃F3,C.holds w' F3∧∀k,F3 k->¬F' k
theorem On.callAt2W{R:Ending->Asr->Asr->Prop}(i j:Nat)(hij:i≠j)(h:On F w (AllA L) w')(hA:L[i]? = some A)(hB:L[j]? = some B)
 (hc: ∀F',(AllA [A,B]).holds w' F'->Outs L i j F w w' F'->Calls P f args w' (PostE (λe X=> ∃A' B',R e A' B'∧X=AllA [A',B']) F' w')):Calls P f args w' (λe w''=> ∃A' B',R e A' B'∧On F w (AllA ((L.set j B').set i A')) w''):=by
 obtain⟨F',ha,hk,hF⟩:=h
 obtain⟨F1,F2,h1,hr,hd,hF12,hset⟩:=All.part2 ha hij hA hB
 refine(hc F1 h1 ⟨λk h=>hF k ((hF12 k).2 (.inl h)),λm C hmi hmj hC=> ?_⟩).mono ?_
 ·have e1:=(get_erase L i m (λh=>hmi h.symm)).trans hC
  have hne: (if j<i then j else j-1)≠(if m<i then m else m-1):=by
   repeat' split
   all_goals omega
  have e2:=(get_erase (L.eraseIdx i) _ _ hne).trans e1
  obtain⟨G1,G2,g1,_,_,gF⟩:=All.part hr e2
  exact⟨G1,g1,λk a b=>hd k b ((gF k).2 (.inl a))⟩
 rintro e w2 ⟨X,⟨A',B',hR,rfl⟩,F3,h3,hk3,hF3⟩
 refine⟨A',B',hR,_,hset A' B' w2 F3 h3 hk3 hF3,hk.trans' hk3 (λk h=>hF k ((hF12 k).2 (.inl h))),?_⟩
 rintro k (h|h)
 ·rcases hF3 k h with c|c
  ·exact hF k ((hF12 k).2 (.inl c))
  ·exact .inr (Nat.le_trans hk.size c)
 ·exact hF k ((hF12 k).2 (.inr h))
theorem On.callAt2WG{e0:Ending}(i j:Nat)(hij:i≠j)(h:On F w (AllA L) w')(hA:L[i]? = some A)(hB:L[j]? = some B)
 (hc: ∀F',(AllA [A,B]).holds w' F'->Outs L i j F w w' F'->Calls P f args w' (Got e0 (AllA [A',B']) F' w')):Calls P f args w' (Got e0 (AllA ((L.set j B').set i A')) F w):=by
 refine(On.callAt2W (R:=λe X Y=>e=e0∧X=A'∧Y=B') i j hij h hA hB λF' hb ho=>(hc F' hb ho).mono λe w2 h=>⟨_,⟨A',B',⟨h.1,rfl,rfl⟩,rfl⟩,h.2⟩).mono ?_
 rintro e w2 ⟨X,Y,⟨rfl,rfl,rfl⟩,h⟩
 exact⟨rfl,h⟩
theorem On.cellOut{p:Addr}{v:Value}(h:On F w A w')(hc:w.cell? p=some v)(hp: ¬F p.block):w'.cell? p=some v:=by
 obtain⟨F',_,hk,_⟩:=h
 exact hk.cell hc hp
theorem On.apart(i j:Nat)(hij:i≠j)(h:On F w (AllA L) w')(hA:L[i]? = some A)(hB:L[j]? = some B): ∃F1 F2,A.holds w' F1∧B.holds w' F2∧∀k,F1 k->F2 k->False:=by
 obtain⟨F',ha,hk,hF⟩:=h
 obtain⟨F1,F2,⟨G1,G2,g1,⟨G3,G4,g3,g4,gd2,gF2⟩,gd,gF⟩,_,_⟩:=All.part2 ha hij hA hB
 exact⟨G1,G3,g1,g3,λk a b=>gd k a ((gF2 k).2 (.inl b))⟩
theorem On.neAt(i j:Nat)(hij:i≠j){g g':Nat}{t t':TypeId}{cs cs':Array Value}(h:On F w (AllA L) w')(hA:L[i]? = some (BlkA g t cs))(hB:L[j]? = some (BlkA g' t' cs')):g≠g':=by
 obtain⟨F1,F2,h1,h2,hd⟩:=h.apart i j hij hA hB
 rintro rfl
 exact hd g ((h1.2 g).2 rfl) ((h2.2 g).2 rfl)
theorem On.box(h:On F w (AllA L) w')(cs:Array Value)(t:TypeId):On F w (AllA (BlkA w'.heap.size t cs::L)) (w'.alloc (.cells cs t)):=by
 refine h.step λF' ha=> ?_
 refine⟨λk=>k=w'.heap.size∨F' k,⟨λk=>k=w'.heap.size,F',⟨Blk.new w' t cs,λ_=>Iff.rfl⟩,ha.kept ((Kept.refl Nob w').alloc _) (λ_ _ h=>h),λk a b=> ?_,λ_=>Iff.rfl⟩,(Kept.refl F' w').alloc _,?_⟩
 ·have:=All.lt ha b;omega
 ·rintro k (h|h)
  ·exact .inr oM
  ·exact .inl h
theorem On.tail(h:On F w (AllA (A::L)) w'):On F w (AllA L) w':=by
 obtain⟨F',⟨F1,F2,h1,h2,hd,hF⟩,hk,hF'⟩:=h
 exact⟨F2,h2,hk,λk h=>hF' k ((hF k).2 (.inr h))⟩
theorem On.drop(h:On F w (AllA L) w')(i:Nat)(hA:L[i]? = some A):On F w (AllA (L.eraseIdx i)) w':=by
 obtain⟨F',h1,hk,hF'⟩:=h
 obtain⟨F1,F2,h1,h2,hd,hF⟩:=All.part h1 hA
 exact⟨F2,h2,hk,λk h=>hF' k ((hF k).2 (.inr h))⟩
theorem On.setAt(i:Nat){g:Nat}{t:TypeId}{cs:Array Value}(h:On F w (AllA L) w')(hA:L[i]? = some (BlkA g t cs))(k:Nat)(u:Value):On F w (AllA (L.set i (BlkA g t (cs.setIfInBounds k u)))) (w'.setCell (g,k) u):=
 h.stepAt i hA λF' ha=>⟨F',⟨ha.1.set_ k u,ha.2⟩,(Kept.refl F' w').setCell (p:=⟨g,k,none⟩) (.inl ((ha.2 g).2 rfl)) u,λ_ h=> .inl h⟩
theorem All.one{w:World}{F:Nat->Prop}(h:A.holds w F):All [A] w F:=⟨F,λ_=>False,h,λ_ h=>h,λ_ _ h=>h,λk=>⟨λh=> .inl h,λh=>h.elim id (λh=>h.elim)⟩⟩
theorem On.one(h:On F w A w'):On F w (AllA [A]) w':=h.mono λ_ h=>All.one h
theorem On.addNew{F2:Nat->Prop}(h:On F w (AllA L) w')(ha:A.holds w'' F2)(hk:Kept Nob w' w'')(hF2: ∀k,F2 k->w'.heap.size<=k):On F w (AllA (A::L)) w'':=by
 refine h.step λF' hL=> ?_
 refine⟨λk=>F2 k∨F' k,⟨F2,F',ha,hL.kept hk (λ_ _ h=>h),λk a b=> ?_,λk=>Iff.rfl⟩,hk.mono (λ_ h=>h.elim),?_⟩
 ·have:=hF2 k a;have:=All.lt hL b;omega
 ·rintro k (h|h)
  ·exact .inr (hF2 k h)
  ·exact .inl h
end
def RestA(w:World)(F:Nat->Prop):Asr where
 holds w' G:=w.heap.size<=w'.heap.size∧(∀k,G k↔k<w.heap.size∧¬F k)∧∀k,k<w.heap.size->¬F k->w'.heap[k]? = w.heap[k]?
 lt:=by
  rintro w' G k ⟨hs,hG,_⟩ hk
  have:=(hG k).1 hk
  omega
 kept:=by
  rintro w1 w2 G T ⟨hs,hG,hb⟩ hk hT
  exact⟨Nat.le_trans hs hk.size,hG,λk h1 h2=>(hk.block k oM (hT k ((hG k).2 ⟨h1,h2⟩))).trans (hb k h1 h2)⟩
def bare(w:World):World:={ w with heap:=#[] }
section
variable {P:Program}{f:FuncId}{args:Array Value}{w w':World}{F:Nat->Prop}{A A':Asr}{L LA:List Asr}
theorem All.append: ∀{L M:List Asr} {w:World} {F G:Nat->Prop},All L w F->All M w G->(∀k,F k->G k->False)->All (L++M) w (λk=>F k∨G k)
 | [],M,w,F,G,h,hM,_=>All.congrF hM λk=>⟨λh1=>h1.elim (λh2=>(h k h2).elim) id,.inr⟩
 | A::L,M,w,F,G,⟨F1,F2,h1,h2,hd,hF⟩,hM,hFG=>by
   refine⟨F1,λk=>F2 k∨G k,h1,All.append h2 hM (λk a b=>hFG k ((hF k).2 (.inr a)) b),?_,λk=>by show F k∨G k↔F1 k∨F2 k∨G k;rw[hF,or_assoc]⟩
   rintro k a (b|b)
   ·exact hd k a b
   ·exact hFG k ((hF k).2 (.inl a)) b
theorem All.split: ∀{L M:List Asr} {w:World} {F:Nat->Prop},All (L++M) w F->∃F1 F2,All L w F1∧All M w F2∧(∀k,F1 k->F2 k->False)∧∀k,F k↔F1 k∨F2 k
 | [],M,w,F,h=>⟨λ_=>False,F,λ_ h=>h,h,λ_ h=>h.elim,λk=>⟨.inr,λh=>h.elim (λh=>h.elim) id⟩⟩
 | A::L,M,w,F,⟨F1,F2,h1,h2,hd,hF⟩=>by
   obtain⟨G1,G2,g1,g2,gd,gF⟩:=All.split (L:=L) h2
   refine⟨λk=>F1 k∨G1 k,G2,⟨F1,G1,h1,g1,λk a b=>hd k a ((gF k).2 (.inl b)),λ_=>Iff.rfl⟩,g2,?_,λk=>by rw[hF,gF,or_assoc]⟩
   rintro k (a|a) b
   ·exact hd k a ((gF k).2 (.inr b))
   ·exact gd k a b
theorem at_rest(ha:All LA w F):At (bare w) w (LA ++ [RestA w F]):=by
 refine⟨λk=>F k∨(k<w.heap.size∧¬F k),All.append ha (All.one ⟨Nat.le_refl _,λ_=>Iff.rfl,λ_ _ _=>rfl⟩) (λk a b=>b.2 a),λk _=>Nat.zero_le _,rfl,rfl,rfl,Nat.zero_le _,λk hk=>absurd hk (Nat.not_lt_zero _)⟩
theorem on_rest(h:At (bare w) w' (LA ++ [RestA w F])):On F w (AllA LA) w':=by
 obtain⟨G,hA,_,hb⟩:=h
 obtain⟨F1,F2,h1,⟨G1,G2,⟨hs,hG1,hk⟩,hG2,_,hF2⟩,hd,_⟩:=All.split hA
 refine⟨F1,h1,⟨hb.os,hb.tape,hb.output,hs,hk⟩,λk hk1=> ?_⟩
 rcases Nat.lt_or_ge k w.heap.size with hlt|hge
 ·left
  apply Classical.byContradiction
  intro hn
  exact hd k hk1 ((hF2 k).2 (.inl ((hG1 k).2 ⟨hlt,hn⟩)))
 ·exact .inr hge
theorem call_of_at{R:Ending->List Asr->Prop}(ha:All LA w F)(hc: ∀w0 L,At w0 w (LA++L)->Calls P f args w (λe w'=> ∃LA',R e LA'∧At w0 w' (LA'++L))):
 Calls P f args w (λe w'=> ∃LA',R e LA'∧On F w (AllA LA') w'):=by
 refine(hc (bare w) [RestA w F] (at_rest ha)).mono ?_
 rintro e w' ⟨LA',hR,h⟩
 exact⟨LA',hR,on_rest h⟩
theorem On.ofOne(h:On F w (AllA [A]) w'):On F w A w':=by
 obtain⟨F',⟨F1,F2,h1,h2,hd,hF⟩,hk,hF'⟩:=h
 refine⟨F1,h1,hk,λk h=>hF' k ((hF k).2 (.inl h))⟩
theorem got_of_at{v:Value}(ha:A.holds w F)(hc: ∀w0 L,At w0 w (A::L)->Calls P f args w (Got1 v A' w0 L)):Calls P f args w (Got (.returned v) A' F w):=by
 refine(call_of_at (R:=λe l=>e = .returned v∧l = [A']) (All.one ha) λw0 L h=>(hc w0 L h).mono λe w' h=>⟨[A'],⟨h.1,rfl⟩,h.2⟩).mono ?_
 rintro e w' ⟨l,⟨rfl,rfl⟩,h⟩
 exact⟨rfl,h.ofOne⟩
theorem make_of_at{R:Ending->Asr->Prop}(hc: ∀w0 L,At w0 w L->Calls P f args w (λe w'=> ∃A',R e A'∧At w0 w' (A'::L))):Calls P f args w (PostE R Nob w):=by
 refine(call_of_at (LA:=[]) (F:=Nob) (R:=λe l=> ∃A',R e A'∧l = [A']) (λ_ h=>h) λw0 L h=>(hc w0 L h).mono λe w' ⟨A',hR,h⟩=>⟨[A'],⟨A',hR,rfl⟩,h⟩).mono ?_
 rintro e w' ⟨l,⟨A',hR,rfl⟩,h⟩
 exact⟨A',hR,h.ofOne⟩
theorem On.make{R:Ending->Asr->Prop}(h:On F w (AllA L) w')(hc:Calls P f args w' (PostE R Nob w')):Calls P f args w' (λe w''=> ∃A',R e A'∧On F w (AllA (A'::L)) w''):=by
 refine hc.mono ?_
 rintro e w2 ⟨A',hR,F',ha,hk,hF'⟩
 exact⟨A',hR,h.addNew ha hk λk hk=>(hF' k hk).elim (λh=>h.elim) id⟩
theorem On.quiet{v:Value}(h:On F w A w')(hc:Calls P f args w' (λe w''=>e = .returned v∧Below w'.heap.size w' w'')):Calls P f args w' (Got (.returned v) A F w):=
 hc.mono λe w2 ⟨he,hb⟩=>⟨he,h.below hb⟩
theorem On.same{v:Value}(h:On F w A w')(hc:Calls P f args w' (λe w''=>e = .returned v∧w''=w')):Calls P f args w' (Got (.returned v) A F w):=
 hc.mono λe w2 ⟨he,hb⟩=>⟨he,by subst hb;exact h⟩
end
end Vm
def Same(v:Value)(w:World)(e:Ending)(w':World):Prop:=e = .returned v∧w'=w
namespace Code
def isAddr(op:Int):Bool:=op==3||op==4||op==5||op==7||op==8||op==9||op==17
def form(op:Int):Int:=if isAddr op then 1 else if op==19 then 2 else if op==20 then 3 else 0
def argOk(op a:Int):Bool:=
 if isAddr op then decide (-36028797018963968<=a) &&decide (a<36028797018963968)
 else if op==19 then decide (0<=a) &&decide (a<36028797018963968)
 else if op==20 then decide (1<=a) &&decide (a<=36)else a==0
def inOps(op:Int):Bool:=decide (1<=op) &&decide (op<=106)
def right(op a:Int):Bool:=inOps op&&argOk op a
def unOp(v:Int):Int:=v % 256
def unArg(v:Int):Int:=v/256
def unpack(v:Int):Int×Int×Bool:=if right (unOp v) (unArg v)then(unOp v,unArg v,true)else(0,0,false)
end Code
theorem Code.right_iff(op a:Int):Code.right op a=true↔1<=op∧op<=106∧
 (((op=3∨op=4∨op=5∨op=7∨op=8∨op=9∨op=17)∧ -36028797018963968<=a∧a<36028797018963968)∨(op=19∧0<=a∧a<36028797018963968)∨(op=20∧1<=a∧a<=36)∨
   (op≠3∧op≠4∧op≠5∧op≠7∧op≠8∧op≠9∧op≠17∧op≠19∧op≠20∧a=0)):=by
 unfold Code.right Code.argOk Code.inOps
 by_cases h1:Code.isAddr op=true
 ·rw[if_pos h1]
  simp[Code.isAddr]at h1
  simp
  omega
 ·rw[if_neg h1]
  simp[Code.isAddr]at h1
  by_cases h2:op=19
  ·simp[h2]
  by_cases h3:op=20
  ·simp[h3]
  simp[h2,h3]
  omega
theorem Code.form_iff(op:Int): (Code.form op=1∧(op=3∨op=4∨op=5∨op=7∨op=8∨op=9∨op=17))∨(Code.form op=2∧op=19)∨(Code.form op=3∧op=20)∨
 (Code.form op=0∧op≠3∧op≠4∧op≠5∧op≠7∧op≠8∧op≠9∧op≠17∧op≠19∧op≠20):=by
 unfold Code.form
 by_cases h1:Code.isAddr op=true
 ·rw[if_pos h1]
  simp[Code.isAddr]at h1
  omega
 ·rw[if_neg h1]
  simp[Code.isAddr]at h1
  by_cases h2:op=19
  ·simp[h2]
  by_cases h3:op=20
  ·simp[h3]
  simp[h2,h3]
  omega
theorem form_walk(op:Int)(w:World):Calls prog 179 #[op] w (Same (Code.form op) w):=by
 go_enter func179,ntmps179
 go_wp2
 all_goals go_ret
 all_goals refine⟨?_,rfl⟩
 all_goals simp_all[Code.form,Code.isAddr]
theorem right_walk(op a:Int)(w:World):Calls prog 144 #[op,a] w (Same (.bool (Code.right op a)) w):=by
 have hf:=hid (Code.form_iff op)
 generalize hr:Code.form op=f at hf
 go_enter func144,ntmps144
 go_wp2_with fail
 all_goals first
  | (refine(form_walk op w).mono ?_
     rintro e w1 ⟨rfl,rfl⟩
     rw[hr]
     clear hr
     go_wp2)
  | skip
 all_goals go_ret
 all_goals refine⟨congrArg (λb=>Ending.returned (.bool b)) ?_,rfl⟩
 all_goals have hf:=hf.out
 all_goals rw[Bool.eq_iff_iff,Code.right_iff]
 all_goals simp only[decide_eq_true_eq,beq_iff_eq,beq_eq_false_iff_ne,ne_eq,Bool.false_eq_true,false_iff]at *
 all_goals omega
def Code.wants(op:Int):Int×Int:=
 if op∈[2,11,12,14,15,17,30,72,77,83,89,90,91]then(0,1)
 else if op∈[5,9,13,16,22,73,74,75,78,80,81,88,100,101,102]then(1,0)
 else if op∈[6,7,66,68,69,79,82]then(2,0)
 else if op∈[19,87,104]then(0,2)
 else if op∈[21,26]then(1,2)
 else if op∈[23,36,53,54,86,97]then(2,2)
 else if op∈[24,28]then(2,3)
 else if op∈[25]then(3,3)
 else if op∈[27,31,32,33,34,35,41,42,47,48,49,51,52,58,59,60,61,62,84,98]then(2,1)
 else if op∈[29,39,40,43,44,45,46,50,63,64,65,67,92]then(1,1)
 else if op∈[37,93]then(3,1)
 else if op∈[38,55,56,57,99]then(3,2)
 else if op∈[70,71]then(3,0)
 else if op∈[94,95,96]then(4,2)
 else(0,0)
theorem idx_str(s:ByteArray)(i:Nat)(hi:i<s.size)(w:World): (Instr.index 9 (.string s) (.int .i64 (i:Int))).run prog w = .ok (.int .u8 ((s.data.toList.getD i 0).toNat:Int)) w:=by
 rw[run_index_string w _ s .i64 (i:Int) underlying9,dif_pos ⟨by omega,by omega⟩]
 have h2:i<s.data.toList.length:=by rw[<-Lib.size_eq];exact hi
 congr 4
 rw[List.getD_eq_getElem?_getD,List.getElem?_eq_getElem h2]
 rfl
theorem wants_out(op:Int)(h:Code.inOps op=false)(w:World):Calls prog 206 #[op] w (Same (.tuple #[(0:Int),(0:Int)]) w):=by
 simp[Code.inOps]at h
 go_enter func206,ntmps206
 go_wp2
 all_goals go_ret2
 all_goals exact⟨rfl,rfl⟩
def Code.takes:ByteArray:=⟨((List.range 106).map λi:Nat=>UInt8.ofNat (48+ (Code.wants ((i:Int) +1)).1.toNat)).toArray⟩
def Code.lays:ByteArray:=⟨((List.range 106).map λi:Nat=>UInt8.ofNat (48+ (Code.wants ((i:Int) +1)).2.toNat)).toArray⟩
theorem lit_takes: ({ data:=([48,48,48,48,49,50,50,48,49,48,48,48,49,48,48,49,48,48,48,48,49,49,50,50,51,49,50,50,49,48,50,50,50,50,50,50,51,51,49,49,50,50,49,49,49,49,50,50,50,49,50,50,50].append [50,51,51,51,50,50,50,50,50,49,49,49,50,49,50,50,51,51,48,49,49,49,48,48,49,50,49,49,50,48,50,48,50,48,49,48,48,48,49,51,52,52,52,50,50,51,49,49,49,48,48,48,48]).toArray }:ByteArray)=Code.takes:=by kernel_rfl
theorem lit_takes': ({ data:=#[48,48,48,48,49,50,50,48,49,48,48,48,49,48,48,49,48,48,48,48,49,49,50,50,51,49,50,50,49,48,50,50,50,50,50,50,51,51,49,49,50,50,49,49,49,49,50,50,50,49,50,50,50,50,51,51,51,50,50,50,50,50,49,49,49,50,49,50,50,51,51,48,49,49,49,48,48,49,50,49,49,50,48,50,48,50,48,49,48,48,48,49,51,52,52,52,50,50,51,49,49,49,48,48,48,48] }:ByteArray)=Code.takes:=by kernel_rfl
theorem lit_lays: ({ data:=([48,49,48,48,48,48,48,48,48,48,49,49,48,49,49,48,49,48,50,48,50,48,50,51,51,50,49,51,49,49,49,49,49,49,49,50,49,50,49,49,49,49,49,49,49,49,49,49,49,49,49,49,50].append [50,50,50,50,49,49,49,49,49,49,49,49,48,49,48,48,48,48,49,48,48,48,48,49,48,48,48,48,48,49,49,48,50,50,48,49,49,49,49,49,50,50,50,50,49,50,48,48,48,48,50,48,48]).toArray }:ByteArray)=Code.lays:=by kernel_rfl
theorem lit_lays': ({ data:=#[48,49,48,48,48,48,48,48,48,48,49,49,48,49,49,48,49,48,50,48,50,48,50,51,51,50,49,51,49,49,49,49,49,49,49,50,49,50,49,49,49,49,49,49,49,49,49,49,49,49,49,49,50,50,50,50,50,49,49,49,49,49,49,49,49,48,49,48,48,48,48,49,48,48,48,48,49,48,48,48,48,48,49,49,48,50,50,48,49,49,49,49,49,50,50,50,50,49,50,48,48,48,48,50,48,48] }:ByteArray)=Code.lays:=by kernel_rfl
theorem takes_size:Code.takes.size=106:=by kernel_rfl
theorem lays_size:Code.lays.size=106:=by kernel_rfl
theorem takes_at: ∀i:Fin 106,(Code.takes.data.toList.getD i.val 0).toNat=48+ (Code.wants ((i.val:Int) +1)).1.toNat∧(Code.lays.data.toList.getD i.val 0).toNat=48+ (Code.wants ((i.val:Int) +1)).2.toNat∧
 0<=(Code.wants ((i.val:Int) +1)).1∧(Code.wants ((i.val:Int) +1)).1<=4∧0<=(Code.wants ((i.val:Int) +1)).2∧(Code.wants ((i.val:Int) +1)).2<=4:=by decide +kernel
theorem wants_in(i:Nat)(hi:i<106)(w:World):Calls prog 206 #[((i:Int) +1:Int)] w λe w'=>e = .returned (.tuple #[.int .i64 (Code.wants ((i:Int) +1)).1,.int .i64 (Code.wants ((i:Int) +1)).2])∧∃n,w'=w.drewN n:=by
 have a1: ((i:Int) +1<1)=False:=by simp;omega
 have a2: ((107:Int)<=(i:Int) +1)=False:=by simp;omega
 have e1:wrap64 ((i:Int) +1-1)= (i:Int):=by unfold wrap64;omega
 have i1:=λw=>idx_str Code.takes i (by rw[takes_size];exact hi) w
 have i2:=λw=>idx_str Code.lays i (by rw[lays_size];exact hi) w
 obtain⟨k1,k2,k3⟩:=takes_at ⟨i,hi⟩
 simp only at k1 k2 k3
 rw[k1]at i1
 rw[k2]at i2
 clear k1 k2
 generalize Code.wants ((i:Int) +1)=x at *
 obtain⟨x,y⟩:=x
 have k3:=hid k3
 have i1:=hid i1
 have i2:=hid i2
 go_enter func206,ntmps206
 go_wp2
 first|rw[lit_takes,lit_lays] |rw[lit_takes',lit_lays']
 have i1:=i1.out
 have i2:=i2.out
 go_quiet (fail)
 clear i1 i2
 go_wp2
 go_ret2
 have k3:=k3.out
 have m1:48+max x 0-48=x:=by omega
 have m2:48+max y 0-48=y:=by omega
 refine⟨?_,nq,rfl⟩
 rw[m1,m2]
 rfl
def lfs(l:List UInt8):Nat:=l.count 10
def SrcA(g:Nat)(s:ByteArray)(at_:Nat):Asr:=BlkA g 164 #[.string s,(at_:Int),((lfs (s.data.toList.take at_):Nat):Int)]
def goesTo(p:UInt8->Bool)(s:List UInt8)(i:Nat):Nat:=i+ ((s.drop i).takeWhile p).length
def stepTo(s:List UInt8)(i:Nat):Nat:=if i<s.length then i+1 else i
theorem lfs_next{s:List UInt8}{i:Nat}(h:i<s.length):lfs (s.take (i+1))=lfs (s.take i) + (if s.getD i 0=10 then 1 else 0):=by
 unfold lfs
 rw[List.take_succ_eq_append_getElem h,List.count_append]
 congr 1
 have:s.getD i 0=s[i]:=by simp[List.getD,h]
 rw[this]
 by_cases e:s[i]=10<;>simp[e]
theorem step_walk(g:Nat)(s:ByteArray)(hs:s.size<=140737488355327)(i:Nat)(hi:i<=s.size)(w:World)(F:Nat->Prop)(hb: (SrcA g s i).holds w F):
 Calls prog 143 #[g] w (Post (λu B=>u = .tuple #[]∧B=SrcA g s (stepTo s.data.toList i)) F w):=by
 obtain⟨hb,hF⟩:=hb
 have c0:=hb.cell 0
 have c1:=hb.cell 1
 have c2:=hb.cell 2
 have f0:=hb.frozen 0
 have f1:=hb.frozen 1
 have f2:=hb.frozen 2
 simp at c0 c1 c2
 have hl:s.data.toList.length=s.size:=by rw[Lib.size_eq]
 by_cases hlt:i<s.size
 ·have hix:=λw=>idx_str s i hlt w
  have hle:=lfs_next (s:=s.data.toList) (i:=i) oM
  have hst:stepTo s.data.toList i=i+1:=by unfold stepTo;rw[if_pos oM]
  have hcnt:lfs (s.data.toList.take i)<=i:=by
   unfold lfs
   refine Nat.le_trans List.count_le_length ?_
   simp;omega
  rw[hst]
  unfold SrcA
  rw[hle]
  clear hle hst
  generalize s.data.toList.getD i 0=c at *
  generalize lfs (s.data.toList.take i)=n at *
  replace hl:=hid hl
  replace hF:=hid hF
  replace hb:=hid hb
  by_cases hc:c=10
  ·subst hc
   go_enter func143,ntmps143
   go_wp2
   go_quiet (fail)
   go_wp2
   go_quiet (fail)
   go_wp2
   go_end0
   refine⟨_,_,F,⟨rfl,rfl⟩,rfl,⟨?_,hF.out⟩,?_,λk h=> .inl h⟩
   ·simpa using((hb.out.drewN _).set_ 2 _).set_ 1 _
   ·exact Kept.setCell (Kept.setCell ((Kept.refl F w).drewN _) (.inl ((hF.out _).2 rfl)) _) (.inl ((hF.out _).2 rfl)) _
  ·have hcb: ((c.toNat:Int) ==10)=false:=by
    rw[beq_eq_false_iff_ne]
    intro e
    exact hc (UInt8.toNat_inj.1 (by simp;omega))
   go_enter func143,ntmps143
   go_wp2
   go_quiet (fail)
   go_wp2
   go_quiet (fail)
   go_wp2
   go_end0
   refine⟨_,_,F,⟨rfl,rfl⟩,rfl,⟨?_,hF.out⟩,?_,λk h=> .inl h⟩
   ·simpa [hc]using(hb.out.drewN _).set_ 1 _
   ·exact Kept.setCell ((Kept.refl F w).drewN _) (.inl ((hF.out _).2 rfl)) _
 ·have hst:stepTo s.data.toList i=i:=by unfold stepTo;rw[if_neg oM]
  rw[hst]
  replace hl:=hid hl
  replace hF:=hid hF
  replace hb:=hid hb
  go_enter func143,ntmps143
  go_wp2
  go_quiet (fail)
  go_wp2
  go_end0
  exact⟨_,_,F,⟨rfl,rfl⟩,rfl,⟨hb.out.drewN _,hF.out⟩,(Kept.refl F w).drewN _,λk h=> .inl h⟩
theorem goesTo_next{p:UInt8->Bool}{s:List UInt8}{i:Nat}(h:i<s.length)(hp:p (s.getD i 0)=true):goesTo p s (i+1)=goesTo p s i:=by
 unfold goesTo
 rw[List.drop_eq_getElem_cons h,List.takeWhile_cons]
 have:s.getD i 0=s[i]:=by simp[List.getD,h]
 rw[this]at hp
 rw[if_pos hp]
 simp
 omega
theorem goesTo_stop{p:UInt8->Bool}{s:List UInt8}{i:Nat}(hp:s.length<=i∨p (s.getD i 0)=false):goesTo p s i=i:=by
 unfold goesTo
 by_cases h:i<s.length
 ·rw[List.drop_eq_getElem_cons h,List.takeWhile_cons]
  have:s.getD i 0=s[i]:=by simp[List.getD,h]
  rw[this]at hp
  rw[if_neg (by rcases hp with hp|hp;omega;simp[hp])]
  rfl
 ·rw[List.drop_eq_nil_of_le oM]
  rfl
theorem goesTo_le{p:UInt8->Bool}{s:List UInt8}{i:Nat}(hi:i<=s.length):goesTo p s i<=s.length:=by
 unfold goesTo
 have h:=(List.takeWhile_sublist (p:=p) (l:=s.drop i)).length_le
 simp at h
 omega
theorem le_goesTo(p:UInt8->Bool)(s:List UInt8)(i:Nat):i<=goesTo p s i:=by unfold goesTo;omega
def isLow(c:UInt8):Bool:=decide (c.toNat<=32)
def isHigh(c:UInt8):Bool:=decide (32<c.toNat)
theorem lit_low(c:UInt8)(w:World):Calls prog 141 #[.int .u8 (c.toNat:Int)] w (Same (.bool (isLow c)) w):=by
 have e:decide ((c.toNat:Int)<=32)=isLow c:=by unfold isLow;rw[decide_eq_decide];omega
 go_enter func141,ntmps141
 go_wp2
 all_goals go_ret
 all_goals exact⟨by rw[<-e];simp;try omega,rfl⟩
theorem lit_high(c:UInt8)(w:World):Calls prog 142 #[.int .u8 (c.toNat:Int)] w (Same (.bool (isHigh c)) w):=by
 have e:decide ((c.toNat:Int) >32)=isHigh c:=by unfold isHigh;rw[decide_eq_decide];omega
 go_enter func142,ntmps142
 go_wp2
 all_goals go_ret
 all_goals exact⟨by rw[<-e];simp;try omega,rfl⟩
theorem goes_low(g:Nat)(s:ByteArray)(hs:s.size<=140737488355327)(i:Nat)(hi:i<=s.size)(w:World)(F:Nat->Prop)(hb: (SrcA g s i).holds w F):
 Calls prog 140 #[g,.func (.func 141) #[] #[]] w
  (Post (λu B=>u = .string (s.extract i (goesTo isLow s.data.toList i))∧B=SrcA g s (goesTo isLow s.data.toList i)) F w):=by
 have c1:=hb.1.cell 1
 simp at c1
 have hl:s.data.toList.length=s.size:=by rw[Lib.size_eq]
 have hp:=lit_low
 generalize isLow=p at *
 obtain⟨e,he⟩: ∃e,goesTo p s.data.toList i=e:=⟨_,rfl⟩
 rw[he]
 have hes:e<=s.size:=by rw[<-he,<-hl];exact goesTo_le oM
 replace hb:=hid hb
 replace hp:=hid hp
 replace hl:=hid hl
 replace he:=hid he
 go_enter func140,ntmps140
 go_wp2
 clear c1
 go_loopw [] (λwr=> ∃j:Nat,j<=s.size∧i<=j∧goesTo p s.data.toList j=e∧(SrcA g s j).holds wr F∧Kept F w wr) (λwr=>s.size- (match wr.cell? (g,1)with|some v=>(RowKit.intOf v).toNat|none=>0))
 case atStart=>exact⟨i,hi,Nat.le_refl _,he.out,hb.out,Kept.refl _ _⟩
 case round=>
  obtain⟨j,hj,hij,hg,hR,hK⟩:=hrel
  have c0:=hR.1.cell 0
  have c1:=hR.1.cell 1
  simp at c0 c1
  replace hR:=hid hR
  replace hK:=hid hK
  replace hg:=hid hg
  by_cases hlt:j<s.size
  ·have hix:=λw=>idx_str s j hlt w
   obtain⟨c,hc⟩: ∃c,s.data.toList.getD j 0=c:=⟨_,rfl⟩
   rw[hc]at hix
   replace hc:=hid hc
   have hpc:=hp.out c
   rcases hpb:p c with _|_
   ·rw[hpb]at hpc
    replace hpc:=hid hpc
    have hje:j=e:=by rw[<-hg.out];exact(goesTo_stop (.inr (by rw[hc.out,hpb]))).symm
    subst hje
    go_wp2
    go_quiet ((go_at_call 141;exact Calls.quiet_of_same (hpc.out _)))
    go_wp2
    go_quiet (fail)
    go_wp2
    go_ret
    refine⟨_,_,F,⟨rfl,rfl⟩,rfl,⟨by first|exact hR.out.1|exact hR.out.1.drewN nq|exact hR.out.1.drewN _,hR.out.2⟩,?_,λk h=> .inl h⟩
    first|exact(hK.out.drewN _).drewN _|exact hK.out.drewN _
   ·rw[hpb]at hpc
    replace hpc:=hid hpc
    go_wp2
    go_quiet ((go_at_call 141;exact Calls.quiet_of_same (hpc.out _)))
    have hst:stepTo s.data.toList j=j+1:=by unfold stepTo;rw[if_pos (by rw[hl.out];exact hlt)]
    have hnx:=goesTo_next (p:=p) (s:=s.data.toList) (i:=j) (by rw[hl.out];exact hlt) (by rw[hc.out,hpb])
    rw[hg.out]at hnx
    have hsw:=λw (h: (SrcA g s j).holds w F)=>step_walk g s hs j hj w F h
    rw[hst]at hsw
    replace hsw:=hid hsw
    replace hnx:=hid hnx
    clear hst
    go_wp2_with fail
    refine(hsw.out _ ⟨hR.out.1.drewN _,hR.out.2⟩).mono ?_
    rintro e2 w2 ⟨v,A',F',⟨rfl,rfl⟩,rfl,h1,h2,-⟩
    have hd:=h1.1.cell 1
    simp at hd
    replace h1:=hid h1
    replace h2:=hid h2
    go_wp2
    go_roundw
    case rel=>exact⟨j+1,by omega,by omega,hnx.out,⟨h1.out.1,hR.out.2⟩,(hK.out.drewN _).trans h2.out⟩
    case measure=>
     have hm:s.size- (j+1) <s.size-j:=by omega
     simpa [c1,hd,RowKit.intOf]using hm
  ·have hje:j=e:=by rw[<-hg.out];exact(goesTo_stop (.inl (by rw[hl.out];omega))).symm
   subst hje
   go_wp2
   go_quiet (fail)
   go_wp2
   go_quiet (fail)
   go_wp2
   go_ret
   refine⟨_,_,F,⟨rfl,rfl⟩,rfl,⟨by first|exact hR.out.1|exact hR.out.1.drewN nq|exact hR.out.1.drewN _,hR.out.2⟩,?_,λk h=> .inl h⟩
   first|exact(hK.out.drewN _).drewN _|exact hK.out.drewN _
theorem goes_high(g:Nat)(s:ByteArray)(hs:s.size<=140737488355327)(i:Nat)(hi:i<=s.size)(w:World)(F:Nat->Prop)(hb: (SrcA g s i).holds w F):
 Calls prog 140 #[g,.func (.func 142) #[] #[]] w
  (Post (λu B=>u = .string (s.extract i (goesTo isHigh s.data.toList i))∧B=SrcA g s (goesTo isHigh s.data.toList i)) F w):=by
 have c1:=hb.1.cell 1
 simp at c1
 have hl:s.data.toList.length=s.size:=by rw[Lib.size_eq]
 have hp:=lit_high
 generalize isHigh=p at *
 obtain⟨e,he⟩: ∃e,goesTo p s.data.toList i=e:=⟨_,rfl⟩
 rw[he]
 have hes:e<=s.size:=by rw[<-he,<-hl];exact goesTo_le oM
 replace hb:=hid hb
 replace hp:=hid hp
 replace hl:=hid hl
 replace he:=hid he
 go_enter func140,ntmps140
 go_wp2
 clear c1
 go_loopw [] (λwr=> ∃j:Nat,j<=s.size∧i<=j∧goesTo p s.data.toList j=e∧(SrcA g s j).holds wr F∧Kept F w wr) (λwr=>s.size- (match wr.cell? (g,1)with|some v=>(RowKit.intOf v).toNat|none=>0))
 case atStart=>exact⟨i,hi,Nat.le_refl _,he.out,hb.out,Kept.refl _ _⟩
 case round=>
  obtain⟨j,hj,hij,hg,hR,hK⟩:=hrel
  have c0:=hR.1.cell 0
  have c1:=hR.1.cell 1
  simp at c0 c1
  replace hR:=hid hR
  replace hK:=hid hK
  replace hg:=hid hg
  by_cases hlt:j<s.size
  ·have hix:=λw=>idx_str s j hlt w
   obtain⟨c,hc⟩: ∃c,s.data.toList.getD j 0=c:=⟨_,rfl⟩
   rw[hc]at hix
   replace hc:=hid hc
   have hpc:=hp.out c
   rcases hpb:p c with _|_
   ·rw[hpb]at hpc
    replace hpc:=hid hpc
    have hje:j=e:=by rw[<-hg.out];exact(goesTo_stop (.inr (by rw[hc.out,hpb]))).symm
    subst hje
    go_wp2
    go_quiet ((go_at_call 142;exact Calls.quiet_of_same (hpc.out _)))
    go_wp2
    go_quiet (fail)
    go_wp2
    go_ret
    refine⟨_,_,F,⟨rfl,rfl⟩,rfl,⟨by first|exact hR.out.1|exact hR.out.1.drewN nq|exact hR.out.1.drewN _,hR.out.2⟩,?_,λk h=> .inl h⟩
    first|exact(hK.out.drewN _).drewN _|exact hK.out.drewN _
   ·rw[hpb]at hpc
    replace hpc:=hid hpc
    go_wp2
    go_quiet ((go_at_call 142;exact Calls.quiet_of_same (hpc.out _)))
    have hst:stepTo s.data.toList j=j+1:=by unfold stepTo;rw[if_pos (by rw[hl.out];exact hlt)]
    have hnx:=goesTo_next (p:=p) (s:=s.data.toList) (i:=j) (by rw[hl.out];exact hlt) (by rw[hc.out,hpb])
    rw[hg.out]at hnx
    have hsw:=λw (h: (SrcA g s j).holds w F)=>step_walk g s hs j hj w F h
    rw[hst]at hsw
    replace hsw:=hid hsw
    replace hnx:=hid hnx
    clear hst
    go_wp2_with fail
    refine(hsw.out _ ⟨hR.out.1.drewN _,hR.out.2⟩).mono ?_
    rintro e2 w2 ⟨v,A',F',⟨rfl,rfl⟩,rfl,h1,h2,-⟩
    have hd:=h1.1.cell 1
    simp at hd
    replace h1:=hid h1
    replace h2:=hid h2
    go_wp2
    go_roundw
    case rel=>exact⟨j+1,by omega,by omega,hnx.out,⟨h1.out.1,hR.out.2⟩,(hK.out.drewN _).trans h2.out⟩
    case measure=>
     have hm:s.size- (j+1) <s.size-j:=by omega
     simpa [c1,hd,RowKit.intOf]using hm
  ·have hje:j=e:=by rw[<-hg.out];exact(goesTo_stop (.inl (by rw[hl.out];omega))).symm
   subst hje
   go_wp2
   go_quiet (fail)
   go_wp2
   go_quiet (fail)
   go_wp2
   go_ret
   refine⟨_,_,F,⟨rfl,rfl⟩,rfl,⟨by first|exact hR.out.1|exact hR.out.1.drewN nq|exact hR.out.1.drewN _,hR.out.2⟩,?_,λk h=> .inl h⟩
   first|exact(hK.out.drewN _).drewN _|exact hK.out.drewN _
def wordFrom(s:List UInt8)(i:Nat):Nat:=goesTo isLow s i
def wordTo(s:List UInt8)(i:Nat):Nat:=goesTo isHigh s (wordFrom s i)
def wordEnd(s:List UInt8)(i:Nat):Nat:=stepTo s (wordTo s i)
theorem stepTo_le{s:List UInt8}{i:Nat}(h:i<=s.length):stepTo s i<=s.length:=by unfold stepTo;split<;>omega
theorem le_stepTo(s:List UInt8)(i:Nat):i<=stepTo s i:=by unfold stepTo;split<;>omega
theorem new_walk(s:ByteArray)(hs:s.size<=60000)(w:World):Calls prog 40 #[.string s] w (Post (λu B=> ∃g:Nat,u = .tuple #[.pointer (some ⟨g,0,none⟩),(0:Int)]∧B=SrcA g s 0) Nob w):=by
 go_enter func40,ntmps40
 go_wp2
 go_ret2
 refine⟨_,_,λk=>k=w.heap.size,⟨w.heap.size,rfl,rfl⟩,rfl,⟨?_,λ_=>Iff.rfl⟩,(Kept.refl _ _).alloc _,λk h=> .inr oM⟩
 exact Blk.new w _ _
theorem word_walk(g:Nat)(s:ByteArray)(hs:s.size<=140737488355327)(i:Nat)(hi:i<=s.size)(w:World)(F:Nat->Prop)(hb: (SrcA g s i).holds w F):
 Calls prog 95 #[g] w
  (Post (λu B=>u = .tuple #[.string (s.extract (wordFrom s.data.toList i) (wordTo s.data.toList i)),((wordEnd s.data.toList i:Nat) - (i:Int):Int)]∧B=SrcA g s (wordEnd s.data.toList i)) F w):=by
 have c1:=hb.1.cell 1
 simp at c1
 have hl:s.data.toList.length=s.size:=by rw[Lib.size_eq]
 have b1:wordFrom s.data.toList i<=s.size:=by unfold wordFrom;rw[<-hl];exact goesTo_le oM
 have b2:wordTo s.data.toList i<=s.size:=by unfold wordTo;rw[<-hl];exact goesTo_le (by rw[hl];exact b1)
 have b3:wordEnd s.data.toList i<=s.size:=by unfold wordEnd;rw[<-hl];exact stepTo_le (by rw[hl];exact b2)
 have b4:i<=wordEnd s.data.toList i:=Nat.le_trans (le_goesTo isLow _ _) (Nat.le_trans (le_goesTo isHigh _ _) (le_stepTo _ _))
 have g1:=goes_low g s hs i hi w F hb
 have g2:=λw h=>goes_high g s hs (wordFrom s.data.toList i) b1 w F h
 have g3:=λw h=>step_walk g s hs (wordTo s.data.toList i) b2 w F h
 change Calls _ _ _ _ (Post (λu B=>u = .string (s.extract i (wordFrom s.data.toList i))∧B=SrcA g s (wordFrom s.data.toList i)) F w)at g1
 change∀w,_->Calls _ _ _ _ (Post (λu B=>u = .string (s.extract (wordFrom s.data.toList i) (wordTo s.data.toList i))∧B=SrcA g s (wordTo s.data.toList i)) F w)at g2
 change∀w,_->Calls _ _ _ _ (Post (λu B=>u = .tuple #[]∧B=SrcA g s (wordEnd s.data.toList i)) F w)at g3
 generalize wordFrom s.data.toList i=a at *
 generalize wordTo s.data.toList i=b at *
 generalize wordEnd s.data.toList i=c at *
 have hF:=hb.2
 replace g1:=hid g1
 replace g2:=hid g2
 replace g3:=hid g3
 replace hF:=hid hF
 clear hl hb
 go_enter func95,ntmps95
 go_wp2_with fail
 refine g1.out.mono ?_
 rintro e1 w1 ⟨v1,A1,F1,⟨rfl,rfl⟩,rfl,h1,k1,-⟩
 replace h1:=hid h1.1
 replace k1:=hid k1
 go_wp2_with fail
 refine(g2.out _ ⟨h1.out,hF.out⟩).mono ?_
 rintro e2 w2 ⟨v2,A2,F2,⟨rfl,rfl⟩,rfl,h2,k2,-⟩
 replace h2:=hid h2.1
 replace k2:=hid (k1.out.trans k2)
 go_wp2_with fail
 refine(g3.out _ ⟨h2.out,hF.out⟩).mono ?_
 rintro e3 w3 ⟨v3,A3,F3,⟨rfl,rfl⟩,rfl,h3,k3,-⟩
 replace h3:=h3.1
 replace k3:=hid (k2.out.trans k3)
 have d1:=h3.cell 1
 simp at d1
 replace h3:=hid h3
 go_wp2
 go_quiet (fail)
 go_wp2
 go_ret2
 exact⟨_,_,F,⟨rfl,rfl⟩,rfl,⟨h3.out.drewN _,hF.out⟩,k3.out.drewN _,λk h=> .inl h⟩
namespace Vm
section
variable {P:Program}{f:FuncId}{args:Array Value}{w w' w'':World}{F:Nat->Prop}{A A':Asr}{L L1 L2:List Asr}
theorem On.front(i:Nat)(h:On F w (AllA L) w')(hA:L[i]? = some A):On F w (AllA (A::L.eraseIdx i)) w':=h.mono λF' ha=>by
 obtain⟨F1,F2,h1,h2,hd,hF⟩:=All.part ha hA
 exact⟨F1,F2,h1,h2,hd,hF⟩
theorem On.flat(h:On F w (AllA (AllA L1::L2)) w'):On F w (AllA (L1++L2)) w':=h.mono λF' ha=>by
 obtain⟨F1,F2,h1,h2,hd,hF⟩:=ha
 exact All.congrF (All.append h1 h2 hd) hF
theorem On.unflat(h:On F w (AllA (L1++L2)) w'):On F w (AllA (AllA L1::L2)) w':=h.mono λF' ha=>by
 obtain⟨F1,F2,h1,h2,hd,hF⟩:=All.split ha
 exact⟨F1,F2,h1,h2,hd,hF⟩
theorem On.asAt(i:Nat)(h:On F w (AllA L) w')(hA:L[i]? = some A)(hs: ∀F',A.holds w' F'->A'.holds w' F'):On F w (AllA (L.set i A')) w':=
 h.stepAt i hA λF' ha=>⟨F',hs F' ha,Kept.refl _ _,λ_ h=> .inl h⟩
theorem On.makeV{v:Value}(h:On F w (AllA L) w')(hc:Calls P f args w' (Got (.returned v) A' Nob w')):Calls P f args w' (Got (.returned v) (AllA (A'::L)) F w):=by
 refine hc.mono ?_
 rintro e w2 ⟨he,F',ha,hk,hF'⟩
 exact⟨he,h.addNew ha hk λk hk=>(hF' k hk).elim (λh=>h.elim) id⟩
theorem On.dropTail(h:On F w (AllA (L1++L2)) w'):On F w (AllA L1) w':=by
 obtain⟨F',ha,hk,hF'⟩:=h
 obtain⟨F1,F2,h1,h2,hd,hF⟩:=All.split ha
 exact⟨F1,h1,hk,λk h=>hF' k ((hF k).2 (.inl h))⟩
end
theorem All.fam: ∀{L:List Asr} {w:World} {F:Nat->Prop},All L w F->∃Fs:Nat->Nat->Prop,(∀i (A:Asr),L[i]? = some A->A.holds w (Fs i))∧(∀i j k,i≠j->Fs i k->Fs j k->False)∧∀i k,Fs i k->F k
 | [],w,F,h=>⟨λ_ _=>False,λi A h=>by simp at h,λ_ _ _ _ h=>h.elim,λ_ _ h=>h.elim⟩
 | A::L,w,F,⟨F1,F2,h1,h2,hd,hF⟩=>by
   obtain⟨Gs,g1,g2,g3⟩:=All.fam h2
   refine⟨λi k=>match i with|0=>F1 k|i+1=>Gs i k,?_,?_,?_⟩
   ·rintro(_|i) B hB
    ·obtain rfl:A=B:=by simpa using hB
     exact h1
    ·exact g1 i B (by simpa using hB)
   ·rintro(_|i) (_|j) k hij a b
    ·exact hij rfl
    ·exact hd k a (g3 j k b)
    ·exact hd k b (g3 i k a)
    ·exact g2 i j k (λe=>hij (by rw[e])) a b
   ·rintro(_|i) k a
    ·exact(hF k).2 (.inl a)
    ·exact(hF k).2 (.inr (g3 i k a))
theorem All.ofFam{L:List Asr}{w:World}{Fs:Nat->Nat->Prop}(h1: ∀i (A:Asr),L[i]? = some A->A.holds w (Fs i))(h2: ∀i j k,i≠j->Fs i k->Fs j k->False): ∀is:List Nat,is.Nodup->All (is.filterMap (L[·]?)) w (λk=> ∃i,i∈is∧(∃A,L[i]? = some A)∧Fs i k)
 | [],_=>λk ⟨i,hi,_⟩=>by cases hi
 | i::is,hn=>by
   have ih:=All.ofFam h1 h2 is (List.nodup_cons.1 hn).2
   rcases hi:L[i]? with _|A
   ·rw[List.filterMap_cons_none hi]
    refine All.congrF ih λk=>⟨?_,?_⟩
    ·rintro⟨j,hj,⟨B,hB⟩,hk⟩
     rcases List.mem_cons.1 hj with rfl|hj
     ·rw[hi]at hB;cases hB
     ·exact⟨j,hj,⟨B,hB⟩,hk⟩
    ·rintro⟨j,hj,hB,hk⟩
     exact⟨j,List.mem_cons_of_mem _ hj,hB,hk⟩
   ·rw[List.filterMap_cons_some hi]
    refine⟨Fs i,_,h1 i A hi,ih,?_,?_⟩
    ·rintro k a ⟨j,hj,_,b⟩
     exact h2 i j k (λe=>(List.nodup_cons.1 hn).1 (by rw[e];exact hj)) a b
    ·intro k
     constructor
     ·rintro⟨j,hj,hB,hk⟩
      rcases List.mem_cons.1 hj with rfl|hj
      ·exact .inl hk
      ·exact .inr ⟨j,hj,hB,hk⟩
     ·rintro(h| ⟨j,hj,hB,hk⟩)
      ·exact⟨i,List.mem_cons_self ..,⟨A,hi⟩,h⟩
      ·exact⟨j,List.mem_cons_of_mem _ hj,hB,hk⟩
theorem All.pick{L T:List Asr}{w:World}{F:Nat->Prop}(h:All (L++T) w F)(is:List Nat)(hn:is.Nodup): ∃F',All (is.filterMap (L[·]?)++T) w F'∧∀k,F' k->F k:=by
 obtain⟨F1,F2,h1,h2,hd,hF⟩:=All.split h
 obtain⟨Fs,g1,g2,g3⟩:=All.fam h1
 have g4:=All.ofFam g1 g2 is hn
 refine⟨_,All.append g4 h2 ?_,?_⟩
 ·rintro k ⟨i,_,_,a⟩ b
  exact hd k (g3 i k a) b
 ·rintro k (⟨i,_,_,a⟩ |b)
  ·exact(hF k).2 (.inl (g3 i k a))
  ·exact(hF k).2 (.inr b)
section
variable {w w':World}{F:Nat->Prop}{L T:List Asr}
theorem On.pick(L:List Asr)(is:List Nat)(h:On F w (AllA (L++T)) w')(hn:is.Nodup):On F w (AllA (is.filterMap (L[·]?)++T)) w':=by
 obtain⟨F',ha,hk,hF⟩:=h
 obtain⟨F2,hb,hs⟩:=All.pick ha is hn
 exact⟨F2,hb,hk,λk h=>hF k (hs k h)⟩
theorem On.pickA(is:List Nat)(h:On F w (AllA L) w')(hn:is.Nodup):On F w (AllA (is.filterMap (L[·]?))) w':=by
 have h1:On F w (AllA (L ++ [])) w':=by rw[List.append_nil];exact h
 have h2:=On.pick L is h1 hn
 rw[List.append_nil]at h2
 exact h2
theorem On.emptyA(h:On F w (AllA L) w'):On F w (AllA (AllA []::L)) w':=
 h.mono λF' ha=>⟨λ_=>False,F',λ_ h=>h,ha,λ_ a _=>a,λk=>⟨.inr,λh=>h.elim (λh=>h.elim) id⟩⟩
end
end Vm
end Go.Proofs.YteaijdgnagkllaaGreatDoor
