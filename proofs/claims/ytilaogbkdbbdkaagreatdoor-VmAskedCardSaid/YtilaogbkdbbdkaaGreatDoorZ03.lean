/- Words for memory, and what is kept of it. No condition. -/
import Derived.Test.YtilaogbkdbbdkaaGreatDoorOm
import Derived.Test.YtilaogbkdbbdkaaGreatDoorZ02
import Derived.Test.YtilaogbkdbbdkaaGreatDoorRows
import Derived.WalkSpells
import Derived.WalkLawsBesides
import Derived.BigQuiet
import Derived.Deep.AppendLies
import Derived.Shelf.Small.Strs
import Derived.StillTailTactics
open Go.Proofs.Tryz
namespace Go.Proofs.YtilaogbkdbbdkaaGreatDoor
set_option linter.unusedVariables false
set_option maxHeartbeats 8000000
open Go.RowKit Go.Lib
def Blk(w:World)(g:Nat)(t:TypeId)(cs:Array Value):Prop:=w.heap[g]? = some (.cells cs t (0,0))
structure Kept(S:Nat->Prop)(w w':World):Prop where
 os:w'.os=w.os
 tape:w'.tape=w.tape
 output:w'.output=w.output
 size:w.heap.size<=w'.heap.size
 block: ∀k,k<w.heap.size->¬S k->w'.heap[k]? = w.heap[k]?
def Nob:Nat->Prop:=λ_=>False
section
variable {S T:Nat->Prop}{w w1 w':World}
theorem Kept.refl(S:Nat->Prop)(w:World):Kept S w w:=⟨rfl,rfl,rfl,Nat.le_refl _,λ_ _ _=>rfl⟩
theorem Kept.trans(h:Kept S w w1)(k:Kept S w1 w'):Kept S w w':=
 ⟨k.os.trans h.os,k.tape.trans h.tape,k.output.trans h.output,Nat.le_trans h.size k.size,
  λi hi hs=>(k.block i (Nat.lt_of_lt_of_le hi h.size) hs).trans (h.block i hi hs)⟩
theorem Kept.trans'(h:Kept S w w1)(k:Kept T w1 w')(hT: ∀i,T i->S i∨w.heap.size<=i):Kept S w w':=
 ⟨k.os.trans h.os,k.tape.trans h.tape,k.output.trans h.output,Nat.le_trans h.size k.size,
  λi hi hs=>(k.block i (Nat.lt_of_lt_of_le hi h.size) (λht=>by rcases hT i ht with h1|h1;exact hs h1;omega)).trans (h.block i hi hs)⟩
theorem Kept.mono(h:Kept S w w')(hST: ∀k,S k->T k):Kept T w w':=
 ⟨h.os,h.tape,h.output,h.size,λk hk ht=>h.block k hk λhs=>ht (hST k hs)⟩
theorem Kept.drew(h:Kept S w w'):Kept S w w'.drew:=⟨h.os,h.tape,h.output,h.size,h.block⟩
theorem Kept.drewN(h:Kept S w w')(n:Nat):Kept S w (w'.drewN n):=⟨h.os,h.tape,h.output,h.size,h.block⟩
theorem Kept.alloc(h:Kept S w w')(o:Obj):Kept S w (w'.alloc o):=
 h.trans ⟨rfl,rfl,rfl,by simp,λk hk _=>Below.heap_alloc _ _ _ oM⟩
theorem Kept.setCell(h:Kept S w w'){p:Addr}(hp:S p.block∨w.heap.size<=p.block)(u:Value):Kept S w (w'.setCell p u):=
 ⟨h.os,h.tape,h.output,Nat.le_trans h.size (by simp[World.setCell]),λk hk hs=>by
  rw[Below.heap_setCell _ _ _ _ (λe=>by subst e;rcases hp with hp|hp;exact hs hp;omega)]
  exact h.block k hk hs⟩
theorem Kept.grown(h:Kept S w w'){row:Option Nat}(hg:w'.grownBy w1 row)(hr: ∀k,row=some k->S k∨w.heap.size<=k):Kept S w w1:=
 ⟨hg.os.trans h.os,hg.tape.trans h.tape,hg.output.trans h.output,Nat.le_trans h.size hg.size,λk hk hs=>
  (hg.block k (Nat.lt_of_lt_of_le hk h.size) (λe=>by rcases hr k e.symm with h1|h1;exact hs h1;omega)).trans (h.block k hk hs)⟩
theorem Kept.CQ{B:Nat}(h:Below B w w'):Kept (λk=>B<=k) w w':=
 ⟨h.os,h.tape,h.output,h.size,λk _ hs=>h.block k oM⟩
theorem Kept.below{B:Nat}(h:Kept S w w')(hS: ∀k,S k->B<=k)(hB:B<=w.heap.size):Below B w w':=
 ⟨h.os,h.tape,h.output,h.size,λk hk=>h.block k oM λhs=>by have:=hS k hs;omega⟩
theorem Kept.sU(h:Kept Nob w w'):Below w.heap.size w w':=h.below (λ_ h=>h.elim) (Nat.le_refl _)
theorem Below.qE{B:Nat}{a:World}(h:Below B a w)(k:Kept S w w')(hS: ∀k,S k->B<=k)(hB:B<=a.heap.size):Below B a w':=
 h.trans (k.below hS (Nat.le_trans hB h.size))
theorem Kept.cell(h:Kept S w w'){p:Addr}{v:Value}(hc:w.cell? p=some v)(hp: ¬S p.block):w'.cell? p=some v:=
 (World.cell?_of_block (w:=w) (h.block p.block (World.block_lt_of_cell? w p hc) hp)).trans hc
end
section
variable {S:Nat->Prop}{w w':World}{g:Nat}{t:TypeId}{cs:Array Value}
theorem Blk.lt(h:Blk w g t cs):g<w.heap.size:=by
 rcases Nat.lt_or_ge g w.heap.size with Rd|Ud
 ·exact Rd
 ·unfold Blk at h;rw[Array.getElem?_eq_none Ud]at h;cases h
theorem Blk.cell(h:Blk w g t cs)(i:Nat):w.cell? (g,i)=cs[i]? :=cell_of_row w g i cs t (0,0) h
theorem Blk.frozen(h:Blk w g t cs)(i:Nat):w.frozen? (g,i)=false:=by
 unfold Blk at h
 simp[World.frozen?,h]
theorem Blk.new(w:World)(t:TypeId)(cs:Array Value):Blk (w.alloc (.cells cs t)) w.heap.size t cs:=heap_alloc_new w _
theorem Blk.oS{w:World}{g:Nat}{t:TypeId}{cs:Array Value}(h:g=w.heap.size):Blk (w.alloc (.cells cs t)) g t cs:=by subst h;exact heap_alloc_new w _
theorem Blk.drew(h:Blk w g t cs):Blk w.drew g t cs:=h
theorem Blk.drewN(h:Blk w g t cs)(n:Nat):Blk (w.drewN n) g t cs:=h
theorem Blk.alloc(h:Blk w g t cs)(o:Obj):Blk (w.alloc o) g t cs:=(Below.heap_alloc w o g h.lt).trans h
theorem Blk.bE(h:Blk w g t cs)(i:Nat)(u:Value):Blk (w.setCell (g,i) u) g t (cs.setIfInBounds i u):=by
 unfold Blk at h⊢
 simp[World.setCell,Array.getElem?_modify,h]
theorem Blk.far(h:Blk w g t cs){p:Addr}(hp:g≠p.block)(u:Value):Blk (w.setCell p u) g t cs:=(Below.heap_setCell w p u g hp).trans h
theorem Blk.kept(h:Blk w g t cs)(hk:Kept S w w')(hS: ¬S g):Blk w' g t cs:=(hk.block g h.lt hS).trans h
theorem Blk.below{B:Nat}(h:Blk w g t cs)(hb:Below B w w')(hg:g<B):Blk w' g t cs:=(hb.block g hg).trans h
theorem Blk.grown{row:Option Nat}(h:Blk w g t cs)(hb:w.grownBy w' row)(hg:some g≠row):Blk w' g t cs:=(hb.block g h.lt hg).trans h
theorem Blk.ne_{g':Nat}{t':TypeId}{cs':Array Value}(h:Blk w g t cs)(h':Blk w g' t' cs')(RP:t≠t'):g≠g':=by
 rintro rfl
 unfold Blk at h h'
 rw[h]at h'
 injection h' with h'
 injection h' with _ ht
 exact RP ht
end
def ah(bs:List UInt8):List Value:=bs.map λb=> .int .u8 b.toNat
def Buf(w:World)(e:TypeId)(v:Value)(bs:List UInt8):Prop:=w.ownsRow 0 e 1 v bs.length (ah bs)
section
variable {S:Nat->Prop}{w w':World}{e:TypeId}{v:Value}{bs:List UInt8}
theorem Buf.nil(w:World)(e:TypeId):Buf w e (.slice none 0 0) []:=World.ownsRow_nil w 0 e 1
theorem Buf.lt(h:Buf w e v bs){k:Nat}(hk:v.ownBlock=some k):k<w.heap.size:=(World.ownsRow.lt h k hk).2
theorem Buf.of_block(h:Buf w e v bs)(hb: ∀k,v.ownBlock=some k->w'.heap[k]? = w.heap[k]?):Buf w' e v bs:=by
 refine⟨h.1,?_⟩
 rcases h.2 with h2| ⟨g,cap,cur,rfl,hg,hh,r⟩
 ·exact .inl h2
 ·exact .inr ⟨g,cap,cur,rfl,hg,by rw[hb g rfl];exact hh,r⟩
theorem Buf.kept(h:Buf w e v bs)(hk:Kept S w w')(hS: ∀k,v.ownBlock=some k->¬S k):Buf w' e v bs:=
 h.of_block λk hv=>hk.block k (h.lt hv) (hS k hv)
theorem Buf.drew(h:Buf w e v bs):Buf w.drew e v bs:=h
theorem Buf.drewN(h:Buf w e v bs)(n:Nat):Buf (w.drewN n) e v bs:=h
theorem Buf.alloc(h:Buf w e v bs)(o:Obj):Buf (w.alloc o) e v bs:=h.of_block λk hv=>Below.heap_alloc w o k (h.lt hv)
theorem Buf.setCell(h:Buf w e v bs){p:Addr}(hp:v.ownBlock≠some p.block)(u:Value):Buf (w.setCell p u) e v bs:=
 h.of_block λk hv=>Below.heap_setCell w p u k λe=>hp (by rw[hv,e])
theorem Buf.ib{g:Nat}{t:TypeId}{cs:Array Value}(h:Buf w e v bs)(hg:Blk w g t cs)(RP:e≠t):v.ownBlock≠some g:=by
 rcases h.2 with⟨rfl,_⟩ | ⟨g',cap,cur,rfl,_,hh,_⟩
 ·simp[Value.ownBlock]
 ·intro he
  have:g'=g:=by simpa [Value.ownBlock]using he
  subst this
  exact Blk.ne_ (t:=e) hh hg RP rfl
theorem Buf.form(h:Buf w e v bs): (v = .slice none 0 0∧bs = [])∨∃g cap,v = .slice (some ⟨g,0,none⟩) bs.length cap∧v.ownBlock=some g∧bs.length<=cap∧cap<=maxLen:=by
 rcases h.2 with⟨rfl,h2⟩ | ⟨g,cap,cur,rfl,hg,hh,h3,h4,_⟩
 ·exact .inl ⟨rfl,List.eq_nil_of_length_eq_zero h2⟩
 ·exact .inr ⟨g,cap,rfl,rfl,h3,h4⟩
theorem Buf.len(h:Buf w e v bs):bs.length<=maxLen:=by
 rcases h.form with⟨_,rfl⟩ | ⟨_,_,_,_,h1,h2⟩
 ·simp
 ·omega
theorem sY{P:Program}(w:World)(t u ty e:TypeId)(i:TypeInfo)(ht:P.underlying t=some (.slice e))(hu:P.underlying u=some .string)(hi:P.info? e=some i)(hz:i.zero=some (.int .u8 0))
 (Y9:i.size=1) (Sv:i.bytes=1) (v:Value) (bs:List UInt8) (R6:Buf w e v bs) (s:ByteArray) (WR:bs.length+s.size<=140737488355328):
 ∃v' w',(Builtin.append_ #[t,u] ty #[v,.string s]).run P w = .ok v' w'∧Buf w' e v' (bs++s.data.toList)∧w.grownBy w' v.ownBlock∧
  (v'.ownBlock=v.ownBlock∨v'.ownBlock=some w.heap.size):=by
 have hss:s.data.toList.length=s.size:=by rw[Array.length_toList];rfl
 obtain⟨v',w',hr,ho,hg,hiC⟩:=run_append_own_string (P:=P) w 0 t u ty e i ht hu hi hz Y9 Sv v bs.length (ah bs) R6 s (by unfold maxLen;omega) WR (Nat.zero_le _)
 have hjB:Buf w' e v' (bs++s.data.toList):=by
  unfold Buf
  rw[List.length_append,hss]
  simpa [ah,strCells]using ho
 refine⟨v',w',hr,hjB,hg,?_⟩
 rcases R6.2 with⟨rfl,h2⟩ | ⟨g,cap,cur,rfl,_,hh,Si,RZ,VQ,WZ⟩
 ·by_cases hm:s.size=0
  ·left;rw[hiC.2 ⟨rfl,hm⟩]
  ·right
   have Wh:bs = []:=List.eq_nil_of_length_eq_zero h2
   subst Wh
   have Sd:=run_append_nil_string (P:=P) w t u ty e i (.int .u8 0) ht hu hi hz s oM (by simp at WR;omega) (by simp at WR;rw[Sv];omega)
   rw[hr]at Sd
   injection Sd with e1 _
   rw[e1];rfl
 ·by_cases OF:bs.length+s.size<=cap
  ·left
   have Sd:=run_append_room_string (P:=P) w t u ty e i ht hu hi Y9 g bs.length cap cur hh s OF oM
   rw[hr]at Sd
   injection Sd with e1 _
   rw[e1];rfl
  ·right
   have hxl: (ah bs).length=bs.length:=by simp[ah]
   have holds: ∀j u,(ah bs)[j]? = some u->w.cell? ((⟨g,0,none⟩:Addr).add j)=some u:=World.ownsRow.cells (g:=g) R6 rfl
   have Sd:=run_append_grow_string (P:=P) w t u ty e i (.int .u8 0) ht hu hi hz ⟨g,0,none⟩ bs.length cap (ah bs) (by rw[Y9];simpa using hxl) holds s oM oM (by rw[Sv];exact growslice_fits oM oM)
   rw[hr]at Sd
   injection Sd with e1 _
   rw[e1];rfl
theorem ky{P:Program}{w:World}{ops:Array Oper}{o:Oper}{a:Act}{K:Act->World->Prop}{Q:Exit->Act->World->Prop}{E:Prop}(hgd:o.guard=none)(sl x:Operand)(t u:TypeId)
 (ho:o.op = .call { callee:= .builtin .append,args:=#[sl,x],argTypes:=#[t,u] })
 (e:TypeId) (i:TypeInfo) (ht:P.underlying t=some (.slice e)) (hu:P.underlying u=some .string) (hi:P.info? e=some i) (hz:i.zero=some (.int .u8 0)) (Y9:i.size=1) (Sv:i.bytes=1)
 (v:Value) (bs:List UInt8) (hs:a.eval sl=v) (R6:Buf w e v bs) (s:ByteArray) (hx:a.eval x = .string s) (WR:bs.length+s.size<=140737488355328)
 (h: ∀v' w',Buf w' e v' (bs++s.data.toList)->w.grownBy w' v.ownBlock->(v'.ownBlock=v.ownBlock∨v'.ownBlock=some w.heap.size)->K (a.put o.dst v') w'):
 if Region.wanted o (yielded ops a.tmps)=true then Oper.wp P o a w K Q else E:=by
 have hw:Region.wanted o (yielded ops a.tmps)=true:=by simp[Region.wanted,hgd]
 rw[if_pos hw]
 obtain⟨v',w',hr,h2,h3,h4⟩:=sY (P:=P) w t u o.type e i ht hu hi hz Y9 Sv v bs R6 s WR
 unfold Oper.wp execOp
 simp only[ho,resolve,invoke,builtin,Sem.run_bind,Sem.run_pure,Result.andThen_ok,List.map_toArray,List.map_cons,List.map_nil,hs,hx,hr]
 exact h v' w' h2 h3 h4
theorem Buf.CS(h:Buf w e v bs): ∃A cap,v = .slice A bs.length cap∧cap<=maxLen:=by
 rcases h.form with⟨rfl,rfl⟩ | ⟨g,cap,rfl,_,_,h2⟩
 ·exact⟨none,0,rfl,Nat.zero_le _⟩
 ·exact⟨_,cap,rfl,h2⟩
theorem Buf.pA{P:Program}(h:Buf w e v bs)(src dst:TypeId)(hs:P.underlying src=some (.slice e))(he:P.underlying e=some (.int .u8))(hd:P.underlying dst=some .string):
 (convert src dst v).run P w = .ok (.string ⟨bs.toArray⟩) w:=by
 rcases h.form with⟨rfl,rfl⟩ | ⟨g,cap,rfl,_,_,_⟩
 ·exact run_convert_bytes_nil w src e hs he 0 0 dst hd
 ·refine run_convert_bytes_back w src dst e ⟨g,0,none⟩ cap bs hs he hd λj hj=> ?_
  exact World.ownsRow.cells (g:=g) h rfl j _ (by simp[ah,hj])
end
structure Asr where
 holds:World->(Nat->Prop)->Prop
 lt: ∀{w F k},holds w F->F k->k<w.heap.size
 kept: ∀{w w' F T},holds w F->Kept T w w'->(∀k,F k->¬T k)->holds w' F
def ae(g:Nat)(t:TypeId)(cs:Array Value):Asr where
 holds w F:=Blk w g t cs∧∀k,F k↔k=g
 lt h hk:=by have:=(h.2 _).1 hk;subst this;exact h.1.lt
 kept h hk hT:=⟨h.1.kept hk (hT _ ((h.2 _).2 rfl)),h.2⟩
def All:List Asr->World->(Nat->Prop)->Prop
 | [],_,F=> ∀k,¬F k
 | A::L,w,F=> ∃F1 F2,A.holds w F1∧All L w F2∧(∀k,F1 k->F2 k->False)∧∀k,F k↔F1 k∨F2 k
theorem All.lt: ∀{L:List Asr} {w F k},All L w F->F k->k<w.heap.size
 | [],_,_,_,h,hk=>(h _ hk).elim
 | A::L,_,_,_,⟨F1,F2,h1,h2,_,hF⟩,hk=>by
   rcases(hF _).1 hk with h|h
   ·exact A.lt h1 h
   ·exact All.lt h2 h
theorem All.kept: ∀{L:List Asr} {w w' F T},All L w F->Kept T w w'->(∀k,F k->¬T k)->All L w' F
 | [],_,_,_,_,h,_,_=>h
 | A::L,_,_,_,_,⟨F1,F2,h1,h2,hd,hF⟩,hk,hT=>
   ⟨F1,F2,A.kept h1 hk (λk h=>hT k ((hF k).2 (.inl h))),All.kept h2 hk (λk h=>hT k ((hF k).2 (.inr h))),hd,hF⟩
theorem All.swap{A B:Asr}{L:List Asr}{w F}(h:All (A::B::L) w F):All (B::A::L) w F:=by
 obtain⟨F1,F2,h1,⟨F3,F4,h3,h4,Wm,Wx⟩,hd,hF⟩:=h
 refine⟨F3,λk=>F1 k∨F4 k,h3,⟨F1,F4,h1,h4,λk a b=>hd k a ((Wx k).2 (.inr b)),λk=>Iff.rfl⟩,?_,?_⟩
 ·intro k a b
  rcases b with b|b
  ·exact hd k b ((Wx k).2 (.inl a))
  ·exact Wm k a b
 ·intro k
  rw[hF,Wx]
  constructor
  ·rintro(h|h|h)
   ·exact .inr (.inl h)
   ·exact .inl h
   ·exact .inr (.inr h)
  ·rintro(h|h|h)
   ·exact .inr (.inl h)
   ·exact .inl h
   ·exact .inr (.inr h)
def At(w0 w:World)(L:List Asr):Prop:= ∃F,All L w F∧(∀k,F k->w0.heap.size<=k)∧Below w0.heap.size w0 w
def qu(R:Value->Asr->Prop)(F:Nat->Prop)(w:World)(e:Ending)(w':World):Prop:=
 ∃v A' F',R v A'∧e = .returned v∧A'.holds w' F'∧Kept F w w'∧∀k,F' k->F k∨w.heap.size<=k
section
variable {P:Program}{f:FuncId}{args:Array Value}{w0 w w':World}{A A' B C D:Asr}{L:List Asr}{R:Value->Asr->Prop}
theorem At.refl(w:World):At w w []:=⟨Nob,λ_ h=>h,λ_ h=>h.elim,Below.refl _ _⟩
theorem At.swap(h:At w0 w (A::B::L)):At w0 w (B::A::L):=let⟨F,h1,h2,h3⟩:=h;⟨F,h1.swap,h2,h3⟩
theorem At.tail(h:At w0 w (A::L)):At w0 w L:=by
 obtain⟨F,⟨F1,F2,h1,h2,hd,hF⟩,hb,Q9⟩:=h
 exact⟨F2,h2,λk hk=>hb k ((hF k).2 (.inr hk)),Q9⟩
theorem At.cons{L L':List Asr}(hL: ∀w F,All L w F->All L' w F)(h:At w0 w (A::L)):At w0 w (A::L'):=by
 obtain⟨F,⟨F1,F2,h1,h2,hd,hF⟩,hb,Q9⟩:=h
 exact⟨F,⟨F1,F2,h1,hL _ _ h2,hd,hF⟩,hb,Q9⟩
theorem At.wk(h:At w0 w (A::B::C::L)):At w0 w (C::A::B::L):=(At.cons (λ_ _=>All.swap) h).swap
theorem At.below(h:At w0 w L):Below w0.heap.size w0 w:=let⟨_,_,_,h3⟩:=h;h3
theorem At.gu(h:At w0 w L)(hk:Kept Nob w w'):At w0 w' L:=by
 obtain⟨F,h1,h2,h3⟩:=h
 exact⟨F,h1.kept hk (λ_ _ h=>h),h2,Below.qE h3 hk (λ_ h=>h.elim) (Nat.le_refl _)⟩
theorem At.drewN(h:At w0 w L)(n:Nat):At w0 (w.drewN n) L:=h.gu ((Kept.refl _ _).drewN n)
theorem At.drew(h:At w0 w L):At w0 w.drew L:=h.gu (Kept.refl _ _).drew
theorem At.alloc(h:At w0 w L)(o:Obj):At w0 (w.alloc o) L:=h.gu ((Kept.refl _ _).alloc o)
theorem At.add(h:At w0 w L){F':Nat->Prop}(ha:A.holds w' F')(hk:Kept Nob w w')(Sr: ∀k,F' k->w.heap.size<=k):At w0 w' (A::L):=by
 obtain⟨F,h1,h2,h3⟩:=h
 refine⟨λk=>F' k∨F k,⟨F',F,ha,h1.kept hk (λ_ _ h=>h),λk a b=> ?_,λk=>Iff.rfl⟩,?_,Below.qE h3 hk (λ_ h=>h.elim) (Nat.le_refl _)⟩
 ·have:=Sr k a
  have:=h1.lt b
  omega
 ·intro k ZP
  rcases ZP with h|h
  ·exact Nat.le_trans h3.size (Sr k h)
  ·exact h2 k h
theorem At.yP{F F1 F2 F':Nat->Prop}(h2:All L w F2)(hd: ∀k,F1 k->F2 k->False)(hF: ∀k,F k↔F1 k∨F2 k)(hb: ∀k,F k->w0.heap.size<=k)(Q9:Below w0.heap.size w0 w)
 (ha:A'.holds w' F') (hk:Kept F1 w w') (Sr: ∀k,F' k->F1 k∨w.heap.size<=k):At w0 w' (A'::L):=by
 refine⟨λk=>F' k∨F2 k,⟨F',F2,ha,h2.kept hk (λk a b=>hd k b a),λk a b=> ?_,λk=>Iff.rfl⟩,?_,?_⟩
 ·rcases Sr k a with c|c
  ·exact hd k c b
  ·have:=h2.lt b;omega
 ·intro k ZP
  rcases ZP with h|h
  ·rcases Sr k h with c|c
   ·exact hb k ((hF k).2 (.inl c))
   ·exact Nat.le_trans Q9.size c
  ·exact hb k ((hF k).2 (.inr h))
 ·exact Below.qE Q9 hk (λk hk=>hb k ((hF k).2 (.inl hk))) (Nat.le_refl _)
theorem At.step(h:At w0 w (A::L))(hs: ∀F,A.holds w F->∃F',A'.holds w' F'∧Kept F w w'∧∀k,F' k->F k∨w.heap.size<=k):At w0 w' (A'::L):=by
 obtain⟨F,⟨F1,F2,h1,h2,hd,hF⟩,hb,Q9⟩:=h
 obtain⟨F',ha,hk,Sr⟩:=hs F1 h1
 exact At.yP h2 hd hF hb Q9 ha hk Sr
def Got(R:Value->Asr->Prop)(w0:World)(L:List Asr)(e:Ending)(w':World):Prop:= ∃v A',R v A'∧e = .returned v∧At w0 w' (A'::L)
def kP(v:Value)(A':Asr)(w0:World)(L:List Asr)(e:Ending)(w':World):Prop:=e = .returned v∧At w0 w' (A'::L)
theorem At.call(h:At w0 w (A::L))(hc: ∀F,A.holds w F->Calls P f args w (qu R F w)):Calls P f args w (Got R w0 L):=by
 obtain⟨F,⟨F1,F2,h1,h2,hd,hF⟩,hb,Q9⟩:=h
 refine(hc F1 h1).mono ?_
 rintro e w' ⟨v,A',F',hR,he,ha,hk,Sr⟩
 exact⟨v,A',hR,he,At.yP h2 hd hF hb Q9 ha hk Sr⟩
theorem At.uG{v:Value}(h:At w0 w (A::L))(hc: ∀F,A.holds w F->Calls P f args w (qu (λu B=>u=v∧B=A') F w)):Calls P f args w (kP v A' w0 L):=by
 refine(At.call h hc).mono ?_
 rintro e w' ⟨u,B,⟨rfl,rfl⟩,he,h⟩
 exact⟨he,h⟩
theorem At.make(h:At w0 w L)(hc:Calls P f args w (qu R Nob w)):Calls P f args w (Got R w0 L):=by
 refine hc.mono ?_
 rintro e w' ⟨v,A',F',hR,he,ha,hk,Sr⟩
 exact⟨v,A',hR,he,At.add h ha hk (λk hk=>(Sr k hk).elim (λh=>h.elim) id)⟩
theorem At.box(h:At w0 w L)(cs:Array Value)(t:TypeId):At w0 (w.alloc (.cells cs t)) (ae w.heap.size t cs::L):=
 h.add (A:=ae w.heap.size t cs) (F':=λk=>k=w.heap.size) ⟨Blk.new w t cs,λ_=>Iff.rfl⟩ ((Kept.refl _ _).alloc _) (λk hk=>Nat.le_of_eq hk.symm)
theorem At.set{g:Nat}{t:TypeId}{cs:Array Value}(h:At w0 w (ae g t cs::L))(i:Nat)(u:Value):At w0 (w.setCell (g,i) u) (ae g t (cs.setIfInBounds i u)::L):=
 h.step λF hF=>⟨F,⟨hF.1.bE i u,hF.2⟩,Kept.setCell (Kept.refl _ _) (.inl ((hF.2 _).2 rfl)) _,λ_ h=> .inl h⟩
theorem At.blk{g:Nat}{t:TypeId}{cs:Array Value}(h:At w0 w (ae g t cs::L)):Blk w g t cs:=by
 obtain⟨F,⟨F1,F2,h1,_⟩,_⟩:=h
 exact h1.1
theorem At.first(h:At w0 w (A::L)): ∃F,A.holds w F:=by
 obtain⟨F,⟨F1,F2,h1,_⟩,_⟩:=h
 exact⟨F1,h1⟩
theorem At.old(h:At w0 w L){p:Addr}{v:Value}(hc:w0.cell? p=some v):w.cell? p=some v:=
 (h.below.cell (World.block_lt_of_cell? w0 p hc)).trans hc
end
namespace Vm
def aa(L:List Asr):Asr where
 holds:=All L
 lt:=All.lt
 kept:=All.kept
def On(F:Nat->Prop)(w:World)(A:Asr)(w':World):Prop:= ∃F',A.holds w' F'∧Kept F w w'∧∀k,F' k->F k∨w.heap.size<=k
def cz(R:Ending->Asr->Prop)(F:Nat->Prop)(w:World)(e:Ending)(w':World):Prop:= ∃A',R e A'∧On F w A' w'
def Got(e0:Ending)(A':Asr)(F:Nat->Prop)(w:World)(e:Ending)(w':World):Prop:=e=e0∧On F w A' w'
def ret(v:Value):Ending:= .returned v
section
variable {P:Program}{f:FuncId}{args:Array Value}{w w' Ut:World}{F:Nat->Prop}{A A' B B' C D:Asr}{L L':List Asr}{R:Ending->Asr->Prop}{i j:Nat}
theorem On.refl(h:A.holds w F):On F w A w:=⟨F,h,Kept.refl F w,λ_ h=> .inl h⟩
theorem On.step(h:On F w A w')(hs: ∀F',A.holds w' F'->On F' w' A' Ut):On F w A' Ut:=by
 obtain⟨F',ha,hk,hF⟩:=h
 obtain⟨F2,ha2,SS,Wx⟩:=hs F' ha
 refine⟨F2,ha2,hk.trans' SS hF,λk h=> ?_⟩
 rcases Wx k h with h|h
 ·exact hF k h
 ·exact .inr (Nat.le_trans hk.size h)
theorem On.mono(h:On F w A w')(hs: ∀F',A.holds w' F'->A'.holds w' F'):On F w A' w':=by
 obtain⟨F',ha,hk,hF⟩:=h
 exact⟨F',hs F' ha,hk,hF⟩
theorem On.gu(h:On F w A w')(hk:Kept Nob w' Ut):On F w A Ut:=by
 obtain⟨F',ha,Zr,hF⟩:=h
 exact⟨F',A.kept ha hk (λ_ _ h=>h),Zr.trans' hk (λ_ h=>h.elim),hF⟩
theorem On.drewN(h:On F w A w')(n:Nat):On F w A (w'.drewN n):=h.gu ((Kept.refl _ _).drewN n)
theorem On.drew(h:On F w A w'):On F w A w'.drew:=h.gu (Kept.refl _ _).drew
theorem On.alloc(h:On F w A w')(o:Obj):On F w A (w'.alloc o):=h.gu ((Kept.refl _ _).alloc o)
theorem On.below(h:On F w A w')(hb:Below w'.heap.size w' Ut):On F w A Ut:=h.gu ⟨hb.os,hb.tape,hb.output,hb.size,λk hk _=>hb.block k hk⟩
theorem On.size(h:On F w A w'):w.heap.size<=w'.heap.size:=let⟨_,_,hk,_⟩:=h;hk.size
theorem On.post{e:Ending}(h:On F w A w')(hR:R e A):cz R F w e w':=⟨A,hR,h⟩
theorem Got.MS{e0:Ending}{e:Ending}(h:Got e0 A' F w e w'):cz (λe B=>e=e0∧B=A') F w e w':=⟨A',⟨h.1,rfl⟩,h.2⟩
theorem All.vG: ∀{L:List Asr} {w:World} {F F':Nat->Prop},All L w F->(∀k,F' k↔F k)->All L w F'
 | [],_,_,_,h,hF=>λk hk=>h k ((hF k).1 hk)
 | A::L,_,_,_,⟨F1,F2,h1,h2,hd,h3⟩,hF=>⟨F1,F2,h1,h2,hd,λk=>(hF k).trans (h3 k)⟩
theorem All.part: ∀{L:List Asr} {i:Nat} {A:Asr} {w:World} {F:Nat->Prop},All L w F->L[i]? = some A->∃F1 F2,A.holds w F1∧All (L.eraseIdx i) w F2∧(∀k,F1 k->F2 k->False)∧(∀k,F k↔F1 k∨F2 k)
 | [],_,_,_,_,_,h=>by simp at h
 | A::L,0,A1,w,F,⟨F1,F2,h1,h2,hd,hF⟩,h=>by
   obtain rfl:A=A1:=by simpa using h
   exact⟨F1,F2,h1,h2,hd,hF⟩
 | A::L,i+1,A1,w,F,⟨F1,F2,h1,h2,hd,hF⟩,h=>by
   obtain⟨G1,G2,g1,g2,gd,gF⟩:=All.part h2 (i:=i) (A:=A1) (by simpa using h)
   refine⟨G1,λk=>F1 k∨G2 k,g1,⟨F1,G2,h1,g2,λk a b=>hd k a ((gF k).2 (.inr b)),λ_=>Iff.rfl⟩,?_,?_⟩
   ·rintro k a (b|b)
    ·exact hd k b ((gF k).2 (.inl a))
    ·exact gd k a b
   ·intro k
    rw[hF,gF]
    constructor
    ·rintro(h|h|h)
     ·exact .inr (.inl h)
     ·exact .inl h
     ·exact .inr (.inr h)
    ·rintro(h|h|h)
     ·exact .inr (.inl h)
     ·exact .inl h
     ·exact .inr (.inr h)
theorem All.putAt: ∀{L:List Asr} {i:Nat} {A':Asr} {w':World} {F3 F4:Nat->Prop},i<L.length->A'.holds w' F3->All (L.eraseIdx i) w' F4->(∀k,F3 k->F4 k->False)->All (L.set i A') w' (λk=>F3 k∨F4 k)
 | [],_,_,_,_,_,h,_,_,_=>by simp at h
 | A::L,0,A',w',F3,F4,_,h3,h4,hd=>⟨F3,F4,h3,h4,hd,λ_=>Iff.rfl⟩
 | A::L,i+1,A',w',F3,F4,hi,h3,⟨H1,H2,k1,k2,kd,kF⟩,YX=>by
   refine⟨H1,λk=>F3 k∨H2 k,k1,All.putAt (by simpa using hi) h3 k2 (λk a b=>YX k a ((kF k).2 (.inr b))),?_,?_⟩
   ·rintro k a (b|b)
    ·exact YX k b ((kF k).2 (.inl a))
    ·exact kd k a b
   ·intro k
    show F3 k∨F4 k↔H1 k∨F3 k∨H2 k
    rw[kF]
    constructor
    ·rintro(h|h|h)
     ·exact .inr (.inl h)
     ·exact .inl h
     ·exact .inr (.inr h)
    ·rintro(h|h|h)
     ·exact .inr (.inl h)
     ·exact .inl h
     ·exact .inr (.inr h)
theorem nR{L:List Asr}{i:Nat}{A:Asr}(h:L[i]? = some A):i<L.length:=(List.getElem?_eq_some_iff.1 h).1
theorem All.dx{F1 F2 F3:Nat->Prop}(h2:All L w F2)(hd: ∀k,F1 k->F2 k->False)(hk:Kept F1 w w')(hF: ∀k,F3 k->F1 k∨w.heap.size<=k):All L w' F2∧∀k,F3 k->F2 k->False:=by
 refine⟨h2.kept hk (λk a b=>hd k b a),λk a b=> ?_⟩
 rcases hF k a with c|c
 ·exact hd k c b
 ·have:=h2.lt b;omega
theorem On.qX(i:Nat)(h:On F w (aa L) w')(hA:L[i]? = some A)(hs: ∀F',A.holds w' F'->On F' w' A' Ut):On F w (aa (L.set i A')) Ut:=by
 refine h.step λF' ha=> ?_
 obtain⟨F1,F2,h1,h2,hd,hF⟩:=All.part ha hA
 obtain⟨F3,h3,V5,XY⟩:=hs F1 h1
 obtain⟨h2',YX⟩:=All.dx h2 hd V5 XY
 refine⟨_,All.putAt (nR hA) h3 h2' YX,V5.mono λk h=>(hF k).2 (.inl h),?_⟩
 rintro k (h|h)
 ·exact(XY k h).imp (λh=>(hF k).2 (.inl h)) id
 ·exact .inl ((hF k).2 (.inr h))
theorem On.at_(i:Nat)(h:On F w (aa L) w')(hA:L[i]? = some A): ∃F',A.holds w' F':=by
 obtain⟨F',ha,_⟩:=h
 obtain⟨F1,F2,h1,_⟩:=All.part ha hA
 exact⟨F1,h1⟩
theorem On.ab(i:Nat){g:Nat}{t:TypeId}{cs:Array Value}(h:On F w (aa L) w')(hA:L[i]? = some (ae g t cs)):Blk w' g t cs:=by
 obtain⟨F',h1⟩:=h.at_ i hA
 exact h1.1
theorem On.call(h:On F w A w')(hc: ∀F',A.holds w' F'->Calls P f args w' (cz R F' w')):Calls P f args w' (λe Ut=> ∃A',R e A'∧On F w A' Ut):=by
 obtain⟨F',ha,hk,hF⟩:=h
 refine(hc F' ha).mono ?_
 rintro e w2 ⟨A',hR,F2,ha2,SS,Wx⟩
 refine⟨A',hR,F2,ha2,hk.trans' SS hF,λk h=> ?_⟩
 rcases Wx k h with h|h
 ·exact hF k h
 ·exact .inr (Nat.le_trans hk.size h)
theorem On.tP{e0:Ending}(h:On F w A w')(hc: ∀F',A.holds w' F'->Calls P f args w' (Got e0 A' F' w')):Calls P f args w' (Got e0 A' F w):=by
 refine(On.call (R:=λe B=>e=e0∧B=A') h λF' hb=>(hc F' hb).mono λe w2 h=>h.MS).mono ?_
 rintro e w2 ⟨B,⟨rfl,rfl⟩,h⟩
 exact⟨rfl,h⟩
theorem On.GL(i:Nat)(h:On F w (aa L) w')(hA:L[i]? = some A)(hc: ∀F',A.holds w' F'->Calls P f args w' (cz R F' w')):Calls P f args w' (λe Ut=> ∃A',R e A'∧On F w (aa (L.set i A')) Ut):=by
 obtain⟨F',ha,hk,hF⟩:=h
 obtain⟨F1,F2,h1,h2,hd,Wz⟩:=All.part ha hA
 refine(hc F1 h1).mono ?_
 rintro e w2 ⟨A',hR,F3,h3,V5,XY⟩
 obtain⟨h2',YX⟩:=All.dx h2 hd V5 XY
 refine⟨A',hR,_,All.putAt (nR hA) h3 h2' YX,hk.trans' V5 (λk h=>hF k ((Wz k).2 (.inl h))),?_⟩
 rintro k (h|h)
 ·rcases XY k h with c|c
  ·exact hF k ((Wz k).2 (.inl c))
  ·exact .inr (Nat.le_trans hk.size c)
 ·exact hF k ((Wz k).2 (.inr h))
theorem On.bG{e0:Ending}(i:Nat)(h:On F w (aa L) w')(hA:L[i]? = some A)(hc: ∀F',A.holds w' F'->Calls P f args w' (Got e0 A' F' w')):Calls P f args w' (Got e0 (aa (L.set i A')) F w):=by
 refine(On.GL (R:=λe B=>e=e0∧B=A') i h hA λF' hb=>(hc F' hb).mono λe w2 h=>h.MS).mono ?_
 rintro e w2 ⟨B,⟨rfl,rfl⟩,h⟩
 exact⟨rfl,h⟩
theorem Dr{α:Type}(L:List α)(i j:Nat)(WS:i≠j)(B:α): (L.eraseIdx i).set (if j<i then j else j-1) B= (L.set j B).eraseIdx i:=by
 apply List.ext_getElem?
 intro n
 simp only[List.getElem?_set,List.getElem?_eraseIdx,List.length_eraseIdx]
 repeat' split
 all_goals first
  | rfl
  | (exfalso;omega)
  | simp_all
theorem get_erase{α:Type}(L:List α)(i j:Nat)(WS:i≠j): (L.eraseIdx i)[if j<i then j else j-1]? = L[j]? :=by
 rw[List.getElem?_eraseIdx]
 repeat' split
 all_goals first
  | rfl
  | (exfalso;omega)
  | (rw[show j-1+1=j by omega])
theorem All.Ja{w:World}{F:Nat->Prop}(h:All L w F)(WS:i≠j)(hA:L[i]? = some A)(hB:L[j]? = some B): ∃F1 F2:Nat->Prop,All [A,B] w F1∧All ((L.eraseIdx i).eraseIdx (if j<i then j else j-1)) w F2∧(∀k,F1 k->F2 k->False)∧(∀k,F k↔F1 k∨F2 k)∧
 ∀(A' B':Asr) (w':World) (F3:Nat->Prop),All [A',B'] w' F3->Kept F1 w w'->(∀k,F3 k->F1 k∨w.heap.size<=k)->All ((L.set j B').set i A') w' (λk=>F3 k∨F2 k):=by
 obtain⟨F1,F2,h1,h2,hd,hF⟩:=All.part h hA
 obtain⟨G1,G2,g1,g2,gd,gF⟩:=All.part h2 ((get_erase L i j WS).trans hB)
 refine⟨λk=>F1 k∨G1 k,G2,⟨F1,G1,h1,⟨G1,λ_=>False,g1,λ_ h=>h,λ_ _ h=>h,λk=>⟨λh=> .inl h,λh=>h.elim id (λh=>h.elim)⟩⟩,λk a b=>hd k a ((gF k).2 (.inl b)),λ_=>Iff.rfl⟩,g2,?_,?_,?_⟩
 ·rintro k (a|a) b
  ·exact hd k a ((gF k).2 (.inr b))
  ·exact gd k a b
 ·intro k
  rw[hF,gF,or_assoc]
 ·rintro A' B' w' F3 ⟨M1,M2,m1,⟨M3,M4,m3,m4,md2,mF2⟩,md,mF⟩ hk XY
  have hr:=g2.kept hk (λk a b=>by
   rcases b with b|b
   ·exact hd k b ((gF k).2 (.inr a))
   ·exact gd k b a)
  have Wf: ∀k,F3 k->G2 k->False:=by
   intro k a b
   rcases XY k a with(c|c) |c
   ·exact hd k c ((gF k).2 (.inr b))
   ·exact gd k c b
   ·have:=g2.lt b;omega
  have e3: ∀k,M2 k↔M3 k:=λk=>by rw[mF2];exact⟨λh=>h.elim id (λh=>(m4 k h).elim),.inl⟩
  have hfV:=All.putAt (L:=L.eraseIdx i) (i:=if j<i then j else j-1) (nR ((get_erase L i j WS).trans hB)) m3 hr (λk a b=>Wf k ((mF k).2 (.inr ((e3 k).2 a))) b)
  rw[Dr L i j WS]at hfV
  refine All.vG (All.putAt (by simpa using nR hA) m1 hfV ?_) ?_
  ·rintro k a (b|b)
   ·exact md k a ((e3 k).2 b)
   ·exact Wf k ((mF k).2 (.inl a)) b
  ·intro k
   rw[mF,e3,or_assoc]
theorem On.Mu{R:Ending->Asr->Asr->Prop}(i j:Nat)(WS:i≠j)(h:On F w (aa L) w')(hA:L[i]? = some A)(hB:L[j]? = some B)
 (hc: ∀F',(aa [A,B]).holds w' F'->Calls P f args w' (cz (λe X=> ∃A' B',R e A' B'∧X=aa [A',B']) F' w')):Calls P f args w' (λe Ut=> ∃A' B',R e A' B'∧On F w (aa ((L.set j B').set i A')) Ut):=by
 obtain⟨F',ha,hk,hF⟩:=h
 obtain⟨F1,F2,h1,_,hd,Wz,ON⟩:=All.Ja ha WS hA hB
 refine(hc F1 h1).mono ?_
 rintro e w2 ⟨X,⟨A',B',hR,rfl⟩,F3,h3,V5,XY⟩
 refine⟨A',B',hR,_,ON A' B' w2 F3 h3 V5 XY,hk.trans' V5 (λk h=>hF k ((Wz k).2 (.inl h))),?_⟩
 rintro k (h|h)
 ·rcases XY k h with c|c
  ·exact hF k ((Wz k).2 (.inl c))
  ·exact .inr (Nat.le_trans hk.size c)
 ·exact hF k ((Wz k).2 (.inr h))
theorem On.cn{e0:Ending}(i j:Nat)(WS:i≠j)(h:On F w (aa L) w')(hA:L[i]? = some A)(hB:L[j]? = some B)
 (hc: ∀F',(aa [A,B]).holds w' F'->Calls P f args w' (Got e0 (aa [A',B']) F' w')):Calls P f args w' (Got e0 (aa ((L.set j B').set i A')) F w):=by
 refine(On.Mu (R:=λe X Y=>e=e0∧X=A'∧Y=B') i j WS h hA hB λF' hb=>(hc F' hb).mono λe w2 h=>⟨_,⟨A',B',⟨h.1,rfl,rfl⟩,rfl⟩,h.2⟩).mono ?_
 rintro e w2 ⟨X,Y,⟨rfl,rfl,rfl⟩,h⟩
 exact⟨rfl,h⟩
def O4(L:List Asr)(i j:Nat)(F:Nat->Prop)(w w':World)(F':Nat->Prop):Prop:=
 (∀k,F' k->F k∨w.heap.size<=k)∧∀m C,m≠i->m≠j->L[m]? = some C->∃F3,C.holds w' F3∧∀k,F3 k->¬F' k
theorem On.Il{R:Ending->Asr->Asr->Prop}(i j:Nat)(WS:i≠j)(h:On F w (aa L) w')(hA:L[i]? = some A)(hB:L[j]? = some B)
 (hc: ∀F',(aa [A,B]).holds w' F'->O4 L i j F w w' F'->Calls P f args w' (cz (λe X=> ∃A' B',R e A' B'∧X=aa [A',B']) F' w')):Calls P f args w' (λe Ut=> ∃A' B',R e A' B'∧On F w (aa ((L.set j B').set i A')) Ut):=by
 obtain⟨F',ha,hk,hF⟩:=h
 obtain⟨F1,F2,h1,hr,hd,Wz,ON⟩:=All.Ja ha WS hA hB
 refine(hc F1 h1 ⟨λk h=>hF k ((Wz k).2 (.inl h)),λm C hmi hmj hC=> ?_⟩).mono ?_
 ·have e1:=(get_erase L i m (λh=>hmi h.symm)).trans hC
  have RP: (if j<i then j else j-1)≠(if m<i then m else m-1):=by
   repeat' split
   all_goals omega
  have e2:=(get_erase (L.eraseIdx i) _ _ RP).trans e1
  obtain⟨G1,G2,g1,_,_,gF⟩:=All.part hr e2
  exact⟨G1,g1,λk a b=>hd k b ((gF k).2 (.inl a))⟩
 rintro e w2 ⟨X,⟨A',B',hR,rfl⟩,F3,h3,V5,XY⟩
 refine⟨A',B',hR,_,ON A' B' w2 F3 h3 V5 XY,hk.trans' V5 (λk h=>hF k ((Wz k).2 (.inl h))),?_⟩
 rintro k (h|h)
 ·rcases XY k h with c|c
  ·exact hF k ((Wz k).2 (.inl c))
  ·exact .inr (Nat.le_trans hk.size c)
 ·exact hF k ((Wz k).2 (.inr h))
theorem On.me{e0:Ending}(i j:Nat)(WS:i≠j)(h:On F w (aa L) w')(hA:L[i]? = some A)(hB:L[j]? = some B)
 (hc: ∀F',(aa [A,B]).holds w' F'->O4 L i j F w w' F'->Calls P f args w' (Got e0 (aa [A',B']) F' w')):Calls P f args w' (Got e0 (aa ((L.set j B').set i A')) F w):=by
 refine(On.Il (R:=λe X Y=>e=e0∧X=A'∧Y=B') i j WS h hA hB λF' hb ho=>(hc F' hb ho).mono λe w2 h=>⟨_,⟨A',B',⟨h.1,rfl,rfl⟩,rfl⟩,h.2⟩).mono ?_
 rintro e w2 ⟨X,Y,⟨rfl,rfl,rfl⟩,h⟩
 exact⟨rfl,h⟩
theorem On.eJ{p:Addr}{v:Value}(h:On F w A w')(hc:w.cell? p=some v)(hp: ¬F p.block):w'.cell? p=some v:=by
 obtain⟨F',_,hk,_⟩:=h
 exact hk.cell hc hp
theorem On.apart(i j:Nat)(WS:i≠j)(h:On F w (aa L) w')(hA:L[i]? = some A)(hB:L[j]? = some B): ∃F1 F2,A.holds w' F1∧B.holds w' F2∧∀k,F1 k->F2 k->False:=by
 obtain⟨F',ha,hk,hF⟩:=h
 obtain⟨F1,F2,⟨G1,G2,g1,⟨G3,G4,g3,g4,gd2,gF2⟩,gd,gF⟩,_,_⟩:=All.Ja ha WS hA hB
 exact⟨G1,G3,g1,g3,λk a b=>gd k a ((gF2 k).2 (.inl b))⟩
theorem On.rY(i j:Nat)(WS:i≠j){g g':Nat}{t t':TypeId}{cs cs':Array Value}(h:On F w (aa L) w')(hA:L[i]? = some (ae g t cs))(hB:L[j]? = some (ae g' t' cs')):g≠g':=by
 obtain⟨F1,F2,h1,h2,hd⟩:=h.apart i j WS hA hB
 rintro rfl
 exact hd g ((h1.2 g).2 rfl) ((h2.2 g).2 rfl)
theorem On.box(h:On F w (aa L) w')(cs:Array Value)(t:TypeId):On F w (aa (ae w'.heap.size t cs::L)) (w'.alloc (.cells cs t)):=by
 refine h.step λF' ha=> ?_
 refine⟨λk=>k=w'.heap.size∨F' k,⟨λk=>k=w'.heap.size,F',⟨Blk.new w' t cs,λ_=>Iff.rfl⟩,ha.kept ((Kept.refl Nob w').alloc _) (λ_ _ h=>h),λk a b=> ?_,λ_=>Iff.rfl⟩,(Kept.refl F' w').alloc _,?_⟩
 ·have:=All.lt ha b;omega
 ·rintro k (h|h)
  ·exact .inr oM
  ·exact .inl h
theorem On.tail(h:On F w (aa (A::L)) w'):On F w (aa L) w':=by
 obtain⟨F',⟨F1,F2,h1,h2,hd,hF⟩,hk,Sr⟩:=h
 exact⟨F2,h2,hk,λk h=>Sr k ((hF k).2 (.inr h))⟩
theorem On.drop(h:On F w (aa L) w')(i:Nat)(hA:L[i]? = some A):On F w (aa (L.eraseIdx i)) w':=by
 obtain⟨F',h1,hk,Sr⟩:=h
 obtain⟨F1,F2,h1,h2,hd,hF⟩:=All.part h1 hA
 exact⟨F2,h2,hk,λk h=>Sr k ((hF k).2 (.inr h))⟩
theorem On.setAt(i:Nat){g:Nat}{t:TypeId}{cs:Array Value}(h:On F w (aa L) w')(hA:L[i]? = some (ae g t cs))(k:Nat)(u:Value):On F w (aa (L.set i (ae g t (cs.setIfInBounds k u)))) (w'.setCell (g,k) u):=
 h.qX i hA λF' ha=>⟨F',⟨ha.1.bE k u,ha.2⟩,(Kept.refl F' w').setCell (p:=⟨g,k,none⟩) (.inl ((ha.2 g).2 rfl)) u,λ_ h=> .inl h⟩
theorem All.one{w:World}{F:Nat->Prop}(h:A.holds w F):All [A] w F:=⟨F,λ_=>False,h,λ_ h=>h,λ_ _ h=>h,λk=>⟨λh=> .inl h,λh=>h.elim id (λh=>h.elim)⟩⟩
theorem On.one(h:On F w A w'):On F w (aa [A]) w':=h.mono λ_ h=>All.one h
theorem On.zX{F2:Nat->Prop}(h:On F w (aa L) w')(ha:A.holds Ut F2)(hk:Kept Nob w' Ut)(Wx: ∀k,F2 k->w'.heap.size<=k):On F w (aa (A::L)) Ut:=by
 refine h.step λF' hL=> ?_
 refine⟨λk=>F2 k∨F' k,⟨F2,F',ha,hL.kept hk (λ_ _ h=>h),λk a b=> ?_,λk=>Iff.rfl⟩,hk.mono (λ_ h=>h.elim),?_⟩
 ·have:=Wx k a;have:=All.lt hL b;omega
 ·rintro k (h|h)
  ·exact .inr (Wx k h)
  ·exact .inl h
end
def F8(w:World)(F:Nat->Prop):Asr where
 holds w' G:=w.heap.size<=w'.heap.size∧(∀k,G k↔k<w.heap.size∧¬F k)∧∀k,k<w.heap.size->¬F k->w'.heap[k]? = w.heap[k]?
 lt:=by
  rintro w' G k ⟨hs,hG,_⟩ hk
  have:=(hG k).1 hk
  omega
 kept:=by
  rintro w1 w2 G T ⟨hs,hG,hb⟩ hk hT
  exact⟨Nat.le_trans hs hk.size,hG,λk h1 h2=>(hk.block k oM (hT k ((hG k).2 ⟨h1,h2⟩))).trans (hb k h1 h2)⟩
def bare(w:World):World:={ w with heap:=#[] }
section
variable {P:Program}{f:FuncId}{args:Array Value}{w w':World}{F:Nat->Prop}{A A':Asr}{L LA:List Asr}
theorem All.append: ∀{L M:List Asr} {w:World} {F G:Nat->Prop},All L w F->All M w G->(∀k,F k->G k->False)->All (L++M) w (λk=>F k∨G k)
 | [],M,w,F,G,h,hM,_=>All.vG hM λk=>⟨λh1=>h1.elim (λh2=>(h k h2).elim) id,.inr⟩
 | A::L,M,w,F,G,⟨F1,F2,h1,h2,hd,hF⟩,hM,hFG=>by
   refine⟨F1,λk=>F2 k∨G k,h1,All.append h2 hM (λk a b=>hFG k ((hF k).2 (.inr a)) b),?_,λk=>by show F k∨G k↔F1 k∨F2 k∨G k;rw[hF,or_assoc]⟩
   rintro k a (b|b)
   ·exact hd k a b
   ·exact hFG k ((hF k).2 (.inl a)) b
theorem All.split: ∀{L M:List Asr} {w:World} {F:Nat->Prop},All (L++M) w F->∃F1 F2,All L w F1∧All M w F2∧(∀k,F1 k->F2 k->False)∧∀k,F k↔F1 k∨F2 k
 | [],M,w,F,h=>⟨λ_=>False,F,λ_ h=>h,h,λ_ h=>h.elim,λk=>⟨.inr,λh=>h.elim (λh=>h.elim) id⟩⟩
 | A::L,M,w,F,⟨F1,F2,h1,h2,hd,hF⟩=>by
   obtain⟨G1,G2,g1,g2,gd,gF⟩:=All.split (L:=L) h2
   refine⟨λk=>F1 k∨G1 k,G2,⟨F1,G1,h1,g1,λk a b=>hd k a ((gF k).2 (.inl b)),λ_=>Iff.rfl⟩,g2,?_,λk=>by rw[hF,gF,or_assoc]⟩
   rintro k (a|a) b
   ·exact hd k a ((gF k).2 (.inr b))
   ·exact gd k a b
theorem MG(ha:All LA w F):At (bare w) w (LA ++ [F8 w F]):=by
 refine⟨λk=>F k∨(k<w.heap.size∧¬F k),All.append ha (All.one ⟨Nat.le_refl _,λ_=>Iff.rfl,λ_ _ _=>rfl⟩) (λk a b=>b.2 a),λk _=>Nat.zero_le _,rfl,rfl,rfl,Nat.zero_le _,λk hk=>absurd hk (Nat.not_lt_zero _)⟩
theorem KG(h:At (bare w) w' (LA ++ [F8 w F])):On F w (aa LA) w':=by
 obtain⟨G,hA,_,hb⟩:=h
 obtain⟨F1,F2,h1,⟨G1,G2,⟨hs,hG1,hk⟩,hG2,_,Wx⟩,hd,_⟩:=All.split hA
 refine⟨F1,h1,⟨hb.os,hb.tape,hb.output,hs,hk⟩,λk Zr=> ?_⟩
 rcases Nat.lt_or_ge k w.heap.size with Rd|Ud
 ·left
  apply Classical.byContradiction
  intro hn
  exact hd k Zr ((Wx k).2 (.inl ((hG1 k).2 ⟨Rd,hn⟩)))
 ·exact .inr Ud
theorem sX{R:Ending->List Asr->Prop}(ha:All LA w F)(hc: ∀w0 L,At w0 w (LA++L)->Calls P f args w (λe w'=> ∃LA',R e LA'∧At w0 w' (LA'++L))):
 Calls P f args w (λe w'=> ∃LA',R e LA'∧On F w (aa LA') w'):=by
 refine(hc (bare w) [F8 w F] (MG ha)).mono ?_
 rintro e w' ⟨LA',hR,h⟩
 exact⟨LA',hR,KG h⟩
theorem On.nX(h:On F w (aa [A]) w'):On F w A w':=by
 obtain⟨F',⟨F1,F2,h1,h2,hd,hF⟩,hk,Sr⟩:=h
 refine⟨F1,h1,hk,λk h=>Sr k ((hF k).2 (.inl h))⟩
theorem fT{v:Value}(ha:A.holds w F)(hc: ∀w0 L,At w0 w (A::L)->Calls P f args w (kP v A' w0 L)):Calls P f args w (Got (.returned v) A' F w):=by
 refine(sX (R:=λe l=>e = .returned v∧l = [A']) (All.one ha) λw0 L h=>(hc w0 L h).mono λe w' h=>⟨[A'],⟨h.1,rfl⟩,h.2⟩).mono ?_
 rintro e w' ⟨l,⟨rfl,rfl⟩,h⟩
 exact⟨rfl,h.nX⟩
theorem j7{R:Ending->Asr->Prop}(hc: ∀w0 L,At w0 w L->Calls P f args w (λe w'=> ∃A',R e A'∧At w0 w' (A'::L))):Calls P f args w (cz R Nob w):=by
 refine(sX (LA:=[]) (F:=Nob) (R:=λe l=> ∃A',R e A'∧l = [A']) (λ_ h=>h) λw0 L h=>(hc w0 L h).mono λe w' ⟨A',hR,h⟩=>⟨[A'],⟨A',hR,rfl⟩,h⟩).mono ?_
 rintro e w' ⟨l,⟨A',hR,rfl⟩,h⟩
 exact⟨A',hR,h.nX⟩
theorem On.make{R:Ending->Asr->Prop}(h:On F w (aa L) w')(hc:Calls P f args w' (cz R Nob w')):Calls P f args w' (λe Ut=> ∃A',R e A'∧On F w (aa (A'::L)) Ut):=by
 refine hc.mono ?_
 rintro e w2 ⟨A',hR,F',ha,hk,Sr⟩
 exact⟨A',hR,h.zX ha hk λk hk=>(Sr k hk).elim (λh=>h.elim) id⟩
theorem On.same{v:Value}(h:On F w A w')(hc:Calls P f args w' (λe Ut=>e = .returned v∧Ut=w')):Calls P f args w' (Got (.returned v) A F w):=
 hc.mono λe w2 ⟨he,hb⟩=>⟨he,by subst hb;exact h⟩
end
end Vm
def ax(v:Value)(w:World)(e:Ending)(w':World):Prop:=e = .returned v∧w'=w
namespace Code
def j2(op:Int):Bool:=op==3||op==4||op==5||op==7||op==8||op==9||op==17
def form(op:Int):Int:=if j2 op then 1 else if op==19 then 2 else if op==20 then 3 else 0
def M5(op a:Int):Bool:=
 if j2 op then decide (-36028797018963968<=a) &&decide (a<36028797018963968)
 else if op==19 then decide (0<=a) &&decide (a<36028797018963968)
 else if op==20 then decide (1<=a) &&decide (a<=36)else a==0
def pI(op:Int):Bool:=decide (1<=op) &&decide (op<=106)
def right(op a:Int):Bool:=pI op&&M5 op a
def unOp(v:Int):Int:=v % 256
def uE(v:Int):Int:=v/256
def unpack(v:Int):Int×Int×Bool:=if right (unOp v) (uE v)then(unOp v,uE v,true)else(0,0,false)
end Code
theorem Code.oH(op a:Int):Code.right op a=true↔1<=op∧op<=106∧
 (((op=3∨op=4∨op=5∨op=7∨op=8∨op=9∨op=17)∧ -36028797018963968<=a∧a<36028797018963968)∨(op=19∧0<=a∧a<36028797018963968)∨(op=20∧1<=a∧a<=36)∨
   (op≠3∧op≠4∧op≠5∧op≠7∧op≠8∧op≠9∧op≠17∧op≠19∧op≠20∧a=0)):=by
 unfold Code.right Code.M5 Code.pI
 by_cases h1:Code.j2 op=true
 ·rw[if_pos h1]
  simp[Code.j2]at h1
  simp
  omega
 ·rw[if_neg h1]
  simp[Code.j2]at h1
  by_cases h2:op=19
  ·simp[h2]
  by_cases h3:op=20
  ·simp[h3]
  simp[h2,h3]
  omega
theorem Code.JU(op:Int): (Code.form op=1∧(op=3∨op=4∨op=5∨op=7∨op=8∨op=9∨op=17))∨(Code.form op=2∧op=19)∨(Code.form op=3∧op=20)∨
 (Code.form op=0∧op≠3∧op≠4∧op≠5∧op≠7∧op≠8∧op≠9∧op≠17∧op≠19∧op≠20):=by
 unfold Code.form
 by_cases h1:Code.j2 op=true
 ·rw[if_pos h1]
  simp[Code.j2]at h1
  omega
 ·rw[if_neg h1]
  simp[Code.j2]at h1
  by_cases h2:op=19
  ·simp[h2]
  by_cases h3:op=20
  ·simp[h3]
  simp[h2,h3]
  omega
theorem DP(op:Int)(w:World):Calls prog 186 #[op] w (ax (Code.form op) w):=by
 go_enter func186,ntmps186
 go_wp2
 all_goals go_ret
 all_goals refine⟨?_,rfl⟩
 all_goals simp_all[Code.form,Code.j2]
theorem mG(op a:Int)(w:World):Calls prog 135 #[op,a] w (ax (.bool (Code.right op a)) w):=by
 have hf:=hid (Code.JU op)
 generalize hr:Code.form op=f at hf
 go_enter func135,ntmps135
 go_wp2_with fail
 all_goals first
  | (refine(DP op w).mono ?_
     rintro e w1 ⟨rfl,rfl⟩
     rw[hr]
     clear hr
     go_wp2)
  | skip
 all_goals go_ret
 all_goals refine⟨congrArg (λb=>Ending.returned (.bool b)) ?_,rfl⟩
 all_goals have hf:=hf.out
 all_goals rw[Bool.eq_iff_iff,Code.oH]
 all_goals simp only[decide_eq_true_eq,beq_iff_eq,beq_eq_false_iff_ne,ne_eq,Bool.false_eq_true,false_iff]at *
 all_goals omega
def Code.ai(op:Int):Int×Int:=
 if op∈[2,11,12,14,15,17,30,72,77,83,89,90,91]then(0,1)
 else if op∈[5,9,13,16,22,73,74,75,78,80,81,88,100,101,102]then(1,0)
 else if op∈[6,7,66,68,69,79,82]then(2,0)
 else if op∈[19,87,104]then(0,2)
 else if op∈[21,26]then(1,2)
 else if op∈[23,36,53,54,86,97]then(2,2)
 else if op∈[24,28]then(2,3)
 else if op∈[25]then(3,3)
 else if op∈[27,31,32,33,34,35,41,42,47,48,49,51,52,58,59,60,61,62,84,98]then(2,1)
 else if op∈[29,39,40,43,44,45,46,50,63,64,65,67,92]then(1,1)
 else if op∈[37,93]then(3,1)
 else if op∈[38,55,56,57,99]then(3,2)
 else if op∈[70,71]then(3,0)
 else if op∈[94,95,96]then(4,2)
 else(0,0)
theorem gp(s:ByteArray)(i:Nat)(hi:i<s.size)(w:World): (Instr.index 9 (.string s) (.int .i64 (i:Int))).run prog w = .ok (.int .u8 ((s.data.toList.getD i 0).toNat:Int)) w:=by
 rw[run_index_string w _ s .i64 (i:Int) underlying9,dif_pos ⟨by omega,by omega⟩]
 have h2:i<s.data.toList.length:=by rw[<-Lib.size_eq];exact hi
 congr 4
 rw[List.getD_eq_getElem?_getD,List.getElem?_eq_getElem h2]
 rfl
theorem DO(op:Int)(h:Code.pI op=false)(w:World):Calls prog 94 #[op] w (ax (.tuple #[(0:Int),(0:Int)]) w):=by
 simp[Code.pI]at h
 go_enter func94,ntmps94
 go_wp2
 all_goals go_ret2
 all_goals exact⟨rfl,rfl⟩
def Code.nD:ByteArray:=⟨((List.range 106).map λi:Nat=>UInt8.ofNat (48+ (Code.ai ((i:Int) +1)).1.toNat)).toArray⟩
def Code.ak:ByteArray:=⟨((List.range 106).map λi:Nat=>UInt8.ofNat (48+ (Code.ai ((i:Int) +1)).2.toNat)).toArray⟩
theorem FA: ({ data:=([48,48,48,48,49,50,50,48,49,48,48,48,49,48,48,49,48,48,48,48,49,49,50,50,51,49,50,50,49,48,50,50,50,50,50,50,51,51,49,49,50,50,49,49,49,49,50,50,50,49,50,50,50].append [50,51,51,51,50,50,50,50,50,49,49,49,50,49,50,50,51,51,48,49,49,49,48,48,49,50,49,49,50,48,50,48,50,48,49,48,48,48,49,51,52,52,52,50,50,51,49,49,49,48,48,48,48]).toArray }:ByteArray)=Code.nD:=by kernel_rfl
theorem Ao: ({ data:=#[48,48,48,48,49,50,50,48,49,48,48,48,49,48,48,49,48,48,48,48,49,49,50,50,51,49,50,50,49,48,50,50,50,50,50,50,51,51,49,49,50,50,49,49,49,49,50,50,50,49,50,50,50,50,51,51,51,50,50,50,50,50,49,49,49,50,49,50,50,51,51,48,49,49,49,48,48,49,50,49,49,50,48,50,48,50,48,49,48,48,48,49,51,52,52,52,50,50,51,49,49,49,48,48,48,48] }:ByteArray)=Code.nD:=by kernel_rfl
theorem GS: ({ data:=([48,49,48,48,48,48,48,48,48,48,49,49,48,49,49,48,49,48,50,48,50,48,50,51,51,50,49,51,49,49,49,49,49,49,49,50,49,50,49,49,49,49,49,49,49,49,49,49,49,49,49,49,50].append [50,50,50,50,49,49,49,49,49,49,49,49,48,49,48,48,48,48,49,48,48,48,48,49,48,48,48,48,48,49,49,48,50,50,48,49,49,49,49,49,50,50,50,50,49,50,48,48,48,48,50,48,48]).toArray }:ByteArray)=Code.ak:=by kernel_rfl
theorem DT: ({ data:=#[48,49,48,48,48,48,48,48,48,48,49,49,48,49,49,48,49,48,50,48,50,48,50,51,51,50,49,51,49,49,49,49,49,49,49,50,49,50,49,49,49,49,49,49,49,49,49,49,49,49,49,49,50,50,50,50,50,49,49,49,49,49,49,49,49,48,49,48,48,48,48,49,48,48,48,48,49,48,48,48,48,48,49,49,48,50,50,48,49,49,49,49,49,50,50,50,50,49,50,48,48,48,48,50,48,48] }:ByteArray)=Code.ak:=by kernel_rfl
theorem BA:Code.nD.size=106:=by kernel_rfl
theorem Ev:Code.ak.size=106:=by kernel_rfl
theorem Jt: ∀i:Fin 106,(Code.nD.data.toList.getD i.val 0).toNat=48+ (Code.ai ((i.val:Int) +1)).1.toNat∧(Code.ak.data.toList.getD i.val 0).toNat=48+ (Code.ai ((i.val:Int) +1)).2.toNat∧
 0<=(Code.ai ((i.val:Int) +1)).1∧(Code.ai ((i.val:Int) +1)).1<=4∧0<=(Code.ai ((i.val:Int) +1)).2∧(Code.ai ((i.val:Int) +1)).2<=4:=by decide +kernel
theorem Gf(i:Nat)(hi:i<106)(w:World):Calls prog 94 #[((i:Int) +1:Int)] w λe w'=>e = .returned (.tuple #[.int .i64 (Code.ai ((i:Int) +1)).1,.int .i64 (Code.ai ((i:Int) +1)).2])∧∃n,w'=w.drewN n:=by
 have a1: ((i:Int) +1<1)=False:=by simp;omega
 have a2: ((107:Int)<=(i:Int) +1)=False:=by simp;omega
 have e1:wrap64 ((i:Int) +1-1)= (i:Int):=by unfold wrap64;omega
 have i1:=λw=>gp Code.nD i (by rw[BA];exact hi) w
 have i2:=λw=>gp Code.ak i (by rw[Ev];exact hi) w
 obtain⟨k1,k2,k3⟩:=Jt ⟨i,hi⟩
 simp only at k1 k2 k3
 rw[k1]at i1
 rw[k2]at i2
 clear k1 k2
 generalize Code.ai ((i:Int) +1)=x at *
 obtain⟨x,y⟩:=x
 have k3:=hid k3
 have i1:=hid i1
 have i2:=hid i2
 go_enter func94,ntmps94
 go_wp2
 first|rw[FA,GS] |rw[Ao,DT]
 have i1:=i1.out
 have i2:=i2.out
 go_quiet (fail)
 clear i1 i2
 go_wp2
 go_ret2
 have k3:=k3.out
 have m1:48+max x 0-48=x:=by omega
 have m2:48+max y 0-48=y:=by omega
 refine⟨?_,nq,rfl⟩
 rw[m1,m2]
 rfl
namespace Vm
section
variable {P:Program}{f:FuncId}{args:Array Value}{w w' Ut:World}{F:Nat->Prop}{A A':Asr}{L L1 L2:List Asr}
theorem On.front(i:Nat)(h:On F w (aa L) w')(hA:L[i]? = some A):On F w (aa (A::L.eraseIdx i)) w':=h.mono λF' ha=>by
 obtain⟨F1,F2,h1,h2,hd,hF⟩:=All.part ha hA
 exact⟨F1,F2,h1,h2,hd,hF⟩
theorem On.flat(h:On F w (aa (aa L1::L2)) w'):On F w (aa (L1++L2)) w':=h.mono λF' ha=>by
 obtain⟨F1,F2,h1,h2,hd,hF⟩:=ha
 exact All.vG (All.append h1 h2 hd) hF
theorem On.Pj(h:On F w (aa (L1++L2)) w'):On F w (aa (aa L1::L2)) w':=h.mono λF' ha=>by
 obtain⟨F1,F2,h1,h2,hd,hF⟩:=All.split ha
 exact⟨F1,F2,h1,h2,hd,hF⟩
theorem On.Qu(i:Nat)(h:On F w (aa L) w')(hA:L[i]? = some A)(hs: ∀F',A.holds w' F'->A'.holds w' F'):On F w (aa (L.set i A')) w':=
 h.qX i hA λF' ha=>⟨F',hs F' ha,Kept.refl _ _,λ_ h=> .inl h⟩
theorem On.jH(h:On F w (aa (L1++L2)) w'):On F w (aa L1) w':=by
 obtain⟨F',ha,hk,Sr⟩:=h
 obtain⟨F1,F2,h1,h2,hd,hF⟩:=All.split ha
 exact⟨F1,h1,hk,λk h=>Sr k ((hF k).2 (.inl h))⟩
end
end Vm
def lfs(l:List UInt8):Nat:=l.count 10
def iS(g:Nat)(s:ByteArray)(at_:Nat):Asr:=ae g 175 #[.string s,(at_:Int),((lfs (s.data.toList.take at_):Nat):Int)]
def dV(p:UInt8->Bool)(s:List UInt8)(i:Nat):Nat:=i+ ((s.drop i).takeWhile p).length
def fI(s:List UInt8)(i:Nat):Nat:=if i<s.length then i+1 else i
theorem JD{s:List UInt8}{i:Nat}(h:i<s.length):lfs (s.take (i+1))=lfs (s.take i) + (if s.getD i 0=10 then 1 else 0):=by
 unfold lfs
 rw[List.take_succ_eq_append_getElem h,List.count_append]
 congr 1
 have:s.getD i 0=s[i]:=by simp[List.getD,h]
 rw[this]
 by_cases e:s[i]=10<;>simp[e]
theorem oy(g:Nat)(s:ByteArray)(hs:s.size<=140737488355327)(i:Nat)(hi:i<=s.size)(w:World)(F:Nat->Prop)(hb: (iS g s i).holds w F):
 Calls prog 209 #[g] w (qu (λu B=>u = .tuple #[]∧B=iS g s (fI s.data.toList i)) F w):=by
 obtain⟨hb,hF⟩:=hb
 have c0:=hb.cell 0
 have c1:=hb.cell 1
 have c2:=hb.cell 2
 have f0:=hb.frozen 0
 have f1:=hb.frozen 1
 have f2:=hb.frozen 2
 simp at c0 c1 c2
 have hl:s.data.toList.length=s.size:=by rw[Lib.size_eq]
 by_cases Rd:i<s.size
 ·have V3:=λw=>gp s i Rd w
  have hle:=JD (s:=s.data.toList) (i:=i) oM
  have Rj:fI s.data.toList i=i+1:=by unfold fI;rw[if_pos oM]
  have hcnt:lfs (s.data.toList.take i)<=i:=by
   unfold lfs
   refine Nat.le_trans List.count_le_length ?_
   simp;omega
  rw[Rj]
  unfold iS
  rw[hle]
  clear hle Rj
  generalize s.data.toList.getD i 0=c at *
  generalize lfs (s.data.toList.take i)=n at *
  replace⟨hl,hF,hb⟩:=iC hl hF hb
  by_cases hc:c=10
  ·subst hc
   go_enter func209,ntmps209
   go_wp2
   go_quiet (fail)
   go_wp2
   go_quiet (fail)
   go_wp2
   go_end0
   refine⟨_,_,F,⟨rfl,rfl⟩,rfl,⟨?_,hF.out⟩,?_,λk h=> .inl h⟩
   ·simpa using((hb.out.drewN _).bE 2 _).bE 1 _
   ·exact Kept.setCell (Kept.setCell ((Kept.refl F w).drewN _) (.inl ((hF.out _).2 rfl)) _) (.inl ((hF.out _).2 rfl)) _
  ·have SI: ((c.toNat:Int) ==10)=false:=by
    rw[beq_eq_false_iff_ne]
    intro e
    exact hc (UInt8.toNat_inj.1 (by simp;omega))
   go_enter func209,ntmps209
   go_wp2
   go_quiet (fail)
   go_wp2
   go_quiet (fail)
   go_wp2
   go_end0
   refine⟨_,_,F,⟨rfl,rfl⟩,rfl,⟨?_,hF.out⟩,?_,λk h=> .inl h⟩
   ·simpa [hc]using(hb.out.drewN _).bE 1 _
   ·exact Kept.setCell ((Kept.refl F w).drewN _) (.inl ((hF.out _).2 rfl)) _
 ·have Rj:fI s.data.toList i=i:=by unfold fI;rw[if_neg oM]
  rw[Rj]
  replace⟨hl,hF,hb⟩:=iC hl hF hb
  go_enter func209,ntmps209
  go_wp2
  go_quiet (fail)
  go_wp2
  go_end0
  exact⟨_,_,F,⟨rfl,rfl⟩,rfl,⟨hb.out.drewN _,hF.out⟩,(Kept.refl F w).drewN _,λk h=> .inl h⟩
theorem p7{p:UInt8->Bool}{s:List UInt8}{i:Nat}(h:i<s.length)(hp:p (s.getD i 0)=true):dV p s (i+1)=dV p s i:=by
 unfold dV
 rw[List.drop_eq_getElem_cons h,List.takeWhile_cons]
 have:s.getD i 0=s[i]:=by simp[List.getD,h]
 rw[this]at hp
 rw[if_pos hp]
 simp
 omega
theorem ji{p:UInt8->Bool}{s:List UInt8}{i:Nat}(hp:s.length<=i∨p (s.getD i 0)=false):dV p s i=i:=by
 unfold dV
 by_cases h:i<s.length
 ·rw[List.drop_eq_getElem_cons h,List.takeWhile_cons]
  have:s.getD i 0=s[i]:=by simp[List.getD,h]
  rw[this]at hp
  rw[if_neg (by rcases hp with hp|hp;omega;simp[hp])]
  rfl
 ·rw[List.drop_eq_nil_of_le oM]
  rfl
theorem lZ{p:UInt8->Bool}{s:List UInt8}{i:Nat}(hi:i<=s.length):dV p s i<=s.length:=by
 unfold dV
 have h:=(List.takeWhile_sublist (p:=p) (l:=s.drop i)).length_le
 simp at h
 omega
theorem uT(p:UInt8->Bool)(s:List UInt8)(i:Nat):i<=dV p s i:=by unfold dV;omega
def pV(c:UInt8):Bool:=decide (c.toNat<=32)
def eG(c:UInt8):Bool:=decide (32<c.toNat)
theorem Ku(c:UInt8)(w:World):Calls prog 207 #[.int .u8 (c.toNat:Int)] w (ax (.bool (pV c)) w):=by
 have e:decide ((c.toNat:Int)<=32)=pV c:=by unfold pV;rw[decide_eq_decide];omega
 go_enter func207,ntmps207
 go_wp2
 all_goals go_ret
 all_goals exact⟨by rw[<-e];simp;try omega,rfl⟩
theorem Iy(c:UInt8)(w:World):Calls prog 208 #[.int .u8 (c.toNat:Int)] w (ax (.bool (eG c)) w):=by
 have e:decide ((c.toNat:Int) >32)=eG c:=by unfold eG;rw[decide_eq_decide];omega
 go_enter func208,ntmps208
 go_wp2
 all_goals go_ret
 all_goals exact⟨by rw[<-e];simp;try omega,rfl⟩
theorem Ka(g:Nat)(s:ByteArray)(hs:s.size<=140737488355327)(i:Nat)(hi:i<=s.size)(w:World)(F:Nat->Prop)(hb: (iS g s i).holds w F):
 Calls prog 206 #[g,.func (.func 207) #[] #[]] w
  (qu (λu B=>u = .string (s.extract i (dV pV s.data.toList i))∧B=iS g s (dV pV s.data.toList i)) F w):=by
 have c1:=hb.1.cell 1
 simp at c1
 have hl:s.data.toList.length=s.size:=by rw[Lib.size_eq]
 have hp:=Ku
 generalize pV=p at *
 obtain⟨e,he⟩: ∃e,dV p s.data.toList i=e:=⟨_,rfl⟩
 rw[he]
 have hes:e<=s.size:=by rw[<-he,<-hl];exact lZ oM
 replace⟨hb,hp,hl,he⟩:=iD hb hp hl he
 go_enter func206,ntmps206
 go_wp2
 clear c1
 go_loopw [] (λwr=> ∃j:Nat,j<=s.size∧i<=j∧dV p s.data.toList j=e∧(iS g s j).holds wr F∧Kept F w wr) (λwr=>s.size- (match wr.cell? (g,1)with|some v=>(RowKit.intOf v).toNat|none=>0))
 case atStart=>exact⟨i,hi,Nat.le_refl _,he.out,hb.out,Kept.refl _ _⟩
 case round=>
  obtain⟨j,hj,WS,hg,hR,hK⟩:=hrel
  have c0:=hR.1.cell 0
  have c1:=hR.1.cell 1
  simp at c0 c1
  replace⟨hR,hK,hg⟩:=iC hR hK hg
  by_cases Rd:j<s.size
  ·have V3:=λw=>gp s j Rd w
   obtain⟨c,hc⟩: ∃c,s.data.toList.getD j 0=c:=⟨_,rfl⟩
   rw[hc]at V3
   replace hc:=hid hc
   have V2:=hp.out c
   rcases hpb:p c with _|_
   ·rw[hpb]at V2
    replace V2:=hid V2
    have hje:j=e:=by rw[<-hg.out];exact(ji (.inr (by rw[hc.out,hpb]))).symm
    subst hje
    go_wp2
    go_quiet ((go_at_call 207;exact Calls.quiet_of_same (V2.out _)))
    go_wp2
    go_quiet (fail)
    go_wp2
    go_ret
    refine⟨_,_,F,⟨rfl,rfl⟩,rfl,⟨by first|exact hR.out.1|exact hR.out.1.drewN nq|exact hR.out.1.drewN _,hR.out.2⟩,?_,λk h=> .inl h⟩
    first|exact(hK.out.drewN _).drewN _|exact hK.out.drewN _
   ·rw[hpb]at V2
    replace V2:=hid V2
    go_wp2
    go_quiet ((go_at_call 207;exact Calls.quiet_of_same (V2.out _)))
    have Rj:fI s.data.toList j=j+1:=by unfold fI;rw[if_pos (by rw[hl.out];exact Rd)]
    have Wq:=p7 (p:=p) (s:=s.data.toList) (i:=j) (by rw[hl.out];exact Rd) (by rw[hc.out,hpb])
    rw[hg.out]at Wq
    have hsw:=λw (h: (iS g s j).holds w F)=>oy g s hs j hj w F h
    rw[Rj]at hsw
    replace⟨hsw,Wq⟩:=iB hsw Wq
    clear Rj
    go_wp2_with fail
    refine(hsw.out _ ⟨hR.out.1.drewN _,hR.out.2⟩).mono ?_
    rintro e2 w2 ⟨v,A',F',⟨rfl,rfl⟩,rfl,h1,h2,-⟩
    have hd:=h1.1.cell 1
    simp at hd
    replace⟨h1,h2⟩:=iB h1 h2
    go_wp2
    go_roundw
    case rel=>exact⟨j+1,by omega,by omega,Wq.out,⟨h1.out.1,hR.out.2⟩,(hK.out.drewN _).trans h2.out⟩
    case measure=>
     have hm:s.size- (j+1) <s.size-j:=by omega
     simpa [c1,hd,RowKit.intOf]using hm
  ·have hje:j=e:=by rw[<-hg.out];exact(ji (.inl (by rw[hl.out];omega))).symm
   subst hje
   go_wp2
   go_quiet (fail)
   go_wp2
   go_quiet (fail)
   go_wp2
   go_ret
   refine⟨_,_,F,⟨rfl,rfl⟩,rfl,⟨by first|exact hR.out.1|exact hR.out.1.drewN nq|exact hR.out.1.drewN _,hR.out.2⟩,?_,λk h=> .inl h⟩
   first|exact(hK.out.drewN _).drewN _|exact hK.out.drewN _
theorem DJ(g:Nat)(s:ByteArray)(hs:s.size<=140737488355327)(i:Nat)(hi:i<=s.size)(w:World)(F:Nat->Prop)(hb: (iS g s i).holds w F):
 Calls prog 206 #[g,.func (.func 208) #[] #[]] w
  (qu (λu B=>u = .string (s.extract i (dV eG s.data.toList i))∧B=iS g s (dV eG s.data.toList i)) F w):=by
 have c1:=hb.1.cell 1
 simp at c1
 have hl:s.data.toList.length=s.size:=by rw[Lib.size_eq]
 have hp:=Iy
 generalize eG=p at *
 obtain⟨e,he⟩: ∃e,dV p s.data.toList i=e:=⟨_,rfl⟩
 rw[he]
 have hes:e<=s.size:=by rw[<-he,<-hl];exact lZ oM
 replace⟨hb,hp,hl,he⟩:=iD hb hp hl he
 go_enter func206,ntmps206
 go_wp2
 clear c1
 go_loopw [] (λwr=> ∃j:Nat,j<=s.size∧i<=j∧dV p s.data.toList j=e∧(iS g s j).holds wr F∧Kept F w wr) (λwr=>s.size- (match wr.cell? (g,1)with|some v=>(RowKit.intOf v).toNat|none=>0))
 case atStart=>exact⟨i,hi,Nat.le_refl _,he.out,hb.out,Kept.refl _ _⟩
 case round=>
  obtain⟨j,hj,WS,hg,hR,hK⟩:=hrel
  have c0:=hR.1.cell 0
  have c1:=hR.1.cell 1
  simp at c0 c1
  replace⟨hR,hK,hg⟩:=iC hR hK hg
  by_cases Rd:j<s.size
  ·have V3:=λw=>gp s j Rd w
   obtain⟨c,hc⟩: ∃c,s.data.toList.getD j 0=c:=⟨_,rfl⟩
   rw[hc]at V3
   replace hc:=hid hc
   have V2:=hp.out c
   rcases hpb:p c with _|_
   ·rw[hpb]at V2
    replace V2:=hid V2
    have hje:j=e:=by rw[<-hg.out];exact(ji (.inr (by rw[hc.out,hpb]))).symm
    subst hje
    go_wp2
    go_quiet ((go_at_call 208;exact Calls.quiet_of_same (V2.out _)))
    go_wp2
    go_quiet (fail)
    go_wp2
    go_ret
    refine⟨_,_,F,⟨rfl,rfl⟩,rfl,⟨by first|exact hR.out.1|exact hR.out.1.drewN nq|exact hR.out.1.drewN _,hR.out.2⟩,?_,λk h=> .inl h⟩
    first|exact(hK.out.drewN _).drewN _|exact hK.out.drewN _
   ·rw[hpb]at V2
    replace V2:=hid V2
    go_wp2
    go_quiet ((go_at_call 208;exact Calls.quiet_of_same (V2.out _)))
    have Rj:fI s.data.toList j=j+1:=by unfold fI;rw[if_pos (by rw[hl.out];exact Rd)]
    have Wq:=p7 (p:=p) (s:=s.data.toList) (i:=j) (by rw[hl.out];exact Rd) (by rw[hc.out,hpb])
    rw[hg.out]at Wq
    have hsw:=λw (h: (iS g s j).holds w F)=>oy g s hs j hj w F h
    rw[Rj]at hsw
    replace⟨hsw,Wq⟩:=iB hsw Wq
    clear Rj
    go_wp2_with fail
    refine(hsw.out _ ⟨hR.out.1.drewN _,hR.out.2⟩).mono ?_
    rintro e2 w2 ⟨v,A',F',⟨rfl,rfl⟩,rfl,h1,h2,-⟩
    have hd:=h1.1.cell 1
    simp at hd
    replace⟨h1,h2⟩:=iB h1 h2
    go_wp2
    go_roundw
    case rel=>exact⟨j+1,by omega,by omega,Wq.out,⟨h1.out.1,hR.out.2⟩,(hK.out.drewN _).trans h2.out⟩
    case measure=>
     have hm:s.size- (j+1) <s.size-j:=by omega
     simpa [c1,hd,RowKit.intOf]using hm
  ·have hje:j=e:=by rw[<-hg.out];exact(ji (.inl (by rw[hl.out];omega))).symm
   subst hje
   go_wp2
   go_quiet (fail)
   go_wp2
   go_quiet (fail)
   go_wp2
   go_ret
   refine⟨_,_,F,⟨rfl,rfl⟩,rfl,⟨by first|exact hR.out.1|exact hR.out.1.drewN nq|exact hR.out.1.drewN _,hR.out.2⟩,?_,λk h=> .inl h⟩
   first|exact(hK.out.drewN _).drewN _|exact hK.out.drewN _
def eV(s:List UInt8)(i:Nat):Nat:=dV pV s i
def j4(s:List UInt8)(i:Nat):Nat:=dV eG s (eV s i)
def jq(s:List UInt8)(i:Nat):Nat:=fI s (j4 s i)
theorem Fq{s:List UInt8}{i:Nat}(h:i<=s.length):fI s i<=s.length:=by unfold fI;split<;>omega
theorem EK(s:List UInt8)(i:Nat):i<=fI s i:=by unfold fI;split<;>omega
theorem FK(g:Nat)(s:ByteArray)(hs:s.size<=140737488355327)(i:Nat)(hi:i<=s.size)(w:World)(F:Nat->Prop)(hb: (iS g s i).holds w F):
 Calls prog 163 #[g] w
  (qu (λu B=>u = .tuple #[.string (s.extract (eV s.data.toList i) (j4 s.data.toList i)),((jq s.data.toList i:Nat) - (i:Int):Int)]∧B=iS g s (jq s.data.toList i)) F w):=by
 have c1:=hb.1.cell 1
 simp at c1
 have hl:s.data.toList.length=s.size:=by rw[Lib.size_eq]
 have b1:eV s.data.toList i<=s.size:=by unfold eV;rw[<-hl];exact lZ oM
 have b2:j4 s.data.toList i<=s.size:=by unfold j4;rw[<-hl];exact lZ (by rw[hl];exact b1)
 have b3:jq s.data.toList i<=s.size:=by unfold jq;rw[<-hl];exact Fq (by rw[hl];exact b2)
 have b4:i<=jq s.data.toList i:=Nat.le_trans (uT pV _ _) (Nat.le_trans (uT eG _ _) (EK _ _))
 have g1:=Ka g s hs i hi w F hb
 have g2:=λw h=>DJ g s hs (eV s.data.toList i) b1 w F h
 have g3:=λw h=>oy g s hs (j4 s.data.toList i) b2 w F h
 change Calls _ _ _ _ (qu (λu B=>u = .string (s.extract i (eV s.data.toList i))∧B=iS g s (eV s.data.toList i)) F w)at g1
 change∀w,_->Calls _ _ _ _ (qu (λu B=>u = .string (s.extract (eV s.data.toList i) (j4 s.data.toList i))∧B=iS g s (j4 s.data.toList i)) F w)at g2
 change∀w,_->Calls _ _ _ _ (qu (λu B=>u = .tuple #[]∧B=iS g s (jq s.data.toList i)) F w)at g3
 generalize eV s.data.toList i=a at *
 generalize j4 s.data.toList i=b at *
 generalize jq s.data.toList i=c at *
 have hF:=hb.2
 replace⟨g1,g2,g3,hF⟩:=iD g1 g2 g3 hF
 clear hl hb
 go_enter func163,ntmps163
 go_wp2_with fail
 refine g1.out.mono ?_
 rintro e1 w1 ⟨v1,A1,F1,⟨rfl,rfl⟩,rfl,h1,k1,-⟩
 replace h1:=hid h1.1
 replace k1:=hid k1
 go_wp2_with fail
 refine(g2.out _ ⟨h1.out,hF.out⟩).mono ?_
 rintro e2 w2 ⟨v2,A2,F2,⟨rfl,rfl⟩,rfl,h2,k2,-⟩
 replace h2:=hid h2.1
 replace k2:=hid (k1.out.trans k2)
 go_wp2_with fail
 refine(g3.out _ ⟨h2.out,hF.out⟩).mono ?_
 rintro e3 w3 ⟨v3,A3,F3,⟨rfl,rfl⟩,rfl,h3,k3,-⟩
 replace h3:=h3.1
 replace k3:=hid (k2.out.trans k3)
 have d1:=h3.cell 1
 simp at d1
 replace h3:=hid h3
 go_wp2
 go_quiet (fail)
 go_wp2
 go_ret2
 exact⟨_,_,F,⟨rfl,rfl⟩,rfl,⟨h3.out.drewN _,hF.out⟩,k3.out.drewN _,λk h=> .inl h⟩
