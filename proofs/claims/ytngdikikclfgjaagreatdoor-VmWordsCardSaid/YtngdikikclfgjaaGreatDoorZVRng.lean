/- A round of a range over a function that is left by a panic: the laws of its walk (the library's laws take no panic within a round). No condition. -/
import Derived.Test.YtngdikikclfgjaaGreatDoorZ02
import Derived.RangeFuncNested
namespace Go.Proofs.YtngdikikclfgjaaGreatDoor
set_option linter.unusedVariables false
set_option linter.unusedSimpArgs false
open Go Go.RowKit Go.Lib
namespace Rng
variable {F:Fence}{n:Nat}{P:Program}{R:List PanicEntry->World->Prop}{a:Act}{w:World}
def Plain(todo:List Item):Prop:= ∀d wr s sv r,todo≠ .call d wr s sv::r
def Dies(F:Fence)(n:Nat)(P:Program)(R:List PanicEntry->World->Prop)(items:List Item)(a:Act)(w:World):Prop:=
 ∀(b:Frame) (k:List Item) (cs:List Frame),b.roundOf=F.round->F.fn b.fn->F.room (cs.length+1+n)->
  ∃ch a' w' todo,R ch w'∧a'.defers = []∧Plain todo∧StepsIn (Machine.fenced P F) P (lone (b.atR a (items++k)) cs w) (lone { b.atR a' todo with mode:= .panicking ch } cs w')
theorem dies_seq{c1 c2:Code}{l:List Item}(h:Dies F n P R (.code c1 :: .code c2::l) a w):Dies F n P R (.code (.seq c1 c2)::l) a w:=by
 intro b k cs hro hb hr
 obtain⟨ch,a',w',todo,h1,h2,h3,h4⟩:=h b k cs hro hb hr
 exact⟨ch,a',w',todo,h1,h2,h3,.head (fenced_calm (fr:=b.atR a (.code (.seq c1 c2):: (l++k))) hb hr rfl) stepR_seq h4⟩
theorem dies_then{c:Code}{l:List Item}(h:c.wpIn F n P (λe a w=>e = .normal∧Dies F n P R l a w) a w):Dies F n P R (.code c::l) a w:=by
 intro b k cs hro hb hr
 obtain⟨e,a1,w1,⟨rfl,hd⟩,harr⟩:=h b (l++k) cs hro hb hr
 obtain⟨ch,a',w',todo,h1,h2,h3,h4⟩:=hd b k cs hro hb hr
 exact⟨ch,a',w',todo,h1,h2,h3,StepsIn.trans harr h4⟩
theorem dies_region{id:Nat}{ops:Array Oper}{l:List Item}(h:Dies F n P R (.inRegion ops (List.range ops.size)::l) a w):Dies F n P R (.code (.region id ops false)::l) a w:=by
 intro b k cs hro hb hr
 obtain⟨ch,a',w',todo,h1,h2,h3,h4⟩:=h b k cs hro hb hr
 exact⟨ch,a',w',todo,h1,h2,h3,.head (fenced_calm (fr:=b.atR a (.code (.region id ops false):: (l++k))) hb hr rfl) stepR_region h4⟩
theorem dies_op{ops:Array Oper}{i:Nat}{rest:List Nat}{l:List Item}{o:Oper}{v:Value}{w':World}(ho:ops[i]? = some o)(hw:Region.wanted o (yielded ops a.tmps)=true)
 (hab: ∀f,o.about P w a.eval=some f->F.fn f) (hv: (o.semAt F.round a.eval).run P w = .ok (.value v) w') (h:Dies F n P R (.inRegion ops rest::l) (a.put o.dst v) w'):
 Dies F n P R (.inRegion ops (i::rest)::l) a w:=by
 intro b k cs hro hb hr
 obtain⟨ch,a',w1,todo,h1,h2,h3,h4⟩:=h b k cs hro hb hr
 have hg:=stepGR_op (P:=P) (b:=b) (k:=l++k) (cs:=cs) (w:=w) (rest:=rest) ho hw
 rw[hro]at hg
 have hfin: (b.atR a (.inRegion ops (i::rest):: (l++k))).finish v=b.atR (a.put o.dst v) (.inRegion ops rest:: (l++k)):=by rw[Frame.finish_atR,ho];rfl
 refine⟨ch,a',w1,todo,h1,h2,h3,.head (fenced_oper hb hr ho hab) (step_lone_go ?_) h4⟩
 simp only[List.cons_append]
 rw[hg,<-hfin]
 simp[stepG.apply,hv]
theorem dies_call{ops:Array Oper}{i:Nat}{rest:List Nat}{l:List Item}{o:Oper}{f:FuncId}{args:Array Value}{w':World}(ho:ops[i]? = some o)(hw:Region.wanted o (yielded ops a.tmps)=true)
 (hab: ∀f,o.about P w a.eval=some f->F.fn f) (hv: (o.semAt F.round a.eval).run P w = .ok (.enter f args) w') (hd:a.defers = []) (hn:F.depth.isSome=true->1<=n)
 (hc:CallsIn F (n-1) P f args w' (λe w2=> ∃ch,e = .panicked ch∧R ch w2)):Dies F n P R (.inRegion ops (i::rest)::l) a w:=by
 intro b k cs hro hb hr
 have hg:=stepGR_op (P:=P) (b:=b) (k:=l++k) (cs:=cs) (w:=w) (rest:=rest) ho hw
 rw[hro]at hg
 obtain⟨hF,h⟩:=hc
 have hroom:F.room ((b.atR a (.inRegion ops (i::rest):: (l++k))::cs).length+1+ (n-1)):=Fence.room_enter hr hn
 obtain⟨e,w2,fr,⟨ch,rfl,hR⟩,hsteps,hfn,hleave⟩:=h (b.atR a (.inRegion ops (i::rest):: (l++k))::cs) hroom
 have henter:step P (lone (b.atR a (.inRegion ops (i::rest):: (l++k))) cs w)= .next (lone (Frame.enter P f args .normal) (b.atR a (.inRegion ops (i::rest):: (l++k))::cs) w'):=
  step_lone_go (by rw[hg];simp[stepG.apply,hv,Frame.atR])
 refine⟨ch,a,w2,.inRegion ops (i::rest):: (l++k),hR,hd,(λd wr s sv r e=>by cases e),.head (fenced_oper hb hr ho hab) henter (StepsIn.trans hsteps (.one (fenced_leaving (hfn▸hF) hroom hleave) ?_))⟩
 rw[<-Frame.raise_atR]
 exact step_leave_panicked hleave
theorem fenced_wide_any(P:Program)(m:Machine):Machine.fenced P Fence.wide m:=by
 intro g hg
 refine⟨?_,.inl trivial,λ_ _=>trivial,room_wide _⟩
 intro h
 cases h
theorem round_dies{l:Nat}{f:FuncId}{tmps:Array Value}{assign body:Code}
 (h:assign.wpIn (Fence.wide.inRound l) n P (λe a1 w1=>e = .normal∧∃w2,(Instr.beginRound l).run P w1 = .ok () w2∧Dies (Fence.wide.inRound l) n P R [.code body] a1 w2) { tmps:=tmps,defers:=[] } w):
 RoundIn Fence.wide n P l f tmps assign body w (λe w'=> ∃ch,e = .panicked ch∧R ch w'):=by
 refine⟨trivial,λc cs hr=> ?_⟩
 let b:Frame:={ (default:Frame)with fn:=f,kind:= .normal,roundOf:=some l }
 have hb0:Frame.round l f tmps assign body .normal=b.atR { tmps:=tmps,defers:=[] } [.code assign,.beginRound,.code body]:=by simp[Frame.round,Frame.atR,b]
 have hr': (Fence.wide.inRound l).room ((c::cs).length+1+n):=hr
 have hF': (Fence.wide.inRound l).fn b.fn:=trivial
 obtain⟨e,a1,w1,⟨rfl,w2,hbr,hd⟩,harr⟩:=h b [.beginRound,.code body] (c::cs) rfl hF' hr'
 rw[<-hb0]at harr
 obtain⟨ch,a',w',todo,h1,h2,h3,h4⟩:=hd b [] (c::cs) rfl hF' hr'
 have s1:StepsIn (Machine.fenced P (Fence.wide.inRound l)) P (lone (b.atR a1 [.beginRound,.code body]) (c::cs) w1) (lone (b.atR a1 [.code body]) (c::cs) w2):=
  .one (fenced_calm (fr:=b.atR a1 [.beginRound,.code body]) hF' hr' rfl) (stepR_beginRound rfl hbr)
 refine⟨.panicked ch,w',⟨ch,rfl,h1⟩,StepsIn.trans (StepsIn.trans harr s1) (StepsIn.trans h4 (.one ?_ (step_lone_go ?_)))⟩
 ·exact fenced_wide_any P _
 ·have hc:Frame.catches P { b.atR a' todo with mode:= .panicking ch }=false:=by
   unfold Frame.catches
   split
   ·rename_i heq
    exact absurd heq (h3 _ _ _ _ _)
   ·rfl
  have hc2:Frame.catches P { fn:=b.fn,tmps:=a'.tmps,todo:=todo,defers:=[],mode:=FrameMode.panicking ch,kind:=b.kind,roundOf:=b.roundOf }=false:=by
   rw[<-h2]
   exact hc
  simp[stepG,unwind,Frame.atR,h2]
  rw[hc2]
  rfl
def FirstSeq(n:Nat)(P:Program)(gf:FuncId)(lb x0:Array Value)(w:World):Prop:=
 ∀(l:Nat) (W:World) (Rt:World->Prop) (Rp:List PanicEntry->World->Prop),Below w.heap.size w W->
  (∀W1,Below W.heap.size W W1->YieldAt Fence.wide (n-1) P l x0 W1 (λe W'=>(e = .returned (.bool false)∧Rt W')∨(∃ch,e = .panicked ch∧Rp ch W')))->
  CallsIn Fence.wide n P gf (#[.func (.yield l) #[] #[]]++lb) W (λe W'=>(∃v,e = .returned v∧Rt W')∨(∃ch,e = .panicked ch∧Rp ch W'))
structure Begun(w W1 W2:World):Prop where
 below:Below w.heap.size w W2
 size:W2.heap.size=W1.heap.size
 other: ∀k,k≠w.heap.size+1->W2.heap[k]? = W1.heap[k]?
 mark:W2.heap[w.heap.size]? = some (.deferred (some []))
def Holds2(w W2 W3:World):Prop:=W3.heap[w.heap.size]? = W2.heap[w.heap.size]? ∧W3.heap[w.heap.size+1]? = W2.heap[w.heap.size+1]?
theorem begun_of{W W1:World}{o o':Obj}(hb:Below w.heap.size w W)(hk:W.heap[w.heap.size]? = some (.deferred (some [])))(hl:W.heap[w.heap.size+1]? = some o)(h1:Below W.heap.size W W1):Begun w W1 (W1.putObj (w.heap.size+1) o'):=by
 have hlt:w.heap.size+1<W.heap.size:=(Array.getElem?_eq_some_iff.1 hl).1
 have hb1:Below w.heap.size w W1:=hb.trans (h1.mono oM)
 refine⟨⟨hb1.os,hb1.tape,hb1.output,by rw[World.putObj_size];exact hb1.size,λk hk=> ?_⟩,World.putObj_size ..,λk hk=>World.putObj_heap_other hk,?_⟩
 ·exact(World.putObj_heap_other oM).trans (hb1.block k hk)
 ·exact(World.putObj_heap_other oM).trans ((h1.block _ oM).trans hk)
theorem range_ret{gf:FuncId}{lb x0:Array Value}{g:Operand}{ps:Array Tmp}{assign body:Code}{Q:Exit->Act->World->Prop}(hn:1<=n)
 (hg:a.eval g = .func (.func gf) #[] lb) (eg: ∀args w,(callFunc gf args).run P w = .ok (.enter gf args) w) (hps:x0.size=ps.size) (hseq:FirstSeq (n-1) P gf lb x0 w) (St:World->Prop)
 (hround: ∀W,Below w.heap.size w W->w.heap.size+2<=W.heap.size->assign.wpIn (Fence.wide.inRound (w.heap.size+1)) (n-1-1) P (Exit.then (λa1 W1=>Below W.heap.size W W1∧∀W2,Begun w W1 W2->body.wpIn (Fence.wide.inRound (w.heap.size+1)) (n-1-1) P (λe _ W3=>e = .ret∧St W3∧Holds2 w W2 W3) a1 W2) (λ_ _ _=>False))
  { tmps:=(ps.zip x0).foldl (λt (p,v)=>t.setIfInBounds p v) a.tmps,defers:=[] } W)
 (hend: ∀W3 W4,St W3->(∀k,k≠w.heap.size+1->W4.heap[k]? = W3.heap[k]?)->W4.heap.size=W3.heap.size->W4.os=W3.os->W4.tape=W3.tape->W4.output=W3.output->W4.heap[w.heap.size]? = some (.deferred (some []))->Code.ret.wpIn Fence.wide n P Q { a with defers:={ target:= .collected w.heap.size,args:=#[] }::a.defers } W4):
 (Code.rangeFunc g ps assign body).wpIn Fence.wide n P Q a w:=by
 refine wpIn_rangeFunc ?_
 intro fn hfn
 obtain⟨rec,hrec⟩: ∃rec:LoopState->Option Code->Loop,rec=λst pe=>{ state:=st,pending:=pe,fn,tmps:=a.tmps,params:=ps,assign,body,defers:=w.heap.size }:=⟨_,rfl⟩
 obtain⟨W1,hW1⟩: ∃W1,(w.alloc (.deferred (some []))).alloc (.loop (rec .ready none))=W1:=⟨_,rfl⟩
 have hL1:W1.heap[w.heap.size+1]? = some (.loop (rec .ready none)):=by
  rw[<-hW1];have:=World.alloc_heap_new (w.alloc (.deferred (some []))) (.loop (rec .ready none));rwa[World.size_alloc]at this
 have hK1:W1.heap[w.heap.size]? = some (.deferred (some [])):=by
  rw[<-hW1];exact(Below.heap_alloc _ _ _ (by simp)).trans (World.alloc_heap_new w _)
 have hb1:Below w.heap.size w W1:=by
  rw[<-hW1];exact((Below.refl _ w).alloc (Nat.le_refl _) _).alloc (by simp) _
 have hlt1:w.heap.size+1<W1.heap.size:=(Array.getElem?_eq_some_iff.1 hL1).1
 refine⟨w.heap.size+1,[{ target:= .collected w.heap.size,args:=#[] }],W1,{ target:= .fn (.func gf) lb,args:=#[.func (.yield (w.heap.size+1)) #[] #[]] },W1,gf,
  #[.func (.yield (w.heap.size+1)) #[] #[]]++lb,W1,?_,?_,?_,?_,λ_=>hn,?_⟩
 ·rw[<-hW1,hrec];exact run_enterLoop_outer _ _ _ _ _
 ·simp only[resolve,hg]
  simp[go_sem]
 ·intro f' hf';trivial
 ·simp[invoke,go_sem,eg]
 ·refine(hseq (w.heap.size+1) W1 (λW'=> ∃W3,St W3∧W'.heap[w.heap.size+1]? = some (.loop (rec .done (some .ret)))∧W'.heap[w.heap.size]? = some (.deferred (some []))∧(∀k,k≠w.heap.size+1->W'.heap[k]? = W3.heap[k]?)∧W'.heap.size=W3.heap.size∧W'.os=W3.os∧W'.tape=W3.tape∧W'.output=W3.output) (λ_ _=>False) hb1 ?_).mono ?_
  ·intro W2 h2
   have hl:=(h2.block _ hlt1).trans hL1
   have hk:=(h2.block _ oM).trans hK1
   have hbw:Below w.heap.size w W2:=hb1.trans (h2.mono oM)
   have hy:=run_yield (P:=P) (args:=x0) hl (by rw[hrec];exact hps)
   rw[hrec]at hy
   refine⟨fn,_,assign,body,hy,(roundIn_of_wpIn (R:=λe W'=>e = .returned (.bool false)∧_) trivial (wpIn_mono (hround W2 hbw (by have:=(Array.getElem?_eq_some_iff.1 hl).1;omega)) ?_)).mono λe W' h=> .inl h⟩
   intro e a1 Wa h
   cases e with
   | normal=>
     obtain⟨ha,hbd⟩:=h
     have hla:=(ha.block _ (Array.getElem?_eq_some_iff.1 hl).1).trans hl
     refine⟨_,run_beginRound hla (by rw[hrec]),?_⟩
     have hbg:Begun w Wa (Wa.putObj (w.heap.size+1) (.loop { rec .ready none with state:= .busy })):=begun_of hbw hk hl ha
     refine wpIn_mono (hbd _ hbg) ?_
     rintro e a3 W3 ⟨rfl,hSt,h21,h22⟩
     have hl2:W3.heap[w.heap.size+1]? = some (.loop { rec .ready none with state:= .busy }):=by rw[h22];exact World.putObj_heap_same (Array.getElem?_eq_some_iff.1 hla).1
     have hend:=run_endRound (P:=P) (some .ret) hl2
     refine⟨_,_,hend,rfl,W3,hSt,?_,?_,λk hk=>World.putObj_heap_other hk,World.putObj_size ..,rfl,rfl,rfl⟩
     ·rw[hrec];exact World.putObj_heap_same (Array.getElem?_eq_some_iff.1 hl2).1
     ·exact(World.putObj_heap_other oM).trans (h21.trans hbg.mark)
   | _=>exact h.elim
  ·rintro e W2 (⟨v,rfl,W3,hSt,hl,hk,ho,hs,h1,h2,h3⟩ | ⟨ch,rfl,hf⟩)
   ·refine⟨some .ret,_,by have:=run_endLoop (P:=P) hl (by rw[hrec];simp);rw[hrec]at this;exact this,hend W3 _ hSt (λk hk=>(World.putObj_heap_other hk).trans (ho k hk)) ((World.putObj_size ..).trans hs) h1 h2 h3 ((World.putObj_heap_other oM).trans hk)⟩
   ·exact hf.elim
theorem range_dies{gf:FuncId}{lb x0:Array Value}{g:Operand}{ps:Array Tmp}{assign body:Code}{Q:Exit->Act->World->Prop}(hn:1<=n)
 (hg:a.eval g = .func (.func gf) #[] lb) (eg: ∀args w,(callFunc gf args).run P w = .ok (.enter gf args) w) (hps:x0.size=ps.size) (hseq:FirstSeq (n-1) P gf lb x0 w) (Sp:List PanicEntry->World->Prop)
 (hround: ∀W,Below w.heap.size w W->w.heap.size+2<=W.heap.size->assign.wpIn (Fence.wide.inRound (w.heap.size+1)) (n-1-1) P (λe a1 W1=>e = .normal∧Below W.heap.size W W1∧∀W2,Begun w W1 W2->Dies (Fence.wide.inRound (w.heap.size+1)) (n-1-1) P Sp [.code body] a1 W2)
  { tmps:=(ps.zip x0).foldl (λt (p,v)=>t.setIfInBounds p v) a.tmps,defers:=[] } W)
 (hend: ∀ch W3,Sp ch W3->Q (.panic ch) { a with defers:={ target:= .collected w.heap.size,args:=#[] }::a.defers } W3):
 (Code.rangeFunc g ps assign body).wpIn Fence.wide n P Q a w:=by
 refine wpIn_rangeFunc ?_
 intro fn hfn
 obtain⟨rec,hrec⟩: ∃rec:LoopState->Option Code->Loop,rec=λst pe=>{ state:=st,pending:=pe,fn,tmps:=a.tmps,params:=ps,assign,body,defers:=w.heap.size }:=⟨_,rfl⟩
 obtain⟨W1,hW1⟩: ∃W1,(w.alloc (.deferred (some []))).alloc (.loop (rec .ready none))=W1:=⟨_,rfl⟩
 have hL1:W1.heap[w.heap.size+1]? = some (.loop (rec .ready none)):=by
  rw[<-hW1];have:=World.alloc_heap_new (w.alloc (.deferred (some []))) (.loop (rec .ready none));rwa[World.size_alloc]at this
 have hK1:W1.heap[w.heap.size]? = some (.deferred (some [])):=by
  rw[<-hW1];exact(Below.heap_alloc _ _ _ (by simp)).trans (World.alloc_heap_new w _)
 have hb1:Below w.heap.size w W1:=by
  rw[<-hW1];exact((Below.refl _ w).alloc (Nat.le_refl _) _).alloc (by simp) _
 have hlt1:w.heap.size+1<W1.heap.size:=(Array.getElem?_eq_some_iff.1 hL1).1
 refine⟨w.heap.size+1,[{ target:= .collected w.heap.size,args:=#[] }],W1,{ target:= .fn (.func gf) lb,args:=#[.func (.yield (w.heap.size+1)) #[] #[]] },W1,gf,
  #[.func (.yield (w.heap.size+1)) #[] #[]]++lb,W1,?_,?_,?_,?_,λ_=>hn,?_⟩
 ·rw[<-hW1,hrec];exact run_enterLoop_outer _ _ _ _ _
 ·simp only[resolve,hg]
  simp[go_sem]
 ·intro f' hf';trivial
 ·simp[invoke,go_sem,eg]
 ·refine(hseq (w.heap.size+1) W1 (λ_=>False) Sp hb1 ?_).mono ?_
  ·intro W2 h2
   have hl:=(h2.block _ hlt1).trans hL1
   have hk:=(h2.block _ oM).trans hK1
   have hbw:Below w.heap.size w W2:=hb1.trans (h2.mono oM)
   have hy:=run_yield (P:=P) (args:=x0) hl (by rw[hrec];exact hps)
   rw[hrec]at hy
   refine⟨fn,_,assign,body,hy,(round_dies (wpIn_mono (hround W2 hbw (by have:=(Array.getElem?_eq_some_iff.1 hl).1;omega)) ?_)).mono λe W' h=> .inr h⟩
   rintro e a1 Wa ⟨rfl,ha,hbd⟩
   have hla:=(ha.block _ (Array.getElem?_eq_some_iff.1 hl).1).trans hl
   exact⟨rfl,_,run_beginRound hla (by rw[hrec]),hbd _ (begun_of hbw hk hl ha)⟩
  ·rintro e W2 (⟨v,rfl,hf⟩ | ⟨ch,rfl,hs⟩)
   ·exact hf.elim
   ·exact hend ch W2 hs
theorem range_none{gf:FuncId}{lb:Array Value}{g:Operand}{ps:Array Tmp}{assign body:Code}{Q:Exit->Act->World->Prop}(hn:1<=n)
 (hg:a.eval g = .func (.func gf) #[] lb) (eg: ∀args w,(callFunc gf args).run P w = .ok (.enter gf args) w)
 (hseq: ∀(l:Nat) (W:World),Below w.heap.size w W->CallsIn Fence.wide (n-1) P gf (#[.func (.yield l) #[] #[]]++lb) W (λe W'=>(∃v,e = .returned v)∧Below W.heap.size W W'))
 (hend: ∀W4,Below w.heap.size w W4->W4.heap[w.heap.size]? = some (.deferred (some []))->Q .normal { a with defers:={ target:= .collected w.heap.size,args:=#[] }::a.defers } W4):
 (Code.rangeFunc g ps assign body).wpIn Fence.wide n P Q a w:=by
 refine wpIn_rangeFunc ?_
 intro fn hfn
 obtain⟨rec,hrec⟩: ∃rec:LoopState->Option Code->Loop,rec=λst pe=>{ state:=st,pending:=pe,fn,tmps:=a.tmps,params:=ps,assign,body,defers:=w.heap.size }:=⟨_,rfl⟩
 obtain⟨W1,hW1⟩: ∃W1,(w.alloc (.deferred (some []))).alloc (.loop (rec .ready none))=W1:=⟨_,rfl⟩
 have hL1:W1.heap[w.heap.size+1]? = some (.loop (rec .ready none)):=by
  rw[<-hW1];have:=World.alloc_heap_new (w.alloc (.deferred (some []))) (.loop (rec .ready none));rwa[World.size_alloc]at this
 have hK1:W1.heap[w.heap.size]? = some (.deferred (some [])):=by
  rw[<-hW1];exact(Below.heap_alloc _ _ _ (by simp)).trans (World.alloc_heap_new w _)
 have hb1:Below w.heap.size w W1:=by
  rw[<-hW1];exact((Below.refl _ w).alloc (Nat.le_refl _) _).alloc (by simp) _
 have hlt1:w.heap.size+1<W1.heap.size:=(Array.getElem?_eq_some_iff.1 hL1).1
 refine⟨w.heap.size+1,[{ target:= .collected w.heap.size,args:=#[] }],W1,{ target:= .fn (.func gf) lb,args:=#[.func (.yield (w.heap.size+1)) #[] #[]] },W1,gf,
  #[.func (.yield (w.heap.size+1)) #[] #[]]++lb,W1,?_,?_,?_,?_,λ_=>hn,?_⟩
 ·rw[<-hW1,hrec];exact run_enterLoop_outer _ _ _ _ _
 ·simp only[resolve,hg]
  simp[go_sem]
 ·intro f' hf';trivial
 ·simp[invoke,go_sem,eg]
 ·refine(hseq (w.heap.size+1) W1 hb1).mono ?_
  rintro e W2 ⟨⟨v,rfl⟩,h2⟩
  have hl:=(h2.block _ hlt1).trans hL1
  have hk:=(h2.block _ oM).trans hK1
  have hbw:Below w.heap.size w W2:=hb1.trans (h2.mono oM)
  exact⟨none,_,by have:=run_endLoop (P:=P) hl (by rw[hrec];simp);rw[hrec]at this;exact this,hend _ (begun_of hbw hk hl (Below.refl _ _)).below (begun_of hbw hk hl (Below.refl _ _)).mark⟩
def NoDefer(ops:Array Oper):Prop:= ∀(i:Nat) (o:Oper),ops[i]? = some o->∀(l:Nat) (ρ:Operand->Value),o.semAt (some l) ρ=execOp ρ o
def isPlain(o:Oper):Bool:=match o.op with | .defer _=>false|_=>true
theorem noDefer_of{ops:Array Oper}(h:ops.all isPlain=true):NoDefer ops:=by
 intro i o hi l ρ
 refine Oper.semAt_some l ρ o λc hc=> ?_
 have h1:=(Array.all_eq_true.1 h) i (Array.getElem?_eq_some_iff.1 hi).1
 rw[(Array.getElem?_eq_some_iff.1 hi).2]at h1
 unfold isPlain at h1
 rw[hc]at h1
 cases h1
theorem ops_inRound{ops:Array Oper}{Q:Exit->Act->World->Prop}(l:Nat)(hQ: ¬LetsOut Q)(hno:NoDefer ops): ∀(lst:List Nat) (a:Act) (w:World),wpOps P ops Q lst a w->wpOpsIn (Fence.wide.inRound l) n P ops Q lst a w
 | [],a,w,h=>h
 | i::rest,a,w,h=>by
   have ih:=ops_inRound l hQ hno rest
   unfold wpOps at h
   unfold wpOpsIn
   rcases ho:ops[i]? with _|o
   ·rw[ho]at h
    exact ih a w h
   rw[ho]at h
   simp only at h⊢
   by_cases hw:Region.wanted o (yielded ops a.tmps)=true
   ·rw[if_pos hw]at h
    rw[if_pos hw]
    rcases h with h| ⟨_,h⟩
    ·refine⟨λf _=>trivial,?_⟩
     have hs: (o.semAt (Fence.wide.inRound l).round a.eval).run P w= (execOp a.eval o).run P w:=by rw[show(Fence.wide.inRound l).round=some l from rfl,hno i o ho]
     rw[hs]
     unfold Oper.wp at h
     revert h
     rcases(execOp a.eval o).run P w with⟨x,w'⟩ | ⟨x,w'⟩
     ·cases x with
      | value v=>exact λh=>ih _ _ h
      | skip=>exact λh=>ih _ _ h
      | defer d=>exact λh=>ih _ _ h
      | enter f args=>
        intro h
        refine⟨λhd=>(by cases hd),CallsIn.inRound l ((callsIn_wide.2 h).mono ?_)⟩
        intro e w2 h2
        cases e with
        | returned v=>exact ih _ _ h2
        | panicked ch=>exact h2
        | outgrown=>exact h2
      | row r args=>
        intro h
        refine⟨λhd=>(by cases hd),λc cs _=> ?_⟩
        obtain⟨v,w2,hr,hst⟩:=h c cs
        exact⟨v,w2,ih _ _ hr,(stepsIn_wide (P:=P)).2 hst⟩
      | round l f tmps assign body=>exact λh=>h.elim
      | _=>exact λh=>h.elim
     ·cases x with
      | panic v=>exact λh=>h
      | _=>exact λh=>h.elim
    ·exact absurd h hQ
   ·rw[if_neg hw]at h
    rw[if_neg hw]
    exact⟨λf _=>trivial,ih _ _ h⟩
theorem region_inRound{ops:Array Oper}{Q:Exit->Act->World->Prop}{S:World->Prop}{id:Nat}(l:Nat)(hm:P.follows .mixedOrders=true)(hQ: ¬LetsOut Q)(hno:NoDefer ops)
 (h:wpAnyH P .any ops Q S ops.size (Array.replicate ops.size false) a w.drew): (Code.region id ops true).wpIn (Fence.wide.inRound l) n P Q a w:=by
 refine wpIn_region_draw λt=> ?_
 have h2:=wpAny_sound ops.size t (Array.replicate ops.size false) a _ (wpAny_of_held _ _ _ _ h)
 refine ops_inRound l hQ hno _ _ _ ?_
 simp only[Region.schedule,hm,Bool.true_or,if_true]
 exact h2
theorem dies_block{id:Nat}{c:Code}{l:List Item}(h:Dies F n P R (.code c :: .inBlock id::l) a w):Dies F n P R (.code (.block id c)::l) a w:=by
 intro b k cs hro hb hr
 obtain⟨ch,a',w',todo,h1,h2,h3,h4⟩:=h b k cs hro hb hr
 exact⟨ch,a',w',todo,h1,h2,h3,.head (fenced_calm (fr:=b.atR a (.code (.block id c):: (l++k))) hb hr rfl) stepR_block h4⟩
theorem below_put{m:Nat}{w W:World}(h:Below m w W)(D:Nat)(hD:m<=D)(o:Obj):Below m w (W.putObj D o):=
 ⟨h.os,h.tape,h.output,by rw[World.putObj_size];exact h.size,λk hk=>(World.putObj_heap_other oM).trans (h.block k hk)⟩
theorem seqN{c1 c2:Code}{Q:Exit->Act->World->Prop}(h:c1.wpIn F n P (λe a w=>e = .normal∧c2.wpIn F n P Q a w) a w): (Code.seq c1 c2).wpIn F n P Q a w:=
 wpIn_seq (wpIn_mono h λe a w h=>by
  obtain⟨rfl,h⟩:=h
  exact h)
theorem seqH{c1 c2:Code}{Q:Exit->Act->World->Prop}(h:c1.wpIn F n P (λe a w=>e = .normal∧RowKit.Hid (c2.wpIn F n P Q a w)) a w): (Code.seq c1 c2).wpIn F n P Q a w:=
 seqN (wpIn_mono h λe a w h=>⟨h.1,h.2.out⟩)
end Rng
end Go.Proofs.YtngdikikclfgjaaGreatDoor
