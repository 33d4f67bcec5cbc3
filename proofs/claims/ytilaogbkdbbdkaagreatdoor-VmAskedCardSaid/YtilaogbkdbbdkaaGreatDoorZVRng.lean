/- A round of a range over a function that is left by a panic. No condition. -/
import Derived.Test.YtilaogbkdbbdkaaGreatDoorZ03
import Derived.RangeFuncNested
namespace Go.Proofs.YtilaogbkdbbdkaaGreatDoor
set_option linter.unusedVariables false
open Go Go.RowKit Go.Lib
namespace Rng
variable {F:Fence}{n:Nat}{P:Program}{R:List PanicEntry->World->Prop}{a:Act}{w:World}
def Plain(todo:List Item):Prop:= ∀d wr s sv r,todo≠ .call d wr s sv::r
def o7(F:Fence)(n:Nat)(P:Program)(R:List PanicEntry->World->Prop)(items:List Item)(a:Act)(w:World):Prop:=
 ∀(b:Frame) (k:List Item) (cs:List Frame),b.roundOf=F.round->F.fn b.fn->F.room (cs.length+1+n)->
  ∃ch a' w' todo,R ch w'∧a'.defers = []∧Plain todo∧StepsIn (Machine.fenced P F) P (lone (b.atR a (items++k)) cs w) (lone { b.atR a' todo with mode:= .panicking ch } cs w')
theorem la{c1 c2:Code}{l:List Item}(h:o7 F n P R (.code c1 :: .code c2::l) a w):o7 F n P R (.code (.seq c1 c2)::l) a w:=by
 intro b k cs YG hb hr
 obtain⟨ch,a',w',todo,h1,h2,h3,h4⟩:=h b k cs YG hb hr
 exact⟨ch,a',w',todo,h1,h2,h3,.head (fenced_calm (fr:=b.atR a (.code (.seq c1 c2):: (l++k))) hb hr rfl) stepR_seq h4⟩
theorem ox{c:Code}{l:List Item}(h:c.wpIn F n P (λe a w=>e = .normal∧o7 F n P R l a w) a w):o7 F n P R (.code c::l) a w:=by
 intro b k cs YG hb hr
 obtain⟨e,a1,w1,⟨rfl,hd⟩,haO⟩:=h b (l++k) cs YG hb hr
 obtain⟨ch,a',w',todo,h1,h2,h3,h4⟩:=hd b k cs YG hb hr
 exact⟨ch,a',w',todo,h1,h2,h3,StepsIn.trans haO h4⟩
theorem pX{id:Nat}{ops:Array Oper}{l:List Item}(h:o7 F n P R (.inRegion ops (List.range ops.size)::l) a w):o7 F n P R (.code (.region id ops false)::l) a w:=by
 intro b k cs YG hb hr
 obtain⟨ch,a',w',todo,h1,h2,h3,h4⟩:=h b k cs YG hb hr
 exact⟨ch,a',w',todo,h1,h2,h3,.head (fenced_calm (fr:=b.atR a (.code (.region id ops false):: (l++k))) hb hr rfl) stepR_region h4⟩
theorem wE{ops:Array Oper}{i:Nat}{rest:List Nat}{l:List Item}{o:Oper}{v:Value}{w':World}(ho:ops[i]? = some o)(hw:Region.wanted o (yielded ops a.tmps)=true)
 (hab: ∀f,o.about P w a.eval=some f->F.fn f) (hv: (o.semAt F.round a.eval).run P w = .ok (.value v) w') (h:o7 F n P R (.inRegion ops rest::l) (a.put o.dst v) w'):
 o7 F n P R (.inRegion ops (i::rest)::l) a w:=by
 intro b k cs YG hb hr
 obtain⟨ch,a',w1,todo,h1,h2,h3,h4⟩:=h b k cs YG hb hr
 have hg:=stepGR_op (P:=P) (b:=b) (k:=l++k) (cs:=cs) (w:=w) (rest:=rest) ho hw
 rw[YG]at hg
 have IS: (b.atR a (.inRegion ops (i::rest):: (l++k))).finish v=b.atR (a.put o.dst v) (.inRegion ops rest:: (l++k)):=by rw[Frame.finish_atR,ho];rfl
 refine⟨ch,a',w1,todo,h1,h2,h3,.head (fenced_oper hb hr ho hab) (step_lone_go ?_) h4⟩
 simp only[List.cons_append]
 rw[hg,<-IS]
 simp[stepG.apply,hv]
theorem um{ops:Array Oper}{i:Nat}{rest:List Nat}{l:List Item}{o:Oper}{f:FuncId}{args:Array Value}{w':World}(ho:ops[i]? = some o)(hw:Region.wanted o (yielded ops a.tmps)=true)
 (hab: ∀f,o.about P w a.eval=some f->F.fn f) (hv: (o.semAt F.round a.eval).run P w = .ok (.enter f args) w') (hd:a.defers = []) (hn:F.depth.isSome=true->1<=n)
 (hc:CallsIn F (n-1) P f args w' (λe w2=> ∃ch,e = .panicked ch∧R ch w2)):o7 F n P R (.inRegion ops (i::rest)::l) a w:=by
 intro b k cs YG hb hr
 have hg:=stepGR_op (P:=P) (b:=b) (k:=l++k) (cs:=cs) (w:=w) (rest:=rest) ho hw
 rw[YG]at hg
 obtain⟨hF,h⟩:=hc
 have OF:F.room ((b.atR a (.inRegion ops (i::rest):: (l++k))::cs).length+1+ (n-1)):=Fence.room_enter hr hn
 obtain⟨e,w2,fr,⟨ch,rfl,hR⟩,hec,hfn,hbM⟩:=h (b.atR a (.inRegion ops (i::rest):: (l++k))::cs) OF
 have heG:step P (lone (b.atR a (.inRegion ops (i::rest):: (l++k))) cs w)= .next (lone (Frame.enter P f args .normal) (b.atR a (.inRegion ops (i::rest):: (l++k))::cs) w'):=
  step_lone_go (by rw[hg];simp[stepG.apply,hv,Frame.atR])
 refine⟨ch,a,w2,.inRegion ops (i::rest):: (l++k),hR,hd,(λd wr s sv r e=>by cases e),.head (fenced_oper hb hr ho hab) heG (StepsIn.trans hec (.one (fenced_leaving (hfn▸hF) OF hbM) ?_))⟩
 rw[<-Frame.raise_atR]
 exact step_leave_panicked hbM
theorem qq(P:Program)(m:Machine):Machine.fenced P Fence.wide m:=by
 intro g hg
 refine⟨?_,.inl trivial,λ_ _=>trivial,room_wide _⟩
 intro h
 cases h
theorem zQ{l:Nat}{f:FuncId}{tmps:Array Value}{assign body:Code}
 (h:assign.wpIn (Fence.wide.inRound l) n P (λe a1 w1=>e = .normal∧∃w2,(Instr.beginRound l).run P w1 = .ok () w2∧o7 (Fence.wide.inRound l) n P R [.code body] a1 w2) { tmps:=tmps,defers:=[] } w):
 RoundIn Fence.wide n P l f tmps assign body w (λe w'=> ∃ch,e = .panicked ch∧R ch w'):=by
 refine⟨trivial,λc cs hr=> ?_⟩
 let b:Frame:={ (default:Frame)with fn:=f,kind:= .normal,roundOf:=some l }
 have RV:Frame.round l f tmps assign body .normal=b.atR { tmps:=tmps,defers:=[] } [.code assign,.beginRound,.code body]:=by simp[Frame.round,Frame.atR,b]
 have YJ: (Fence.wide.inRound l).room ((c::cs).length+1+n):=hr
 have Sr: (Fence.wide.inRound l).fn b.fn:=trivial
 obtain⟨e,a1,w1,⟨rfl,w2,Ul,hd⟩,haO⟩:=h b [.beginRound,.code body] (c::cs) rfl Sr YJ
 rw[<-RV]at haO
 obtain⟨ch,a',w',todo,h1,h2,h3,h4⟩:=hd b [] (c::cs) rfl Sr YJ
 have s1:StepsIn (Machine.fenced P (Fence.wide.inRound l)) P (lone (b.atR a1 [.beginRound,.code body]) (c::cs) w1) (lone (b.atR a1 [.code body]) (c::cs) w2):=
  .one (fenced_calm (fr:=b.atR a1 [.beginRound,.code body]) Sr YJ rfl) (stepR_beginRound rfl Ul)
 refine⟨.panicked ch,w',⟨ch,rfl,h1⟩,StepsIn.trans (StepsIn.trans haO s1) (StepsIn.trans h4 (.one ?_ (step_lone_go ?_)))⟩
 ·exact qq P _
 ·have hc:Frame.catches P { b.atR a' todo with mode:= .panicking ch }=false:=by
   unfold Frame.catches
   split
   ·rename_i heq
    exact absurd heq (h3 _ _ _ _ _)
   ·rfl
  have RZ:Frame.catches P { fn:=b.fn,tmps:=a'.tmps,todo:=todo,defers:=[],mode:=FrameMode.panicking ch,kind:=b.kind,roundOf:=b.roundOf }=false:=by
   rw[<-h2]
   exact hc
  simp[stepG,unwind,Frame.atR,h2]
  rw[RZ]
  rfl
def rJ(n:Nat)(P:Program)(gf:FuncId)(lb x0:Array Value)(w:World):Prop:=
 ∀(l:Nat) (W:World) (Rt:World->Prop) (Rp:List PanicEntry->World->Prop),Below w.heap.size w W->
  (∀W1,Below W.heap.size W W1->YieldAt Fence.wide (n-1) P l x0 W1 (λe W'=>(e = .returned (.bool false)∧Rt W')∨(∃ch,e = .panicked ch∧Rp ch W')))->
  CallsIn Fence.wide n P gf (#[.func (.yield l) #[] #[]]++lb) W (λe W'=>(∃v,e = .returned v∧Rt W')∨(∃ch,e = .panicked ch∧Rp ch W'))
structure CU(w W1 W2:World):Prop where
 below:Below w.heap.size w W2
 size:W2.heap.size=W1.heap.size
 other: ∀k,k≠w.heap.size+1->W2.heap[k]? = W1.heap[k]?
 mark:W2.heap[w.heap.size]? = some (.deferred (some []))
def Ot(w W2 W3:World):Prop:=W3.heap[w.heap.size]? = W2.heap[w.heap.size]? ∧W3.heap[w.heap.size+1]? = W2.heap[w.heap.size+1]?
theorem od{W W1:World}{o o':Obj}(hb:Below w.heap.size w W)(hk:W.heap[w.heap.size]? = some (.deferred (some [])))(hl:W.heap[w.heap.size+1]? = some o)(h1:Below W.heap.size W W1):CU w W1 (W1.putObj (w.heap.size+1) o'):=by
 have Rd:w.heap.size+1<W.heap.size:=(Array.getElem?_eq_some_iff.1 hl).1
 have Rh:Below w.heap.size w W1:=hb.trans (h1.mono oM)
 refine⟨⟨Rh.os,Rh.tape,Rh.output,by rw[World.putObj_size];exact Rh.size,λk hk=> ?_⟩,World.putObj_size ..,λk hk=>World.putObj_heap_other hk,?_⟩
 ·exact(World.putObj_heap_other oM).trans (Rh.block k hk)
 ·exact(World.putObj_heap_other oM).trans ((h1.block _ oM).trans hk)
theorem Ek{gf:FuncId}{lb x0:Array Value}{g:Operand}{ps:Array Tmp}{assign body:Code}{Q:Exit->Act->World->Prop}(hn:1<=n)
 (hg:a.eval g = .func (.func gf) #[] lb) (eg: ∀args w,(callFunc gf args).run P w = .ok (.enter gf args) w) (hps:x0.size=ps.size) (hbQ:rJ (n-1) P gf lb x0 w) (St:World->Prop)
 (ZW: ∀W,Below w.heap.size w W->w.heap.size+2<=W.heap.size->assign.wpIn (Fence.wide.inRound (w.heap.size+1)) (n-1-1) P (Exit.then (λa1 W1=>Below W.heap.size W W1∧∀W2,CU w W1 W2->body.wpIn (Fence.wide.inRound (w.heap.size+1)) (n-1-1) P (λe _ W3=>e = .ret∧St W3∧Ot w W2 W3) a1 W2) (λ_ _ _=>False))
  { tmps:=(ps.zip x0).foldl (λt (p,v)=>t.setIfInBounds p v) a.tmps,defers:=[] } W)
 (R4: ∀W3 W4,St W3->(∀k,k≠w.heap.size+1->W4.heap[k]? = W3.heap[k]?)->W4.heap.size=W3.heap.size->W4.os=W3.os->W4.tape=W3.tape->W4.output=W3.output->W4.heap[w.heap.size]? = some (.deferred (some []))->Code.ret.wpIn Fence.wide n P Q { a with defers:={ target:= .collected w.heap.size,args:=#[] }::a.defers } W4):
 (Code.rangeFunc g ps assign body).wpIn Fence.wide n P Q a w:=by
 refine wpIn_rangeFunc ?_
 intro fn hfn
 obtain⟨rec,Up⟩: ∃rec:LoopState->Option Code->Loop,rec=λst pe=>{ state:=st,pending:=pe,fn,tmps:=a.tmps,params:=ps,assign,body,defers:=w.heap.size }:=⟨_,rfl⟩
 obtain⟨W1,hW1⟩: ∃W1,(w.alloc (.deferred (some []))).alloc (.loop (rec .ready none))=W1:=⟨_,rfl⟩
 have hL1:W1.heap[w.heap.size+1]? = some (.loop (rec .ready none)):=by
  rw[<-hW1];have:=World.alloc_heap_new (w.alloc (.deferred (some []))) (.loop (rec .ready none));rwa[World.size_alloc]at this
 have hK1:W1.heap[w.heap.size]? = some (.deferred (some [])):=by
  rw[<-hW1];exact(Below.heap_alloc _ _ _ (by simp)).trans (World.alloc_heap_new w _)
 have Rh:Below w.heap.size w W1:=by
  rw[<-hW1];exact((Below.refl _ w).alloc (Nat.le_refl _) _).alloc (by simp) _
 have ZF:w.heap.size+1<W1.heap.size:=(Array.getElem?_eq_some_iff.1 hL1).1
 refine⟨w.heap.size+1,[{ target:= .collected w.heap.size,args:=#[] }],W1,{ target:= .fn (.func gf) lb,args:=#[.func (.yield (w.heap.size+1)) #[] #[]] },W1,gf,
  #[.func (.yield (w.heap.size+1)) #[] #[]]++lb,W1,?_,?_,?_,?_,λ_=>hn,?_⟩
 ·rw[<-hW1,Up];exact run_enterLoop_outer _ _ _ _ _
 ·simp only[resolve,hg]
  simp[go_sem]
 ·intro f' hf';trivial
 ·simp[invoke,go_sem,eg]
 ·refine(hbQ (w.heap.size+1) W1 (λW'=> ∃W3,St W3∧W'.heap[w.heap.size+1]? = some (.loop (rec .done (some .ret)))∧W'.heap[w.heap.size]? = some (.deferred (some []))∧(∀k,k≠w.heap.size+1->W'.heap[k]? = W3.heap[k]?)∧W'.heap.size=W3.heap.size∧W'.os=W3.os∧W'.tape=W3.tape∧W'.output=W3.output) (λ_ _=>False) Rh ?_).mono ?_
  ·intro W2 h2
   have hl:=(h2.block _ ZF).trans hL1
   have hk:=(h2.block _ oM).trans hK1
   have Rr:Below w.heap.size w W2:=Rh.trans (h2.mono oM)
   have hy:=run_yield (P:=P) (args:=x0) hl (by rw[Up];exact hps)
   rw[Up]at hy
   refine⟨fn,_,assign,body,hy,(roundIn_of_wpIn (R:=λe W'=>e = .returned (.bool false)∧_) trivial (wpIn_mono (ZW W2 Rr (by have:=(Array.getElem?_eq_some_iff.1 hl).1;omega)) ?_)).mono λe W' h=> .inl h⟩
   intro e a1 Wa h
   cases e with
   | normal=>
     obtain⟨ha,hbd⟩:=h
     have WD:=(ha.block _ (Array.getElem?_eq_some_iff.1 hl).1).trans hl
     refine⟨_,run_beginRound WD (by rw[Up]),?_⟩
     have Zo:CU w Wa (Wa.putObj (w.heap.size+1) (.loop { rec .ready none with state:= .busy })):=od Rr hk hl ha
     refine wpIn_mono (hbd _ Zo) ?_
     rintro e a3 W3 ⟨rfl,hSt,h21,h22⟩
     have Ug:W3.heap[w.heap.size+1]? = some (.loop { rec .ready none with state:= .busy }):=by rw[h22];exact World.putObj_heap_same (Array.getElem?_eq_some_iff.1 WD).1
     have R4:=run_endRound (P:=P) (some .ret) Ug
     refine⟨_,_,R4,rfl,W3,hSt,?_,?_,λk hk=>World.putObj_heap_other hk,World.putObj_size ..,rfl,rfl,rfl⟩
     ·rw[Up];exact World.putObj_heap_same (Array.getElem?_eq_some_iff.1 Ug).1
     ·exact(World.putObj_heap_other oM).trans (h21.trans Zo.mark)
   | _=>exact h.elim
  ·rintro e W2 (⟨v,rfl,W3,hSt,hl,hk,ho,hs,h1,h2,h3⟩ | ⟨ch,rfl,hf⟩)
   ·refine⟨some .ret,_,by have:=run_endLoop (P:=P) hl (by rw[Up];simp);rw[Up]at this;exact this,R4 W3 _ hSt (λk hk=>(World.putObj_heap_other hk).trans (ho k hk)) ((World.putObj_size ..).trans hs) h1 h2 h3 ((World.putObj_heap_other oM).trans hk)⟩
   ·exact hf.elim
theorem zR{gf:FuncId}{lb x0:Array Value}{g:Operand}{ps:Array Tmp}{assign body:Code}{Q:Exit->Act->World->Prop}(hn:1<=n)
 (hg:a.eval g = .func (.func gf) #[] lb) (eg: ∀args w,(callFunc gf args).run P w = .ok (.enter gf args) w) (hps:x0.size=ps.size) (hbQ:rJ (n-1) P gf lb x0 w) (Sp:List PanicEntry->World->Prop)
 (ZW: ∀W,Below w.heap.size w W->w.heap.size+2<=W.heap.size->assign.wpIn (Fence.wide.inRound (w.heap.size+1)) (n-1-1) P (λe a1 W1=>e = .normal∧Below W.heap.size W W1∧∀W2,CU w W1 W2->o7 (Fence.wide.inRound (w.heap.size+1)) (n-1-1) P Sp [.code body] a1 W2)
  { tmps:=(ps.zip x0).foldl (λt (p,v)=>t.setIfInBounds p v) a.tmps,defers:=[] } W)
 (R4: ∀ch W3,Sp ch W3->Q (.panic ch) { a with defers:={ target:= .collected w.heap.size,args:=#[] }::a.defers } W3):
 (Code.rangeFunc g ps assign body).wpIn Fence.wide n P Q a w:=by
 refine wpIn_rangeFunc ?_
 intro fn hfn
 obtain⟨rec,Up⟩: ∃rec:LoopState->Option Code->Loop,rec=λst pe=>{ state:=st,pending:=pe,fn,tmps:=a.tmps,params:=ps,assign,body,defers:=w.heap.size }:=⟨_,rfl⟩
 obtain⟨W1,hW1⟩: ∃W1,(w.alloc (.deferred (some []))).alloc (.loop (rec .ready none))=W1:=⟨_,rfl⟩
 have hL1:W1.heap[w.heap.size+1]? = some (.loop (rec .ready none)):=by
  rw[<-hW1];have:=World.alloc_heap_new (w.alloc (.deferred (some []))) (.loop (rec .ready none));rwa[World.size_alloc]at this
 have hK1:W1.heap[w.heap.size]? = some (.deferred (some [])):=by
  rw[<-hW1];exact(Below.heap_alloc _ _ _ (by simp)).trans (World.alloc_heap_new w _)
 have Rh:Below w.heap.size w W1:=by
  rw[<-hW1];exact((Below.refl _ w).alloc (Nat.le_refl _) _).alloc (by simp) _
 have ZF:w.heap.size+1<W1.heap.size:=(Array.getElem?_eq_some_iff.1 hL1).1
 refine⟨w.heap.size+1,[{ target:= .collected w.heap.size,args:=#[] }],W1,{ target:= .fn (.func gf) lb,args:=#[.func (.yield (w.heap.size+1)) #[] #[]] },W1,gf,
  #[.func (.yield (w.heap.size+1)) #[] #[]]++lb,W1,?_,?_,?_,?_,λ_=>hn,?_⟩
 ·rw[<-hW1,Up];exact run_enterLoop_outer _ _ _ _ _
 ·simp only[resolve,hg]
  simp[go_sem]
 ·intro f' hf';trivial
 ·simp[invoke,go_sem,eg]
 ·refine(hbQ (w.heap.size+1) W1 (λ_=>False) Sp Rh ?_).mono ?_
  ·intro W2 h2
   have hl:=(h2.block _ ZF).trans hL1
   have hk:=(h2.block _ oM).trans hK1
   have Rr:Below w.heap.size w W2:=Rh.trans (h2.mono oM)
   have hy:=run_yield (P:=P) (args:=x0) hl (by rw[Up];exact hps)
   rw[Up]at hy
   refine⟨fn,_,assign,body,hy,(zQ (wpIn_mono (ZW W2 Rr (by have:=(Array.getElem?_eq_some_iff.1 hl).1;omega)) ?_)).mono λe W' h=> .inr h⟩
   rintro e a1 Wa ⟨rfl,ha,hbd⟩
   have WD:=(ha.block _ (Array.getElem?_eq_some_iff.1 hl).1).trans hl
   exact⟨rfl,_,run_beginRound WD (by rw[Up]),hbd _ (od Rr hk hl ha)⟩
  ·rintro e W2 (⟨v,rfl,hf⟩ | ⟨ch,rfl,hs⟩)
   ·exact hf.elim
   ·exact R4 ch W2 hs
theorem Ce{gf:FuncId}{lb:Array Value}{g:Operand}{ps:Array Tmp}{assign body:Code}{Q:Exit->Act->World->Prop}(hn:1<=n)
 (hg:a.eval g = .func (.func gf) #[] lb) (eg: ∀args w,(callFunc gf args).run P w = .ok (.enter gf args) w)
 (hbQ: ∀(l:Nat) (W:World),Below w.heap.size w W->CallsIn Fence.wide (n-1) P gf (#[.func (.yield l) #[] #[]]++lb) W (λe W'=>(∃v,e = .returned v)∧Below W.heap.size W W'))
 (R4: ∀W4,Below w.heap.size w W4->W4.heap[w.heap.size]? = some (.deferred (some []))->Q .normal { a with defers:={ target:= .collected w.heap.size,args:=#[] }::a.defers } W4):
 (Code.rangeFunc g ps assign body).wpIn Fence.wide n P Q a w:=by
 refine wpIn_rangeFunc ?_
 intro fn hfn
 obtain⟨rec,Up⟩: ∃rec:LoopState->Option Code->Loop,rec=λst pe=>{ state:=st,pending:=pe,fn,tmps:=a.tmps,params:=ps,assign,body,defers:=w.heap.size }:=⟨_,rfl⟩
 obtain⟨W1,hW1⟩: ∃W1,(w.alloc (.deferred (some []))).alloc (.loop (rec .ready none))=W1:=⟨_,rfl⟩
 have hL1:W1.heap[w.heap.size+1]? = some (.loop (rec .ready none)):=by
  rw[<-hW1];have:=World.alloc_heap_new (w.alloc (.deferred (some []))) (.loop (rec .ready none));rwa[World.size_alloc]at this
 have hK1:W1.heap[w.heap.size]? = some (.deferred (some [])):=by
  rw[<-hW1];exact(Below.heap_alloc _ _ _ (by simp)).trans (World.alloc_heap_new w _)
 have Rh:Below w.heap.size w W1:=by
  rw[<-hW1];exact((Below.refl _ w).alloc (Nat.le_refl _) _).alloc (by simp) _
 have ZF:w.heap.size+1<W1.heap.size:=(Array.getElem?_eq_some_iff.1 hL1).1
 refine⟨w.heap.size+1,[{ target:= .collected w.heap.size,args:=#[] }],W1,{ target:= .fn (.func gf) lb,args:=#[.func (.yield (w.heap.size+1)) #[] #[]] },W1,gf,
  #[.func (.yield (w.heap.size+1)) #[] #[]]++lb,W1,?_,?_,?_,?_,λ_=>hn,?_⟩
 ·rw[<-hW1,Up];exact run_enterLoop_outer _ _ _ _ _
 ·simp only[resolve,hg]
  simp[go_sem]
 ·intro f' hf';trivial
 ·simp[invoke,go_sem,eg]
 ·refine(hbQ (w.heap.size+1) W1 Rh).mono ?_
  rintro e W2 ⟨⟨v,rfl⟩,h2⟩
  have hl:=(h2.block _ ZF).trans hL1
  have hk:=(h2.block _ oM).trans hK1
  have Rr:Below w.heap.size w W2:=Rh.trans (h2.mono oM)
  exact⟨none,_,by have:=run_endLoop (P:=P) hl (by rw[Up];simp);rw[Up]at this;exact this,R4 _ (od Rr hk hl (Below.refl _ _)).below (od Rr hk hl (Below.refl _ _)).mark⟩
def vq(ops:Array Oper):Prop:= ∀(i:Nat) (o:Oper),ops[i]? = some o->∀(l:Nat) (ρ:Operand->Value),o.semAt (some l) ρ=execOp ρ o
def Ch(o:Oper):Bool:=match o.op with | .defer _=>false|_=>true
theorem mM{ops:Array Oper}(h:ops.all Ch=true):vq ops:=by
 intro i o hi l ρ
 refine Oper.semAt_some l ρ o λc hc=> ?_
 have h1:=(Array.all_eq_true.1 h) i (Array.getElem?_eq_some_iff.1 hi).1
 rw[(Array.getElem?_eq_some_iff.1 hi).2]at h1
 unfold Ch at h1
 rw[hc]at h1
 cases h1
theorem pP{ops:Array Oper}{Q:Exit->Act->World->Prop}(l:Nat)(hQ: ¬LetsOut Q)(Um:vq ops): ∀(lst:List Nat) (a:Act) (w:World),wpOps P ops Q lst a w->wpOpsIn (Fence.wide.inRound l) n P ops Q lst a w
 | [],a,w,h=>h
 | i::rest,a,w,h=>by
   have ih:=pP l hQ Um rest
   unfold wpOps at h
   unfold wpOpsIn
   rcases ho:ops[i]? with _|o
   ·rw[ho]at h
    exact ih a w h
   rw[ho]at h
   simp only at h⊢
   by_cases hw:Region.wanted o (yielded ops a.tmps)=true
   ·rw[if_pos hw]at h
    rw[if_pos hw]
    rcases h with h| ⟨_,h⟩
    ·refine⟨λf _=>trivial,?_⟩
     have hs: (o.semAt (Fence.wide.inRound l).round a.eval).run P w= (execOp a.eval o).run P w:=by rw[show(Fence.wide.inRound l).round=some l from rfl,Um i o ho]
     rw[hs]
     unfold Oper.wp at h
     revert h
     rcases(execOp a.eval o).run P w with⟨x,w'⟩ | ⟨x,w'⟩
     ·cases x with
      | value v=>exact λh=>ih _ _ h
      | skip=>exact λh=>ih _ _ h
      | defer d=>exact λh=>ih _ _ h
      | enter f args=>
        intro h
        refine⟨λhd=>(by cases hd),CallsIn.inRound l ((callsIn_wide.2 h).mono ?_)⟩
        intro e w2 h2
        cases e with
        | returned v=>exact ih _ _ h2
        | panicked ch=>exact h2
        | outgrown=>exact h2
      | row r args=>
        intro h
        refine⟨λhd=>(by cases hd),λc cs _=> ?_⟩
        obtain⟨v,w2,hr,Rj⟩:=h c cs
        exact⟨v,w2,ih _ _ hr,(stepsIn_wide (P:=P)).2 Rj⟩
      | round l f tmps assign body=>exact λh=>h.elim
      | _=>exact λh=>h.elim
     ·cases x with
      | panic v=>exact λh=>h
      | _=>exact λh=>h.elim
    ·exact absurd h hQ
   ·rw[if_neg hw]at h
    rw[if_neg hw]
    exact⟨λf _=>trivial,ih _ _ h⟩
theorem jQj{ops:Array Oper}{Q:Exit->Act->World->Prop}{S:World->Prop}{id:Nat}(l:Nat)(hm:P.follows .mixedOrders=true)(hQ: ¬LetsOut Q)(Um:vq ops)
 (h:wpAnyH P .any ops Q S ops.size (Array.replicate ops.size false) a w.drew): (Code.region id ops true).wpIn (Fence.wide.inRound l) n P Q a w:=by
 refine wpIn_region_draw λt=> ?_
 have h2:=wpAny_sound ops.size t (Array.replicate ops.size false) a _ (wpAny_of_held _ _ _ _ h)
 refine pP l hQ Um _ _ _ ?_
 simp only[Region.schedule,hm,Bool.true_or,if_true]
 exact h2
theorem AL{id:Nat}{c:Code}{l:List Item}(h:o7 F n P R (.code c :: .inBlock id::l) a w):o7 F n P R (.code (.block id c)::l) a w:=by
 intro b k cs YG hb hr
 obtain⟨ch,a',w',todo,h1,h2,h3,h4⟩:=h b k cs YG hb hr
 exact⟨ch,a',w',todo,h1,h2,h3,.head (fenced_calm (fr:=b.atR a (.code (.block id c):: (l++k))) hb hr rfl) stepR_block h4⟩
theorem uM{m:Nat}{w W:World}(h:Below m w W)(D:Nat)(hD:m<=D)(o:Obj):Below m w (W.putObj D o):=
 ⟨h.os,h.tape,h.output,by rw[World.putObj_size];exact h.size,λk hk=>(World.putObj_heap_other oM).trans (h.block k hk)⟩
theorem ND{c1 c2:Code}{Q:Exit->Act->World->Prop}(h:c1.wpIn F n P (λe a w=>e = .normal∧c2.wpIn F n P Q a w) a w): (Code.seq c1 c2).wpIn F n P Q a w:=
 wpIn_seq (wpIn_mono h λe a w h=>by
  obtain⟨rfl,h⟩:=h
  exact h)
theorem LF{c1 c2:Code}{Q:Exit->Act->World->Prop}(h:c1.wpIn F n P (λe a w=>e = .normal∧RowKit.Hid (c2.wpIn F n P Q a w)) a w): (Code.seq c1 c2).wpIn F n P Q a w:=
 ND (wpIn_mono h λe a w h=>⟨h.1,h.2.out⟩)
