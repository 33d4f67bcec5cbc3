/- Maps as objects. Conditions: as written. -/
import Derived.Test.YtilaogbkdbbdkaaGreatDoorZ03
import Derived.Maps.Ext
import Derived.Lib.ConvBytes
import Derived.ProofKit
import Derived.OpenShut
import Derived.Deep.Fields
open Go.Proofs.Tryz
namespace Go.Proofs.YtilaogbkdbbdkaaGreatDoor
set_option linter.unusedVariables false
open Go.RowKit Go.Lib
open Go.Maps (Keyed)
namespace Vm
abbrev Dt:=DataW Unit
def Reads(D:Dt)(f:Lit->Option Dt):Prop:= ∀kl,Maps.has D kl= (f kl).isSome∧∀d,f kl=some d->∀z,D.atKey kl z=d
structure Upd(f f':Lit->Option Dt)(k:Lit)(d:Dt):Prop where
 here:f' k=some d
 far: ∀k',k'≠k->f' k'=f k'
theorem Reads.none_:Reads (.map []) (λ_=>none):=λkl=>⟨rfl,λ_ h=>by cases h⟩
theorem Reads.put{D:Dt}{f f':Lit->Option Dt}(h:Reads D f)(hD:Maps.IsMap D){k:Lit}(hk:WideAt.IsKeyLit k){d:Dt}(hu:Upd f f' k d):Reads (D.put k d) f':=by
 intro kl
 by_cases he:kl=k
 ·subst he
  rw[hu.here]
  exact⟨Maps.has_put_same hD hk d,λd' YX z=>by cases YX;exact Maps.atKey_put_same hD hk d z⟩
 ·rw[hu.far kl he,Maps.has_put_other he]
  exact⟨(h kl).1,λd' YX z=>by rw[Maps.atKey_put_other he];exact(h kl).2 d' YX z⟩
theorem Reads.at_{D:Dt}{f:Lit->Option Dt}(h:Reads D f)(k:Lit)(z:Dt):D.atKey k z= (f k).getD z:=by
 rcases hf:f k with _|d
 ·exact Maps.atKey_of_not_has (by rw[(h k).1,hf];rfl) z
 ·exact(h k).2 d hf z
def jQc(K:TypeId)(R:Value->Option (Dt×List MemPlace))(b n:Nat)(f:Lit->Option Dt):Asr where
 holds w F:=(∃D,w.ownsMap prog K R b n D∧Reads D f)∧∀k,F k↔k=b
 lt h hk:=by have:=(h.2 _).1 hk;subst this;obtain⟨⟨D,h1,_⟩,_⟩:=h;exact h1.lt
 kept h hk hT:=by
  obtain⟨⟨D,h1,h2⟩,hF⟩:=h
  refine⟨⟨D,?_,h2⟩,hF⟩
  have hb:=hk.block _ h1.lt (hT _ ((hF _).2 rfl))
  obtain⟨es,clock,h3,r⟩:=h1
  exact⟨es,clock,hb.trans h3,r⟩
theorem jQc.Qc{w:World}{F:Nat->Prop}{K t e:TypeId}{R:Value->Option (Dt×List MemPlace)}{b n:Nat}{f:Lit->Option Dt}(h: (jQc K R b n f).holds w F)(Kd:Keyed prog K)(ht:prog.underlying t=some (.map K e)){z:Value}(hz: (zeroValue e).run prog w = .ok z w){zd:Dt}{zp:List MemPlace}(hzd:R z=some (zd,zp))
 {key:Value} {kl:Lit} (hay:keyOf prog K key=some kl): ∃v ps,(Instr.lookup t (.map (some b)) key false).run prog w = .ok v w∧R v=some ((f kl).getD zd,ps):=by
 obtain⟨⟨D,h1,h2⟩,_⟩:=h
 obtain⟨v,ps,h3,h4⟩:=h1.lookup Kd ht hz hzd hay
 rw[h2.at_]at h4
 exact⟨v,ps,h3,h4⟩
theorem jQc.store{w:World}{F:Nat->Prop}{K t e:TypeId}{R:Value->Option (Dt×List MemPlace)}{b n:Nat}{f:Lit->Option Dt}(h: (jQc K R b n f).holds w F)(Kd:Keyed prog K)(ht:prog.underlying t=some (.map K e))(hn:n<maxLen){key val:Value}{kl:Lit}{d:Dt}{ps:List MemPlace}
 (hay:keyOf prog K key=some kl) (hv:R val=some (d,ps)) {f':Lit->Option Dt} (hu:Upd f f' kl d): ∃w',(Instr.mapUpdate t (.map (some b)) key val).run prog w = .ok () w'∧(jQc K R b (n+1) f').holds w' F∧Kept F w w':=by
 obtain⟨⟨D,h1,h2⟩,hF⟩:=h
 obtain⟨w',h3,h4,h5⟩:=h1.update Kd ht hn hay hv
 refine⟨w',h3,⟨⟨_,h4,h2.put h1.isMap (Kd.key hay) hu⟩,hF⟩,?_⟩
 exact(Kept.refl F w).grown h5 (λk hk=>by cases hk;exact .inl ((hF _).2 rfl))
theorem jQc.new(w:World)(K:TypeId)(R:Value->Option (Dt×List MemPlace)): (jQc K R w.heap.size 0 (λ_=>none)).holds (w.alloc (.map #[] 0)) (λk=>k=w.heap.size):=
 ⟨⟨_,World.ownsMap_made w prog K R,Reads.none_⟩,λ_=>Iff.rfl⟩
theorem On.mapA{w w':World}{F:Nat->Prop}{L:List Asr}(h:On F w (aa L) w')(K:TypeId)(R:Value->Option (Dt×List MemPlace)):On F w (aa (jQc K R w'.heap.size 0 (λ_=>none)::L)) (w'.alloc (.map #[] 0)):=by
 refine h.step λF' ha=> ?_
 refine⟨λk=>k=w'.heap.size∨F' k,⟨λk=>k=w'.heap.size,F',jQc.new w' K R,ha.kept ((Kept.refl Nob w').alloc _) (λ_ _ h=>h),λk a b=> ?_,λ_=>Iff.rfl⟩,(Kept.refl F' w').alloc _,?_⟩
 ·have:=All.lt ha b;omega
 ·rintro k (h|h)
  ·exact .inr (by omega)
  ·exact .inl h
theorem On.dY{w w':World}{A:Asr}(h:On Nob w A w'):Below w.heap.size w w':=let⟨_,_,hk,_⟩:=h;hk.sU
end Vm
def Own(B:Nat)(w:World)(e:TypeId)(v:Value)(bs:List UInt8):Prop:=w.ownsRow B e 1 v bs.length (ah bs)
theorem Own.nil(B:Nat)(w:World)(e:TypeId):Own B w e (.slice none 0 0) []:=World.ownsRow_nil w B e 1
def Clear(fz:Nat×Nat)(sz:Nat):Prop:=fz.2=0∨sz<=fz.1
def dE(w:World)(e:TypeId)(v:Value)(bs:List UInt8):Prop:=
 (v = .slice none 0 0∧bs = [])∨
 ∃g cap cur fz,v = .slice (some ⟨g,0,none⟩) bs.length cap∧w.heap[g]? = some (.cells cur e fz)∧Clear fz cap∧bs.length<=cap∧cap<=maxLen∧cur.size=cap∧cur.toList.take bs.length=ah bs
section
variable {P:Program}{w w':World}{e:TypeId}{v:Value}{bs:List UInt8}
theorem dE.nil(w:World)(e:TypeId):dE w e (.slice none 0 0) []:= .inl ⟨rfl,rfl⟩
theorem dE.lt(h:dE w e v bs){k:Nat}(hk:v.ownBlock=some k):k<w.heap.size:=by
 rcases h with⟨rfl,_⟩ | ⟨g,cap,cur,fz,rfl,hg,_⟩
 ·simp[Value.ownBlock]at hk
 ·have:g=k:=by simpa [Value.ownBlock]using hk
  subst this
  exact(Array.getElem?_eq_some_iff.1 hg).1
theorem dE.of_block(h:dE w e v bs)(hb: ∀k,v.ownBlock=some k->w'.heap[k]? = w.heap[k]?):dE w' e v bs:=by
 rcases h with h| ⟨g,cap,cur,fz,rfl,hg,r⟩
 ·exact .inl h
 ·exact .inr ⟨g,cap,cur,fz,rfl,by rw[hb g rfl];exact hg,r⟩
theorem dE.kept{S:Nat->Prop}(h:dE w e v bs)(hk:Kept S w w')(hS: ∀k,v.ownBlock=some k->¬S k):dE w' e v bs:=
 h.of_block λk hv=>hk.block k (h.lt hv) (hS k hv)
theorem dE.drew(h:dE w e v bs):dE w.drew e v bs:=h
theorem dE.drewN(h:dE w e v bs)(n:Nat):dE (w.drewN n) e v bs:=h
theorem dE.alloc(h:dE w e v bs)(o:Obj):dE (w.alloc o) e v bs:=h.of_block λk hv=>Below.heap_alloc w o k (h.lt hv)
theorem dE.setCell(h:dE w e v bs){p:Addr}(hp:v.ownBlock≠some p.block)(u:Value):dE (w.setCell p u) e v bs:=
 h.of_block λk hv=>Below.heap_setCell w p u k λe=>hp (by rw[hv,e])
theorem dE.grown{row:Option Nat}(h:dE w e v bs)(hg:w.grownBy w' row)(RP: ∀k,v.ownBlock=some k->some k≠row):dE w' e v bs:=
 h.of_block λk hv=>hg.block k (h.lt hv) (RP k hv)
theorem dE.form(h:dE w e v bs): ∃A cap,v = .slice A bs.length cap∧cap<=maxLen∧bs.length<=cap∧(bs≠[]->∃g,A=some ⟨g,0,none⟩ ∧v.ownBlock=some g):=by
 rcases h with⟨rfl,rfl⟩ | ⟨g,cap,cur,fz,rfl,hg,hf,h1,h2,_⟩
 ·exact⟨none,0,rfl,Nat.zero_le _,Nat.le_refl _,λh=>absurd rfl h⟩
 ·exact⟨_,cap,rfl,h2,h1,λ_=>⟨g,rfl,rfl⟩⟩
theorem dE.cells(h:dE w e v bs){g:Nat}(hg:v.ownBlock=some g)(j:Nat)(hj:j<bs.length):w.cell? (g,j)=some (.int .u8 ((bs[j]).toNat:Int)):=by
 rcases h with⟨rfl,_⟩ | ⟨g',cap,cur,fz,rfl,hgg,hf,h1,h2,h3,h4⟩
 ·simp[Value.ownBlock]at hg
 ·have:g'=g:=by simpa [Value.ownBlock]using hg
  subst this
  rw[cell_of_row w g' j cur e fz hgg]
  have hx: (cur.toList.take bs.length)[j]? = (ah bs)[j]? :=by rw[h4]
  rw[List.getElem?_take,if_pos hj]at hx
  simpa [ah,hj]using hx
theorem dE.frozen(h:dE w e v bs){g:Nat}(hg:v.ownBlock=some g)(j:Nat)(hj:j<bs.length):w.frozen? (g,j)=false:=by
 rcases h with⟨rfl,_⟩ | ⟨g',cap,cur,fz,rfl,hgg,hf,h1,h2,h3,h4⟩
 ·simp[Value.ownBlock]at hg
 ·have:g'=g:=by simpa [Value.ownBlock]using hg
  subst this
  obtain⟨lo,hi⟩:=fz
  simp only[World.frozen?,hgg,Bool.and_eq_false_iff,decide_eq_false_iff_not]
  unfold Clear at hf
  simp only at hf
  omega
theorem dE.bE(h:dE w e v bs){g:Nat}(hg:v.ownBlock=some g)(j:Nat)(hj:j<bs.length)(c:UInt8)(d:Int)(hd:d= (c.toNat:Int)):dE (w.setCell (g,j) (.int .u8 d)) e v (bs.set j c):=by
 subst hd
 rcases h with⟨rfl,_⟩ | ⟨g',cap,cur,fz,rfl,hgg,hf,h1,h2,h3,h4⟩
 ·simp[Value.ownBlock]at hg
 ·have:g'=g:=by simpa [Value.ownBlock]using hg
  subst this
  refine .inr ⟨g',cap,cur.setIfInBounds j (.int .u8 (c.toNat:Int)),fz,by rw[List.length_set],?_,hf,by rw[List.length_set];exact h1,h2,by simpa using h3,?_⟩
  ·simp[World.setCell,Array.getElem?_modify,hgg]
  ·rw[Array.toList_setIfInBounds,List.length_set,List.take_set,h4]
   simp[ah,List.map_set]
theorem dE.pA(h:dE w e v bs)(src dst:TypeId)(hs:P.underlying src=some (.slice e))(he:P.underlying e=some (.int .u8))(hd:P.underlying dst=some .string):
 (convert src dst v).run P w = .ok (.string ⟨bs.toArray⟩) w:=by
 rcases id h with⟨rfl,rfl⟩ | ⟨g,cap,cur,fz,rfl,hg,_⟩
 ·exact run_convert_bytes_nil w src e hs he 0 0 dst hd
 ·refine run_convert_bytes_back w src dst e ⟨g,0,none⟩ cap bs hs he hd λj hj=> ?_
  have he3: (⟨g,0,none⟩:Addr).add j= ⟨g,j,none⟩:=by unfold Addr.add;split<;>simp_all
  rw[he3]
  exact h.cells rfl j hj
theorem dE.of_string(w:World)(e:TypeId)(s:ByteArray)(hs:s.size<=maxLen):dE (bytesWorld w e s) e (.slice w.heap.size s.size (grownCap w s.size 0 e)) s.data.toList:=by
 have Ud:=grownCap_ge w s.size 0 e
 have hle:=grownCap_le_maxLen w s.size 0 e hs
 have hl:s.data.toList.length=s.size:=by rw[Array.length_toList];rfl
 have hsz:s.data.size=s.size:=rfl
 have hc: (bytesCells w e s).size=grownCap w s.size 0 e:=by
  unfold bytesCells
  simp only[Array.size_append,Array.size_map,Array.size_replicate]
  omega
 refine .inr ⟨w.heap.size,grownCap w s.size 0 e,bytesCells w e s,_,by rw[hl],bytesWorld_at_new w e s,.inr (by simp only[hc];exact Nat.le_refl _),by omega,hle,hc,?_⟩
 unfold bytesCells
 rw[Array.toList_append,List.take_append_of_le_length (by simp),List.take_of_length_le (by simp)]
 simp[ah]
theorem qm(w:World)(e:TypeId)(s:ByteArray):Kept Nob w (bytesWorld w e s):=
 ⟨rfl,rfl,rfl,by rw[bytesWorld_size];omega,λk hk _=>bytesWorld_at_old w e s k hk⟩
structure dX(w w':World)(e:TypeId)(v:Value)(v':Value)(bs:List UInt8):Prop where
 row:dE w' e v' bs
 grown:w.grownBy w' v.ownBlock
 cV:v'.ownBlock=v.ownBlock∨v'.ownBlock=some w.heap.size
theorem dX.kept{v':Value}(h:dX w w' e v v' bs):Kept (λk=>v.ownBlock=some k) w w':=
 ⟨h.grown.os,h.grown.tape,h.grown.output,h.grown.size,λk hk hs=>h.grown.block k hk (λe=>hs e.symm)⟩
end
def yT(e:TypeId)(v:Value)(bs:List UInt8):Asr where
 holds w F:=dE w e v bs∧∀k,F k↔v.ownBlock=some k
 lt h hk:=h.1.lt ((h.2 _).1 hk)
 kept h hk hT:=⟨h.1.kept hk λk hv=>hT k ((h.2 k).2 hv),h.2⟩
section
variable {w0 w w':World}{L:List Asr}{e:TypeId}{v v':Value}{bs bs':List UInt8}
theorem At.row(h:At w0 w (yT e v bs::L)):dE w e v bs:=by obtain⟨F,hF⟩:=h.first;exact hF.1
theorem At.AS(h:At w0 w (yT e v bs::L))(hg:dX w w' e v v' bs'):At w0 w' (yT e v' bs'::L):=
 h.step λF hF=>⟨λk=>v'.ownBlock=some k,⟨hg.row,λ_=>Iff.rfl⟩,hg.kept.mono (λk hk=>(hF.2 k).2 hk),λk hk=>by
  rcases hg.cV with h1|h1
  ·exact .inl ((hF.2 k).2 (h1▸hk))
  ·exact .inr (Nat.le_of_eq (Option.some.inj (h1.symm.trans hk)))⟩
theorem At.bytes(h:At w0 w L)(e:TypeId)(s:ByteArray)(hs:s.size<=maxLen):At w0 (bytesWorld w e s) (yT e (.slice w.heap.size s.size (grownCap w s.size 0 e)) s.data.toList::L):=
 h.add (A:=yT e (.slice w.heap.size s.size (grownCap w s.size 0 e)) s.data.toList) (F':=λk=>k=w.heap.size) ⟨dE.of_string w e s hs,λk=>by simp[Value.ownBlock];exact eq_comm⟩ (qm w e s) (λk hk=>Nat.le_of_eq hk.symm)
theorem At.aS(h:At w0 w (yT e v bs::L)){g:Nat}(hg:v.ownBlock=some g)(j:Nat)(hj:j<bs.length)(c:UInt8)(d:Int)(hd:d= (c.toNat:Int)):At w0 (w.setCell (g,j) (.int .u8 d)) (yT e v (bs.set j c)::L):=
 h.step λF hF=>⟨F,⟨hF.1.bE hg j hj c d hd,hF.2⟩,Kept.setCell (Kept.refl _ _) (.inl ((hF.2 _).2 hg)) _,λ_ h=> .inl h⟩
end
theorem po{w w':World}{e:TypeId}{size n:Nat}{v:Value}{xs:List Value}(h:w.ownsRow 0 e size v n xs)(hb: ∀k,v.ownBlock=some k->w'.heap[k]? = w.heap[k]?):w'.ownsRow 0 e size v n xs:=by
 obtain⟨hx,h| ⟨g,cap,cur,rfl,hg,hc,r⟩⟩:=h
 ·exact⟨hx,.inl h⟩
 ·exact⟨hx,.inr ⟨g,cap,cur,rfl,hg,(hb g rfl).trans hc,r⟩⟩
theorem nZ{w:World}{b:Nat}{e:TypeId}{size n:Nat}{v:Value}{xs:List Value}(h:w.ownsRow b e size v n xs):w.drew.ownsRow b e size v n xs:=h
def iv(e:TypeId)(size:Nat)(v:Value)(n:Nat)(xs:List Value):Asr where
 holds w F:=w.ownsRow 0 e size v n xs∧∀k,F k↔v.ownBlock=some k
 lt h hk:=(h.1.lt _ ((h.2 _).1 hk)).2
 kept h hk hT:=⟨po h.1 λk hv=>hk.block k (h.1.lt _ hv).2 (hT k ((h.2 _).2 hv)),h.2⟩
end Go.Proofs.YtilaogbkdbbdkaaGreatDoor
namespace Go.Proofs.YtilaogbkdbbdkaaGreatDoor.LawF
open Go.ChangeShapes Go.WideShapes Go.ChangeAt Go.RowKit Go.Deep
open Go.WideMaps Go.WideElems
open Go.ChangeMaps (open_string)
theorem own:ownKnob prog.godebug=none:=by kernel_rfl
theorem laidOut:laidOutB prog=true:=by kernel_rfl
section
variable {H:Type}{enc:TypeId×Value->H}{P:Program}{w:World}
theorem mn(hl:laidOutB P=true){W W':World}(hb:Below W.heap.size W W'): ∀(ts:List TypeId) (vs:List Value) (ds:List (DataW H)) (ps:List MemPlace),(∀t∈ts,P.readableRec t=true∧t<P.types.size)->
 DataW.TrodAll enc P W 0 (λ_=>true) true ts vs ds ps->(∀x∈ps,x.block<W.heap.size)->DataW.TrodAll enc P W' 0 (λb=>decide (b<W.heap.size)) true ts vs ds ps
 | [],[],[],_,_,h,_=>h
 | t::ts,v::vs,d::ds,ps,hr,h,Rd=>by
   obtain⟨p,q,h1,h2,rfl⟩:=h
   exact⟨p,q,Below.trod hl (hr t (by simp)).1 (hr t (by simp)).2 h1 hb (λx hx=>Rd x (by simp[hx])),mn hl hb ts vs ds q (λt ht=>hr t (by simp[ht])) h2 (λx hx=>Rd x (by simp[hx])),rfl⟩
 | [],_::_,_,_,_,h,_=>h.elim
 | [],[],_::_,_,_,h,_=>h.elim
 | _::_,[],_,_,_,h,_=>h.elim
 | _::_,_::_,[],_,_,h,_=>h.elim
theorem law_post(hl:laidOutB P=true){f:Func}{s:ChangeSpec}{tb:TypeId}(hv:s.vars = [])(Rq:f.resultTypes=#[tb])(hb:P.underlying tb=some .bool)(hr: ∀t∈f.params.toList,P.readableRec t=true∧t<P.types.size)
 {W W':World} {args:Array Value} {ds gs:List (DataW H)} {before:List MemPlace} (hW:DataW.Whole enc P f.params.toList s.vars false W args.toList ds gs before)
 (h1: (s.fn H (ds++gs)).results = [.lit (.bool true)]) (h2: (s.fn H (ds++gs)).args=ds) (h3: (s.fn H (ds++gs)).vars = []) (Q9:Below W.heap.size W W'):
 s.post enc P f false true false false W args (.bool true) W':=by
 obtain⟨p,q,hA,hV,ZN,hfz,hnd⟩:=hW
 have Rd: ∀x∈p,x.block<W.heap.size:=λx hx=>DataW.Whole.lt (enc:=enc) (P:=P) (vars:=s.vars) (apart:=false) ⟨p,q,hA,hV,rfl,ZN▸hfz,λh=>by cases h⟩ x (by simp[hx])
 refine⟨ds,gs,before,[],p,[],⟨p,q,hA,hV,ZN,hfz,hnd⟩,?_,?_,?_,Q9.frame _,λh=>by cases h⟩
 ·rw[h1,Rq]
  exact trodAll_mk1 (shut_bool hb true)
 ·rw[h2]
  exact mn hl Q9 _ _ _ _ hr hA Rd
 ·rw[hv,h3]
  rfl
theorem all_readable{P:Program}{l:List TypeId}(h: (l.all λt=>P.readableRec t&&decide (t<P.types.size))=true): ∀t∈l,P.readableRec t=true∧t<P.types.size:=by
 intro t ht
 have:=List.all_eq_true.1 h t ht
 simpa using this
def yI(n:Int):Prop:= -9223372036854775808<=n∧n<=9223372036854775807
theorem gA{n:Int}(h: (Lit.int .i64 n).wf=true):yI n:=by
 simpa [yI,Lit.wf,IntKind.min,IntKind.max,IntKind.signed,IntKind.bits]using h
theorem arg_int{base:Nat}{t:TypeId}{v:Value}{d:DataW H}{ps:List MemPlace}(ht:P.underlying t=some (.int .i64))(hval:Value.okWide P w .any base t v)(hd:DataW.Trod enc P w 0 (λ_=>true) true t v d ps):
 ∃n,v = .int .i64 n∧yI n:=by
 obtain⟨n,rfl,_,_,hn⟩:=open_int ht hval hd
 exact⟨n,rfl,gA hn⟩
theorem arg_string{base:Nat}{t:TypeId}{v:Value}{d:DataW H}{ps:List MemPlace}(ht:P.underlying t=some .string)(hval:Value.okWide P w .any base t v)(hd:DataW.Trod enc P w 0 (λ_=>true) true t v d ps):
 ∃s:ByteArray,v = .string s∧s.size<=maxLen∧d = .lit (.string s.data.toList):=by
 obtain⟨s,rfl,YX,_,hs⟩:=open_string ht hval hd
 exact⟨s,rfl,hs,YX⟩
