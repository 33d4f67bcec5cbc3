/- Maps as objects: what each key holds, in plain words. Plain lemmas over the kit's World.ownsMap. -/
import Derived.Test.YteaijdgnagkllaaGreatDoorZd03
import Derived.Maps.Ext
import Derived.Lib.ConvBytes
namespace Go.Proofs.YteaijdgnagkllaaGreatDoor
set_option linter.unusedVariables false
set_option linter.unusedSimpArgs false
open Go.RowKit Go.Lib
open Go.Maps (Keyed)
namespace Vm
abbrev Dt:=DataW Unit
def Reads(D:Dt)(f:Lit->Option Dt):Prop:= ∀kl,Maps.has D kl= (f kl).isSome∧∀d,f kl=some d->∀z,D.atKey kl z=d
structure Upd(f f':Lit->Option Dt)(k:Lit)(d:Dt):Prop where
 here:f' k=some d
 far: ∀k',k'≠k->f' k'=f k'
theorem Reads.none_:Reads (.map []) (λ_=>none):=λkl=>⟨rfl,λ_ h=>by cases h⟩
theorem Reads.put{D:Dt}{f f':Lit->Option Dt}(h:Reads D f)(hD:Maps.IsMap D){k:Lit}(hk:WideAt.IsKeyLit k){d:Dt}(hu:Upd f f' k d):Reads (D.put k d) f':=by
 intro kl
 by_cases he:kl=k
 ·subst he
  rw[hu.here]
  exact⟨Maps.has_put_same hD hk d,λd' hd' z=>by cases hd';exact Maps.atKey_put_same hD hk d z⟩
 ·rw[hu.far kl he,Maps.has_put_other he]
  exact⟨(h kl).1,λd' hd' z=>by rw[Maps.atKey_put_other he];exact(h kl).2 d' hd' z⟩
theorem Reads.at_{D:Dt}{f:Lit->Option Dt}(h:Reads D f)(k:Lit)(z:Dt):D.atKey k z= (f k).getD z:=by
 rcases hf:f k with _|d
 ·exact Maps.atKey_of_not_has (by rw[(h k).1,hf];rfl) z
 ·exact(h k).2 d hf z
def MapG(K:TypeId)(R:Value->Option (Dt×List MemPlace))(b n:Nat)(f:Lit->Option Dt):Asr where
 holds w F:=(∃D,w.ownsMap Tryz.prog K R b n D∧Reads D f)∧∀k,F k↔k=b
 lt h hk:=by have:=(h.2 _).1 hk;subst this;obtain⟨⟨D,h1,_⟩,_⟩:=h;exact h1.lt
 kept h hk hT:=by
  obtain⟨⟨D,h1,h2⟩,hF⟩:=h
  refine⟨⟨D,?_,h2⟩,hF⟩
  have hb:=hk.block _ h1.lt (hT _ ((hF _).2 rfl))
  obtain⟨es,clock,h3,r⟩:=h1
  exact⟨es,clock,hb.trans h3,r⟩
theorem MapG.look1{w:World}{F:Nat->Prop}{K t e:TypeId}{R:Value->Option (Dt×List MemPlace)}{b n:Nat}{f:Lit->Option Dt}(h: (MapG K R b n f).holds w F)(Kd:Keyed Tryz.prog K)(ht:Tryz.prog.underlying t=some (.map K e)){z:Value}(hz: (zeroValue e).run Tryz.prog w = .ok z w){zd:Dt}{zp:List MemPlace}(hzd:R z=some (zd,zp))
 {key:Value} {kl:Lit} (hkey:keyOf Tryz.prog K key=some kl): ∃v ps,(Instr.lookup t (.map (some b)) key false).run Tryz.prog w = .ok v w∧R v=some ((f kl).getD zd,ps):=by
 obtain⟨⟨D,h1,h2⟩,_⟩:=h
 obtain⟨v,ps,h3,h4⟩:=h1.lookup Kd ht hz hzd hkey
 rw[h2.at_]at h4
 exact⟨v,ps,h3,h4⟩
theorem MapG.store{w:World}{F:Nat->Prop}{K t e:TypeId}{R:Value->Option (Dt×List MemPlace)}{b n:Nat}{f:Lit->Option Dt}(h: (MapG K R b n f).holds w F)(Kd:Keyed Tryz.prog K)(ht:Tryz.prog.underlying t=some (.map K e))(hn:n<maxLen){key val:Value}{kl:Lit}{d:Dt}{ps:List MemPlace}
 (hkey:keyOf Tryz.prog K key=some kl) (hv:R val=some (d,ps)) {f':Lit->Option Dt} (hu:Upd f f' kl d): ∃w',(Instr.mapUpdate t (.map (some b)) key val).run Tryz.prog w = .ok () w'∧(MapG K R b (n+1) f').holds w' F∧Kept F w w':=by
 obtain⟨⟨D,h1,h2⟩,hF⟩:=h
 obtain⟨w',h3,h4,h5⟩:=h1.update Kd ht hn hkey hv
 refine⟨w',h3,⟨⟨_,h4,h2.put h1.isMap (Kd.key hkey) hu⟩,hF⟩,?_⟩
 exact(Kept.refl F w).grown h5 (λk hk=>by cases hk;exact .inl ((hF _).2 rfl))
theorem MapG.new(w:World)(K:TypeId)(R:Value->Option (Dt×List MemPlace)): (MapG K R w.heap.size 0 (λ_=>none)).holds (w.alloc (.map #[] 0)) (λk=>k=w.heap.size):=
 ⟨⟨_,World.ownsMap_made w Tryz.prog K R,Reads.none_⟩,λ_=>Iff.rfl⟩
theorem On.mapA{w w':World}{F:Nat->Prop}{L:List Asr}(h:On F w (AllA L) w')(K:TypeId)(R:Value->Option (Dt×List MemPlace)):On F w (AllA (MapG K R w'.heap.size 0 (λ_=>none)::L)) (w'.alloc (.map #[] 0)):=by
 refine h.step λF' ha=> ?_
 refine⟨λk=>k=w'.heap.size∨F' k,⟨λk=>k=w'.heap.size,F',MapG.new w' K R,ha.kept ((Kept.refl Nob w').alloc _) (λ_ _ h=>h),λk a b=> ?_,λ_=>Iff.rfl⟩,(Kept.refl F' w').alloc _,?_⟩
 ·have:=All.lt ha b;omega
 ·rintro k (h|h)
  ·exact .inr (by omega)
  ·exact .inl h
theorem On.outB{w w':World}{A:Asr}(h:On Nob w A w'):Below w.heap.size w w':=let⟨_,_,hk,_⟩:=h;hk.below0
end Vm
def Own(B:Nat)(w:World)(e:TypeId)(v:Value)(bs:List UInt8):Prop:=w.ownsRow B e 1 v bs.length (bcells bs)
theorem Own.nil(B:Nat)(w:World)(e:TypeId):Own B w e (.slice none 0 0) []:=World.ownsRow_nil w B e 1
def Clear(fz:Nat×Nat)(sz:Nat):Prop:=fz.2=0∨sz<=fz.1
def RowB(w:World)(e:TypeId)(v:Value)(bs:List UInt8):Prop:=
 (v = .slice none 0 0∧bs = [])∨
 ∃g cap cur fz,v = .slice (some ⟨g,0,none⟩) bs.length cap∧w.heap[g]? = some (.cells cur e fz)∧Clear fz cap∧bs.length<=cap∧cap<=maxLen∧cur.size=cap∧cur.toList.take bs.length=bcells bs
section
variable {P:Program}{w w':World}{e:TypeId}{v:Value}{bs:List UInt8}
theorem RowB.nil(w:World)(e:TypeId):RowB w e (.slice none 0 0) []:= .inl ⟨rfl,rfl⟩
theorem RowB.lt(h:RowB w e v bs){k:Nat}(hk:v.ownBlock=some k):k<w.heap.size:=by
 rcases h with⟨rfl,_⟩ | ⟨g,cap,cur,fz,rfl,hg,_⟩
 ·simp[Value.ownBlock]at hk
 ·have:g=k:=by simpa [Value.ownBlock]using hk
  subst this
  exact(Array.getElem?_eq_some_iff.1 hg).1
theorem RowB.of_block(h:RowB w e v bs)(hb: ∀k,v.ownBlock=some k->w'.heap[k]? = w.heap[k]?):RowB w' e v bs:=by
 rcases h with h| ⟨g,cap,cur,fz,rfl,hg,r⟩
 ·exact .inl h
 ·exact .inr ⟨g,cap,cur,fz,rfl,by rw[hb g rfl];exact hg,r⟩
theorem RowB.kept{S:Nat->Prop}(h:RowB w e v bs)(hk:Kept S w w')(hS: ∀k,v.ownBlock=some k->¬S k):RowB w' e v bs:=
 h.of_block λk hv=>hk.block k (h.lt hv) (hS k hv)
theorem RowB.drew(h:RowB w e v bs):RowB w.drew e v bs:=h
theorem RowB.drewN(h:RowB w e v bs)(n:Nat):RowB (w.drewN n) e v bs:=h
theorem RowB.alloc(h:RowB w e v bs)(o:Obj):RowB (w.alloc o) e v bs:=h.of_block λk hv=>Below.heap_alloc w o k (h.lt hv)
theorem RowB.setCell(h:RowB w e v bs){p:Addr}(hp:v.ownBlock≠some p.block)(u:Value):RowB (w.setCell p u) e v bs:=
 h.of_block λk hv=>Below.heap_setCell w p u k λe=>hp (by rw[hv,e])
theorem RowB.grown{row:Option Nat}(h:RowB w e v bs)(hg:w.grownBy w' row)(hne: ∀k,v.ownBlock=some k->some k≠row):RowB w' e v bs:=
 h.of_block λk hv=>hg.block k (h.lt hv) (hne k hv)
theorem RowB.form(h:RowB w e v bs): ∃A cap,v = .slice A bs.length cap∧cap<=maxLen∧bs.length<=cap∧(bs≠[]->∃g,A=some ⟨g,0,none⟩ ∧v.ownBlock=some g):=by
 rcases h with⟨rfl,rfl⟩ | ⟨g,cap,cur,fz,rfl,hg,hf,h1,h2,_⟩
 ·exact⟨none,0,rfl,Nat.zero_le _,Nat.le_refl _,λh=>absurd rfl h⟩
 ·exact⟨_,cap,rfl,h2,h1,λ_=>⟨g,rfl,rfl⟩⟩
theorem RowB.cells(h:RowB w e v bs){g:Nat}(hg:v.ownBlock=some g)(j:Nat)(hj:j<bs.length):w.cell? (g,j)=some (.int .u8 ((bs[j]).toNat:Int)):=by
 rcases h with⟨rfl,_⟩ | ⟨g',cap,cur,fz,rfl,hgg,hf,h1,h2,h3,h4⟩
 ·simp[Value.ownBlock]at hg
 ·have:g'=g:=by simpa [Value.ownBlock]using hg
  subst this
  rw[cell_of_row w g' j cur e fz hgg]
  have hx: (cur.toList.take bs.length)[j]? = (bcells bs)[j]? :=by rw[h4]
  rw[List.getElem?_take,if_pos hj]at hx
  simpa [bcells,hj]using hx
theorem RowB.frozen(h:RowB w e v bs){g:Nat}(hg:v.ownBlock=some g)(j:Nat)(hj:j<bs.length):w.frozen? (g,j)=false:=by
 rcases h with⟨rfl,_⟩ | ⟨g',cap,cur,fz,rfl,hgg,hf,h1,h2,h3,h4⟩
 ·simp[Value.ownBlock]at hg
 ·have:g'=g:=by simpa [Value.ownBlock]using hg
  subst this
  obtain⟨lo,hi⟩:=fz
  simp only[World.frozen?,hgg,Bool.and_eq_false_iff,decide_eq_false_iff_not]
  unfold Clear at hf
  simp only at hf
  omega
theorem RowB.set_(h:RowB w e v bs){g:Nat}(hg:v.ownBlock=some g)(j:Nat)(hj:j<bs.length)(c:UInt8)(d:Int)(hd:d= (c.toNat:Int)):RowB (w.setCell (g,j) (.int .u8 d)) e v (bs.set j c):=by
 subst hd
 rcases h with⟨rfl,_⟩ | ⟨g',cap,cur,fz,rfl,hgg,hf,h1,h2,h3,h4⟩
 ·simp[Value.ownBlock]at hg
 ·have:g'=g:=by simpa [Value.ownBlock]using hg
  subst this
  refine .inr ⟨g',cap,cur.setIfInBounds j (.int .u8 (c.toNat:Int)),fz,by rw[List.length_set],?_,hf,by rw[List.length_set];exact h1,h2,by simpa using h3,?_⟩
  ·simp[World.setCell,Array.getElem?_modify,hgg]
  ·rw[Array.toList_setIfInBounds,List.length_set,List.take_set,h4]
   simp[bcells,List.map_set]
theorem RowB.to_string(h:RowB w e v bs)(src dst:TypeId)(hs:P.underlying src=some (.slice e))(he:P.underlying e=some (.int .u8))(hd:P.underlying dst=some .string):
 (convert src dst v).run P w = .ok (.string ⟨bs.toArray⟩) w:=by
 rcases id h with⟨rfl,rfl⟩ | ⟨g,cap,cur,fz,rfl,hg,_⟩
 ·exact run_convert_bytes_nil w src e hs he 0 0 dst hd
 ·refine run_convert_bytes_back w src dst e ⟨g,0,none⟩ cap bs hs he hd λj hj=> ?_
  have hadd: (⟨g,0,none⟩:Addr).add j= ⟨g,j,none⟩:=by unfold Addr.add;split<;>simp_all
  rw[hadd]
  exact h.cells rfl j hj
theorem RowB.of_string(w:World)(e:TypeId)(s:ByteArray)(hs:s.size<=maxLen):RowB (bytesWorld w e s) e (.slice w.heap.size s.size (grownCap w s.size 0 e)) s.data.toList:=by
 have hge:=grownCap_ge w s.size 0 e
 have hle:=grownCap_le_maxLen w s.size 0 e hs
 have hl:s.data.toList.length=s.size:=by rw[Array.length_toList];rfl
 have hsz:s.data.size=s.size:=rfl
 have hc: (bytesCells w e s).size=grownCap w s.size 0 e:=by
  unfold bytesCells
  simp only[Array.size_append,Array.size_map,Array.size_replicate]
  omega
 refine .inr ⟨w.heap.size,grownCap w s.size 0 e,bytesCells w e s,_,by rw[hl],bytesWorld_at_new w e s,.inr (by simp only[hc];exact Nat.le_refl _),by omega,hle,hc,?_⟩
 unfold bytesCells
 rw[Array.toList_append,List.take_append_of_le_length (by simp),List.take_of_length_le (by simp)]
 simp[bcells]
theorem bytesWorld_kept(w:World)(e:TypeId)(s:ByteArray):Kept Nob w (bytesWorld w e s):=
 ⟨rfl,rfl,rfl,by rw[bytesWorld_size];omega,λk hk _=>bytesWorld_at_old w e s k hk⟩
structure Grew(w w':World)(e:TypeId)(v:Value)(v':Value)(bs:List UInt8):Prop where
 row:RowB w' e v' bs
 grown:w.grownBy w' v.ownBlock
 lies:v'.ownBlock=v.ownBlock∨v'.ownBlock=some w.heap.size
theorem Grew.kept{v':Value}(h:Grew w w' e v v' bs):Kept (λk=>v.ownBlock=some k) w w':=
 ⟨h.grown.os,h.grown.tape,h.grown.output,h.grown.size,λk hk hs=>h.grown.block k hk (λe=>hs e.symm)⟩
end
def RowA(e:TypeId)(v:Value)(bs:List UInt8):Asr where
 holds w F:=RowB w e v bs∧∀k,F k↔v.ownBlock=some k
 lt h hk:=h.1.lt ((h.2 _).1 hk)
 kept h hk hT:=⟨h.1.kept hk λk hv=>hT k ((h.2 k).2 hv),h.2⟩
section
variable {w0 w w':World}{L:List Asr}{e:TypeId}{v v':Value}{bs bs':List UInt8}
theorem At.row(h:At w0 w (RowA e v bs::L)):RowB w e v bs:=by obtain⟨F,hF⟩:=h.first;exact hF.1
theorem At.bytes(h:At w0 w L)(e:TypeId)(s:ByteArray)(hs:s.size<=maxLen):At w0 (bytesWorld w e s) (RowA e (.slice w.heap.size s.size (grownCap w s.size 0 e)) s.data.toList::L):=
 h.add (A:=RowA e (.slice w.heap.size s.size (grownCap w s.size 0 e)) s.data.toList) (F':=λk=>k=w.heap.size) ⟨RowB.of_string w e s hs,λk=>by simp[Value.ownBlock];exact eq_comm⟩ (bytesWorld_kept w e s) (λk hk=>Nat.le_of_eq hk.symm)
theorem At.setByte(h:At w0 w (RowA e v bs::L)){g:Nat}(hg:v.ownBlock=some g)(j:Nat)(hj:j<bs.length)(c:UInt8)(d:Int)(hd:d= (c.toNat:Int)):At w0 (w.setCell (g,j) (.int .u8 d)) (RowA e v (bs.set j c)::L):=
 h.step λF hF=>⟨F,⟨hF.1.set_ hg j hj c d hd,hF.2⟩,Kept.setCell (Kept.refl _ _) (.inl ((hF.2 _).2 hg)) _,λ_ h=> .inl h⟩
end
theorem ownsRow_of_block{w w':World}{e:TypeId}{size n:Nat}{v:Value}{xs:List Value}(h:w.ownsRow 0 e size v n xs)(hb: ∀k,v.ownBlock=some k->w'.heap[k]? = w.heap[k]?):w'.ownsRow 0 e size v n xs:=by
 obtain⟨hx,h| ⟨g,cap,cur,rfl,hg,hc,r⟩⟩:=h
 ·exact⟨hx,.inl h⟩
 ·exact⟨hx,.inr ⟨g,cap,cur,rfl,hg,(hb g rfl).trans hc,r⟩⟩
theorem ownsRow_drew{w:World}{b:Nat}{e:TypeId}{size n:Nat}{v:Value}{xs:List Value}(h:w.ownsRow b e size v n xs):w.drew.ownsRow b e size v n xs:=h
def RowK(e:TypeId)(size:Nat)(v:Value)(n:Nat)(xs:List Value):Asr where
 holds w F:=w.ownsRow 0 e size v n xs∧∀k,F k↔v.ownBlock=some k
 lt h hk:=(h.1.lt _ ((h.2 _).1 hk)).2
 kept h hk hT:=⟨ownsRow_of_block h.1 λk hv=>hk.block k (h.1.lt _ hv).2 (hT k ((h.2 _).2 hv)),h.2⟩
end Go.Proofs.YteaijdgnagkllaaGreatDoor
