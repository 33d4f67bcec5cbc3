/- Chapter 11. No condition. -/
import Derived.Test.YtilaogbkdbbdkaaGreatDoorZ33
open Go.Proofs.Tryz
namespace Go.Proofs.YtilaogbkdbbdkaaGreatDoor
set_option linter.unusedVariables false
set_option maxRecDepth 100000
open Go.ChangeShapes Go.WideShapes Go.ChangeAt Go.RowKit Go.Lib Go.Deep
open Go.WideMaps Go.WideElems
namespace Vm
theorem pG{α:Type}(R:Nat->α->Prop): ∀(n:Nat),(∀i,i<n->∃x,R i x)->∃l:List α,l.length=n∧∀i x,l[i]? = some x->R i x
 | 0,_=>⟨[],rfl,λi x h=>by simp at h⟩
 | n+1,h=>by
   obtain⟨l,hl,hx⟩:=pG R n λi hi=>h i oM
   obtain⟨y,hy⟩:=h n oM
   refine⟨l ++ [y],by simp[hl],λi x hi=> ?_⟩
   by_cases Se:i<n
   ·rw[List.getElem?_append_left oM]at hi
    exact hx i x hi
   ·have h2:i< (l ++ [y]).length:=(List.getElem?_eq_some_iff.1 hi).1
    simp only[List.length_append,hl,List.length_singleton]at h2
    obtain rfl:i=n:=by omega
    rw[List.getElem?_append_right oM,hl,Nat.sub_self]at hi
    obtain rfl:y=x:=by simpa using hi
    exact hy
section
variable {H:Type}{enc:TypeId×Value->H}{P:Program}{w:World}
theorem oX{e:TypeId}{fs:Array Field}{cs:List Value}{m:Nat}{x:DataW H×List MemPlace}(he:P.underlying e=some (.struct fs))(SM:oneCellFields P fs=true)(hC:P.cellsOf e=fs.size)(h:DataW.trod enc P w 0 (λ_=>true) true m e cs=some x):
 cs.length=fs.size∧∀(j:Nat) (f:Field),fs[j]? = some f->∃(u:Value) (y:DataW H×List MemPlace) (n:Nat),cs[j]? = some u∧DataW.trod enc P w 0 (λ_=>true) true n f.type [u]=some y:=by
 obtain⟨ys,n',hn',hy,hlen,hyl,ZU⟩:=DataW.trod_struct he h
 rw[hC]at hlen
 refine⟨hlen,λj f hj=> ?_⟩
 obtain⟨ho,hk⟩:=hone_of SM j f hj
 have RQ:j<fs.size:=(Array.getElem?_eq_some_iff.1 hj).1
 have hv:cs[j]? = some (cs[j]' oM):=List.getElem?_eq_getElem oM
 have h1:=ZU j f hj
 rw[ho,hk]at h1
 have Uz: (cs.drop j).take 1 = [cs[j]' oM]:=by
  rw[List.drop_eq_getElem_cons oM]
  rfl
 rw[Uz]at h1
 have hys:ys[j]? = some (ys[j]' oM):=List.getElem?_eq_getElem oM
 exact⟨_,_,n',hv,h1.trans hys⟩
theorem xg{a:Addr}{v:Value}(h:w.cell? (a.add 0)=some v): ∃b o,a= ⟨b,o,none⟩ ∧b<w.heap.size:=by
 obtain⟨b,off,spot⟩:=a
 have hgk:spot=none:=by simpa [Addr.add]using World.cell?_spot h
 subst hgk
 rw[Go.WideShapes.add_plain]at h
 exact⟨b,off,rfl,World.block_lt_of_cell? w _ h⟩
theorem wK{t e:TypeId}{m:Nat}{u:Value}{y:DataW H×List MemPlace}(ht:P.underlying t=some (.slice e))(he:P.underlying e=some (.int .i64))(hc:P.cellsOf e=1)(h:DataW.trod enc P w 0 (λ_=>true) true m t [u]=some y):
 ∃(A:Option Addr) (zs:List Int) (cap:Nat),u = .slice A zs.length cap∧zs.length<=9223372036854775807∧(∀v∈zs,V64 v)∧∀j v,zs[j]? = some v->∃rb o,A=some ⟨rb,o,none⟩ ∧rb<w.heap.size∧w.cell? ⟨rb,o+j,none⟩=some (.int .i64 v):=by
 rcases open_ints ht he hc h with⟨Sb,_⟩ | ⟨a,len,cap,zs,Sb,_,hl,hm,hz,_,th,hwz⟩
 ·obtain rfl:u = .slice none 0 0:=by simpa using Sb
  exact⟨none,[],0,rfl,by simp,(λv hv=>by cases hv),(λj v hj=>by simp at hj)⟩
 ·obtain rfl:u = .slice (some a) len cap:=by simpa using Sb
  simp only[if_true]at hz
  have hmx:maxLen=9223372036854775807:=by decide
  have hlen: (zs.take len).length=len:=by rw[List.length_take];omega
  refine⟨some a,zs.take len,cap,by rw[hlen],by rw[hlen];omega,λv hv=>LawF.gA (hwz v (List.mem_of_mem_take hv)),λj v hj=> ?_⟩
  have RQ:j<len:=by
   have:=(List.getElem?_eq_some_iff.1 hj).1
   omega
  have h1:=th j oM
  have h2:zs.getD j 0=v:=by
   rw[List.getElem?_take,if_pos RQ]at hj
   rw[List.getD_eq_getElem?_getD,hj]
   rfl
  rw[h2]at h1
  obtain⟨b,o,rfl,Rd⟩:=xg (th 0 oM)
  rw[Go.WideShapes.add_plain]at h1
  exact⟨b,o,rfl,Rd,h1⟩
end
section
variable {H:Type}{enc:TypeId×Value->H}{w:World}
theorem wP{m:Nat}{u:Value}{y:DataW H×List MemPlace}(h:DataW.trod enc prog w 0 (λ_=>true) true m 22 [u]=some y):
 ∃(A:Option Addr) (xs:List Wrd) (cap:Nat),u = .slice A xs.length cap∧xs.length<=9223372036854775807∧jQe w.heap.size w Nob A xs:=by
 rcases open_slice underlying22 h with⟨Sb,_⟩ | ⟨a,len,cap,m',n,D,Pl,Sb,_,hl,hm,hmm,_,hi⟩
 ·obtain rfl:u = .slice none 0 0:=by simpa using Sb
  exact⟨none,[],0,rfl,by simp,λj x hj=>by simp at hj⟩
 ·obtain rfl:u = .slice (some a) len cap:=by simpa using Sb
  simp only[if_true]at hmm
  have hmx:maxLen=9223372036854775807:=by decide
  have hC:prog.cellsOf 29=4:=by kernel_rfl
  have SM:=underlying29
  have Zm:0<len->∃b o,a= ⟨b,o,none⟩ ∧b<w.heap.size:=λh0=>by
   obtain⟨cs',hc,ht'⟩:=hi 0 oM
   obtain⟨hlen,hf⟩:=oX (SM) kR kR ht'
   rw[hC]at hc
   obtain⟨_,RX,SU⟩:=World.cells?_some hc
   obtain⟨u0,y0,n0,e0,t0⟩:=hf 0 _ rfl
   have g0:=SU 0 oM
   rw[e0,add_add]at g0
   exact xg g0
  have hR: ∀i,i<len->∃x:Wrd,∃rb o Ax cp,a= ⟨rb,o,none⟩ ∧sj w.heap.size w Nob (some a) i x rb o Ax cp:=by
   intro i hil
   obtain⟨cs',hc,ht'⟩:=hi i oM
   obtain⟨hlen,hf⟩:=oX (SM) kR kR ht'
   rw[hC]at hc
   obtain⟨_,RX,SU⟩:=World.cells?_some hc
   obtain⟨u0,y0,n0,e0,t0⟩:=hf 0 _ rfl
   obtain⟨u1,y1,n1,e1,t1⟩:=hf 1 _ rfl
   obtain⟨u2,y2,n2,e2,t2⟩:=hf 2 _ rfl
   obtain⟨u3,y3,n3,e3,t3⟩:=hf 3 _ rfl
   obtain⟨s,q0,-,w0⟩:=DataW.trod_string underlying9 t0
   obtain⟨b1,q1,-⟩:=DataW.trod_bool underlying4 t1
   obtain⟨b2,q2,-⟩:=DataW.trod_bool underlying4 t2
   obtain⟨Ax,zs,cp,rfl,z1,z2,z3⟩:=wK underlying23 underlying3 kR t3
   simp only[List.cons.injEq,and_true]at q0 q1 q2
   subst q0;subst q1;subst q2
   have g0:=SU 0 oM
   have g1:=SU 1 oM
   have g2:=SU 2 oM
   have g3:=SU 3 oM
   rw[e0,add_add]at g0
   rw[e1,add_add]at g1
   rw[e2,add_add]at g2
   rw[e3,add_add]at g3
   obtain⟨rb,o,rfl,Rd⟩:=Zm oM
   rw[Go.WideShapes.add_plain]at g0 g1 g2 g3
   refine⟨⟨s,b1,b2,zs⟩,rb,o,Ax,cp,rfl,⟨rfl,λh=>h,?_,?_,?_,?_,λj v hj=> ?_,λRP a2 ha2=>⟨λh=>h,?_⟩,(by show s.size<=_;omega),z2,z1⟩⟩
   ·exact g0
   ·rw[Nat.add_assoc];exact g1
   ·rw[Nat.add_assoc];exact g2
   ·rw[Nat.add_assoc];exact g3
   ·obtain⟨rb2,o2,rfl,_,RZ⟩:=z3 j v hj
    refine⟨_,rfl,?_⟩
    rw[Go.WideShapes.add_plain]
    exact RZ
   ·obtain⟨v,hv⟩: ∃v,zs[0]? = some v:=by
     rcases zs with _| ⟨v,zs⟩
     ·exact absurd rfl RP
     ·exact⟨v,rfl⟩
    obtain⟨rb2,o2,h4,h5,_⟩:=z3 0 v hv
    rw[h4]at ha2
    cases ha2
    exact h5
  obtain⟨xs,hx,hxs⟩:=pG _ len hR
  refine⟨some a,xs,cap,by rw[hx],by omega,λj x hj=> ?_⟩
  obtain⟨rb,o,Ax,cp,_,hw⟩:=hxs j x hj
  exact⟨rb,o,Ax,cp,hw⟩
theorem Cq{A:Option Addr}{l:List Int}(h1:l.length<=9223372036854775807)(h2: ∀v∈l,V64 v)(h3: ∀j v,l[j]? = some v->∃rb o,A=some ⟨rb,o,none⟩ ∧rb<w.heap.size∧w.cell? ⟨rb,o+j,none⟩=some (.int .i64 v)):nE w.heap.size w Nob A l:=
 ⟨λj v hj=>by
  obtain⟨rb,o,e,_,hc⟩:=h3 j v hj
  exact⟨rb,o,e,λh=>h,hc⟩,h2,h1⟩
theorem arg_setup{base:Nat}{v:Value}{d:DataW H}{ps:List MemPlace}(hval:Value.okWide prog w .any base 25 v)(hd:DataW.Trod enc prog w 0 (λ_=>true) true 25 v d ps):
 ∃(s:Setup) (m:Sl),v = .agg (ap s m)∧dP w s m∧AD s:=by
 obtain⟨cs,rfl,hsz⟩:=okWide_struct underlying25 hval
 obtain⟨aZ,hf⟩:=hd
 simp only[Value.cells]at hf
 obtain⟨hlen,hx⟩:=oX underlying25 kR kR hf
 obtain⟨u0,y0,n0,e0,t0⟩:=hx 0 _ rfl
 obtain⟨z0,q0,-,w0⟩:=DataW.trod_int underlying3 t0
 obtain⟨u1,y1,n1,e1,t1⟩:=hx 1 _ rfl
 obtain⟨z1,q1,-,w1⟩:=DataW.trod_int underlying3 t1
 obtain⟨u2,y2,n2,e2,t2⟩:=hx 2 _ rfl
 obtain⟨z2,q2,-,w2⟩:=DataW.trod_string underlying9 t2
 obtain⟨u3,y3,n3,e3,t3⟩:=hx 3 _ rfl
 obtain⟨z3,q3,-,w3⟩:=DataW.trod_string underlying9 t3
 obtain⟨u4,y4,n4,e4,t4⟩:=hx 4 _ rfl
 obtain⟨z4,q4,-⟩:=DataW.trod_bool underlying4 t4
 obtain⟨u5,y5,n5,e5,t5⟩:=hx 5 _ rfl
 obtain⟨A5,z5,c5,q5,w5,r5⟩:=wP t5
 obtain⟨u6,y6,n6,e6,t6⟩:=hx 6 _ rfl
 obtain⟨A6,z6,c6,q6,w6,r6⟩:=wP t6
 obtain⟨u7,y7,n7,e7,t7⟩:=hx 7 _ rfl
 obtain⟨z7,q7,-,w7⟩:=DataW.trod_int underlying3 t7
 obtain⟨u8,y8,n8,e8,t8⟩:=hx 8 _ rfl
 obtain⟨A8,z8,c8,q8,w8,v8,r8⟩:=wK underlying23 underlying3 kR t8
 obtain⟨u9,y9,n9,e9,t9⟩:=hx 9 _ rfl
 obtain⟨A9,z9,c9,q9,w9,v9,r9⟩:=wK underlying23 underlying3 kR t9
 obtain⟨YR,y10,n10,e10,t10⟩:=hx 10 _ rfl
 obtain⟨z10,q10,-,w10⟩:=DataW.trod_int underlying3 t10
 obtain⟨YP,y11,n11,e11,t11⟩:=hx 11 _ rfl
 obtain⟨z11,q11,-,w11⟩:=DataW.trod_int underlying3 t11
 obtain⟨u12,y12,n12,e12,t12⟩:=hx 12 _ rfl
 obtain⟨z12,q12,-,w12⟩:=DataW.trod_int underlying3 t12
 simp only[List.cons.injEq,and_true]at q0 q1 q2 q3 q4 q7 q10 q11 q12
 subst q0;subst q1;subst q2;subst q3;subst q4;subst q5;subst q6;subst q7;subst q8;subst q9;subst q10;subst q11;subst q12
 have hmx:maxLen=9223372036854775807:=by decide
 refine⟨⟨z0,z1,z2,z3,z4,z5,z6,z7,z8,z9,z10,z11,z12⟩,⟨A5,c5,A6,c6,A8,c8,A9,c9⟩,?_,⟨r5,r6,Cq w8 v8 r8,Cq w9 v9 r9,w5,w6,LawF.gA w0,LawF.gA w1,LawF.gA w7,by show z2.size<=_;omega,by show z3.size<=_;omega⟩,⟨LawF.gA w10,LawF.gA w11,LawF.gA w12⟩⟩
 have YL:cs.toList.length=13:=by rw[hlen];rfl
 obtain⟨l⟩:=cs
 congr 2
 apply List.ext_getElem?
 intro j
 rcases(show j=0∨j=1∨j=2∨j=3∨j=4∨j=5∨j=6∨j=7∨j=8∨j=9∨j=10∨j=11∨j=12∨13<=j by omega)with rfl|rfl|rfl|rfl|rfl|rfl|rfl|rfl|rfl|rfl|rfl|rfl|rfl|hj
 ·exact e0
 ·exact e1
 ·exact e2
 ·exact e3
 ·exact e4
 ·exact e5
 ·exact e6
 ·exact e7
 ·exact e8
 ·exact e9
 ·exact e10
 ·exact e11
 ·exact e12
 ·have h13':l.length=13:=YL
  rw[List.getElem?_eq_none oM]
  exact(List.getElem?_eq_none (by show 13<=j;exact hj)).symm
