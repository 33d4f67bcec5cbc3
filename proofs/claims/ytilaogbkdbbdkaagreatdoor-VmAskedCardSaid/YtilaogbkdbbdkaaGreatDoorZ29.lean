/- Chapter 11. Conditions: as written. -/
import Derived.Test.YtilaogbkdbbdkaaGreatDoorOm
import Derived.Test.YtilaogbkdbbdkaaGreatDoorZ20
import Derived.Test.YtilaogbkdbbdkaaGreatDoorZ22
import Derived.Test.YtilaogbkdbbdkaaGreatDoorZ27
import Derived.Lib.BufferWrite
open Go.Proofs.Tryz
namespace Go.Proofs.YtilaogbkdbbdkaaGreatDoor
set_option linter.unusedVariables false
set_option linter.unusedSimpArgs false
set_option maxHeartbeats 8000000
set_option maxRecDepth 100000
open Go.RowKit Go.Lib Go.Deep
namespace Vm
structure Bc where
 gB:Nat
 gI:Nat
 gK:Nat
 gS:Nat
 gT:Nat
 gP:Nat
 gM:Nat
 gW:Nat
def fJ(b:Bc)(v:Value):Array Value:=#[b.gI,b.gK,b.gS,b.gT,b.gP,b.gM,b.gW,v]
def uI(p:Stp):List Value:=[.int .i64 p.at_,.int .i64 p.op,.int .i64 p.dep,.int .i64 p.top,.int .i64 p.aZ]
def pq(l:List Stp):List Value:=l.flatMap uI
theorem wR(l:List Stp)(p:Stp):pq (l ++ [p])=pq l++uI p:=by simp[pq]
theorem Gu(p:Stp): ∀u∈uI p,u.oneCell'=true:=by
 intro u hu
 unfold uI at hu
 simp only[List.mem_cons,List.mem_nil_iff,or_false]at hu
 rcases hu with rfl|rfl|rfl|rfl|rfl<;>rfl
theorem E4: (prog.info? 159).map (λi=>(i.zero,i.size,i.bytes))=some (some (.agg #[(0:Int),(0:Int),(0:Int),(0:Int),(0:Int)]),5,40):=by kernel_rfl
def yB(b:Bc)(l:List Stp)(v:Value):List Asr:=[ae b.gB 40 (fJ b v),iv 159 5 v l.length (pq l)]
def lr(b:Bc)(l:List Stp):Asr where
 holds w F:= ∃v,All (yB b l v) w F
 lt h hk:=let⟨_,h⟩:=h;All.lt h hk
 kept h hk hT:=let⟨v,h⟩:=h;⟨v,h.kept hk hT⟩
theorem Dm{w:World}{B:Nat}{t:TypeId}{a1 a2 a3 a4 a5:Int}(hb:Blk w B t #[a1,a2,a3,a4,a5]): ∀j u,[Value.int .i64 a1,.int .i64 a2,.int .i64 a3,.int .i64 a4,.int .i64 a5][j]? = some u->w.cell? ((⟨B,0,none⟩:Addr).add j)=some u:=
 λj u hu=>World.news_of_block hb j u hu
theorem FB(b:Bc)(l:List Stp)(p:Stp)(w:World)(F:Nat->Prop)(hl:l.length<1000000000)(hb: (lr b l).holds w F):
 Calls prog 37 #[b.gB,.agg #[(p.at_:Int),p.op,p.dep,p.top,p.aZ]] w (Got (.returned (.tuple #[])) (lr b (l ++ [p])) F w):=by
 obtain⟨v,hb⟩:=hb
 have so:On F w (aa (yB b l v)) w:=On.refl hb
 have Q9:Blk w b.gB 40 (fJ b v):=so.ab 0 rfl
 have c7:w.cell? (b.gB,7)=some v:=Q9.cell 7
 obtain⟨F1,hR⟩:=so.at_ 1 rfl
 have R6:=hR.1
 obtain⟨i0,Ur,Us,Uj,SQ⟩:=info_parts E4
 have Rd:=Q9.lt
 have SM:=Gu p
 have Sy:=wR l p
 have VZ: (l ++ [p]).length=l.length+1:=by simp
 have R9:l.length+1<=maxLen∧(l.length+1)*40<=140737488355328:=by unfold maxLen;omega
 have IS:=λ(w2 w3:World) (sg cap:Nat) (so:On F w (aa (yB b l v)) w2) (hG:w3.ownsRow 0 159 5 (.slice sg (l.length+1) cap) (l.length+1) (pq l++uI p)) (RN:w2.grownBy w3 v.ownBlock) (SU:v.ownBlock=some sg∨sg=w2.heap.size)=>(by
  have h1:=so.oC 1 rfl hG RN (lV SU)
  have h2:=h1.setAt 0 rfl 7 (.slice sg (l.length+1) cap)
  rw[<-Sy,<-VZ]at h2
  have h3:On F w (aa (yB b (l ++ [p]) (.slice sg (l ++ [p]).length cap))) (w3.setCell (b.gB,7) (.slice sg (l ++ [p]).length cap)):=h2
  rw[VZ]at h3
  exact h3.mono λF' ha=>⟨_,ha⟩:On F w (lr b (l ++ [p])) (w3.setCell (b.gB,7) (.slice sg (l.length+1) cap)))
 have RP:v.ownBlock≠some b.gB:=λe=>by
  obtain⟨F1,F2,h1,h2,hd⟩:=so.apart 0 1 (by decide) rfl rfl
  exact hd b.gB ((h1.2 _).2 rfl) ((h2.2 _).2 e)
 obtain⟨at_,op,dep,top,aZ⟩:=p
 have hc7:=λw2 (h:On F w (aa (yB b l v)) w2)=>(show Blk w2 b.gB 40 (fJ b v)from h.ab 0 rfl)
 have Uz: ∀u∈[Value.int .i64 at_,.int .i64 op,.int .i64 dep,.int .i64 top,.int .i64 aZ],u.oneCell'=true:=SM
 replace⟨so,R6,Ur,Us,Uj,SQ,Uz,R9,IS,hc7,Q9,RP⟩:=iL so R6 Ur Us Uj SQ Uz R9 IS hc7 Q9 RP
 clear hb Sy VZ SM hR
 show Calls prog 37 #[b.gB,.agg #[at_,op,dep,top,aZ]] w _
 go_enter func37,ntmps37
 go_wp2_with fail
 go_region_law ((refine step_append_lies _ rfl (.tmp 8) (.tmp 10) 38 rfl 0 159 i0 (.agg #[(0:Int),(0:Int),(0:Int),(0:Int),(0:Int)]) 5 40 ?_ ?_ ?_ ?_ ?_ ?_ ?_ v l.length (pq l) ?_ ?_ ⟨w.heap.size+1,0,none⟩ 1 1 [.int .i64 at_,.int .i64 op,.int .i64 dep,.int .i64 top,.int .i64 aZ] ?_ ?_ ?_ ?_ ?_ ?_ ?_ ?_ (w.heap.size+1+1) ?_ ?_;exact underlying38;exact Ur.out;exact Us.out;exact Uj.out;exact SQ.out;rfl;omega;rfl;exact nZ ((R6.out.alloc _).alloc _);rfl;rfl;refine Dm (t:=159) ?_;refine Blk.drew (Blk.oS ?_);simp;exact Uz.out;omega;exact R9.out.1;exact R9.out.2;omega;simp;intro sg cap w3 hG RN SU Wu;have YH:=Blk.grown ((Q9.out.alloc _).alloc _).drew RN (λe=>RP.out e.symm);have c7b:=YH.cell 7;have f7b:=YH.frozen 7;simp[fJ]at c7b))
 all_goals
  have hd:=IS.out _ w3 sg cap ((so.out.alloc _).alloc _).drew hG RN (by
   rcases SU with h|h
   ·exact .inl h
   ·exact .inr (by rw[h];simp))
  go_end0
  exact⟨rfl,hd⟩
def mz(l:List Nat):List Value:=l.map λg=> .pointer (some ⟨g,0,none⟩)
def jF(gI gS gT gP:Nat)(ws d r:Value):Array Value:=#[gI,gS,ws,gT,gP,d,r,.nilFunc,(0:Int),(0:Int),(0:Int)]
def kL(v:Value)(l:List Nat):Asr:=iv 33 1 v l.length (mz l)
theorem LI: (prog.info? 33).map (λi=>(i.zero,i.size,i.bytes))=some (some (.pointer none),1,8):=by kernel_rfl
theorem IL{w:World}{B:Nat}{t:TypeId}{g:Nat}(hb:Blk w B t #[g]): ∀j u,[Value.pointer g][j]? = some u->w.cell? ((⟨B,0,none⟩:Addr).add j)=some u:=λj u hu=>World.news_of_block hb j u hu
theorem KE(g:Nat): ∀u∈[Value.pointer (some (⟨g,0,none⟩:Addr))],u.oneCell'=true:=λu hu=>by rw[List.mem_singleton.1 hu];rfl
section
variable {w:World}{F:Nat->Prop}
def Ky(w:World)(rb n:Nat)(ds:List Nat)(bad:Bool):Prop:=
 (∀j g,ds[j]? = some g->w.cell? ⟨rb,j,none⟩=some (.pointer (some ⟨g,0,none⟩)))∧(if bad then ds.length<n∧w.cell? (rb,ds.length)=some (.pointer none)else ds.length=n)
def NL(gI gS gT gP:Nat)(pd pr:Pl)(ds:List Nat)(e:Ending)(B:Asr):Prop:=
 ∃gM gD gR ws,e = .returned (.tuple #[.pointer (some ⟨gM,0,none⟩),(0:Int)])∧B=aa [ae gM 109 (jF gI gS gT gP ws (.pointer (some ⟨gD,0,none⟩)) (.pointer (some ⟨gR,0,none⟩))),cS gI gD pd 0,cS gI gR pr 0,kL ws ds]
theorem Mx(gI gS gT gP:Nat)(ws d r v:Value): (jF gI gS gT gP ws d r).setIfInBounds 2 v=jF gI gS gT gP v d r:=rfl
theorem Pu(gI gS gT gP:Nat)(ws d r v:Value): (jF gI gS gT gP ws d r).setIfInBounds 5 v=jF gI gS gT gP ws v r:=rfl
def VmI(w:World)(gM gI gS gT gP:Nat)(ds:List Nat)(j:Nat)(wr:World):Prop:=
 ∃v,On Nob w (aa [ae gM 109 (jF gI gS gT gP v (.pointer none) (.pointer none)),kL v (ds.take j)]) wr
theorem Pw{gI gb gS gT gP rb n cap:Nat}{S:Img}{ds:List Nat}(hi:b9 w gI gb S)(hd:S.d<=4096)(hr:S.r<=4096)(hn:n<=1000)(bad:Bool)(hw:Ky w rb n ds bad):
 Calls prog 26 #[gI,gS,.slice rb n cap,gT,gP] w
  (λe w'=>if bad then e = .returned (.tuple #[.pointer none,(1:Int)])∧Below w.heap.size w w' else cz (NL gI gS gT gP (Ll S) (LQ S) ds) Nob w e w'):=by
 have Re:=(On.refl (A:=aa []) (F:=Nob) (w:=w) (λ_ h=>h)).zX (A:=kL (.slice none 0 0) []) (F2:=Nob) ⟨World.ownsRow_nil _ _ _ _,λk=>⟨λh=>h.elim,λh=>by cases h⟩⟩ (Kept.refl _ _) (λ_ h=>h.elim)
 have hbm:=Re.box (jF gI gS gT gP (.slice none 0 0) (.pointer none) (.pointer none)) 109
 have h0:VmI w w.heap.size gI gS gT gP ds 0 _:=⟨_,hbm⟩
 unfold jF at h0
 obtain⟨i0,Ur,Us,Uj,SQ⟩:=info_parts LI
 have hwl:ds.length<=n:=by
  have:=hw.2
  cases bad
  ·simp at this;omega
  ·simp at this;omega
 replace⟨h0,hi,hw,Ur,Us,Uj,SQ,hd,hr⟩:=iI h0 hi hw Ur Us Uj SQ hd hr
 clear Re hbm
 go_enter func26,ntmps26
 go_wp2_with fail
 go_loopg [37] (n+1) (λk t wr=> ∃j:Nat,j+k=n+1∧j<=ds.length∧t = .int .i64 (j:Int)∧VmI w w.heap.size gI gS gT gP ds j wr)
 case atStart=>exact⟨0,by omega,by omega,rfl,h0.out⟩
 case round=>
  obtain⟨j,hj,hjd,rfl,v,so⟩:=hrel
  by_cases Rd:j<ds.length
  ·obtain⟨g,hg⟩: ∃g,ds[j]? = some g:=⟨ds[j],by simp[Rd]⟩
   have cj:=so.eJ (hw.out.1 j g hg) (λh=>h)
   have hm:Blk wr w.heap.size 109 (jF gI gS gT gP v (.pointer none) (.pointer none)):=so.ab 0 rfl
   have c2:wr.cell? (w.heap.size,2)=some v:=hm.cell 2
   have hml:=hm.lt
   have hcE:=so.alloc (.cells #[g] 33)
   obtain⟨F1,hR⟩:=hcE.at_ 1 rfl
   have R6:=hR.1
   have YZ: (ds.take j).length=j:=by rw[List.length_take];omega
   have Sy:mz (ds.take (j+1))=mz (ds.take j)++ [.pointer g]:=by
    rw[List.take_add_one,hg]
    simp[mz]
   have heT: (ds.take (j+1)).length=j+1:=by rw[List.length_take];omega
   have IS:=λ(w3:World) (sg cap:Nat) (hG:w3.ownsRow 0 33 1 (.slice sg (j+1) cap) (j+1) (mz (ds.take j)++ [.pointer g])) (RN: (wr.alloc (.cells #[g] 33)).grownBy w3 v.ownBlock) (SU:v.ownBlock=some sg∨sg=wr.heap.size+1)=>(by
    have h1:=hcE.oC 1 rfl hG RN (lV (by simpa using SU))
    have h2:On Nob w (aa [ae w.heap.size 109 (jF gI gS gT gP v (.pointer none) (.pointer none)),kL (.slice sg (j+1) cap) (ds.take (j+1))]) w3:=by
     unfold kL
     rw[Sy,heT]
     exact h1
    exact h2:On Nob w (aa [ae w.heap.size 109 (jF gI gS gT gP v (.pointer none) (.pointer none)),kL (.slice sg (j+1) cap) (ds.take (j+1))]) w3)
   rw[YZ]at R6
   have R9:j+1<=maxLen∧(j+1)*8<=140737488355328:=by unfold maxLen;omega
   have Yd:w.heap.size<wr.heap.size:=hml
   replace⟨so,hcE,R6,IS,R9,hm,Sy,YZ,heT⟩:=iI so hcE R6 IS R9 hm Sy YZ heT
   clear hR
   go_wp2_with (at_builtin;refine wpList_append_lies _ rfl (.tmp 47) (.tmp 49) 78 rfl 0 33 i0 (.pointer none) 1 8 underlying78 Ur.out Us.out Uj.out SQ.out rfl oM v j (mz (ds.take j)) (by rfl) R6.out ⟨wr.heap.size,0,none⟩ 1 1 [.pointer g] (by rfl) rfl (IL (t:=33) (Blk.new _ _ _)) (KE g) oM R9.out.1 R9.out.2 (Nat.zero_le _) (wr.heap.size+1) (by simp) ?_;intro sg cap w3 hG RN SU Wu;have h3:=IS.out w3 sg cap hG RN SU;have d2:w3.cell? (w.heap.size,2)=some v:=(h3.ab 0 rfl).cell 2;have f2:=(h3.ab 0 rfl).frozen 2;have h4:=h3.setAt 0 rfl 2 (.slice sg (j+1) cap);rw[Mx]at h4;replace h3:=hid h3;replace h4:=hid h4;replace hG:=hid hG;replace RN:=hid RN)
   go_roundg (gk-1)
   case measure=>omega
   case rel=>exact⟨j+1,by omega,by omega,by go_num,_,h4.out⟩
  ·have TJ:j=ds.length:=by omega
   have h2:=hw.out.2
   cases bad with
   | true=>
     simp only[if_true]at h2
     have cj:=so.eJ h2.2 (λh=>h)
     rw[<-TJ]at cj
     have YM:j<n:=by omega
     have Zh:=hid so.dY
     replace⟨so,TJ⟩:=iB so TJ
     clear h2
     go_wp2
     go_ret2
     exact⟨rfl,Zh.out⟩
   | false=>
     simp only[Bool.false_eq_true,if_false]at h2
     have YM:j=n:=by omega
     have hds:ds.take j=ds:=List.take_of_length_le oM
     rw[hds]at so
     have hib: ∀W,Below w.heap.size w W->b9 W gI gb S:=λW hb=>⟨hi.out.blk.below hb hi.out.blk.lt,hi.out.row.below hb hi.out.row.lt,hi.out.ok⟩
     have Zj:=hid (so.make (JL (hib _ so.dY) hd.out))
     replace⟨hib,so,hds⟩:=iC hib so hds
     subst YM
     have hdj:decide ((j:Int) < (j:Int))=false:=by simp
     clear h2
     go_wp2_with fail
     refine Zj.out.mono ?_
     rintro e w2 ⟨B,⟨gD,rfl,rfl⟩,BY⟩
     have c5:w2.cell? (w.heap.size,5)=some (.pointer none):=(BY.ab 1 rfl).cell 5
     have f5:=(BY.ab 1 rfl).frozen 5
     have Rb:=BY.setAt 1 rfl 5 (.pointer gD)
     rw[Pu]at Rb
     have hs5:=hid (Rb.make (Kb (hib.out _ Rb.dY) hr.out))
     replace⟨BY,Rb⟩:=iB BY Rb
     clear Zj
     go_wp2_with fail
     refine hs5.out.mono ?_
     rintro e w4 ⟨B,⟨gR,rfl,rfl⟩,Ra⟩
     have c6:w4.cell? (w.heap.size,6)=some (.pointer none):=(Ra.ab 2 rfl).cell 6
     have f6:=(Ra.ab 2 rfl).frozen 6
     have Rf:=Ra.setAt 2 rfl 6 (.pointer gR)
     have Rz:On Nob w (aa [cS gI gR (LQ S) 0,cS gI gD (Ll S) 0,ae w.heap.size 109 (jF gI gS gT gP v (.pointer gD) (.pointer gR)),kL v ds]) _:=Rf
     have Ri:=hid ((Rz.front 1 rfl).front 2 rfl)
     replace Ra:=hid Ra
     clear hs5 Rf Rz
     go_wp2
     go_ret2
     exact⟨_,⟨w.heap.size,gD,gR,v,rfl,rfl⟩,Ri.out⟩
end
section
variable {w:World}{F:Nat->Prop}{g gb:Nat}{S:Img}
theorem Ad(h:b9 w g gb S)(hs:S.s≠0):Calls prog 38 #[g,(2:Int)] w
 (λe w'=> ∃n,e = .returned (.slice (some ⟨gb,S.beg 2,none⟩) S.s S.s)∧w'=w.drewN n):=by
 have Ru:=hid (j5 h 2 oM oM)
 have hall:=h.nx
 have Zs:=h.ok.small
 have e3:S.beg (2+1)=S.beg 2+S.s:=rfl
 have hg7:=S.bN (i:=3) (j:=6) oM oM oM
 have e4:S.beg 3=S.beg 2+S.s:=rfl
 rw[e4]at hg7
 rw[e3]at Ru
 generalize S.beg 2=x at *
 generalize S.beg 6=N at *
 generalize S.s=n at *
 clear h e3 e4
 have RP: (((x:Int) + (n:Int)) == (x:Int))=false:=by rw[beq_eq_false_iff_ne];omega
 have hc: ((x+n:Nat):Int)= (x:Int) + (n:Int):=by omega
 rw[hc]at Ru
 replace hc:=hid hc
 have hjz:x+n-x=n:=by omega
 go_enter func38,ntmps38
 go_wp2_with fail
 refine Ru.out.mono ?_
 rintro e w1 ⟨rfl,m,rfl⟩
 go_wp2
 go_ret
 exact⟨m,congrArg (λk=>Ending.returned (Value.slice (some ⟨gb,x,none⟩) k k)) hjz,rfl⟩
theorem zq{gb:Nat}{t:TypeId}: ∀(m o:Nat) (w:World) (B:List UInt8),o+m<=B.length->Blk w gb t (ah B).toArray->Blk (w.setCells gb o (List.replicate m (.int .u8 0))) gb t (ah (cK B o (List.replicate m 0))).toArray∧Kept (λk=>k=gb) w (w.setCells gb o (List.replicate m (.int .u8 0)))
 | 0,o,w,B,_,h=>by
   refine⟨?_,Kept.refl _ _⟩
   rw[List.replicate_zero,List.replicate_zero,rC]
   exact h
 | m+1,o,w,B,hl,h=>by
   have h1:=h.bE o (.int .u8 ((0:UInt8).toNat:Int))
   rw[qC B o 0 oM]at h1
   have hlen: (cK B o [0]).length=B.length:=lv _ _ _ (by simp;omega)
   obtain⟨h2,k2⟩:=zq m (o+1) _ (cK B o [0]) oM h1
   have e:cK (cK B o [0]) (o+1) (List.replicate m 0)=cK B o (List.replicate (m+1) 0):=lA B o [0] (List.replicate m 0) (by simp;omega)
   rw[e]at h2
   refine⟨h2,((Kept.refl (λk=>k=gb) w).setCell (p:=⟨gb,o,none⟩) (.inl rfl) _).trans k2⟩
theorem Pp(hb: (av g S).holds w F)(hs:S.s≠0)(s:ByteArray)(hl:s.size<=S.s):Calls prog 30 #[g,.string s] w (Got (.returned (.int .i64 0)) (av g (Setup.load S s.data.toList)) F w):=by
 obtain⟨gb,hr,hF⟩:=hb
 have Uf:=hid (Ad hr hs)
 have hsz: (prog.info? 5).map (·.size)=some 1:=by kernel_rfl
 have hzv: ∀w,(zeroValue 5).run prog w = .ok (.int .u8 0) w:=λw=>by kernel_rfl
 have R9:s.data.toList.length=s.size:=by rw[Lib.size_eq]
 have hlen:=hr.ok.len
 have hall:S.beg 2+S.s<=S.beg 6:=by simp only[Img.beg];omega
 have Wn:=λ(n:Nat)=>(by
  have h:=run_copy_row_string (P:=prog) (w.drewN n) 93 9 3 5 gb (S.beg 2) S.s S.s s (ah S.b).toArray 5 underlying93 hsz (hr.row) hl (by simp[ah];omega)
  have e: ((ah S.b).toArray.toList.take (S.beg 2)++byteCells s.data.toList++ (ah S.b).toArray.toList.drop (S.beg 2+s.size)).toArray= (ah (cK S.b (S.beg 2) s.data.toList)).toArray:=by
   rw[<-pw,R9,List.append_assoc]
   rfl
  rw[e]at h
  exact h: (Builtin.copy_ #[93,9] 3 #[.slice (some ⟨gb,S.beg 2,none⟩) S.s S.s,.string s]).run prog (w.drewN n)= .ok (.int .i64 (s.size:Int)) ((w.drewN n).setRow gb (ah (cK S.b (S.beg 2) s.data.toList)).toArray))
 have SC:=λn=>(sV (show Blk (w.drewN n) gb 5 (ah S.b).toArray from hr.row) (ah (cK S.b (S.beg 2) s.data.toList)).toArray)
 have Z1: (cK S.b (S.beg 2) s.data.toList).length=S.b.length:=lv _ _ _ oM
 have hkr:=λn=>(Kept.setRow (S:=λk=>k=gb) (((Kept.refl (λk=>k=gb) w).drewN n)) (g:=gb) (.inl rfl) (ah (cK S.b (S.beg 2) s.data.toList)).toArray)
 have hgB: ∀(W W':World),Blk W gb 5 (ah (cK S.b (S.beg 2) s.data.toList)).toArray->(∀j,j<S.s-s.size->(W.cell? ⟨gb,S.beg 2+s.size+j,none⟩).isSome=true)∧(∀j,j<S.s-s.size->W.frozen? ⟨gb,S.beg 2+s.size+j,none⟩=false):=λW W' hB=>by
  refine⟨λj hj=> ?_,λj hj=>hB.frozen _⟩
  rw[hB.cell]
  have h3:S.beg 2+s.size+j< (cK S.b (S.beg 2) s.data.toList).length:=by omega
  simp[ah,h3]
 have W6:cK (cK S.b (S.beg 2) s.data.toList) (S.beg 2+s.size) (List.replicate (S.s-s.size) 0)= (Setup.load S s.data.toList).b:=by
  have:=lA S.b (S.beg 2) s.data.toList (List.replicate (S.s-s.size) 0) oM
  rw[R9]at this
  rw[this]
  unfold Setup.load
  rw[R9]
  rfl
 have Rv: (Setup.load S s.data.toList).Ok:=by
  unfold Setup.load
  exact cY hr.ok _ _ (by simp;omega)
 have Vu:iY gb (Setup.load S s.data.toList)=iY gb S:=rfl
 have YA: ∀W,Blk W gb 5 (ah (Setup.load S s.data.toList).b).toArray->Kept (λk=>k=gb) w W->On F w (av g (Setup.load S s.data.toList)) W:=λW hB hk=>by
  refine⟨F,⟨gb,⟨?_,hB,Rv⟩,hF⟩,hk.mono (λk h=>(hF k).2 (.inr h)),λk h=> .inl h⟩
  rw[Vu]
  exact hr.blk.kept hk hr.ne
 have Zs:=hr.ok.small
 clear Vu Rv
 generalize (Setup.load S s.data.toList)=Sf at *
 generalize S.beg 2=b at *
 generalize hN:S.beg 6=N at *
 generalize S.s=n at *
 generalize Va:cK S.b b s.data.toList=mid at *
 replace⟨YA,W6,SC,hkr,hgB,Wn,hzv⟩:=iG YA W6 SC hkr hgB Wn hzv
 rw[hlen]at Z1
 replace⟨Z1,Va,hN⟩:=iC Z1 Va hN
 by_cases Rd:s.size<n
 ·clear hr hF hsz hlen
  go_enter func30,ntmps30
  go_wp2_with fail
  refine Uf.out.mono ?_
  rintro e w1 ⟨m,rfl,rfl⟩
  have hc:=Wn.out m
  have hB:=SC.out m
  obtain⟨g1,g2⟩:=hgB.out _ w hB
  have RX: ∀ty,(Builtin.clear_ #[93] ty #[.slice (some ⟨gb,b+s.size,none⟩) (n-s.size) (n-s.size)]).run prog ((w.drewN m).setRow gb (ah mid).toArray)= .ok (.tuple #[]) (((w.drewN m).setRow gb (ah mid).toArray).setCells gb (b+s.size) (List.replicate (n-s.size) (.int .u8 0))):=
   λty=>run_clear_slice _ 93 5 ty (.int .u8 0) underlying93 hzv.out rfl rfl gb (b+s.size) (n-s.size) _ oM g1 g2
  obtain⟨z1,z2⟩:=zq (n-s.size) (b+s.size) _ mid (by rw[Z1.out];omega) hB
  rw[W6.out]at z1
  have IS:=YA.out _ z1 ((hkr.out m).trans z2)
  replace⟨IS,hB,z1,z2,g1,g2⟩:=iF IS hB z1 z2 g1 g2
  go_wp2
  go_ret
  exact⟨rfl,IS.out⟩
 ·have hse:s.size=n:=by omega
  have hfB:=λm=>(SC.out m)
  have RG:=W6.out
  rw[show n-s.size=0 by omega,List.replicate_zero,rC]at RG
  have IS:=λm=>(by
   have h:=hfB m
   rw[RG]at h
   have h2:=hkr.out m
   rw[RG]at h2
   exact YA.out _ h h2:On F w (av g Sf) ((w.drewN m).setRow gb (ah Sf.b).toArray))
  have hei:=λm=>(by
   have h:=Wn.out m
   rw[RG,hse]at h
   exact h: (Builtin.copy_ #[93,9] 3 #[.slice (some ⟨gb,b,none⟩) n n,.string s]).run prog (w.drewN m)= .ok (.int .i64 (n:Int)) ((w.drewN m).setRow gb (ah Sf.b).toArray))
  have RX: ∀(ty:TypeId) (a:Addr) (W:World),(Builtin.clear_ #[93] ty #[.slice (some a) 0 0]).run prog W = .ok (.tuple #[]) W:=λty a W=>by
   simp[Builtin.clear_,run_underlying underlying93]
  replace⟨hei,IS,RX⟩:=iC hei IS RX
  clear hr hF hsz hlen RG hfB
  go_enter func30,ntmps30
  go_wp2_with fail
  refine Uf.out.mono ?_
  rintro e w1 ⟨m,rfl,rfl⟩
  have hc:=hei.out m
  have hcl1:=λty=>RX.out ty ⟨gb,b,none⟩ ((w.drewN m).setRow gb (ah Sf.b).toArray)
  have hdn:decide ((n:Int) < (s.size:Int))=false:=decide_eq_false oM
  replace hse:=hid hse
  go_wp2
  go_ret
  exact⟨rfl,(IS.out m)⟩
