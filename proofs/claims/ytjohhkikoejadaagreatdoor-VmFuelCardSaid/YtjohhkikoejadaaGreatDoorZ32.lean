/- Chapter 11: the law's pair of machines in memory; a step is told. Conditions: as written. -/
import Derived.Test.YtjohhkikoejadaaGreatDoorOm
import Derived.Test.YtjohhkikoejadaaGreatDoorZ02
import Derived.Test.YtjohhkikoejadaaGreatDoorZ21
import Derived.Test.YtjohhkikoejadaaGreatDoorZ26
import Derived.Test.YtjohhkikoejadaaGreatDoorZ03
import Derived.Test.YtjohhkikoejadaaGreatDoorZ23
import Derived.Lib.BufferWrite
import Derived.Lib.SliceRun
namespace Go.Proofs.YtjohhkikoejadaaGreatDoor
set_option linter.unusedVariables false
set_option linter.unusedSimpArgs false
set_option maxHeartbeats 8000000
set_option maxRecDepth 100000
open Go.RowKit Go.Lib Go.Deep
namespace Vm
structure Bc where
 gB:Nat
 gI:Nat
 gK:Nat
 gS:Nat
 gT:Nat
 gP:Nat
 gM:Nat
 gW:Nat
def eK(b:Bc)(v:Value) :Array Value:= #[b.gI,b.gK,b.gS,b.gT,b.gP,b.gM,b.gW,v]
def jN(p:Stp) :List Value:=[.int .i64 p.at_,.int .i64 p.op,.int .i64 p.dep,.int .i64 p.top,.int .i64 p.fuel]
def iT(l:List Stp) :List Value:=l.flatMap jN
theorem yi(l:List Stp)(p:Stp) :iT (l ++ [p]) =iT l++jN p:=by simp[iT]
theorem Ik(p:Stp) : ∀u∈jN p,u.oneCell'=true:=by
 intro u hu
 unfold jN at hu
 simp only[List.mem_cons,List.mem_nil_iff,or_false]at hu
 rcases hu with rfl|rfl|rfl|rfl|rfl<;>rfl
theorem CD: (Tryz.prog.info? 45).map (λi=>(i.zero,i.size,i.bytes)) =some (some (.agg #[(0:Int),(0:Int),(0:Int),(0:Int),(0:Int)]),5,40):=by kernel_rfl
def re(b:Bc)(l:List Stp)(v:Value) :List Asr:=[ae b.gB 41 (eK b v),jS 45 5 v l.length (iT l)]
def j0(b:Bc)(l:List Stp) :Asr where
 holds w F:= ∃v,All (re b l v) w F
 lt h hk:=let⟨_,h⟩:=h;All.lt h hk
 kept h hk hT:=let⟨v,h⟩:=h;⟨v,h.kept hk hT⟩
theorem C3{w:World}{B:Nat}{t:TypeId}{a1 a2 a3 a4 a5:Int}(hb:Blk w B t #[a1,a2,a3,a4,a5]) : ∀j u,[Value.int .i64 a1,.int .i64 a2,.int .i64 a3,.int .i64 a4,.int .i64 a5][j]? = some u->w.cell? ((⟨B,0,none⟩ :Addr).add j) =some u:=
 λj u hu=>World.news_of_block hb j u hu
theorem C6(b:Bc)(l:List Stp)(p:Stp)(w:World)(F:Nat->Prop)(hl:l.length<1000000000)(hb: (j0 b l).holds w F) :
 Calls Tryz.prog 34 #[b.gB,.agg #[(p.at_:Int),p.op,p.dep,p.top,p.fuel]] w (Got (.returned (.tuple #[])) (j0 b (l ++ [p])) F w):=by
 obtain⟨v,hb⟩:=hb
 have hon:On F w (aa (re b l v)) w:=On.refl hb
 have hbl:Blk w b.gB 41 (eK b v):=hon.ab 0 rfl
 have c7:w.cell? (b.gB,7) =some v:=hbl.cell 7
 obtain⟨F1,hR⟩:=hon.at_ 1 rfl
 have hown:=hR.1
 obtain⟨i0,hi0,hz0,hz1,hz2⟩:=info_parts CD
 have hlt:=hbl.lt
 have hone:=Ik p
 have hsn:=yi l p
 have hlen1: (l ++ [p]).length=l.length+1:=by simp
 have hnl:l.length+1<=maxLen∧(l.length+1)*40<=140737488355328:=by unfold maxLen;omega
 have hfin:=λ(w2 w3:World) (sg cap:Nat) (hon:On F w (aa (re b l v)) w2) (hG:w3.ownsRow 0 45 5 (.slice sg (l.length+1) cap) (l.length+1) (iT l++jN p)) (hgrow:w2.grownBy w3 v.ownBlock) (hat:v.ownBlock=some sg∨sg=w2.heap.size)=>(by
  have h1:=hon.qH 1 rfl hG hgrow (mY hat)
  have h2:=h1.setAt 0 rfl 7 (.slice sg (l.length+1) cap)
  rw[<-hsn,<-hlen1]at h2
  have h3:On F w (aa (re b (l ++ [p]) (.slice sg (l ++ [p]).length cap))) (w3.setCell (b.gB,7) (.slice sg (l ++ [p]).length cap)):=h2
  rw[hlen1]at h3
  exact h3.mono λF' ha=>⟨_,ha⟩ :On F w (j0 b (l ++ [p])) (w3.setCell (b.gB,7) (.slice sg (l.length+1) cap)))
 have hne:v.ownBlock≠some b.gB:=λe=>by
  obtain⟨F1,F2,h1,h2,hd⟩:=hon.apart 0 1 (by decide) rfl rfl
  exact hd b.gB ((h1.2 _).2 rfl) ((h2.2 _).2 e)
 obtain⟨at_,op,dep,top,fuel⟩:=p
 have hc7:=λw2 (h:On F w (aa (re b l v)) w2)=>(show Blk w2 b.gB 41 (eK b v)from h.ab 0 rfl)
 have hone' : ∀u∈[Value.int .i64 at_,.int .i64 op,.int .i64 dep,.int .i64 top,.int .i64 fuel],u.oneCell'=true:=hone
 replace hon:=hid hon
 replace hown:=hid hown
 replace hi0:=hid hi0
 replace hz0:=hid hz0
 replace hz1:=hid hz1
 replace hz2:=hid hz2
 replace hone':=hid hone'
 replace hnl:=hid hnl
 replace hfin:=hid hfin
 replace hc7:=hid hc7
 replace hbl:=hid hbl
 replace hne:=hid hne
 clear hb hsn hlen1 hone hR
 show Calls Tryz.prog 34 #[b.gB,.agg #[at_,op,dep,top,fuel]] w _
 go_enter Tryz.func34,Tryz.ntmps34
 go_wp2_with fail
 go_region_law ((refine step_append_lies _ rfl (.tmp 8) (.tmp 10) 39 rfl 0 45 i0 (.agg #[(0:Int),(0:Int),(0:Int),(0:Int),(0:Int)]) 5 40 ?_ ?_ ?_ ?_ ?_ ?_ ?_ v l.length (iT l) ?_ ?_ ⟨w.heap.size+1,0,none⟩ 1 1 [.int .i64 at_,.int .i64 op,.int .i64 dep,.int .i64 top,.int .i64 fuel] ?_ ?_ ?_ ?_ ?_ ?_ ?_ ?_ (w.heap.size+1+1) ?_ ?_;exact Tryz.underlying39;exact hi0.out;exact hz0.out;exact hz1.out;exact hz2.out;rfl;omega;rfl;exact mH ((hown.out.alloc _).alloc _);rfl;rfl;refine C3 (t:=45) ?_;refine Blk.drew (Blk.nN ?_);simp;exact hone'.out;omega;exact hnl.out.1;exact hnl.out.2;omega;simp;intro sg cap w3 hG hgrow hat hlt3;have hB1:=Blk.grown ((hbl.out.alloc _).alloc _).drew hgrow (λe=>hne.out e.symm);have c7b:=hB1.cell 7;have f7b:=hB1.frozen 7;simp[eK]at c7b))
 all_goals
  have hd:=hfin.out _ w3 sg cap ((hon.out.alloc _).alloc _).drew hG hgrow (by
   rcases hat with h|h
   ·exact .inl h
   ·exact .inr (by rw[h];simp))
  go_end0
  exact⟨rfl,hd⟩
def lF(l:List Nat) :List Value:=l.map λg=> .pointer (some ⟨g,0,none⟩)
def jd(gI gS gT gP:Nat)(ws d r:Value) :Array Value:= #[gI,gS,ws,gT,gP,d,r,.nilFunc,(0:Int),(0:Int),(0:Int)]
def jU(v:Value)(l:List Nat) :Asr:=jS 34 1 v l.length (lF l)
theorem Jz: (Tryz.prog.info? 34).map (λi=>(i.zero,i.size,i.bytes)) =some (some (.pointer none),1,8):=by kernel_rfl
theorem Ir{w:World}{B:Nat}{t:TypeId}{g:Nat}(hb:Blk w B t #[g]) : ∀j u,[Value.pointer g][j]? = some u->w.cell? ((⟨B,0,none⟩ :Addr).add j) =some u:=λj u hu=>World.news_of_block hb j u hu
theorem I0(g:Nat) : ∀u∈[Value.pointer (some (⟨g,0,none⟩ :Addr))],u.oneCell'=true:=λu hu=>by rw[List.mem_singleton.1 hu];rfl
section
variable {w:World}{F:Nat->Prop}
def Ju(w:World)(rb n:Nat)(ds:List Nat)(bad:Bool) :Prop:=
 (∀j g,ds[j]? = some g->w.cell? ⟨rb,j,none⟩ =some (.pointer (some ⟨g,0,none⟩)))∧(if bad then ds.length<n∧w.cell? (rb,ds.length) =some (.pointer none)else ds.length=n)
def L7(gI gS gT gP:Nat)(pd pr:Pl)(ds:List Nat)(e:Ending)(B:Asr) :Prop:=
 ∃gM gD gR ws,e = .returned (.tuple #[.pointer (some ⟨gM,0,none⟩),(0:Int)])∧B=aa [ae gM 108 (jd gI gS gT gP ws (.pointer (some ⟨gD,0,none⟩)) (.pointer (some ⟨gR,0,none⟩))),cR gI gD pd 0,cR gI gR pr 0,jU ws ds]
theorem JN(gI gS gT gP:Nat)(ws d r v:Value) : (jd gI gS gT gP ws d r).setIfInBounds 2 v=jd gI gS gT gP v d r:=rfl
theorem MF(gI gS gT gP:Nat)(ws d r v:Value) : (jd gI gS gT gP ws d r).setIfInBounds 5 v=jd gI gS gT gP ws v r:=rfl
def VmI(w:World)(gM gI gS gT gP:Nat)(ds:List Nat)(j:Nat)(wr:World) :Prop:=
 ∃v,On Nob w (aa [ae gM 108 (jd gI gS gT gP v (.pointer none) (.pointer none)),jU v (ds.take j)]) wr
theorem Mr{gI gb gS gT gP rb n cap:Nat}{S:Img}{ds:List Nat}(hi:bU w gI gb S)(hd:S.d<=4096)(hr:S.r<=4096)(hn:n<=1000)(bad:Bool)(hw:Ju w rb n ds bad) :
 Calls Tryz.prog 22 #[gI,gS,.slice rb n cap,gT,gP] w
  (λe w'=>if bad then e = .returned (.tuple #[.pointer none,(1:Int)])∧Below w.heap.size w w' else b8 (L7 gI gS gT gP (IX S) (J2 S) ds) Nob w e w'):=by
 have hbx:=(On.refl (A:=aa []) (F:=Nob) (w:=w) (λ_ h=>h)).vB (A:=jU (.slice none 0 0) []) (F2:=Nob) ⟨World.ownsRow_nil _ _ _ _,λk=>⟨λh=>h.elim,λh=>by cases h⟩⟩ (Kept.refl _ _) (λ_ h=>h.elim)
 have hbm:=hbx.box (jd gI gS gT gP (.slice none 0 0) (.pointer none) (.pointer none)) 108
 have h0:VmI w w.heap.size gI gS gT gP ds 0 _:=⟨_,hbm⟩
 unfold jd at h0
 obtain⟨i0,hi0,hz0,hz1,hz2⟩:=info_parts Jz
 have hwl:ds.length<=n:=by
  have:=hw.2
  cases bad
  ·simp at this;omega
  ·simp at this;omega
 replace h0:=hid h0
 replace hi:=hid hi
 replace hw:=hid hw
 replace hi0:=hid hi0
 replace hz0:=hid hz0
 replace hz1:=hid hz1
 replace hz2:=hid hz2
 replace hd:=hid hd
 replace hr:=hid hr
 clear hbx hbm
 go_enter Tryz.func22,Tryz.ntmps22
 go_wp2_with fail
 go_loopg [37] (n+1) (λk t wr=> ∃j:Nat,j+k=n+1∧j<=ds.length∧t = .int .i64 (j:Int)∧VmI w w.heap.size gI gS gT gP ds j wr)
 case atStart=>exact⟨0,by omega,by omega,rfl,h0.out⟩
 case round=>
  obtain⟨j,hj,hjd,rfl,v,hon⟩:=hrel
  by_cases hlt:j<ds.length
  ·obtain⟨g,hg⟩ : ∃g,ds[j]? = some g:=⟨ds[j],by simp[hlt]⟩
   have cj:=hon.er (hw.out.1 j g hg) (λh=>h)
   have hm:Blk wr w.heap.size 108 (jd gI gS gT gP v (.pointer none) (.pointer none)):=hon.ab 0 rfl
   have c2:wr.cell? (w.heap.size,2) =some v:=hm.cell 2
   have hml:=hm.lt
   have honA:=hon.alloc (.cells #[g] 34)
   obtain⟨F1,hR⟩:=honA.at_ 1 rfl
   have hown:=hR.1
   have hlj: (ds.take j).length=j:=by rw[List.length_take];omega
   have hsn:lF (ds.take (j+1)) =lF (ds.take j) ++ [.pointer g]:=by
    rw[List.take_add_one,hg]
    simp[lF]
   have hlj1: (ds.take (j+1)).length=j+1:=by rw[List.length_take];omega
   have hfin:=λ(w3:World) (sg cap:Nat) (hG:w3.ownsRow 0 34 1 (.slice sg (j+1) cap) (j+1) (lF (ds.take j) ++ [.pointer g])) (hgrow: (wr.alloc (.cells #[g] 34)).grownBy w3 v.ownBlock) (hat:v.ownBlock=some sg∨sg=wr.heap.size+1)=>(by
    have h1:=honA.qH 1 rfl hG hgrow (mY (by simpa using hat))
    have h2:On Nob w (aa [ae w.heap.size 108 (jd gI gS gT gP v (.pointer none) (.pointer none)),jU (.slice sg (j+1) cap) (ds.take (j+1))]) w3:=by
     unfold jU
     rw[hsn,hlj1]
     exact h1
    exact h2:On Nob w (aa [ae w.heap.size 108 (jd gI gS gT gP v (.pointer none) (.pointer none)),jU (.slice sg (j+1) cap) (ds.take (j+1))]) w3)
   rw[hlj]at hown
   have hnl:j+1<=maxLen∧(j+1)*8<=140737488355328:=by unfold maxLen;omega
   have hcap:w.heap.size<wr.heap.size:=hml
   replace hon:=hid hon
   replace honA:=hid honA
   replace hown:=hid hown
   replace hfin:=hid hfin
   replace hnl:=hid hnl
   replace hm:=hid hm
   replace hsn:=hid hsn
   replace hlj:=hid hlj
   replace hlj1:=hid hlj1
   clear hR
   go_wp2_with (at_builtin;refine wpList_append_lies _ rfl (.tmp 47) (.tmp 49) 75 rfl 0 34 i0 (.pointer none) 1 8 Tryz.underlying75 hi0.out hz0.out hz1.out hz2.out rfl oM v j (lF (ds.take j)) (by rfl) hown.out ⟨wr.heap.size,0,none⟩ 1 1 [.pointer g] (by rfl) rfl (Ir (t:=34) (Blk.new _ _ _)) (I0 g) oM hnl.out.1 hnl.out.2 (Nat.zero_le _) (wr.heap.size+1) (by simp) ?_;intro sg cap w3 hG hgrow hat hlt3;have h3:=hfin.out w3 sg cap hG hgrow hat;have d2:w3.cell? (w.heap.size,2) =some v:=(h3.ab 0 rfl).cell 2;have f2:=(h3.ab 0 rfl).frozen 2;have h4:=h3.setAt 0 rfl 2 (.slice sg (j+1) cap);rw[JN]at h4;replace h3:=hid h3;replace h4:=hid h4;replace hG:=hid hG;replace hgrow:=hid hgrow)
   go_roundg (gk-1)
   case measure=>omega
   case rel=>exact⟨j+1,by omega,by omega,by go_num,_,h4.out⟩
  ·have hjj:j=ds.length:=by omega
   have h2:=hw.out.2
   cases bad with
   | true=>
     simp only[if_true]at h2
     have cj:=hon.er h2.2 (λh=>h)
     rw[<-hjj]at cj
     have hjn:j<n:=by omega
     have hout:=hid hon.cg
     replace hon:=hid hon
     replace hjj:=hid hjj
     clear h2
     go_wp2
     go_ret2
     exact⟨rfl,hout.out⟩
   | false=>
     simp only[Bool.false_eq_true,if_false]at h2
     have hjn:j=n:=by omega
     have hds:ds.take j=ds:=List.take_of_length_le oM
     rw[hds]at hon
     have hib : ∀W,Below w.heap.size w W->bU W gI gb S:=λW hb=>⟨hi.out.blk.below hb hi.out.blk.lt,hi.out.row.below hb hi.out.row.lt,hi.out.ok⟩
     have hs4:=hid (hon.make (Hm (hib _ hon.cg) hd.out))
     replace hib:=hid hib
     replace hon:=hid hon
     replace hds:=hid hds
     subst hjn
     have hdj:decide ((j:Int) < (j:Int)) =false:=by simp
     clear h2
     go_wp2_with fail
     refine hs4.out.mono ?_
     rintro e w2 ⟨B,⟨gD,rfl,rfl⟩,hon2⟩
     have c5:w2.cell? (w.heap.size,5) =some (.pointer none):=(hon2.ab 1 rfl).cell 5
     have f5:=(hon2.ab 1 rfl).frozen 5
     have hon3:=hon2.setAt 1 rfl 5 (.pointer gD)
     rw[MF]at hon3
     have hs5:=hid (hon3.make (GK (hib.out _ hon3.cg) hr.out))
     replace hon2:=hid hon2
     replace hon3:=hid hon3
     clear hs4
     go_wp2_with fail
     refine hs5.out.mono ?_
     rintro e w4 ⟨B,⟨gR,rfl,rfl⟩,hon4⟩
     have c6:w4.cell? (w.heap.size,6) =some (.pointer none):=(hon4.ab 2 rfl).cell 6
     have f6:=(hon4.ab 2 rfl).frozen 6
     have hon5:=hon4.setAt 2 rfl 6 (.pointer gR)
     have hon6:On Nob w (aa [cR gI gR (J2 S) 0,cR gI gD (IX S) 0,ae w.heap.size 108 (jd gI gS gT gP v (.pointer gD) (.pointer gR)),jU v ds]) _:=hon5
     have hon7:=hid ((hon6.front 1 rfl).front 2 rfl)
     replace hon4:=hid hon4
     clear hs5 hon5 hon6
     go_wp2
     go_ret2
     exact⟨_,⟨w.heap.size,gD,gR,v,rfl,rfl⟩,hon7.out⟩
end
section
variable {w:World}{F:Nat->Prop}{g gb:Nat}{S:Img}
theorem Ac(h:bU w g gb S)(hs:S.s≠0) :Calls Tryz.prog 36 #[g,(2:Int)] w
 (λe w'=> ∃n,e = .returned (.slice (some ⟨gb,S.beg 2,none⟩) S.s S.s)∧w'=w.drewN n):=by
 have hspan:=hid (jA h 2 oM oM)
 have hall:=h.mN
 have hsm:=h.ok.small
 have e3:S.beg (2+1) =S.beg 2+S.s:=rfl
 have hle6:=S.dm (i:=3) (j:=6) oM oM oM
 have e4:S.beg 3=S.beg 2+S.s:=rfl
 rw[e4]at hle6
 rw[e3]at hspan
 generalize S.beg 2=x at *
 generalize S.beg 6=N at *
 generalize S.s=n at *
 clear h e3 e4
 have hne: (((x:Int) + (n:Int)) == (x:Int)) =false:=by rw[beq_eq_false_iff_ne];omega
 have hc: ((x+n:Nat) :Int) = (x:Int) + (n:Int):=by omega
 rw[hc]at hspan
 replace hc:=hid hc
 have hsub:x+n-x=n:=by omega
 go_enter Tryz.func36,Tryz.ntmps36
 go_wp2_with fail
 refine hspan.out.mono ?_
 rintro e w1 ⟨rfl,m,rfl⟩
 go_wp2
 go_ret
 exact⟨m,congrArg (λk=>Ending.returned (Value.slice (some ⟨gb,x,none⟩) k k)) hsub,rfl⟩
theorem xV{gb:Nat}{t:TypeId} : ∀(m o:Nat) (w:World) (B:List UInt8),o+m<=B.length->Blk w gb t (ag B).toArray->Blk (w.setCells gb o (List.replicate m (.int .u8 0))) gb t (ag (cK B o (List.replicate m 0))).toArray∧Kept (λk=>k=gb) w (w.setCells gb o (List.replicate m (.int .u8 0)))
 | 0,o,w,B,_,h=>by
   refine⟨?_,Kept.refl _ _⟩
   rw[List.replicate_zero,List.replicate_zero,rz]
   exact h
 | m+1,o,w,B,hl,h=>by
   have h1:=h.bG o (.int .u8 ((0:UInt8).toNat:Int))
   rw[pM B o 0 oM]at h1
   have hlen: (cK B o [0]).length=B.length:=kJ _ _ _ (by simp;omega)
   obtain⟨h2,k2⟩:=xV m (o+1) _ (cK B o [0]) oM h1
   have e:cK (cK B o [0]) (o+1) (List.replicate m 0) =cK B o (List.replicate (m+1) 0):=j5 B o [0] (List.replicate m 0) (by simp;omega)
   rw[e]at h2
   refine⟨h2,((Kept.refl (λk=>k=gb) w).setCell (p:=⟨gb,o,none⟩) (.inl rfl) _).trans k2⟩
theorem Mu(hb: (au g S).holds w F)(hs:S.s≠0)(s:ByteArray)(hl:s.size<=S.s) :Calls Tryz.prog 27 #[g,.string s] w (Got (.returned (.int .i64 0)) (au g (Setup.load S s.data.toList)) F w):=by
 obtain⟨gb,hr,hF⟩:=hb
 have hpart:=hid (Ac hr hs)
 have hsz: (Tryz.prog.info? 5).map (·.size) =some 1:=by kernel_rfl
 have hzv : ∀w,(zeroValue 5).run Tryz.prog w = .ok (.int .u8 0) w:=λw=>by kernel_rfl
 have hnl:s.data.toList.length=s.size:=by rw[Lib.size_eq]
 have hlen:=hr.ok.len
 have hall:S.beg 2+S.s<=S.beg 6:=by simp only[Img.beg];omega
 have hcp:=λ(n:Nat)=>(by
  have h:=run_copy_row_string (P:=Tryz.prog) (w.drewN n) 92 9 3 5 gb (S.beg 2) S.s S.s s (ag S.b).toArray 5 Tryz.underlying92 hsz (hr.row) hl (by simp[ag];omega)
  have e: ((ag S.b).toArray.toList.take (S.beg 2) ++byteCells s.data.toList++ (ag S.b).toArray.toList.drop (S.beg 2+s.size)).toArray= (ag (cK S.b (S.beg 2) s.data.toList)).toArray:=by
   rw[<-nI,hnl,List.append_assoc]
   rfl
  rw[e]at h
  exact h: (Builtin.copy_ #[92,9] 3 #[.slice (some ⟨gb,S.beg 2,none⟩) S.s S.s,.string s]).run Tryz.prog (w.drewN n) = .ok (.int .i64 (s.size:Int)) ((w.drewN n).setRow gb (ag (cK S.b (S.beg 2) s.data.toList)).toArray))
 have hblk:=λn=>(sh (show Blk (w.drewN n) gb 5 (ag S.b).toArray from hr.row) (ag (cK S.b (S.beg 2) s.data.toList)).toArray)
 have hplen: (cK S.b (S.beg 2) s.data.toList).length=S.b.length:=kJ _ _ _ oM
 have hkr:=λn=>(Kept.setRow (S:=λk=>k=gb) (((Kept.refl (λk=>k=gb) w).drewN n)) (g:=gb) (.inl rfl) (ag (cK S.b (S.beg 2) s.data.toList)).toArray)
 have hgB : ∀(W W':World),Blk W gb 5 (ag (cK S.b (S.beg 2) s.data.toList)).toArray->(∀j,j<S.s-s.size->(W.cell? ⟨gb,S.beg 2+s.size+j,none⟩).isSome=true)∧(∀j,j<S.s-s.size->W.frozen? ⟨gb,S.beg 2+s.size+j,none⟩ =false):=λW W' hB=>by
  refine⟨λj hj=> ?_,λj hj=>hB.frozen _⟩
  rw[hB.cell]
  have h3:S.beg 2+s.size+j< (cK S.b (S.beg 2) s.data.toList).length:=by omega
  simp[ag,h3]
 have hfinal:cK (cK S.b (S.beg 2) s.data.toList) (S.beg 2+s.size) (List.replicate (S.s-s.size) 0) = (Setup.load S s.data.toList).b:=by
  have:=j5 S.b (S.beg 2) s.data.toList (List.replicate (S.s-s.size) 0) oM
  rw[hnl]at this
  rw[this]
  unfold Setup.load
  rw[hnl]
  rfl
 have hok: (Setup.load S s.data.toList).Ok:=by
  unfold Setup.load
  exact cV hr.ok _ _ (by simp;omega)
 have hbk:gQ gb (Setup.load S s.data.toList) =gQ gb S:=rfl
 have hclose : ∀W,Blk W gb 5 (ag (Setup.load S s.data.toList).b).toArray->Kept (λk=>k=gb) w W->On F w (au g (Setup.load S s.data.toList)) W:=λW hB hk=>by
  refine⟨F,⟨gb,⟨?_,hB,hok⟩,hF⟩,hk.mono (λk h=>(hF k).2 (.inr h)),λk h=> .inl h⟩
  rw[hbk]
  exact hr.blk.kept hk hr.ne
 have hsm:=hr.ok.small
 clear hbk hok
 generalize (Setup.load S s.data.toList) =Sf at *
 generalize S.beg 2=b at *
 generalize hN:S.beg 6=N at *
 generalize S.s=n at *
 generalize hmid:cK S.b b s.data.toList=mid at *
 replace hclose:=hid hclose
 replace hfinal:=hid hfinal
 replace hblk:=hid hblk
 replace hkr:=hid hkr
 replace hgB:=hid hgB
 replace hcp:=hid hcp
 replace hzv:=hid hzv
 rw[hlen]at hplen
 replace hplen:=hid hplen
 replace hmid:=hid hmid
 replace hN:=hid hN
 by_cases hlt:s.size<n
 ·clear hr hF hsz hlen
  go_enter Tryz.func27,Tryz.ntmps27
  go_wp2_with fail
  refine hpart.out.mono ?_
  rintro e w1 ⟨m,rfl,rfl⟩
  have hc:=hcp.out m
  have hB:=hblk.out m
  obtain⟨g1,g2⟩:=hgB.out _ w hB
  have hcl : ∀ty,(Builtin.clear_ #[92] ty #[.slice (some ⟨gb,b+s.size,none⟩) (n-s.size) (n-s.size)]).run Tryz.prog ((w.drewN m).setRow gb (ag mid).toArray) = .ok (.tuple #[]) (((w.drewN m).setRow gb (ag mid).toArray).setCells gb (b+s.size) (List.replicate (n-s.size) (.int .u8 0))):=
   λty=>run_clear_slice _ 92 5 ty (.int .u8 0) Tryz.underlying92 hzv.out rfl rfl gb (b+s.size) (n-s.size) _ oM g1 g2
  obtain⟨z1,z2⟩:=xV (n-s.size) (b+s.size) _ mid (by rw[hplen.out];omega) hB
  rw[hfinal.out]at z1
  have hfin:=hclose.out _ z1 ((hkr.out m).trans z2)
  replace hfin:=hid hfin
  replace hB:=hid hB
  replace z1:=hid z1
  replace z2:=hid z2
  replace g1:=hid g1
  replace g2:=hid g2
  go_wp2
  go_ret
  exact⟨rfl,hfin.out⟩
 ·have hse:s.size=n:=by omega
  have hfB:=λm=>(hblk.out m)
  have hf2:=hfinal.out
  rw[show n-s.size=0 by omega,List.replicate_zero,rz]at hf2
  have hfin:=λm=>(by
   have h:=hfB m
   rw[hf2]at h
   have h2:=hkr.out m
   rw[hf2]at h2
   exact hclose.out _ h h2:On F w (au g Sf) ((w.drewN m).setRow gb (ag Sf.b).toArray))
  have hcp2:=λm=>(by
   have h:=hcp.out m
   rw[hf2,hse]at h
   exact h: (Builtin.copy_ #[92,9] 3 #[.slice (some ⟨gb,b,none⟩) n n,.string s]).run Tryz.prog (w.drewN m) = .ok (.int .i64 (n:Int)) ((w.drewN m).setRow gb (ag Sf.b).toArray))
  have hcl : ∀(ty:TypeId) (a:Addr) (W:World),(Builtin.clear_ #[92] ty #[.slice (some a) 0 0]).run Tryz.prog W = .ok (.tuple #[]) W:=λty a W=>by
   simp[Builtin.clear_,run_underlying Tryz.underlying92]
  replace hcp2:=hid hcp2
  replace hfin:=hid hfin
  replace hcl:=hid hcl
  clear hr hF hsz hlen hf2 hfB
  go_enter Tryz.func27,Tryz.ntmps27
  go_wp2_with fail
  refine hpart.out.mono ?_
  rintro e w1 ⟨m,rfl,rfl⟩
  have hc:=hcp2.out m
  have hcl1:=λty=>hcl.out ty ⟨gb,b,none⟩ ((w.drewN m).setRow gb (ag Sf.b).toArray)
  have hdn:decide ((n:Int) < (s.size:Int)) =false:=decide_eq_false oM
  replace hse:=hid hse
  go_wp2
  go_ret
  exact⟨rfl,(hfin.out m)⟩
end
end Vm
end Go.Proofs.YtjohhkikoejadaaGreatDoor
