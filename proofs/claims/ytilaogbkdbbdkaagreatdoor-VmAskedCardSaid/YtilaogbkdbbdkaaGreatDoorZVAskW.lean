/- The law VmAsked, walked. Conditions: the law's arguments are cells; the tables of the library are there. -/
import Derived.Test.YtilaogbkdbbdkaaGreatDoorOm
import Derived.Test.YtilaogbkdbbdkaaGreatDoorZ46
import Derived.Test.YtilaogbkdbbdkaaGreatDoorZVArgS
namespace Go.Proofs.YtilaogbkdbbdkaaGreatDoor
set_option linter.unusedVariables false
set_option linter.unusedSimpArgs false
set_option maxHeartbeats 8000000
set_option maxRecDepth 100000
open Go.RowKit Go.Lib Go.Deep
namespace Vm
theorem DL: (Tryz.prog.info? 3).map (λi=>(i.zero,i.size,i.bytes))=some (some (.int .i64 0),1,8):=by kernel_rfl
theorem Ag{W:World}{B:Nat}{t:TypeId}{l:List Int}(h:Blk W B t (ag l))(hl:l.length<=9223372036854775807):W.ownsRow 0 t 1 (.slice (some ⟨B,0,none⟩) l.length l.length) l.length (l.map (Value.int .i64)):=
 ⟨by simp,.inr ⟨B,l.length,ag l,rfl,Nat.zero_le _,h,Nat.le_refl _,hl,by simp[ag],by simp[ag,List.take_of_length_le]⟩⟩
theorem ya{W:World}{B:Nat}{t:TypeId}{l:List Int}(h:Blk W B t (ag l)): ∀j u,(l.map (Value.int .i64))[j]? = some u->W.cell? ((⟨B,0,none⟩:Addr).add j)=some u:=λj u hu=>by
 have e2: ((⟨B,0,none⟩:Addr).add j)= ⟨B,j,none⟩:=by simp[Addr.add];intro h;exact h.symm
 rw[e2,h.cell j]
 simpa [ag]using hu
theorem emptyJ(s:ByteArray):s.toList.isEmpty=decide (s.size=0):=by
 rw[Lib.size_eq,ByteArray.toList_eq]
 rcases s.data.toList with _| ⟨a,l⟩<;>simp
theorem vm(c n:Int)(hn:0<n):0<=ew c n∧ew c n<n:=by
 unfold ew
 exact⟨Int.emod_nonneg _ oM,Int.emod_lt_of_pos _ hn⟩
def BH(k:Nat)(v:Int):List Int:=if k=0 then [19]else [256* (k:Int) +19,v]
theorem uf(k:Nat)(v m:Int): [2,77,13]++BH k v ++ [2,m,93,14,1]=dL k v m:=rfl
theorem KI(k:Nat)(v:Int):1<=(BH k v).length∧(BH k v).length<=2:=by
 unfold BH
 split<;>simp
theorem On.PM{F:Nat->Prop}{w W:World}{L:List Asr}{g:Nat}{t:TypeId}{l:List Int}(h:On F w (aa (ae g t (ag l)::L)) W)(hl:l.length<=9223372036854775807):On F w (aa (iv t 1 (.slice (some ⟨g,0,none⟩) l.length l.length) l.length (l.map (Value.int .i64))::L)) W:=
 h.qX 0 rfl λF' hb=>On.refl ⟨Ag hb.1 hl,λk=>(hb.2 k).trans ⟨λh=>by rw[h];rfl,λh=>(Option.some.inj h).symm⟩⟩
theorem asked_walk(s:Setup)(m:Sl)(nm:ByteArray)(a2 a3:Int)(h2:V64 a2)(h3:V64 a3)(w:World)(hs:dP w s m)(hv:AD s)(hP:Pows w)(hB:Bruijn w):
 Calls Tryz.prog 3 #[.agg (ap s m),.string nm,a2,a3] w (Quiet (.bool true) w):=by
 have Un:=λW=>mP s.dp 8 W hs.dp oM
 have WT:=λW=>mP a2 3000 W h2 oM
 have YO:=λW=>mP a3 4000 W h3 oM
 have Wn:=vm s.dp 8 oM
 have hmq:=vm a2 3000 oM
 generalize ew s.dp 8=cp at *
 generalize ew a2 3000=mq at *
 generalize ew a3 4000=Fu at *
 obtain⟨hbC,hhY⟩:=Wn
 obtain⟨hfE,hmq1⟩:=hmq
 obtain⟨i0,Ur,Us,Uj,SQ⟩:=info_parts DL
 have Re:=(Eu w).box (ap s m) 25
 replace⟨Re,hs,hv,Ur,Us,Uj,SQ,Un,WT,YO⟩:=iJ Re hs hv Ur Us Uj SQ Un WT YO
 clear h2 h3
 unfold ap
 go_enter Tryz.func3,Tryz.ntmps3
 go_wp2_with fail
 refine mo (BS _) λw1 Rh=>?_
 simp only[]
 have M0:=Re.out.below Rh
 replace⟨M0,Rh⟩:=iB M0 Rh
 by_cases h8:8<nm.size
 ·have hd:decide ((8:Int) < (nm.size:Int))=true:=decide_eq_true oM
  go_wp2
  go_ret
  exact⟨rfl,M0.out.old 1 rfl⟩
 have hd:decide ((8:Int) < (nm.size:Int))=false:=decide_eq_false oM
 go_upto_block 0 with fail
 go_cut [10] (λt10 wx=> ∃v:Int,t10 = .int .i64 v∧V64 v∧On (gN w) w (aa [ae w.heap.size 25 (ap s m),eD w]) wx)
 case first=>
  go_wp2_with fail
  go_loopg [10,11] nm.size (λn t10 t11 wr=> ∃v z:Int,t10 = .int .i64 v∧V64 v∧n<=nm.size∧t11 = .int .i64 z∧z= (n:Int) -1∧On (gN w) w (aa [ae w.heap.size 25 (ap s m),eD w]) wr)
  case atStart=>exact⟨0,(nm.size:Int) -1,rfl,by unfold V64;omega,Nat.le_refl _,rfl,rfl,M0.out⟩
  case round=>
   obtain⟨v,z,rfl,Zy,hn,rfl,hz,so⟩:=hrel
   replace⟨so,Zy⟩:=iB so Zy
   rcases gk with _|j
   ·obtain rfl:z = -1:=by omega
    clear hz
    go_wp2
    go_meet
    exact⟨v,rfl,Zy.out,so.out⟩
   ·obtain rfl:z= (j:Int):=by omega
    clear hz
    have hg:decide ((0:Int)<=(j:Int))=true:=decide_eq_true oM
    have V3:=λw=>gp nm j oM w
    go_wp2
    go_roundg j
    case measure=>omega
    case rel=>exact⟨_,_,rfl,aU _,by omega,rfl,by omega,so.out⟩
 case rest=>
 obtain⟨v,rfl,Zy,so⟩:=hcut
 obtain⟨l,hl⟩: ∃l,BH nm.size v=l:=⟨_,rfl⟩
 have ZM:1<=l.length∧l.length<=2:=by rw[<-hl];exact KI _ _
 obtain⟨ZM,Ug⟩:=ZM
 replace⟨hl,so,Zy⟩:=iC hl so Zy
 clear M0 Rh Re
 go_upto_if 50 with fail
 go_cut [12] (λt12 wx=> ∃B,t12 = .slice (some ⟨B,0,none⟩) l.length l.length∧Blk wx B 3 (ag l)∧On (gN w) w (aa [ae w.heap.size 25 (ap s m),eD w]) wx)
 case first=>
  have Re:=so.out.box (ag [256* (nm.size:Int) +19,v]) 3
  replace Re:=hid Re
  by_cases hk0:nm.size=0
  ·have he:nm.toList.isEmpty=true:=by rw[emptyJ];simpa using hk0
   have e:l = [19]:=by rw[<-hl.out];unfold BH;rw[if_pos hk0]
   have hcV:=Re.out.box (ag [19]) 3
   simp only[World.size_alloc]at hcV
   replace⟨hcV,he,hk0⟩:=iC hcV he hk0
   go_wp2_with fail
   ·go_meet
    subst e
    exact⟨_,rfl,hcV.out.ab 0 rfl,hcV.out.tail.tail⟩
   ·rename_i hq
    rw[he.out]at hq
    cases hq
  ·have he:nm.toList.isEmpty=false:=by rw[emptyJ];simpa using hk0
   have e:l = [256* (nm.size:Int) +19,v]:=by rw[<-hl.out];unfold BH;rw[if_neg hk0]
   replace⟨he,hk0⟩:=iB he hk0
   go_wp2_with fail
   ·rename_i hq
    rw[he.out]at hq
    cases hq
   ·go_meet
    subst e
    exact⟨_,rfl,Re.out.ab 0 rfl,Re.out.tail⟩
 case rest=>
 obtain⟨B,rfl,hBl,Rb⟩:=hcut
 have An:=λ(W:World) (h:On (gN w) w (aa [ae w.heap.size 25 (ap s m),eD w]) W)=>(h.box (ag [2,77,13]) 3).PM (by decide)
 have Zc:=An _ Rb
 have hgK:Blk (wc.alloc (.cells (ag [2,77,13]) 3)) B 3 (ag l):=hBl.alloc _
 obtain⟨F3,hah⟩:=Zc.at_ 0 rfl
 have Uv:=ya hgK
 replace Uv:=hid Uv
 replace hah:=hid hah.1
 replace⟨Zc,ZM⟩:=iB Zc ZM
 clear so An hBl hgK Rb
 go_upto_region 12 with fail
 go_cut [13] (λt13 wx=> ∃g cap,t13 = .slice (some ⟨g,0,none⟩) (3+l.length) cap∧On (gN w) w (aa [iv 3 1 (.slice (some ⟨g,0,none⟩) (3+l.length) cap) (3+l.length) (([2,77,13]++l).map (Value.int .i64)),ae w.heap.size 25 (ap s m),eD w]) wx)
 case first=>
  go_wp2_with ((at_builtin;refine wpList_append_lies _ rfl (.tmp 52) (.tmp 53) 23 rfl 0 3 i0 (.int .i64 0) 1 8 Tryz.underlying23 Ur.out Us.out Uj.out SQ.out rfl oM (.slice (some ⟨wc.heap.size,0,none⟩) 3 3) 3 ([2,77,13].map (Value.int .i64)) (by rfl) hah.out ⟨B,0,none⟩ l.length l.length (l.map (Value.int .i64)) (by rfl) (by simp) Uv.out (by intro u hu;obtain⟨z,_,rfl⟩:=List.mem_map.1 hu;rfl) ZM.out (by unfold maxLen;omega) oM (Nat.zero_le _) _ rfl ?_;intro g1 ZC w2 hgj her hjX Wv))
  go_meet
  refine⟨g1,ZC,rfl,?_⟩
  rw[List.map_append]
  exact Zc.out.oC 0 rfl hgj her (lV hjX)
 case rest=>
 obtain⟨g1,ZC,rfl,Ra⟩:=hcut
 have XV:=Ra.box (ag [2,mq,93,14,1]) 3
 obtain⟨F4,hag⟩:=XV.at_ 1 rfl
 have Xq:=ya (XV.ab 0 rfl)
 replace Xq:=hid Xq
 replace hag:=hid hag.1
 replace XV:=hid XV
 clear Zc Uv hah Ra
 go_upto_region 13 with fail
 go_cut [13] (λt13 wx=> ∃g cap,t13 = .slice (some ⟨g,0,none⟩) (3+l.length+5) cap∧On (gN w) w (aa [iv 3 1 (.slice (some ⟨g,0,none⟩) (3+l.length+5) cap) (3+l.length+5) ((dL nm.size v mq).map (Value.int .i64)),ae w.heap.size 25 (ap s m),eD w]) wx)
 case first=>
  go_wp2_with fail
  refine(WT.out _).mono ?_
  rintro e w3 ⟨rfl,rfl⟩
  simp only[]
  go_wp2_with ((at_builtin;refine wpList_append_lies _ rfl (.tmp 55) (.tmp 58) 23 rfl 0 3 i0 (.int .i64 0) 1 8 Tryz.underlying23 Ur.out Us.out Uj.out SQ.out rfl oM (.slice (some ⟨g1,0,none⟩) (3+l.length) ZC) (3+l.length) (([2,77,13]++l).map (Value.int .i64)) ?_ ?_ ⟨w3.heap.size,0,none⟩ 5 5 ([2,mq,93,14,1].map (Value.int .i64)) ?_ ?_ ?_ ?_ ?_ ?_ ?_ ?_ _ rfl ?_;(case refine_1=>rfl);(case refine_2=>exact hag.out);(case refine_3=>rfl);(case refine_4=>rfl);(case refine_5=>exact Xq.out);(case refine_6=>(intro u hu;obtain⟨z,_,rfl⟩:=List.mem_map.1 hu;rfl));(case refine_7=>decide);(case refine_8=>(unfold maxLen;omega));(case refine_9=>omega);(case refine_10=>exact Nat.zero_le _);intro g2 VY w4 hfu heH hjh hlt5))
  go_meet
  refine⟨g2,VY,rfl,?_⟩
  rw[<-uf,hl.out,List.map_append (l₁:=[2,77,13]++l)]
  exact(XV.out.oC 1 rfl hfu heH (lV hjh)).tail
 case rest=>
 obtain⟨g2,VY,rfl,Rf⟩:=hcut
 have RQ: (dL nm.size v mq).length=3+l.length+5:=by rw[<-uf,hl.out];simp;omega
 have hjv: ∀u∈dL nm.size v mq,V64 u:=Eo _ _ _ oM Zy.out ⟨hfE,by omega⟩
 obtain⟨J,hJ⟩: ∃J,dL nm.size v mq=J:=⟨_,rfl⟩
 rw[hJ]at Rf RQ hjv
 rw[<-RQ]at Rf⊢
 have hjs:tF (vZ s J cp) (dL nm.size v mq):=⟨by rw[hJ];rfl,by rw[hJ,RQ];omega,by rw[hJ];exact hjv⟩
 have hfS:J.length<=10:=by omega
 replace⟨hjs,hjv⟩:=iB hjs hjv
 clear XV Xq hag RQ ZM hl
 apply_assumption
 exact Br hs.out hv.out hP hB oM hjv.out hfS hbC hhY ⟨hfE,by omega⟩ (λW=>Un.out W) (λW=>YO.out W) hjs.out Rf
