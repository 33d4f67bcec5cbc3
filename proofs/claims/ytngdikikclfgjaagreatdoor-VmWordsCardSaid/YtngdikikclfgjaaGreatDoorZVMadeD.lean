/- Chapter 11: the walk of made: the machine. Conditions: as written. -/
import Derived.Test.YtngdikikclfgjaaGreatDoorZVMadeE
namespace Go.Proofs.YtngdikikclfgjaaGreatDoor
set_option linter.unusedVariables false
set_option linter.unusedSimpArgs false
set_option maxHeartbeats 8000000
set_option maxRecDepth 100000
open Go.RowKit Go.Lib Go.Deep
namespace Vm
theorem row_none{w:World}{F:Nat->Prop}{gws:Nat}{v:Value}(h: (BlkA gws 75 #[v]).holds w F): (RowK 75 1 (.slice gws 0 1) 0 []).holds w F:=
 ⟨⟨rfl,.inr ⟨gws,1,#[v],rfl,Nat.zero_le _,h.1,by omega,by decide,rfl,rfl⟩⟩,λk=>⟨λhk=>by rw[(h.2 k).1 hk];rfl,λhk=>(h.2 k).2 (by cases hk;rfl)⟩⟩
theorem mk_D{w W:World}{s:Setup}{m:Sl}{gI gK gS gT gP gws:Nat}{r:Rc}(hs:SetIn w s m)(hon:On Nob w (AllA ([BlkA gP 143 turC,DcA gI gS 16456 16960 stu0,DcA gI gK 8 16384 ker0,TabA gT s.tab0,ImgA gI img0,DocA r r.gK (.slice gws 1 1) (x08 s),BlkA gws 75 #[r.gK],BlkA w.heap.size 30 (setupC s.cut m)])) W){u0 u4 u12 u13 u14 u15 u16 u17 u18 u19 u20 u21 u22 u23 u24 u25 u26 u27 u28 u29 u30 u31 u32 u33 u34 u35 u36 u37 u38 u39 u40 u41 u42 u43 u44 u45 u46 u47 u48 u49 u50 u51 u52 u53 u54 u55 u56 u57 u58 u59 u60 u61 u62 u63 u64 u65 u66 u67 u68 u69 u70 u71 u72 u73 u74 u75 u76 u77 u78 u79 u80 u81 u82 u83 u84 u85 u86 u87 u88 u89 u90 u91 u92 u93 u94 u95 u96 u97 u98 u99 u100 u101 u102 u103 u104 u105 u106 u107 u108 u109 u110 u111 u112 u113 u114 u115 u116 u117 u118 u119 u120 u121 u122 u123 u124 u125 u126 u127 u128 u129 u130 u131 u132 u133 u134 u135 u136 u137 u138 u139 u140 u141 u142 u143 u144 u145 u146 u147 u148 u149 u150 u151 u152 u153 u154 u155 u156 u157 u158 u159 u160 u161 u162 u163 u164 u165 u166 u167 u168 u169 u170 u171 u172 u173 u174 u175 u176 u177 u178 u179 u180 u181 u182 u183 u184 u185 u186 u187 u188 u189 u190 u191 u192 u193 u194 u195 u196 u197 u198 u199 u200 u201 u202 u203 u204 u205 u206 u207 u208 u209 u210 u211 u212 u213 u214 u215 u216 u217 u218 u219 u220 u221 u222 u223 u224 u225 u226 u227 u228 u229 u230 u231 u232 u233 u234:Value}:Code.wp Tryz.prog (codeDrop 10 (Tryz.f5.body.getD .skip)) (bodyPost Tryz.prog Tryz.f5 (PostE (MadeB s) Nob w)) ⟨List.toArray (u0 :: .pointer w.heap.size :: .pointer none :: .pointer r.gW::u4 :: .pointer gI :: .int .i64 0 :: .pointer gT :: .int .i64 0 :: .pointer gK :: .pointer gS :: .pointer gP::u12::u13::u14::u15::u16::u17::u18::u19::u20::u21::u22::u23::u24::u25::u26::u27::u28::u29::u30::u31::u32::u33::u34::u35::u36::u37::u38::u39::u40::u41::u42::u43::u44::u45::u46::u47::u48::u49::u50::u51::u52::u53::u54::u55::u56::u57::u58::u59::u60::u61::u62::u63::u64::u65::u66::u67::u68::u69::u70::u71::u72::u73::u74::u75::u76::u77::u78::u79::u80::u81::u82::u83::u84::u85::u86::u87::u88::u89::u90::u91::u92::u93::u94::u95::u96::u97::u98::u99::u100::u101::u102::u103::u104::u105::u106::u107::u108::u109::u110::u111::u112::u113::u114::u115::u116::u117::u118::u119::u120::u121::u122::u123::u124::u125::u126::u127::u128::u129::u130::u131::u132::u133::u134::u135::u136::u137::u138::u139::u140::u141::u142::u143::u144::u145::u146::u147::u148::u149::u150::u151::u152::u153::u154::u155::u156::u157::u158::u159::u160::u161::u162::u163::u164::u165::u166::u167::u168::u169::u170::u171::u172::u173::u174::u175::u176::u177::u178::u179::u180::u181::u182::u183::u184::u185::u186::u187::u188::u189::u190::u191::u192::u193::u194::u195::u196::u197::u198::u199::u200::u201::u202::u203::u204::u205::u206::u207::u208::u209::u210::u211::u212::u213::u214::u215::u216::u217::u218::u219::u220::u221::u222::u223::u224::u225::u226::u227::u228::u229::u230::u231::u232::u233::u234 :: []),[]⟩ W:=by
 conv=>
  arg 2
  unfold Tryz.f5
  dsimp only[codeDrop,Option.getD]
 replace hs:=hid hs
 obtain⟨gbI,hiI⟩:=hon.img 4 rfl
 have hrow:=λ(W2:World) (h:Below W.heap.size W W2)=>(⟨hiI.blk.below h hiI.blk.lt,hiI.row.below h hiI.row.lt,hiI.ok⟩:IRep W2 gI gbI img0)
 have hvm:=λ(W2:World) (h:Below W.heap.size W W2) (hb:Blk W2 W.heap.size 39 #[gS,gK])=>(hon.below h).make (vm_new (gS:=gS) (gT:=gT) (gP:=gP) (rb:=W.heap.size) (n:=2) (cap:=2) (ds:=[gS,gK]) (hrow W2 h) (by decide) (by decide) (by omega) false ⟨λj g hj=>by
  rcases j with _|_|j
  ·simp at hj;subst hj;exact hb.cell 0
  ·simp at hj;subst hj;exact hb.cell 1
  ·simp at hj,rfl⟩)
 replace hon:=hid hon
 replace hvm:=hid hvm
 clear hrow hiI
 go_upto_region 15 with fail
 go_cut [6,12] (λt6 t12 wx=> ∃gM gD gR ws,t12 = .pointer (some ⟨gM,0,none⟩)∧t6 = .int .i64 0∧On Nob w (AllA ([BlkA gM 104 (newC gI gS gT gP ws (.pointer (some ⟨gD,0,none⟩)) (.pointer (some ⟨gR,0,none⟩))),StkA gI gD pd0 0,StkA gI gR pr0 0,RowP ws [gS,gK],BlkA gP 143 turC,DcA gI gS 16456 16960 stu0,DcA gI gK 8 16384 ker0,TabA gT s.tab0,ImgA gI img0,DocA r r.gK (.slice gws 1 1) (x08 s),BlkA gws 75 #[r.gK],BlkA w.heap.size 30 (setupC s.cut m)])) wx)
 case first=>
  go_wp2_with fail
  refine(hvm.out _ ((Below.refl _ _).alloc (Nat.le_refl _) _) (Blk.new _ _ _)).mono ?_
  rintro e w1 ⟨B,⟨gM,gD,gR,ws,rfl,rfl⟩,h⟩
  have h1:=hid h.flat
  clear h hvm
  go_wp2_with fail
  go_meet
  exact⟨gM,gD,gR,ws,rfl,rfl,h1.out⟩
 case rest=>
  obtain⟨gM,gD,gR,ws,rfl,rfl,h1⟩:=hcut
  clear hon hvm
  have hm:Blk wc gM 104 (newC gI gS gT gP ws (.pointer gD) (.pointer gR)):=h1.blkAt 0 rfl
  have d5:wc.cell? (gM,5)=some (gD:Vl):=hm.cell 5
  have d6:wc.cell? (gM,6)=some (gR:Vl):=hm.cell 6
  have hda:=hid (m_data d5)
  have hre:=hid (m_return d6)
  have h2:=h1.box (bothC ⟨wc.heap.size,gI,gK,gS,gT,gP,gM,r.gW⟩ (.slice none 0 0)) 46
  have h3:=hid ((h2.front 11 rfl).front 11 rfl).flat
  clear h2 hm
  replace h1:=hid h1
  go_upto_region 18 with(first| (go_at_call 10;refine hda.out.mono ?_;rintro e w1 ⟨rfl,rfl⟩) | (go_at_call 22;refine hre.out.mono ?_;rintro e w1 ⟨rfl,rfl⟩))
  go_cut [13] (λt13 wx=> ∃gB,t13 = .pointer (some ⟨gB,0,none⟩)∧On Nob w (AllA (docL r r.gK (.slice gws 1 1) (x08 s)++ [BlkA gws 75 #[r.gK],BlkA gB 46 (bothC (⟨gB,gI,gK,gS,gT,gP,gM,r.gW⟩:Bc) (.slice none 0 0)),BlkA gM 104 (newC gI gS gT gP ws (.pointer gD) (.pointer gR)),StkA gI gD pd0 0,StkA gI gR pr0 0,RowP ws [gS,gK],BlkA gP 143 turC,DcA gI gS 16456 16960 stu0,DcA gI gK 8 16384 ker0,TabA gT s.tab0,ImgA gI img0,BlkA w.heap.size 30 (setupC s.cut m)])) wx)
  case first=>
   go_wp2_with fail
   go_meet
   exact⟨_,rfl,h3.out⟩
  case rest=>
   obtain⟨gB,rfl,h4⟩:=hcut
   clear h1 h3 hda hre d5 d6
   have hw:Blk wc r.gW 81 (worldC r r.gK (.slice gws 1 1) 0 0 0 false):=h4.blkAt 0 rfl
   have d2:wc.cell? (r.gW,2)=some (r.gS:Vl):=hw.cell 2
   have d3:wc.cell? (r.gW,3)=some (r.gK:Vl):=hw.cell 3
   have f3:=hw.frozen 3
   have h5:=hid (h4.setAt 0 rfl 3 (.pointer r.gS))
   replace h4:=hid h4
   replace hw:=hid hw
   go_upto_region 19 with fail
   go_cut [] (λwx=>On Nob w (AllA (docL r r.gS (.slice gws 1 1) (x08 s)++ [BlkA gws 75 #[r.gK],BlkA gB 46 (bothC (⟨gB,gI,gK,gS,gT,gP,gM,r.gW⟩:Bc) (.slice none 0 0)),BlkA gM 104 (newC gI gS gT gP ws (.pointer gD) (.pointer gR)),StkA gI gD pd0 0,StkA gI gR pr0 0,RowP ws [gS,gK],BlkA gP 143 turC,DcA gI gS 16456 16960 stu0,DcA gI gK 8 16384 ker0,TabA gT s.tab0,ImgA gI img0,BlkA w.heap.size 30 (setupC s.cut m)])) wx)
   case first=>
    go_wp2_with fail
    go_meet
    exact h5.out
   case rest=>
    clear h4 hw d2 d3 f3 h5
    have hw:Blk wc r.gW 81 (worldC r r.gS (.slice gws 1 1) 0 0 0 false):=hcut.blkAt 0 rfl
    have d4:wc.cell? (r.gW,4)=some (.slice gws 1 1):=hw.cell 4
    have f4:=hw.frozen 4
    have h5:=hcut.setAt 0 rfl 4 (.slice gws 0 1)
    have h6:=hid (On.asAt (A':=RowK 75 1 (.slice gws 0 1) 0 []) 9 h5 rfl (λF'=>row_none))
    replace hcut:=hid hcut
    replace hw:=hid hw
    clear h5
    go_upto_region 20 with fail
    go_cut [] (λwx=>On Nob w (AllA (docL r r.gS (.slice gws 0 1) (x08 s)++ [RowK 75 1 (.slice gws 0 1) 0 [],BlkA gB 46 (bothC (⟨gB,gI,gK,gS,gT,gP,gM,r.gW⟩:Bc) (.slice none 0 0)),BlkA gM 104 (newC gI gS gT gP ws (.pointer gD) (.pointer gR)),StkA gI gD pd0 0,StkA gI gR pr0 0,RowP ws [gS,gK],BlkA gP 143 turC,DcA gI gS 16456 16960 stu0,DcA gI gK 8 16384 ker0,TabA gT s.tab0,ImgA gI img0,BlkA w.heap.size 30 (setupC s.cut m)])) wx)
    case first=>
     go_wp2_with fail
     go_meet
     exact h6.out
    case rest=>
     clear hw d4 f4 h6
     apply_assumption
     exact mk_E (b:=(⟨gB,gI,gK,gS,gT,gP,gM,r.gW⟩:Bc)) rfl hs.out hcut
end Vm
end Go.Proofs.YtngdikikclfgjaaGreatDoor
