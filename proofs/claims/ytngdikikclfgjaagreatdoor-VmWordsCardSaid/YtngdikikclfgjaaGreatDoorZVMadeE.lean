/- Chapter 11: the walk of made: the lists that are looked through. Conditions: as written. -/
import Derived.Test.YtngdikikclfgjaaGreatDoorZVMadeF1
namespace Go.Proofs.YtngdikikclfgjaaGreatDoor
set_option linter.unusedVariables false
set_option linter.unusedSimpArgs false
set_option maxHeartbeats 8000000
set_option maxRecDepth 100000
open Go.RowKit Go.Lib Go.Deep
namespace Vm
theorem p_EC{w W:World}{F:Nat->Prop}{WO RF RR RD RS RK RT RI RB W2 BO MA SD SR WP TU DS DK TA IM SB:Asr}(h:On F w (AllA [WO,RF,RR,RD,RS,RK,RT,RI,RB,W2,BO,MA,SD,SR,WP,TU,DS,DK,TA,IM,SB]) W):On F w (AllA [SB,W2,WP,TU,TA,DS,DK,BO,MA,SD,SR,IM,WO,RF,RR,RD,RS,RK,RT,RI,RB]) W:=by
 replace h:On F w (AllA [RB,WO,RF,RR,RD,RS,RK,RT,RI,W2,BO,MA,SD,SR,WP,TU,DS,DK,TA,IM,SB]) W:=h.front 8 rfl
 replace h:On F w (AllA [RI,RB,WO,RF,RR,RD,RS,RK,RT,W2,BO,MA,SD,SR,WP,TU,DS,DK,TA,IM,SB]) W:=h.front 8 rfl
 replace h:On F w (AllA [RT,RI,RB,WO,RF,RR,RD,RS,RK,W2,BO,MA,SD,SR,WP,TU,DS,DK,TA,IM,SB]) W:=h.front 8 rfl
 replace h:On F w (AllA [RK,RT,RI,RB,WO,RF,RR,RD,RS,W2,BO,MA,SD,SR,WP,TU,DS,DK,TA,IM,SB]) W:=h.front 8 rfl
 replace h:On F w (AllA [RS,RK,RT,RI,RB,WO,RF,RR,RD,W2,BO,MA,SD,SR,WP,TU,DS,DK,TA,IM,SB]) W:=h.front 8 rfl
 replace h:On F w (AllA [RD,RS,RK,RT,RI,RB,WO,RF,RR,W2,BO,MA,SD,SR,WP,TU,DS,DK,TA,IM,SB]) W:=h.front 8 rfl
 replace h:On F w (AllA [RR,RD,RS,RK,RT,RI,RB,WO,RF,W2,BO,MA,SD,SR,WP,TU,DS,DK,TA,IM,SB]) W:=h.front 8 rfl
 replace h:On F w (AllA [RF,RR,RD,RS,RK,RT,RI,RB,WO,W2,BO,MA,SD,SR,WP,TU,DS,DK,TA,IM,SB]) W:=h.front 8 rfl
 replace h:On F w (AllA [WO,RF,RR,RD,RS,RK,RT,RI,RB,W2,BO,MA,SD,SR,WP,TU,DS,DK,TA,IM,SB]) W:=h.front 8 rfl
 replace h:On F w (AllA [IM,WO,RF,RR,RD,RS,RK,RT,RI,RB,W2,BO,MA,SD,SR,WP,TU,DS,DK,TA,SB]) W:=h.front 19 rfl
 replace h:On F w (AllA [SR,IM,WO,RF,RR,RD,RS,RK,RT,RI,RB,W2,BO,MA,SD,WP,TU,DS,DK,TA,SB]) W:=h.front 14 rfl
 replace h:On F w (AllA [SD,SR,IM,WO,RF,RR,RD,RS,RK,RT,RI,RB,W2,BO,MA,WP,TU,DS,DK,TA,SB]) W:=h.front 14 rfl
 replace h:On F w (AllA [MA,SD,SR,IM,WO,RF,RR,RD,RS,RK,RT,RI,RB,W2,BO,WP,TU,DS,DK,TA,SB]) W:=h.front 14 rfl
 replace h:On F w (AllA [BO,MA,SD,SR,IM,WO,RF,RR,RD,RS,RK,RT,RI,RB,W2,WP,TU,DS,DK,TA,SB]) W:=h.front 14 rfl
 replace h:On F w (AllA [DK,BO,MA,SD,SR,IM,WO,RF,RR,RD,RS,RK,RT,RI,RB,W2,WP,TU,DS,TA,SB]) W:=h.front 18 rfl
 replace h:On F w (AllA [DS,DK,BO,MA,SD,SR,IM,WO,RF,RR,RD,RS,RK,RT,RI,RB,W2,WP,TU,TA,SB]) W:=h.front 18 rfl
 replace h:On F w (AllA [TA,DS,DK,BO,MA,SD,SR,IM,WO,RF,RR,RD,RS,RK,RT,RI,RB,W2,WP,TU,SB]) W:=h.front 19 rfl
 replace h:On F w (AllA [TU,TA,DS,DK,BO,MA,SD,SR,IM,WO,RF,RR,RD,RS,RK,RT,RI,RB,W2,WP,SB]) W:=h.front 19 rfl
 replace h:On F w (AllA [WP,TU,TA,DS,DK,BO,MA,SD,SR,IM,WO,RF,RR,RD,RS,RK,RT,RI,RB,W2,SB]) W:=h.front 19 rfl
 replace h:On F w (AllA [W2,WP,TU,TA,DS,DK,BO,MA,SD,SR,IM,WO,RF,RR,RD,RS,RK,RT,RI,RB,SB]) W:=h.front 19 rfl
 replace h:On F w (AllA [SB,W2,WP,TU,TA,DS,DK,BO,MA,SD,SR,IM,WO,RF,RR,RD,RS,RK,RT,RI,RB]) W:=h.front 20 rfl
 exact h
theorem ptr2_news{w:World}{B:Nat}{t:TypeId}{g1 g2:Nat}(hb:Blk w B t #[g1,g2]): ∀j u,[Value.pointer g1,.pointer g2][j]? = some u->w.cell? ((⟨B,0,none⟩:Addr).add j)=some u:=λj u hu=>World.news_of_block hb j u hu
theorem ptr2_one(g1 g2:Nat): ∀u∈[Value.pointer (some (⟨g1,0,none⟩:Addr)),.pointer (some (⟨g2,0,none⟩:Addr))],u.oneCell'=true:=by
 intro u hu
 simp only[List.mem_cons,List.mem_nil_iff,or_false]at hu
 rcases hu with rfl|rfl<;>rfl
theorem info_rp: (Tryz.prog.info? 75).map (λi=>(i.zero,i.size,i.bytes))=some (some (.pointer none),1,8):=by kernel_rfl
theorem mk_E{w W:World}{s:Setup}{m:Sl}{ws:Value}{gD gR gws:Nat}{b:Bc}{r:Rc}(hW:b.gW=r.gW)(hs:SetIn w s m)(hon:On Nob w (AllA (docL r r.gS (.slice gws 0 1) (x08 s)++ [RowK 75 1 (.slice gws 0 1) 0 [],BlkA b.gB 46 (bothC b (.slice none 0 0)),BlkA b.gM 104 (newC b.gI b.gS b.gT b.gP ws (.pointer gD) (.pointer gR)),StkA b.gI gD pd0 0,StkA b.gI gR pr0 0,RowP ws [b.gS,b.gK],BlkA b.gP 143 turC,DcA b.gI b.gS 16456 16960 stu0,DcA b.gI b.gK 8 16384 ker0,TabA b.gT s.tab0,ImgA b.gI img0,BlkA w.heap.size 30 (setupC s.cut m)])) W){u0 u4 u6 u7 u8 u9 u10 u11 u14 u15 u16 u17 u18 u19 u20 u21 u22 u23 u24 u25 u26 u27 u28 u29 u30 u31 u32 u33 u34 u35 u36 u37 u38 u39 u40 u41 u42 u43 u44 u45 u46 u47 u48 u49 u50 u51 u52 u53 u54 u55 u56 u57 u58 u59 u60 u61 u62 u63 u64 u65 u66 u67 u68 u69 u70 u71 u72 u73 u74 u75 u76 u77 u78 u79 u80 u81 u82 u83 u84 u85 u86 u87 u88 u89 u90 u91 u92 u93 u94 u95 u96 u97 u98 u99 u100 u101 u102 u103 u104 u105 u106 u107 u108 u109 u110 u111 u112 u113 u114 u115 u116 u117 u118 u119 u120 u121 u122 u123 u124 u125 u126 u127 u128 u129 u130 u131 u132 u133 u134 u135 u136 u137 u138 u139 u140 u141 u142 u143 u144 u145 u146 u147 u148 u149 u150 u151 u152 u153 u154 u155 u156 u157 u158 u159 u160 u161 u162 u163 u164 u165 u166 u167 u168 u169 u170 u171 u172 u173 u174 u175 u176 u177 u178 u179 u180 u181 u182 u183 u184 u185 u186 u187 u188 u189 u190 u191 u192 u193 u194 u195 u196 u197 u198 u199 u200 u201 u202 u203 u204 u205 u206 u207 u208 u209 u210 u211 u212 u213 u214 u215 u216 u217 u218 u219 u220 u221 u222 u223 u224 u225 u226 u227 u228 u229 u230 u231 u232 u233 u234:Value}:Code.wp Tryz.prog (codeDrop 16 (Tryz.f5.body.getD .skip)) (bodyPost Tryz.prog Tryz.f5 (PostE (MadeB s) Nob w)) ⟨List.toArray (u0 :: .pointer w.heap.size :: .pointer none :: .pointer r.gW::u4 :: .pointer b.gI::u6::u7::u8::u9::u10::u11 :: .pointer b.gM :: .pointer b.gB::u14::u15::u16::u17::u18::u19::u20::u21::u22::u23::u24::u25::u26::u27::u28::u29::u30::u31::u32::u33::u34::u35::u36::u37::u38::u39::u40::u41::u42::u43::u44::u45::u46::u47::u48::u49::u50::u51::u52::u53::u54::u55::u56::u57::u58::u59::u60::u61::u62::u63::u64::u65::u66::u67::u68::u69::u70::u71::u72::u73::u74::u75::u76::u77::u78::u79::u80::u81::u82::u83::u84::u85::u86::u87::u88::u89::u90::u91::u92::u93::u94::u95::u96::u97::u98::u99::u100::u101::u102::u103::u104::u105::u106::u107::u108::u109::u110::u111::u112::u113::u114::u115::u116::u117::u118::u119::u120::u121::u122::u123::u124::u125::u126::u127::u128::u129::u130::u131::u132::u133::u134::u135::u136::u137::u138::u139::u140::u141::u142::u143::u144::u145::u146::u147::u148::u149::u150::u151::u152::u153::u154::u155::u156::u157::u158::u159::u160::u161::u162::u163::u164::u165::u166::u167::u168::u169::u170::u171::u172::u173::u174::u175::u176::u177::u178::u179::u180::u181::u182::u183::u184::u185::u186::u187::u188::u189::u190::u191::u192::u193::u194::u195::u196::u197::u198::u199::u200::u201::u202::u203::u204::u205::u206::u207::u208::u209::u210::u211::u212::u213::u214::u215::u216::u217::u218::u219::u220::u221::u222::u223::u224::u225::u226::u227::u228::u229::u230::u231::u232::u233::u234 :: []),[]⟩ W:=by
 conv=>
  arg 2
  unfold Tryz.f5
  dsimp only[codeDrop,Option.getD]
 replace hs:=hid hs
 have hbl:Blk W r.gW 81 (worldC r r.gS (.slice gws 0 1) 0 0 0 false):=hon.blkAt 0 rfl
 have c1:W.cell? (r.gW,1)=some (r.gK:Vl):=hbl.cell 1
 have c2:W.cell? (r.gW,2)=some (r.gS:Vl):=hbl.cell 2
 have c4:W.cell? (r.gW,4)=some (.slice gws 0 1):=hbl.cell 4
 obtain⟨F1,hR⟩:=hon.at_ (A:=RowK 75 1 (.slice gws 0 1) 0 []) 9 rfl
 have hown:=hR.1
 obtain⟨i0,hi0,hz0,hz1,hz2⟩:=info_parts info_rp
 have hlt:=hbl.lt
 have hne: (Value.slice gws 0 1).ownBlock≠some r.gW:=λe=>by
  obtain⟨F1,F2,h1,h2,hd⟩:=hon.apart (A:=BlkA r.gW 81 (worldC r r.gS (.slice gws 0 1) 0 0 0 false)) (B:=RowK 75 1 (.slice gws 0 1) 0 []) 0 9 (by decide) rfl rfl
  exact hd r.gW ((h1.2 _).2 rfl) ((h2.2 _).2 e)
 have hnl:0+2<=maxLen∧(0+2)*8<=140737488355328:=by unfold maxLen;omega
 have hfin:=λ(w2 w3:World) (sg cap:Nat) (hon:On Nob w (AllA (docL r r.gS (.slice gws 0 1) (x08 s)++ [RowK 75 1 (.slice gws 0 1) 0 [],BlkA b.gB 46 (bothC b (.slice none 0 0)),BlkA b.gM 104 (newC b.gI b.gS b.gT b.gP ws (.pointer gD) (.pointer gR)),StkA b.gI gD pd0 0,StkA b.gI gR pr0 0,RowP ws [b.gS,b.gK],BlkA b.gP 143 turC,DcA b.gI b.gS 16456 16960 stu0,DcA b.gI b.gK 8 16384 ker0,TabA b.gT s.tab0,ImgA b.gI img0,BlkA w.heap.size 30 (setupC s.cut m)])) w2) (hG:w3.ownsRow 0 75 1 (.slice sg (0+2) cap) (0+2) ([]++ [.pointer r.gS,.pointer r.gK])) (hgrow:w2.grownBy w3 (Value.slice gws 0 1).ownBlock) (hat: (Value.slice gws 0 1).ownBlock=some sg∨sg=w2.heap.size)=>(by
  have h1:=hon.growAt 9 rfl hG hgrow (grew_at hat)
  have h2:=h1.setAt 0 rfl 4 (.slice sg (0+2) cap)
  have h3:=p_EC h2
  exact h3:On Nob w (AllA (mdL (mwX w s m (.slice sg 2 cap) ws gD gR) b r (mcN (mwX w s m (.slice sg 2 cap) ws gD gR) b) img0 (x08 s))) (w3.setCell (r.gW,4) (.slice sg (0+2) cap)))
 replace hon:=hid hon
 replace hown:=hid hown
 replace hi0:=hid hi0
 replace hz0:=hid hz0
 replace hz1:=hid hz1
 replace hz2:=hid hz2
 replace hnl:=hid hnl
 replace hfin:=hid hfin
 replace hbl:=hid hbl
 replace hne:=hid hne
 clear hR
 go_upto_region 21 with fail
 go_cut [] (λwx=> ∃v2,On Nob w (AllA (mdL (mwX w s m v2 ws gD gR) b r (mcN (mwX w s m v2 ws gD gR) b) img0 (x08 s))) wx)
 case first=>
  go_region_law ((refine step_append_lies _ rfl (.tmp 160) (.tmp 169) 76 rfl 0 75 i0 (.pointer none) 1 8 ?_ ?_ ?_ ?_ ?_ ?_ ?_ (.slice gws 0 1) 0 [] ?_ ?_ ⟨W.heap.size,0,none⟩ 2 2 [.pointer r.gS,.pointer r.gK] ?_ ?_ ?_ ?_ ?_ ?_ ?_ ?_ (W.heap.size+1) ?_ ?_;exact Tryz.underlying76;exact hi0.out;exact hz0.out;exact hz1.out;exact hz2.out;rfl;omega;rfl;exact ownsRow_drew (hown.out.alloc _);rfl;rfl;refine ptr2_news (t:=75) ?_;refine Blk.drew (Blk.new' ?_);simp;exact ptr2_one _ _;omega;exact hnl.out.1;exact hnl.out.2;omega;simp;intro sg cap w3 hG hgrow hat hlt3;have hB1:=Blk.grown (hbl.out.alloc _).drew hgrow (λe=>hne.out e.symm);have c4b:w3.cell? (r.gW,4)=some (.slice gws 0 1):=hB1.cell 4;have f4b:=hB1.frozen 4))
  all_goals
   have hd:=hfin.out _ w3 sg cap (hon.out.alloc _).drew hG hgrow (by
    rcases hat with h|h
    ·exact .inl h
    ·exact .inr (by rw[h];simp))
   replace hd:=hid hd
   clear hG hgrow hB1 hat
  all_goals go_wp2_with fail
  all_goals go_meet
  all_goals exact⟨_,hd.out⟩
 case rest=>
  obtain⟨v2,h1⟩:=hcut
  clear hon hbl hown hne c1 c2 c4 hfin
  apply_assumption
  exact mk_F1 hW hs.out h1
end Vm
end Go.Proofs.YtngdikikclfgjaaGreatDoor
