/- Chapter 11: the walk of made: the lists and the turtle. Conditions: as written. -/
import Derived.Test.YtngdikikclfgjaaGreatDoorZVMadeD
namespace Go.Proofs.YtngdikikclfgjaaGreatDoor
set_option linter.unusedVariables false
set_option linter.unusedSimpArgs false
set_option maxHeartbeats 8000000
set_option maxRecDepth 100000
open Go.RowKit Go.Lib Go.Deep
namespace Vm
theorem mk_C10{w W:World}{s:Setup}{m:Sl}{gI gT gws:Nat}{r:Rc}(hs:SetIn w s m)(hon:On Nob w (AllA ([TabA gT s.tab0,ImgA gI img0,DocA r r.gK (.slice gws 1 1) (x08 s),BlkA gws 75 #[r.gK],BlkA w.heap.size 30 (setupC s.cut m)])) W){u0 u9 u10 u11 u12 u13 u14 u15 u16 u17 u18 u19 u20 u21 u22 u23 u24 u25 u26 u27 u28 u29 u30 u31 u32 u33 u34 u35 u36 u37 u38 u39 u40 u41 u42 u43 u44 u45 u46 u47 u48 u49 u50 u51 u52 u53 u54 u55 u56 u57 u58 u59 u60 u61 u62 u63 u64 u65 u66 u67 u68 u69 u70 u71 u72 u73 u74 u75 u76 u77 u78 u79 u80 u81 u82 u83 u84 u85 u86 u87 u88 u89 u90 u91 u92 u93 u94 u95 u96 u97 u98 u99 u100 u101 u102 u103 u104 u105 u106 u107 u108 u109 u110 u111 u112 u113 u114 u115 u116 u117 u118 u119 u120 u121 u122 u123 u124 u125 u126 u127 u128 u129 u130 u131 u132 u133 u134 u135 u136 u137 u138 u139 u140 u141 u142 u143 u144 u145 u146 u147 u148 u149 u150 u151 u152 u153 u154 u155 u156 u157 u158 u159 u160 u161 u162 u163 u164 u165 u166 u167 u168 u169 u170 u171 u172 u173 u174 u175 u176 u177 u178 u179 u180 u181 u182 u183 u184 u185 u186 u187 u188 u189 u190 u191 u192 u193 u194 u195 u196 u197 u198 u199 u200 u201 u202 u203 u204 u205 u206 u207 u208 u209 u210 u211 u212 u213 u214 u215 u216 u217 u218 u219 u220 u221 u222 u223 u224 u225 u226 u227 u228 u229 u230 u231 u232 u233 u234:Value}:Code.wp Tryz.prog (codeDrop 7 (Tryz.f5.body.getD .skip)) (bodyPost Tryz.prog Tryz.f5 (PostE (MadeB s) Nob w)) ⟨List.toArray (u0 :: .pointer w.heap.size :: .pointer none :: .pointer r.gW :: .bool true :: .pointer gI :: .int .i64 0 :: .pointer gT :: .int .i64 0::u9::u10::u11::u12::u13::u14::u15::u16::u17::u18::u19::u20::u21::u22::u23::u24::u25::u26::u27::u28::u29::u30::u31::u32::u33::u34::u35::u36::u37::u38::u39::u40::u41::u42::u43::u44::u45::u46::u47::u48::u49::u50::u51::u52::u53::u54::u55::u56::u57::u58::u59::u60::u61::u62::u63::u64::u65::u66::u67::u68::u69::u70::u71::u72::u73::u74::u75::u76::u77::u78::u79::u80::u81::u82::u83::u84::u85::u86::u87::u88::u89::u90::u91::u92::u93::u94::u95::u96::u97::u98::u99::u100::u101::u102::u103::u104::u105::u106::u107::u108::u109::u110::u111::u112::u113::u114::u115::u116::u117::u118::u119::u120::u121::u122::u123::u124::u125::u126::u127::u128::u129::u130::u131::u132::u133::u134::u135::u136::u137::u138::u139::u140::u141::u142::u143::u144::u145::u146::u147::u148::u149::u150::u151::u152::u153::u154::u155::u156::u157::u158::u159::u160::u161::u162::u163::u164::u165::u166::u167::u168::u169::u170::u171::u172::u173::u174::u175::u176::u177::u178::u179::u180::u181::u182::u183::u184::u185::u186::u187::u188::u189::u190::u191::u192::u193::u194::u195::u196::u197::u198::u199::u200::u201::u202::u203::u204::u205::u206::u207::u208::u209::u210::u211::u212::u213::u214::u215::u216::u217::u218::u219::u220::u221::u222::u223::u224::u225::u226::u227::u228::u229::u230::u231::u232::u233::u234 :: []),[]⟩ W:=by
 conv=>
  arg 2
  unfold Tryz.f5
  dsimp only[codeDrop,Option.getD]
 replace hs:=hid hs
 obtain⟨gbI,hiI⟩:=hon.img 1 rfl
 have hk:=hon.make (n_dict hiI 1 (.inl rfl))
 replace hon:=hid hon
 replace hk:=hid hk
 clear hiI
 go_upto_region 10 with fail
 go_cut [6,9] (λt6 t9 wx=> ∃gK,t9 = .pointer (some ⟨gK,0,none⟩)∧t6 = .int .i64 0∧On Nob w (AllA [DcA gI gK 8 16384 ker0,TabA gT s.tab0,ImgA gI img0,DocA r r.gK (.slice gws 1 1) { x00 with T:=s.tab0 },BlkA gws 75 #[r.gK],BlkA w.heap.size 30 (setupC s.cut m)]) wx)
 case first=>
  go_wp2_with fail
  refine hk.out.mono ?_
  rintro e w1 ⟨B,⟨gK,rfl,rfl⟩,h⟩
  replace h:=hid h
  simp only[]
  go_wp2_with fail
  go_meet
  exact⟨gK,rfl,rfl,h.out⟩
 case rest=>
  obtain⟨gK,rfl,rfl,hon10⟩:=hcut
  clear hon hk
  obtain⟨gbI,hiI⟩:=hon10.img 2 rfl
  have hk:=hon10.make (n_dict hiI 3 (.inr rfl))
  replace hon10:=hid hon10
  replace hk:=hid hk
  clear hiI
  go_upto_region 11 with fail
  go_cut [8,10] (λt8 t10 wx=> ∃gS,t10 = .pointer (some ⟨gS,0,none⟩)∧t8 = .int .i64 0∧On Nob w (AllA [DcA gI gS 16456 16960 stu0,DcA gI gK 8 16384 ker0,TabA gT s.tab0,ImgA gI img0,DocA r r.gK (.slice gws 1 1) { x00 with T:=s.tab0 },BlkA gws 75 #[r.gK],BlkA w.heap.size 30 (setupC s.cut m)]) wx)
  case first=>
   go_wp2_with fail
   refine hk.out.mono ?_
   rintro e w1 ⟨B,⟨gS,rfl,rfl⟩,h⟩
   replace h:=hid h
   simp only[]
   go_wp2_with fail
   go_meet
   exact⟨gS,rfl,rfl,h.out⟩
  case rest=>
   obtain⟨gS,rfl,rfl,hon11⟩:=hcut
   clear hon10 hk
   have hk:=hon11.make (n_turtle _)
   replace hon11:=hid hon11
   replace hk:=hid hk
   go_upto_region 12 with fail
   go_cut [11] (λt11 wx=> ∃gP,t11 = .pointer (some ⟨gP,0,none⟩)∧On Nob w (AllA [BlkA gP 143 turC,DcA gI gS 16456 16960 stu0,DcA gI gK 8 16384 ker0,TabA gT s.tab0,ImgA gI img0,DocA r r.gK (.slice gws 1 1) { x00 with T:=s.tab0 },BlkA gws 75 #[r.gK],BlkA w.heap.size 30 (setupC s.cut m)]) wx)
   case first=>
    go_wp2_with fail
    refine hk.out.mono ?_
    rintro e w1 ⟨B,⟨gP,rfl,rfl⟩,h⟩
    replace h:=hid h
    simp only[]
    go_wp2_with fail
    go_meet
    exact⟨gP,rfl,h.out⟩
   case rest=>
    obtain⟨gP,rfl,hon12⟩:=hcut
    clear hon11 hk
    apply_assumption
    exact mk_D hs.out hon12
end Vm
end Go.Proofs.YtngdikikclfgjaaGreatDoor
