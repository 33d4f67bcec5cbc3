/- Chapter 11: the walk of made: the lists, the opening. Conditions: as written. -/
import Derived.Test.YtngdikikclfgjaaGreatDoorZ35
namespace Go.Proofs.YtngdikikclfgjaaGreatDoor
set_option linter.unusedVariables false
set_option linter.unusedSimpArgs false
set_option maxHeartbeats 8000000
set_option maxRecDepth 100000
open Go.RowKit Go.Lib Go.Deep
namespace Vm
theorem mk_F1{w W:World}{s:Setup}{m:Sl}{v2 ws:Value}{gD gR:Nat}{b:Bc}{r:Rc}(hW:b.gW=r.gW)(hs:SetIn w s m)(hon:On Nob w (AllA (mdL (mwX w s m v2 ws gD gR) b r (mcN (mwX w s m v2 ws gD gR) b) img0 (x08 s))) W){u0 u4 u6 u7 u8 u9 u10 u11 u14 u15 u16 u17 u18 u19 u20 u21 u22 u23 u24 u25 u26 u27 u28 u29 u30 u31 u32 u33 u34 u35 u36 u37 u38 u39 u40 u41 u42 u43 u44 u45 u46 u47 u48 u49 u50 u51 u52 u53 u54 u55 u56 u57 u58 u59 u60 u61 u62 u63 u64 u65 u66 u67 u68 u69 u70 u71 u72 u73 u74 u75 u76 u77 u78 u79 u80 u81 u82 u83 u84 u85 u86 u87 u88 u89 u90 u91 u92 u93 u94 u95 u96 u97 u98 u99 u100 u101 u102 u103 u104 u105 u106 u107 u108 u109 u110 u111 u112 u113 u114 u115 u116 u117 u118 u119 u120 u121 u122 u123 u124 u125 u126 u127 u128 u129 u130 u131 u132 u133 u134 u135 u136 u137 u138 u139 u140 u141 u142 u143 u144 u145 u146 u147 u148 u149 u150 u151 u152 u153 u154 u155 u156 u157 u158 u159 u160 u161 u162 u163 u164 u165 u166 u167 u168 u169 u170 u171 u172 u173 u174 u175 u176 u177 u178 u179 u180 u181 u182 u183 u184 u185 u186 u187 u188 u189 u190 u191 u192 u193 u194 u195 u196 u197 u198 u199 u200 u201 u202 u203 u204 u205 u206 u207 u208 u209 u210 u211 u212 u213 u214 u215 u216 u217 u218 u219 u220 u221 u222 u223 u224 u225 u226 u227 u228 u229 u230 u231 u232 u233 u234:Value}:Code.wp Tryz.prog (codeDrop 17 (Tryz.f5.body.getD .skip)) (bodyPost Tryz.prog Tryz.f5 (PostE (MadeB s) Nob w)) ⟨List.toArray (u0 :: .pointer w.heap.size :: .pointer none :: .pointer r.gW::u4 :: .pointer b.gI::u6::u7::u8::u9::u10::u11 :: .pointer b.gM :: .pointer b.gB::u14::u15::u16::u17::u18::u19::u20::u21::u22::u23::u24::u25::u26::u27::u28::u29::u30::u31::u32::u33::u34::u35::u36::u37::u38::u39::u40::u41::u42::u43::u44::u45::u46::u47::u48::u49::u50::u51::u52::u53::u54::u55::u56::u57::u58::u59::u60::u61::u62::u63::u64::u65::u66::u67::u68::u69::u70::u71::u72::u73::u74::u75::u76::u77::u78::u79::u80::u81::u82::u83::u84::u85::u86::u87::u88::u89::u90::u91::u92::u93::u94::u95::u96::u97::u98::u99::u100::u101::u102::u103::u104::u105::u106::u107::u108::u109::u110::u111::u112::u113::u114::u115::u116::u117::u118::u119::u120::u121::u122::u123::u124::u125::u126::u127::u128::u129::u130::u131::u132::u133::u134::u135::u136::u137::u138::u139::u140::u141::u142::u143::u144::u145::u146::u147::u148::u149::u150::u151::u152::u153::u154::u155::u156::u157::u158::u159::u160::u161::u162::u163::u164::u165::u166::u167::u168::u169::u170::u171::u172::u173::u174::u175::u176::u177::u178::u179::u180::u181::u182::u183::u184::u185::u186::u187::u188::u189::u190::u191::u192::u193::u194::u195::u196::u197::u198::u199::u200::u201::u202::u203::u204::u205::u206::u207::u208::u209::u210::u211::u212::u213::u214::u215::u216::u217::u218::u219::u220::u221::u222::u223::u224::u225::u226::u227::u228::u229::u230::u231::u232::u233::u234 :: []),[]⟩ W:=by
 conv=>
  arg 2
  unfold Tryz.f5
  dsimp only[codeDrop,Option.getD]
 replace hs:=hid hs
 obtain⟨ha1,ho1⟩:=t1_fine s
 have hc1:s.t1.1.cl=false:=ha1.cl.trans rfl
 have hb0:Blk W w.heap.size 30 (setupC s.cut m):=hon.blkAt 0 rfl
 have k0:W.cell? (w.heap.size,0)=some (s.caps:Vl):=hb0.cell 0
 have k1:W.cell? (w.heap.size,1)=some (s.room:Vl):=hb0.cell 1
 have k2:W.cell? (w.heap.size,2)=some (.string s.inp):=hb0.cell 2
 have k3:W.cell? (w.heap.size,3)=some (.string s.hid):=hb0.cell 3
 have k4:W.cell? (w.heap.size,4)=some (.bool s.opened):=hb0.cell 4
 have k5:W.cell? (w.heap.size,5)=some (.slice m.kA s.kernel.length m.kc):=hb0.cell 5
 have k6:W.cell? (w.heap.size,6)=some (.slice m.sA s.student.length m.sc):=hb0.cell 6
 have k7:W.cell? (w.heap.size,7)=some (s.base:Vl):=hb0.cell 7
 have k8:W.cell? (w.heap.size,8)=some (.slice m.dA s.data.length m.dc):=hb0.cell 8
 have k9:W.cell? (w.heap.size,9)=some (.slice m.rA s.ret.length m.rc):=hb0.cell 9
 have k10:W.cell? (w.heap.size,10)=some (s.fault:Vl):=hb0.cell 10
 have k11:W.cell? (w.heap.size,11)=some (s.used:Vl):=hb0.cell 11
 have k12:W.cell? (w.heap.size,12)=some (s.hiddenAs:Vl):=hb0.cell 12
 have hli:=hid (md_lists (x:=x08 s) hon rfl hW at8_ker rfl at8_stu rfl hs.out.cut)
 replace hb0:=hid hb0
 replace hon:=hid hon
 go_upto_region 22 with fail
 go_cut [4] (λt4 wx=>t4 = .bool true∧On Nob w (AllA (mdL (mwX w s m v2 ws gD gR) b r (mcN (mwX w s m v2 ws gD gR) b) s.t1.1 (x22 s))) wx)
 case first=>
  go_wp2_with fail
  refine mo hli.out λw1 h1=>?_
  replace h1:=hid h1
  go_wp2_with fail
  go_meet
  exact⟨rfl,h1.out⟩
 case rest=>
  obtain⟨rfl,h1⟩:=hcut
  clear hb0 hon hli k0 k1 k2 k3 k4 k5 k6 k7 k8 k9 k10 k11 k12
  have hb1:Blk wc w.heap.size 30 (setupC s.cut m):=h1.blkAt 0 rfl
  have k4:wc.cell? (w.heap.size,4)=some (.bool s.opened):=hb1.cell 4
  have hop1:=md_open1 h1
  have eo0:s.opened=false->s.i2=s.t1.1:=λh=>by unfold Setup.i2;rw[h];rfl
  have eo1:s.opened=true->s.i2 = { s.t1.1 with op:=true }∧s.t1.1.opened = { s.t1.1 with op:=true }:=λh=>by
   have e1:s.t1.1.opened = { s.t1.1 with op:=true }:=by unfold Img.opened;rw[if_neg (by rw[hc1];decide)]
   refine⟨?_,e1⟩
   unfold Setup.i2
   rw[h]
   exact e1
  obtain⟨o,ho⟩: ∃o,s.opened=o:=⟨_,rfl⟩
  rw[ho]at k4 eo0 eo1
  replace h1:=hid h1
  replace hb1:=hid hb1
  replace hop1:=hid hop1
  replace eo0:=hid eo0
  replace eo1:=hid eo1
  replace ho:=hid ho
  go_upto_if 179 with fail
  go_cut [] (λwx=>On Nob w (AllA (mdL (mwX w s m v2 ws gD gR) b r (mcN (mwX w s m v2 ws gD gR) b) s.i2 (x25 s))) wx)
  case first=>
   cases o
   ·go_wp2
    go_meet
    have e1:=eo0.out (by first|rfl|trivial)
    unfold x25
    rw[e1]
    exact h1.out
   ·go_wp2_with fail
    refine mo hop1.out λw2 h2=>?_
    obtain⟨e1,e2⟩:=eo1.out (by first|rfl|trivial)
    rw[e2]at h2
    have hop2:=hid (md_open2 h2 ho1 hc1)
    replace h2:=hid h2
    clear hop1 e2
    replace e1:=hid e1
    go_wp2_with fail
    refine mo hop2.out λw3 h3=>?_
    replace h3:=hid h3
    go_wp2_with fail
    go_meet
    unfold x25
    rw[e1.out]
    exact h3.out
  case rest=>
   clear h1 hb1 k4 hop1 eo0 eo1 ho
   apply_assumption
   exact mk_F2 hW hs.out hcut
end Vm
end Go.Proofs.YtngdikikclfgjaaGreatDoor
