/- Chapter 11: the walk of made: the table of the document. Conditions: as written. -/
import Derived.Test.YtngdikikclfgjaaGreatDoorZVMadeC10
namespace Go.Proofs.YtngdikikclfgjaaGreatDoor
set_option linter.unusedVariables false
set_option linter.unusedSimpArgs false
set_option maxHeartbeats 8000000
set_option maxRecDepth 100000
open Go.RowKit Go.Lib Go.Deep
namespace Vm
theorem mk_C{w W:World}{s:Setup}{m:Sl}{gI gT gws:Nat}{r:Rc}(hs:SetIn w s m)(hon:On Nob w (AllA ([TabA gT s.tab0,ImgA gI img0,DocA r r.gK (.slice gws 1 1) x00,BlkA gws 75 #[r.gK],BlkA w.heap.size 30 (setupC s.cut m)])) W){u0 u9 u10 u11 u12 u13 u14 u15 u16 u17 u18 u19 u20 u21 u22 u23 u24 u25 u26 u27 u28 u29 u30 u31 u32 u33 u34 u35 u36 u37 u38 u39 u40 u41 u42 u43 u44 u45 u46 u47 u48 u49 u50 u51 u52 u53 u54 u55 u56 u57 u58 u59 u60 u61 u62 u63 u64 u65 u66 u67 u68 u69 u70 u71 u72 u73 u74 u75 u76 u77 u78 u79 u80 u81 u82 u83 u84 u85 u86 u87 u88 u89 u90 u91 u92 u93 u94 u95 u96 u97 u98 u99 u100 u101 u102 u103 u104 u105 u106 u107 u108 u109 u110 u111 u112 u113 u114 u115 u116 u117 u118 u119 u120 u121 u122 u123 u124 u125 u126 u127 u128 u129 u130 u131 u132 u133 u134 u135 u136 u137 u138 u139 u140 u141 u142 u143 u144 u145 u146 u147 u148 u149 u150 u151 u152 u153 u154 u155 u156 u157 u158 u159 u160 u161 u162 u163 u164 u165 u166 u167 u168 u169 u170 u171 u172 u173 u174 u175 u176 u177 u178 u179 u180 u181 u182 u183 u184 u185 u186 u187 u188 u189 u190 u191 u192 u193 u194 u195 u196 u197 u198 u199 u200 u201 u202 u203 u204 u205 u206 u207 u208 u209 u210 u211 u212 u213 u214 u215 u216 u217 u218 u219 u220 u221 u222 u223 u224 u225 u226 u227 u228 u229 u230 u231 u232 u233 u234:Value}:Code.wp Tryz.prog (codeDrop 5 (Tryz.f5.body.getD .skip)) (bodyPost Tryz.prog Tryz.f5 (PostE (MadeB s) Nob w)) ⟨List.toArray (u0 :: .pointer w.heap.size :: .pointer none :: .pointer r.gW :: .bool true :: .pointer gI :: .int .i64 0 :: .pointer gT :: .int .i64 0::u9::u10::u11::u12::u13::u14::u15::u16::u17::u18::u19::u20::u21::u22::u23::u24::u25::u26::u27::u28::u29::u30::u31::u32::u33::u34::u35::u36::u37::u38::u39::u40::u41::u42::u43::u44::u45::u46::u47::u48::u49::u50::u51::u52::u53::u54::u55::u56::u57::u58::u59::u60::u61::u62::u63::u64::u65::u66::u67::u68::u69::u70::u71::u72::u73::u74::u75::u76::u77::u78::u79::u80::u81::u82::u83::u84::u85::u86::u87::u88::u89::u90::u91::u92::u93::u94::u95::u96::u97::u98::u99::u100::u101::u102::u103::u104::u105::u106::u107::u108::u109::u110::u111::u112::u113::u114::u115::u116::u117::u118::u119::u120::u121::u122::u123::u124::u125::u126::u127::u128::u129::u130::u131::u132::u133::u134::u135::u136::u137::u138::u139::u140::u141::u142::u143::u144::u145::u146::u147::u148::u149::u150::u151::u152::u153::u154::u155::u156::u157::u158::u159::u160::u161::u162::u163::u164::u165::u166::u167::u168::u169::u170::u171::u172::u173::u174::u175::u176::u177::u178::u179::u180::u181::u182::u183::u184::u185::u186::u187::u188::u189::u190::u191::u192::u193::u194::u195::u196::u197::u198::u199::u200::u201::u202::u203::u204::u205::u206::u207::u208::u209::u210::u211::u212::u213::u214::u215::u216::u217::u218::u219::u220::u221::u222::u223::u224::u225::u226::u227::u228::u229::u230::u231::u232::u233::u234 :: []),[]⟩ W:=by
 conv=>
  arg 2
  unfold Tryz.f5
  dsimp only[codeDrop,Option.getD]
 replace hs:=hid hs
 have pk1:=λW=>pick11 s.caps 32 W hs.out.caps oM
 have pk2:=λW=>pick11 s.room 65537 W hs.out.room oM
 replace pk1:=hid pk1
 replace pk2:=hid pk2
 have hbx:Blk W w.heap.size 30 (setupC s.cut m):=hon.blkAt 4 rfl
 have c0:W.cell? (w.heap.size,0)=some (s.caps:Vl):=hbx.cell 0
 have c1:W.cell? (w.heap.size,1)=some (s.room:Vl):=hbx.cell 1
 have c2:W.cell? (w.heap.size,2)=some (.string s.inp):=hbx.cell 2
 have ht:=hid (hon.drew.callAt 2 rfl λF' hb=>w_caps hb (pickS s.caps 32) (pickS s.room 65537) s.inp (pick_no _ _ _ s.inp_le))
 replace hon:=hid hon
 replace hbx:=hid hbx
 go_upto_region 9 with fail
 go_cut [3] (λt3 wx=> ∃r:Rc,t3 = .pointer r.gW∧On Nob w (AllA [TabA gT s.tab0,ImgA gI img0,DocA r r.gK (.slice gws 1 1) { x00 with T:=s.tab0 },BlkA gws 75 #[r.gK],BlkA w.heap.size 30 (setupC s.cut m)]) wx)
 case first=>
  go_region_held (λw'=>w'.cell? (w.heap.size,0)=some (s.caps:Vl)∧w'.cell? (w.heap.size,1)=some (s.room:Vl)∧w'.cell? (w.heap.size,2)=some (.string s.inp)) (go_keep)
   ((first
     | (go_at_call_of 6 (Value.int .i64 s.caps);refine(pk1.out _).mono ?_;rintro e w1 ⟨rfl,rfl⟩;simp only[])
     | (go_at_call_of 6 (Value.int .i64 s.room);refine(pk2.out _).mono ?_;rintro e w1 ⟨rfl,rfl⟩;simp only[])
     | (go_at_call 18;refine ht.out.mono ?_;rintro e w5 ⟨B,⟨gC,rfl,rfl⟩,h⟩;have hbx1:Blk w5 w.heap.size 30 (setupC s.cut m):=h.blkAt 4 rfl;have e0:w5.cell? (w.heap.size,0)=some (s.caps:Vl):=hbx1.cell 0;have e1:w5.cell? (w.heap.size,1)=some (s.room:Vl):=hbx1.cell 1;have e2:w5.cell? (w.heap.size,2)=some (.string s.inp):=hbx1.cell 2;replace hbx1:=hid hbx1;replace h:=hid h;simp only[])))
  all_goals go_wp2_with fail
  all_goals go_meet
  all_goals exact⟨{ r with gC:=gC },rfl,h.out⟩
 case rest=>
  clear hon ht c0 c1 c2 hbx pk1 pk2
  obtain⟨r,rfl,hon9⟩:=hcut
  apply_assumption
  exact mk_C10 hs.out hon9
theorem mk_B{w W:World}{s:Setup}{m:Sl}{gI gws:Nat}{r:Rc}(hs:SetIn w s m)(hon:On Nob w (AllA ([ImgA gI img0,DocA r r.gK (.slice gws 1 1) x00,BlkA gws 75 #[r.gK],BlkA w.heap.size 30 (setupC s.cut m)])) W){u0 u7 u8 u9 u10 u11 u12 u13 u14 u15 u16 u17 u18 u19 u20 u21 u22 u23 u24 u25 u26 u27 u28 u29 u30 u31 u32 u33 u34 u35 u36 u37 u38 u39 u40 u41 u42 u43 u44 u45 u46 u47 u48 u49 u50 u51 u52 u53 u54 u55 u56 u57 u58 u59 u60 u61 u62 u63 u64 u65 u66 u67 u68 u69 u70 u71 u72 u73 u74 u75 u76 u77 u78 u79 u80 u81 u82 u83 u84 u85 u86 u87 u88 u89 u90 u91 u92 u93 u94 u95 u96 u97 u98 u99 u100 u101 u102 u103 u104 u105 u106 u107 u108 u109 u110 u111 u112 u113 u114 u115 u116 u117 u118 u119 u120 u121 u122 u123 u124 u125 u126 u127 u128 u129 u130 u131 u132 u133 u134 u135 u136 u137 u138 u139 u140 u141 u142 u143 u144 u145 u146 u147 u148 u149 u150 u151 u152 u153 u154 u155 u156 u157 u158 u159 u160 u161 u162 u163 u164 u165 u166 u167 u168 u169 u170 u171 u172 u173 u174 u175 u176 u177 u178 u179 u180 u181 u182 u183 u184 u185 u186 u187 u188 u189 u190 u191 u192 u193 u194 u195 u196 u197 u198 u199 u200 u201 u202 u203 u204 u205 u206 u207 u208 u209 u210 u211 u212 u213 u214 u215 u216 u217 u218 u219 u220 u221 u222 u223 u224 u225 u226 u227 u228 u229 u230 u231 u232 u233 u234:Value}:Code.wp Tryz.prog (codeDrop 4 (Tryz.f5.body.getD .skip)) (bodyPost Tryz.prog Tryz.f5 (PostE (MadeB s) Nob w)) ⟨List.toArray (u0 :: .pointer w.heap.size :: .pointer none :: .pointer r.gW :: .bool true :: .pointer gI :: .int .i64 0::u7::u8::u9::u10::u11::u12::u13::u14::u15::u16::u17::u18::u19::u20::u21::u22::u23::u24::u25::u26::u27::u28::u29::u30::u31::u32::u33::u34::u35::u36::u37::u38::u39::u40::u41::u42::u43::u44::u45::u46::u47::u48::u49::u50::u51::u52::u53::u54::u55::u56::u57::u58::u59::u60::u61::u62::u63::u64::u65::u66::u67::u68::u69::u70::u71::u72::u73::u74::u75::u76::u77::u78::u79::u80::u81::u82::u83::u84::u85::u86::u87::u88::u89::u90::u91::u92::u93::u94::u95::u96::u97::u98::u99::u100::u101::u102::u103::u104::u105::u106::u107::u108::u109::u110::u111::u112::u113::u114::u115::u116::u117::u118::u119::u120::u121::u122::u123::u124::u125::u126::u127::u128::u129::u130::u131::u132::u133::u134::u135::u136::u137::u138::u139::u140::u141::u142::u143::u144::u145::u146::u147::u148::u149::u150::u151::u152::u153::u154::u155::u156::u157::u158::u159::u160::u161::u162::u163::u164::u165::u166::u167::u168::u169::u170::u171::u172::u173::u174::u175::u176::u177::u178::u179::u180::u181::u182::u183::u184::u185::u186::u187::u188::u189::u190::u191::u192::u193::u194::u195::u196::u197::u198::u199::u200::u201::u202::u203::u204::u205::u206::u207::u208::u209::u210::u211::u212::u213::u214::u215::u216::u217::u218::u219::u220::u221::u222::u223::u224::u225::u226::u227::u228::u229::u230::u231::u232::u233::u234 :: []),[]⟩ W:=by
 conv=>
  arg 2
  unfold Tryz.f5
  dsimp only[codeDrop,Option.getD]
 replace hs:=hid hs
 have hbx:Blk W w.heap.size 30 (setupC s.cut m):=hon.blkAt 3 rfl
 have c0:W.cell? (w.heap.size,0)=some (s.caps:Vl):=hbx.cell 0
 have c1:W.cell? (w.heap.size,1)=some (s.room:Vl):=hbx.cell 1
 have c2:W.cell? (w.heap.size,2)=some (.string s.inp):=hbx.cell 2
 have pk1:=λW=>pick11 s.caps 32 W hs.out.caps oM
 have pk2:=λW=>pick11 s.room 65537 W hs.out.room oM
 have ht:=hid (hon.drew.make (t_make W.drew (pickS s.caps 32) (pickS s.room 65537) s.inp (pick_no _ _ _ s.inp_le)))
 replace pk1:=hid pk1
 replace pk2:=hid pk2
 replace hon:=hid hon
 replace hbx:=hid hbx
 go_upto_region 6 with fail
 go_cut [7,8] (λt7 t8 wx=> ∃gT,t7 = .pointer (some ⟨gT,0,none⟩)∧t8 = .int .i64 0∧On Nob w (AllA [TabA gT s.tab0,ImgA gI img0,DocA r r.gK (.slice gws 1 1) x00,BlkA gws 75 #[r.gK],BlkA w.heap.size 30 (setupC s.cut m)]) wx)
 case first=>
  go_region_held (λw'=>w'.cell? (w.heap.size,0)=some (s.caps:Vl)∧w'.cell? (w.heap.size,1)=some (s.room:Vl)∧w'.cell? (w.heap.size,2)=some (.string s.inp)) (go_keep)
   ((first
     | (go_at_call_of 6 (Value.int .i64 s.caps);refine(pk1.out _).mono ?_;rintro e w1 ⟨rfl,rfl⟩;simp only[])
     | (go_at_call_of 6 (Value.int .i64 s.room);refine(pk2.out _).mono ?_;rintro e w1 ⟨rfl,rfl⟩;simp only[])
     | (go_at_call 17;refine ht.out.mono ?_;rintro e w5 ⟨B,⟨gT,rfl,rfl⟩,h⟩;have hbx1:Blk w5 w.heap.size 30 (setupC s.cut m):=h.blkAt 4 rfl;have e0:w5.cell? (w.heap.size,0)=some (s.caps:Vl):=hbx1.cell 0;have e1:w5.cell? (w.heap.size,1)=some (s.room:Vl):=hbx1.cell 1;have e2:w5.cell? (w.heap.size,2)=some (.string s.inp):=hbx1.cell 2;replace hbx1:=hid hbx1;replace h:=hid h;simp only[])))
  all_goals go_wp2_with fail
  all_goals go_meet
  all_goals exact⟨_,rfl,rfl,h.out⟩
 case rest=>
  obtain⟨gT,rfl,rfl,hon8⟩:=hcut
  clear hon hbx c0 c1 c2 ht
  apply_assumption
  exact mk_C hs.out hon8
theorem b_made{w:World}{s:Setup}{m:Sl}(hs:SetIn w s m):Calls Tryz.prog 5 #[.agg (setupC s m)] w (PostE (MadeB s) Nob w):=by
 have hon0:=(On.refl (A:=AllA []) (F:=Nob) (w:=w) (λ_ h=>h)).box (setupC s m) 30
 have hon0:=hid hon0
 replace hs:=hid hs
 unfold setupC
 go_enter Tryz.func5,Tryz.ntmps5
 have b0:Blk (w.alloc (.cells (setupC s m) 30)) w.heap.size 30 (setupC s m):=hon0.out.blkAt 0 rfl
 have i1:s.input.size<=9223372036854775807:=hs.out.inp
 have i2:s.hidden.size<=9223372036854775807:=hs.out.hid
 have i3:=s.inp_le
 have i4:=s.hid_le
 replace b0:=hid b0
 go_upto_region 1 with fail
 go_cut [23] (λt wx=>t = .bool s.tooLong∧On Nob w (AllA [BlkA w.heap.size 30 (setupC s m)]) wx)
 case first=>
  go_wp2
  all_goals go_meet
  all_goals refine⟨?_,hon0.out⟩
  all_goals unfold Setup.tooLong
  all_goals congr 1
  ·have h1:decide (4096< (s.input.size:Int))=decide (4096<s.input.size):=by apply decide_eq_decide.2;omega
   have h2:decide (64< (s.hidden.size:Int))=decide (64<s.hidden.size):=by apply decide_eq_decide.2;omega
   rw[h1,h2]
  ·rename_i h1
   have h2:decide (4096<s.input.size)=true:=by simp at h1⊢;omega
   rw[h2]
   rfl
 case rest=>
  obtain⟨rfl,hon1⟩:=hcut
  have b1:Blk wc w.heap.size 30 (setupC s m):=hon1.blkAt 0 rfl
  have c2:wc.cell? (w.heap.size,2)=some (.string s.input):=b1.cell 2
  have c3:wc.cell? (w.heap.size,3)=some (.string s.hidden):=b1.cell 3
  have f2:=b1.frozen 2
  have f3:=b1.frozen 3
  have ecut0:s.tooLong=false->On Nob w (AllA [BlkA w.heap.size 30 (setupC s.cut m)]) wc:=λh=>by
   have e1:setupC s.cut m=setupC s m:=by
    show setupC { s with input:=s.inp,hidden:=s.hid } m=_
    unfold Setup.inp Setup.hid
    rw[h]
    rfl
   rw[e1]
   exact hon1
  have ecut1:s.tooLong=true->On Nob w (AllA [BlkA w.heap.size 30 (setupC s.cut m)]) ((wc.setCell (w.heap.size,2) (.string ⟨#[]⟩)).setCell (w.heap.size,3) (.string ⟨#[]⟩)):=λh=>by
   have e1:setupC s.cut m= ((setupC s m).setIfInBounds 2 (.string ⟨#[]⟩)).setIfInBounds 3 (.string ⟨#[]⟩):=by
    show setupC { s with input:=s.inp,hidden:=s.hid } m=_
    unfold Setup.inp Setup.hid
    rw[h]
    rfl
   rw[e1]
   exact(hon1.setAt 0 rfl 2 (.string ⟨#[]⟩)).setAt 0 rfl 3 (.string ⟨#[]⟩)
  obtain⟨tl,htl⟩: ∃tl,s.tooLong=tl:=⟨_,rfl⟩
  rw[htl]at ecut0 ecut1⊢
  replace ecut0:=hid ecut0
  replace ecut1:=hid ecut1
  replace hon1:=hid hon1
  replace b1:=hid b1
  clear htl b0 hon0
  go_upto_if 23 with fail
  go_cut [] (λwx=>On Nob w (AllA [BlkA w.heap.size 30 (setupC s.cut m)]) wx)
  case first=>
   cases tl
   all_goals go_wp2
   all_goals go_meet
   ·exact ecut0.out (by first|rfl|trivial)
   ·exact ecut1.out (by first|rfl|trivial)
  case rest=>
   have hon2:=hcut
   clear hcut ecut0 ecut1 hon1 b1 c2 c3 f2 f3
   replace hon2:=hid hon2
   go_upto_region 4 with fail
   go_cut [3,4] (λt3 t4 wx=> ∃(r:Rc) (gws:Nat),t3 = .pointer r.gW∧t4 = .bool true∧On Nob w (AllA [DocA r r.gK (.slice gws 1 1) x00,BlkA gws 75 #[r.gK],BlkA w.heap.size 30 (setupC s.cut m)]) wx)
   case first=>
    go_wp2_with fail
    refine mo (small_walk _) λw1 hb1=>?_
    have hon3:=hid (hon2.out.below hb1)
    clear hon2 hb1
    go_wp2_with fail
    refine(hon3.out.make (w_new _)).mono ?_
    rintro e w2 ⟨B,⟨r,gws,rfl,rfl⟩,hon4⟩
    have hon5:=hid (md_start hon4)
    clear hon3 hon4
    go_wp2_with fail
    go_meet
    exact⟨r,gws,rfl,rfl,hon5.out⟩
   case rest=>
    obtain⟨r,gws,rfl,rfl,hon5⟩:=hcut
    replace hon5:=hid hon5
    clear hon2
    go_upto_region 5 with fail
    go_cut [5,6] (λt5 t6 wx=> ∃gI,t5 = .pointer (some ⟨gI,0,none⟩)∧t6 = .int .i64 0∧On Nob w (AllA [ImgA gI img0,DocA r r.gK (.slice gws 1 1) x00,BlkA gws 75 #[r.gK],BlkA w.heap.size 30 (setupC s.cut m)]) wx)
    case first=>
     go_wp2_with fail
     refine mo (small_walk _) λw1 hb1=>?_
     have hon6:=hid (hon5.out.below hb1)
     clear hon5 hb1
     go_wp2_with fail
     refine(hon6.out.make (i_make _)).mono ?_
     rintro e w2 ⟨B,⟨gI,rfl,rfl⟩,hon7⟩
     replace hon7:=hid hon7
     clear hon6
     go_wp2_with fail
     go_meet
     exact⟨gI,rfl,rfl,hon7.out⟩
    case rest=>
     obtain⟨gI,rfl,rfl,hon7⟩:=hcut
     clear hon5
     apply_assumption
     exact mk_B hs.out hon7
end Vm
end Go.Proofs.YtngdikikclfgjaaGreatDoor
