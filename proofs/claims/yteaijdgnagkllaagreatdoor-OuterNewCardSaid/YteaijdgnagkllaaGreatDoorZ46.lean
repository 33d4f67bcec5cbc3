/- The law OuterNew, walked. Conditions: the tables that numbers are written by lie there. -/
import Derived.Test.YteaijdgnagkllaaGreatDoorZ45
open Go.Proofs.Tryz
namespace Go.Proofs.YteaijdgnagkllaaGreatDoor
set_option linter.unusedVariables false
set_option linter.unusedSimpArgs false
set_option maxHeartbeats 8000000
set_option maxRecDepth 100000
open Go.RowKit Go.Lib Go.Deep
namespace Vm
theorem pickO(c n:Int)(w:World)(hc:V64 c)(hn:0<n∧n<=9223372036854775807):
 Calls prog 10 #[c,n] w (Same (pickS c n) w):=by
 obtain⟨hc1,hc2⟩:=hc
 by_cases h:c<0
 ·have e:pickS c n= (-(c+1)).tmod n:=by unfold pickS;rw[if_pos h,Int.tmod_eq_emod_of_nonneg oM]
  rw[e]
  clear e
  go_enter func10,ntmps10
  go_wp2
  go_ret
  exact⟨by rw[Int.neg_tmod];rfl,rfl⟩
 ·have e:pickS c n=c.tmod n:=by unfold pickS;rw[if_neg h,Int.tmod_eq_emod_of_nonneg oM]
  rw[e]
  clear e
  go_enter func10,ntmps10
  go_wp2
  go_ret
  exact⟨by rw[Int.tmod_eq_emod_of_nonneg oM];rfl,rfl⟩
theorem pickS_lt(c n:Int)(h:0<n):0<=pickS c n∧pickS c n<n:=by
 unfold pickS
 exact⟨Int.emod_nonneg _ oM,Int.emod_lt_of_pos _ h⟩
theorem conv_zeros(w:World)(n:Nat)(g:Nat)(hb:Blk w g 5 (bcells (List.replicate n 0)).toArray): (convert 43 9 (.slice (some ⟨g,0,none⟩) n n)).run prog w = .ok (.string ⟨(List.replicate n 0).toArray⟩) w:=by
 have h1:=run_convert_bytes_back (P:=prog) w 43 9 5 ⟨g,0,none⟩ n (List.replicate n 0) underlying43 underlying5 underlying9 (λj hj=>by
  have h2: ((⟨g,0,none⟩:Addr).add j)= ⟨g,j,none⟩:=by simp[Addr.add];intro h;exact h.symm
  have hj2:j<n:=by simpa using hj
  rw[h2,hb.cell j]
  simp[bcells,hj2])
 rw[List.length_replicate]at h1
 exact h1
theorem zeros_drop: ∀n:Nat,(List.replicate n (0:UInt8)).dropWhile isLow = []
 | 0=>rfl
 | n+1=>by
   rw[List.replicate_succ,List.dropWhile_cons_of_pos (by decide)]
   exact zeros_drop n
theorem zeros_nx(n:Nat):nxW (List.replicate n 0)= []∧nxR (List.replicate n 0)= []∧nxC (List.replicate n 0)=n:=by
 have h1:nxW (List.replicate n 0)= []:=by unfold nxW;rw[zeros_drop];rfl
 have h2:nxR (List.replicate n 0)= []:=by unfold nxR;rw[zeros_drop];rfl
 refine⟨h1,h2,?_⟩
 unfold nxC
 rw[h1,h2]
 simp
section
variable {c:Vc}{o:Oc}{L:List Asr}
theorem reads_far(h0:Oc0 c o L)(a:Oa)(hf:a.left<nxC a.R):ReadsR c o L 13 (PI a) 0 (PI a):= .done (far_of h0 hf)
end
section
variable {w W:World}{F:Nat->Prop}{c:Vc}{b:Bo}{wo:Value}{s:Mt}{B:Asr}
def longF(n:Nat)(fuel:Int):Int:=if 60000<n then 21 else if fuel<n then 13 else 0
def longN(n:Nat)(fuel:Int):Nat:=if 60000<n then 0 else if fuel<n then 0 else n
theorem long_run{gO:Nat}{wv:Value}(hc:Oends c b)(hP:Pows w)(hB:Bruijn w)(h:On F w (AllA (B::uL (c.plus (OldA w)) gO wv 0 m13)) W)(n:Nat)(hn0:0<n)(hn:n<=60010)(fuel:Int):
 Calls prog 13 #[gO,(1:Int),.string ⟨(List.replicate n 0).toArray⟩,fuel] W (λe w'=>e = .returned (.tuple #[(longF n fuel),((longN n fuel:Nat):Int)])∧∃s',On F w (AllA (B::uL (c.plus (OldA w)) gO wv ((longN n fuel:Nat):Int) s')) w'):=by
 have e: (⟨(List.replicate n 0).toArray⟩:ByteArray).size=n:=by rw[show(⟨(List.replicate n 0).toArray⟩:ByteArray).size= (List.replicate n (0:UInt8)).length from List.size_toArray,List.length_replicate]
 obtain⟨z1,z2,z3⟩:=zeros_nx n
 have hlen: (List.replicate n (0:UInt8)).length=n:=List.length_replicate
 unfold longF longN
 by_cases h1:60000<n
 ·simp only[h1,if_true]
  refine mo (h.callTail λF' hb _ _=>o_run_long (On.refl hb) 1 fuel _ (by rw[e];exact h1)) λw' h2=>?_
  exact⟨rfl,_,h2⟩
 ·simp only[h1,if_false]
  obtain⟨left,hleft⟩: ∃left:Nat,clip fuel=left:=⟨(clip fuel).toNat,by unfold clip;omega⟩
  by_cases h2:fuel<n
  ·simp only[h2,if_true]
   have hlt:left<n:=by unfold clip at hleft;clear e hlen;omega
   refine(pair_run hc hP hB h ob_m13 (List.replicate n 0) oM fuel left hleft 0 0 (Int.sub_self _) (by rw[Nat.sub_self];rfl) (λc' o h0=>reads_far h0 _ (by show left<nxC _;rw[z3];exact hlt))).mono ?_
   rintro e w' ⟨s',ho,rfl,h3⟩
   exact⟨rfl,s',h3⟩
  ·simp only[h2,if_false]
   have hle:n<=left:=by unfold clip at hleft;omega
   refine(pair_run hc hP hB h ob_m13 (List.replicate n 0) oM fuel left hleft n n ?_ ?_ (λc' o h0=>reads_end h0 z1 (by show nxC _<=left;rw[z3];exact hle))).mono ?_
   ·show(left:Int) - ((left-nxC (List.replicate n 0):Nat):Int)=n
    rw[z3];omega
   ·show(((List.replicate n (0:UInt8)).length- (nxR (List.replicate n 0)).length:Nat):Int)=n
    rw[z2,hlen];simp
   ·rintro e w' ⟨s',ho,rfl,h3⟩
    exact⟨rfl,s',h3⟩
end
theorem on_0{w W:World}{c:Vc}{b:Bo}{wo:Value}{rb:Nat}{x2 x3:Int}(h2:V64 x2)(h3:V64 x3)(hc:Oends c b)(hP:Pows w)(hB:Bruijn w)(hon:On (OldF w) w (AllA (BlkA rb 29 #[b.gS,b.gK]::BlkA b.gB 36 (bothO b)::uL (c.plus (OldA w)) b.gO wo 0 m13)) W){u3 u4 u5 u12 u13 u14 u15 u16 u17 u18 u19 u20 u21 u22 u23 u24 u25 u26 u27 u28 u29 u30 u31 u32 u33 u34 u35 u36 u37 u38 u39 u40 u41 u42 u43 u44 u45 u46 u47 u48 u49 u50 u51 u52 u53 u54 u55 u56 u57 u58 u59 u60 u61 u62 u63 u64 u65 u66 u67 u68 u69 u70 u71 u72 u73 u74 u75 u76 u77 u78 u79 u80 u81 u82 u83 u84 u85 u86 u87 u88 u89 u90 u91 u92 u93 u94 u95 u96 u97 u98 u99 u100 u101 u102 u103 u104 u105 u106 u107 u108 u109 u110 u111 u112 u113 u114 u115 u116 u117 u118 u119 u120 u121 u122 u123 u124 u125 u126 u127 u128 u129 u130 u131 u132 u133 u134:Value}:Code.wp prog (codeDrop 8 (Tryz.f3.body.getD .skip)) (bodyPost prog Tryz.f3 (Quiet (.bool true) w)) ⟨List.toArray (.int .i64 0 :: .int .i64 x2 :: .int .i64 x3::u3::u4::u5 :: .bool false :: .bool true :: .pointer b.gB :: .pointer b.gM :: .pointer b.gS :: .slice (some ⟨rb,0,none⟩) 2 2::u12::u13::u14::u15::u16::u17::u18::u19::u20::u21::u22::u23::u24::u25::u26::u27::u28::u29::u30::u31::u32::u33::u34::u35::u36::u37::u38::u39::u40::u41::u42::u43::u44::u45::u46::u47::u48::u49::u50::u51::u52::u53::u54::u55::u56::u57::u58::u59::u60::u61::u62::u63::u64::u65::u66::u67::u68::u69::u70::u71::u72::u73::u74::u75::u76::u77::u78::u79::u80::u81::u82::u83::u84::u85::u86::u87::u88::u89::u90::u91::u92::u93::u94::u95::u96::u97::u98::u99::u100::u101::u102::u103::u104::u105::u106::u107::u108::u109::u110::u111::u112::u113::u114::u115::u116::u117::u118::u119::u120::u121::u122::u123::u124::u125::u126::u127::u128::u129::u130::u131::u132::u133::u134 :: []),[]⟩ W:=by
 conv=>
  arg 2
  unfold Tryz.f3
  dsimp only[codeDrop,Option.getD]
 have hno:=hid (λW2=>on_lacks none (some ⟨b.gS,0,none⟩) (some ⟨rb,0,none⟩) 2 2 (by simp) W2)
 have hb:=hid (pair_old hc hon.tail)
 clear hon h2 h3 hc hP hB
 go_wp2_with fail
 refine(hno.out _).mono ?_
 rintro e w2 ⟨rfl,rfl⟩
 simp only[]
 go_wp2
 go_ret
 exact⟨rfl,hb.out⟩
theorem on_1{w W:World}{c:Vc}{b:Bo}{wo:Value}{rb:Nat}{x2 x3:Int}(h2:V64 x2)(h3:V64 x3)(hc:Oends c b)(hP:Pows w)(hB:Bruijn w)(hon:On (OldF w) w (AllA (BlkA rb 29 #[b.gS,b.gK]::BlkA b.gB 36 (bothO b)::uL (c.plus (OldA w)) b.gO wo 0 m13)) W){u3 u4 u5 u12 u13 u14 u15 u16 u17 u18 u19 u20 u21 u22 u23 u24 u25 u26 u27 u28 u29 u30 u31 u32 u33 u34 u35 u36 u37 u38 u39 u40 u41 u42 u43 u44 u45 u46 u47 u48 u49 u50 u51 u52 u53 u54 u55 u56 u57 u58 u59 u60 u61 u62 u63 u64 u65 u66 u67 u68 u69 u70 u71 u72 u73 u74 u75 u76 u77 u78 u79 u80 u81 u82 u83 u84 u85 u86 u87 u88 u89 u90 u91 u92 u93 u94 u95 u96 u97 u98 u99 u100 u101 u102 u103 u104 u105 u106 u107 u108 u109 u110 u111 u112 u113 u114 u115 u116 u117 u118 u119 u120 u121 u122 u123 u124 u125 u126 u127 u128 u129 u130 u131 u132 u133 u134:Value}:Code.wp prog (codeDrop 8 (Tryz.f3.body.getD .skip)) (bodyPost prog Tryz.f3 (Quiet (.bool true) w)) ⟨List.toArray (.int .i64 1 :: .int .i64 x2 :: .int .i64 x3::u3::u4::u5 :: .bool false :: .bool true :: .pointer b.gB :: .pointer b.gM :: .pointer b.gS :: .slice (some ⟨rb,0,none⟩) 2 2::u12::u13::u14::u15::u16::u17::u18::u19::u20::u21::u22::u23::u24::u25::u26::u27::u28::u29::u30::u31::u32::u33::u34::u35::u36::u37::u38::u39::u40::u41::u42::u43::u44::u45::u46::u47::u48::u49::u50::u51::u52::u53::u54::u55::u56::u57::u58::u59::u60::u61::u62::u63::u64::u65::u66::u67::u68::u69::u70::u71::u72::u73::u74::u75::u76::u77::u78::u79::u80::u81::u82::u83::u84::u85::u86::u87::u88::u89::u90::u91::u92::u93::u94::u95::u96::u97::u98::u99::u100::u101::u102::u103::u104::u105::u106::u107::u108::u109::u110::u111::u112::u113::u114::u115::u116::u117::u118::u119::u120::u121::u122::u123::u124::u125::u126::u127::u128::u129::u130::u131::u132::u133::u134 :: []),[]⟩ W:=by
 conv=>
  arg 2
  unfold Tryz.f3
  dsimp only[codeDrop,Option.getD]
 have hno:=hid (λW2=>on_lacks (some ⟨b.gM,0,none⟩) none (some ⟨rb,0,none⟩) 2 2 (by simp) W2)
 have hb:=hid (pair_old hc hon.tail)
 clear hon h2 h3 hc hP hB
 go_wp2_with fail
 refine(hno.out _).mono ?_
 rintro e w2 ⟨rfl,rfl⟩
 simp only[]
 go_wp2
 go_ret
 exact⟨rfl,hb.out⟩
theorem on_2{w W:World}{c:Vc}{b:Bo}{wo:Value}{rb:Nat}{x2 x3:Int}(h2:V64 x2)(h3:V64 x3)(hc:Oends c b)(hP:Pows w)(hB:Bruijn w)(hon:On (OldF w) w (AllA (BlkA rb 29 #[b.gS,b.gK]::BlkA b.gB 36 (bothO b)::uL (c.plus (OldA w)) b.gO wo 0 m13)) W){u3 u4 u5 u12 u13 u14 u15 u16 u17 u18 u19 u20 u21 u22 u23 u24 u25 u26 u27 u28 u29 u30 u31 u32 u33 u34 u35 u36 u37 u38 u39 u40 u41 u42 u43 u44 u45 u46 u47 u48 u49 u50 u51 u52 u53 u54 u55 u56 u57 u58 u59 u60 u61 u62 u63 u64 u65 u66 u67 u68 u69 u70 u71 u72 u73 u74 u75 u76 u77 u78 u79 u80 u81 u82 u83 u84 u85 u86 u87 u88 u89 u90 u91 u92 u93 u94 u95 u96 u97 u98 u99 u100 u101 u102 u103 u104 u105 u106 u107 u108 u109 u110 u111 u112 u113 u114 u115 u116 u117 u118 u119 u120 u121 u122 u123 u124 u125 u126 u127 u128 u129 u130 u131 u132 u133 u134:Value}:Code.wp prog (codeDrop 8 (Tryz.f3.body.getD .skip)) (bodyPost prog Tryz.f3 (Quiet (.bool true) w)) ⟨List.toArray (.int .i64 2 :: .int .i64 x2 :: .int .i64 x3::u3::u4::u5 :: .bool false :: .bool true :: .pointer b.gB :: .pointer b.gM :: .pointer b.gS :: .slice (some ⟨rb,0,none⟩) 2 2::u12::u13::u14::u15::u16::u17::u18::u19::u20::u21::u22::u23::u24::u25::u26::u27::u28::u29::u30::u31::u32::u33::u34::u35::u36::u37::u38::u39::u40::u41::u42::u43::u44::u45::u46::u47::u48::u49::u50::u51::u52::u53::u54::u55::u56::u57::u58::u59::u60::u61::u62::u63::u64::u65::u66::u67::u68::u69::u70::u71::u72::u73::u74::u75::u76::u77::u78::u79::u80::u81::u82::u83::u84::u85::u86::u87::u88::u89::u90::u91::u92::u93::u94::u95::u96::u97::u98::u99::u100::u101::u102::u103::u104::u105::u106::u107::u108::u109::u110::u111::u112::u113::u114::u115::u116::u117::u118::u119::u120::u121::u122::u123::u124::u125::u126::u127::u128::u129::u130::u131::u132::u133::u134 :: []),[]⟩ W:=by
 conv=>
  arg 2
  unfold Tryz.f3
  dsimp only[codeDrop,Option.getD]
 have hpk:=hid (λW2=>pickO x2 2 W2 h2 oM)
 have hlt:=pickS_lt x2 2 oM
 have hr:Blk W rb 29 #[b.gS,b.gK]:=hon.blkAt 0 rfl
 have hb:=hid (pair_old hc hon.tail)
 have c0:W.cell? (rb,0)=some (b.gS:Vl):=hr.cell 0
 have c1:W.cell? (rb,1)=some (b.gK:Vl):=hr.cell 1
 have f0:=hr.frozen 0
 have f1:=hr.frozen 1
 have hs0:=hon.setAt 0 rfl 0 (.pointer none)
 have hs1:=hon.setAt 0 rfl 1 (.pointer none)
 have hw0:WordsAt (W.setCell (rb,0) (.pointer none)) rb 2 [] true:=by
  have h1:Blk (W.setCell (rb,0) (.pointer none)) rb 29 #[.pointer none,b.gK]:=hs0.blkAt 0 rfl
  refine⟨λj g hj=>(by simp at hj),?_⟩
  show 0<2∧_
  exact⟨by decide,h1.cell 0⟩
 have hw1:WordsAt (W.setCell (rb,1) (.pointer none)) rb 2 [b.gS] true:=by
  have h1:Blk (W.setCell (rb,1) (.pointer none)) rb 29 #[b.gS,.pointer none]:=hs1.blkAt 0 rfl
  refine⟨λj g hj=> ?_,?_⟩
  ·rcases j with _|j
   ·simp at hj
    subst hj
    exact h1.cell 0
   ·simp at hj
  ·show 1<2∧_
   exact⟨by decide,h1.cell 1⟩
 have hn0:=ou_new (w:=W.setCell (rb,0) (.pointer none)) (gM:=b.gM) (gS:=b.gS) (rb:=rb) (n:=2) (cap:=2) (ds:=[]) oM true hw0
 have hn1:=ou_new (w:=W.setCell (rb,1) (.pointer none)) (gM:=b.gM) (gS:=b.gS) (rb:=rb) (n:=2) (cap:=2) (ds:=[b.gS]) oM true hw1
 have hb0:=hid (pair_old hc hs0.tail)
 have hb1:=hid (pair_old hc hs1.tail)
 simp only[if_true]at hn0 hn1
 replace hn0:=hid hn0
 replace hn1:=hid hn1
 clear hon h2 h3 hc hP hB hr hs0 hs1 hw0 hw1
 rcases(show pickS x2 2=0∨pickS x2 2=1 by omega)with hk|hk
 all_goals
  rw[hk]at hpk
  clear hk hlt
 ·go_wp2_with fail
  refine(hpk.out _).mono ?_
  rintro e w2 ⟨rfl,rfl⟩
  simp only[]
  go_wp2_with fail
  refine mo hn0.out λw3 hb3=>?_
  simp only[]
  have hb4:=hid (hb0.out.trans (hb3.mono hb0.out.size))
  clear hb3
  go_wp2
  go_ret
  exact⟨rfl,hb4.out⟩
 ·go_wp2_with fail
  refine(hpk.out _).mono ?_
  rintro e w2 ⟨rfl,rfl⟩
  simp only[]
  go_wp2_with fail
  refine mo hn1.out λw3 hb3=>?_
  simp only[]
  have hb4:=hid (hb1.out.trans (hb3.mono hb1.out.size))
  clear hb3
  go_wp2
  go_ret
  exact⟨rfl,hb4.out⟩
theorem on_3{w W:World}{c:Vc}{b:Bo}{wo:Value}{rb:Nat}{x2 x3:Int}(h2:V64 x2)(h3:V64 x3)(hc:Oends c b)(hP:Pows w)(hB:Bruijn w)(hon:On (OldF w) w (AllA (BlkA rb 29 #[b.gS,b.gK]::BlkA b.gB 36 (bothO b)::uL (c.plus (OldA w)) b.gO wo 0 m13)) W){u3 u4 u5 u12 u13 u14 u15 u16 u17 u18 u19 u20 u21 u22 u23 u24 u25 u26 u27 u28 u29 u30 u31 u32 u33 u34 u35 u36 u37 u38 u39 u40 u41 u42 u43 u44 u45 u46 u47 u48 u49 u50 u51 u52 u53 u54 u55 u56 u57 u58 u59 u60 u61 u62 u63 u64 u65 u66 u67 u68 u69 u70 u71 u72 u73 u74 u75 u76 u77 u78 u79 u80 u81 u82 u83 u84 u85 u86 u87 u88 u89 u90 u91 u92 u93 u94 u95 u96 u97 u98 u99 u100 u101 u102 u103 u104 u105 u106 u107 u108 u109 u110 u111 u112 u113 u114 u115 u116 u117 u118 u119 u120 u121 u122 u123 u124 u125 u126 u127 u128 u129 u130 u131 u132 u133 u134:Value}:Code.wp prog (codeDrop 8 (Tryz.f3.body.getD .skip)) (bodyPost prog Tryz.f3 (Quiet (.bool true) w)) ⟨List.toArray (.int .i64 3 :: .int .i64 x2 :: .int .i64 x3::u3::u4::u5 :: .bool false :: .bool true :: .pointer b.gB :: .pointer b.gM :: .pointer b.gS :: .slice (some ⟨rb,0,none⟩) 2 2::u12::u13::u14::u15::u16::u17::u18::u19::u20::u21::u22::u23::u24::u25::u26::u27::u28::u29::u30::u31::u32::u33::u34::u35::u36::u37::u38::u39::u40::u41::u42::u43::u44::u45::u46::u47::u48::u49::u50::u51::u52::u53::u54::u55::u56::u57::u58::u59::u60::u61::u62::u63::u64::u65::u66::u67::u68::u69::u70::u71::u72::u73::u74::u75::u76::u77::u78::u79::u80::u81::u82::u83::u84::u85::u86::u87::u88::u89::u90::u91::u92::u93::u94::u95::u96::u97::u98::u99::u100::u101::u102::u103::u104::u105::u106::u107::u108::u109::u110::u111::u112::u113::u114::u115::u116::u117::u118::u119::u120::u121::u122::u123::u124::u125::u126::u127::u128::u129::u130::u131::u132::u133::u134 :: []),[]⟩ W:=by
 conv=>
  arg 2
  unfold Tryz.f3
  dsimp only[codeDrop,Option.getD]
 have hlt:=pickS_lt x2 20 oM
 obtain⟨p,hp⟩: ∃p:Nat,pickS x2 20=p:=⟨(pickS x2 20).toNat,by omega⟩
 have hpk:=λW2=>pickO x2 20 W2 h2 oM
 rw[hp]at hpk hlt
 replace hpk:=hid hpk
 have hp20:p<20:=by omega
 have hr:Blk W rb 29 #[b.gS,b.gK]:=hon.blkAt 0 rfl
 have hou:=hon.make (ou_new (w:=W) (gM:=b.gM) (gS:=b.gS) (rb:=rb) (n:=2) (cap:=2) (ds:=[b.gS,b.gK]) oM false ⟨λj g hj=>by
  rcases j with _|_|j
  ·simp at hj;subst hj;exact hr.cell 0
  ·simp at hj;subst hj;exact hr.cell 1
  ·simp at hj,rfl⟩)
 replace hou:=hid hou
 clear hon hr hp hlt
 go_wp2_with fail
 refine hou.out.mono ?_
 rintro e w2 ⟨B,⟨gO,wv,rfl,rfl⟩,h⟩
 simp only[]
 have h4:=h.flat
 have h5:On (OldF w) w (AllA (BlkA b.gB 36 (bothO b)::uL (c.plus (OldA w)) gO wv 0 m13)) w2:=by
  unfold uL mL at h4⊢
  rw[hc.restP]at h4⊢
  rw[<-hc.m,<-hc.s,<-hc.k]at h4
  exact On.pickA [3,0,1,6,7,8,9,10,11,12,13,14,15] h4 (by decide)
 have hat:=hid (o_at0 (W:=w2) (gO:=gO) (at_:=0) ((show Blk w2 gO 94 (outerC (c.plus (OldA w)) wv 0)from h5.blkAt 1 rfl).cell 3))
 clear h h4 hou
 replace h5:=hid h5
 go_wp2_with fail
 refine hat.out.mono ?_
 rintro e w3 ⟨rfl,rfl⟩
 simp only[]
 go_wp2_with fail
 refine(hpk.out _).mono ?_
 rintro e w3 ⟨rfl,rfl⟩
 simp only[]
 obtain⟨n,hn⟩: ∃n:Nat,59990+p=n:=⟨_,rfl⟩
 have hnI: (59990:Int) + (p:Int)= (n:Int):=by omega
 have hn1:59990<=n∧n<60010:=by omega
 have hwr:wrap64 (59990+ (p:Int))= (n:Int):=by unfold wrap64;omega
 have hmk:=run_make_row' (P:=prog) 43 5 (.int .u8 0) 1 underlying43 kR rfl .i64 .i64 n oM oM w3
 rw[made0]at hmk
 have hcv:=conv_zeros (w3.alloc (.cells (bcells (List.replicate n 0)).toArray 5)) n w3.heap.size (Blk.new _ _ _)
 have h6:=(h5.out.alloc (.cells (bcells (List.replicate n 0)).toArray 5))
 have hrun:=hid (long_run hc hP hB h6 n oM oM x3)
 generalize (⟨(List.replicate n 0).toArray⟩:ByteArray)=T at *
 generalize (bcells (List.replicate n 0)).toArray=Z at *
 replace hn:=hid hn
 replace hn1:=hid hn1
 replace hP:=hid hP
 replace hB:=hid hB
 clear h6 h5 hat
 obtain⟨LF,hLF⟩: ∃LF,longF n x3=LF:=⟨_,rfl⟩
 obtain⟨LN,hLN⟩: ∃LN,longN n x3=LN:=⟨_,rfl⟩
 rw[hLF,hLN]at hrun
 unfold longF at hLF
 unfold longN at hLN
 replace hLF:=hid hLF
 replace hLN:=hid hLN
 go_wp2_with fail
 refine hrun.out.mono ?_
 rintro e w4 ⟨rfl,s4,h7⟩
 simp only[]
 have hat:=hid (o_at0 (W:=w4) (gO:=gO) (at_:=(LN:Int)) ((show Blk w4 gO 94 (outerC (c.plus (OldA w)) wv (LN:Int))from h7.blkAt 1 rfl).cell 3))
 have hb:=hid (pair_old hc h7)
 clear h7 hrun hmk hcv
 by_cases h1:60000<n
 ·have e1:LF=21:=by rw[<-hLF.out,if_pos h1]
  have e2:LN=0:=by rw[<-hLN.out,if_pos h1]
  have t1:decide ((60000:Int) < (n:Int))=true:=decide_eq_true oM
  subst e1 e2
  replace h1:=hid h1
  go_wp2_with fail
  refine hat.out.mono ?_
  rintro e w5 ⟨rfl,rfl⟩
  simp only[]
  go_wp2
  go_ret
  exact⟨rfl,hb.out⟩
 ·have t1:decide ((60000:Int) < (n:Int))=false:=decide_eq_false oM
  by_cases hx:x3<n
  ·have e1:LF=13:=by rw[<-hLF.out,if_neg h1,if_pos hx]
   have e2:LN=0:=by rw[<-hLN.out,if_neg h1,if_pos hx]
   have t2:decide (x3< (n:Int))=true:=decide_eq_true hx
   subst e1 e2
   replace h1:=hid h1
   replace hx:=hid hx
   go_wp2_with fail
   refine hat.out.mono ?_
   rintro e w5 ⟨rfl,rfl⟩
   simp only[]
   go_wp2
   go_ret
   exact⟨rfl,hb.out⟩
  ·have e1:LF=0:=by rw[<-hLF.out,if_neg h1,if_neg hx]
   have e2:LN=n:=by rw[<-hLN.out,if_neg h1,if_neg hx]
   have t2:decide (x3< (n:Int))=false:=decide_eq_false hx
   subst e1
   subst e2
   replace h1:=hid h1
   replace hx:=hid hx
   go_wp2_with fail
   refine hat.out.mono ?_
   rintro e w5 ⟨rfl,rfl⟩
   simp only[]
   go_wp2
   go_ret
   exact⟨rfl,hb.out⟩
theorem pickS_four(x:Int):pickS x 4=0∨pickS x 4=1∨pickS x 4=2∨pickS x 4=3:=by
 have:=pickS_lt x 4 oM
 omega
theorem onew_walk(x1 x2 x3:Int)(h1:V64 x1)(h2:V64 x2)(h3:V64 x3)(w:World)(hP:Pows w)(hB:Bruijn w):Calls prog 3 #[x1,x2,x3] w (Quiet (.bool true) w):=by
 have hon0:=hid (old_start w)
 have hsh:=hid (shown13 hP hB)
 have hpk:=hid (λW2=>pickO x1 4 W2 h1 oM)
 go_enter func3,ntmps3
 go_wp2_with fail
 refine mo hsh.out λw0 hb0=>?_
 simp only[]
 have hon1:=hid (hon0.out.below hb0)
 clear hb0 hon0 hsh
 go_wp2_with fail
 refine mo (plain13 _) λw1 hb1=>?_
 simp only[]
 have hon2:=hid (hon1.out.below hb1)
 clear hb1 hon1
 go_wp2_with fail
 refine(made_pair3 hon2.out).mono ?_
 rintro e w2 ⟨c,b,wo,hc,rfl,hp2⟩
 simp only[]
 have b2:Blk w2 b.gB 36 (bothO b):=hp2.blkAt 0 rfl
 have z1:w2.cell? (b.gB,1)=some (b.gK:Vl):=b2.cell 1
 have z2:w2.cell? (b.gB,2)=some (b.gS:Vl):=b2.cell 2
 have z5:w2.cell? (b.gB,5)=some (b.gM:Vl):=b2.cell 5
 clear b2 hon2
 replace hp2:=hid hp2
 go_upto_region 7 with fail
 go_cut [11] (λt11 wx=> ∃rb,t11 = .slice (some ⟨rb,0,none⟩) 2 2∧On (OldF w) w (AllA (BlkA rb 29 #[b.gS,b.gK]::BlkA b.gB 36 (bothO b)::uL (c.plus (OldA w)) b.gO wo 0 m13)) wx)
 case first=>
  go_region
  all_goals go_wp2_with fail
  all_goals go_meet
  all_goals exact⟨_,rfl,(hp2.out.box #[b.gS,b.gK] 29).drew⟩
 case rest=>
  obtain⟨rb,rfl,hon⟩:=hcut
  clear hp2 z1 z2 z5
  replace hon:=hid hon
  go_upto_region 8 with fail
  go_cut [0] (λt0 wx=>t0 = .int .i64 (pickS x1 4)∧On (OldF w) w (AllA (BlkA rb 29 #[b.gS,b.gK]::BlkA b.gB 36 (bothO b)::uL (c.plus (OldA w)) b.gO wo 0 m13)) wx)
  case first=>
   go_wp2_with fail
   refine(hpk.out _).mono ?_
   rintro e w3 ⟨rfl,rfl⟩
   simp only[]
   go_wp2_with fail
   go_meet
   exact⟨rfl,hon.out⟩
  case rest=>
   obtain⟨rfl,hon2⟩:=hcut
   clear hon hpk
   rcases pickS_four x1 with hk|hk|hk|hk
   all_goals rw[hk];clear hk;apply_assumption
   ·exact on_0 h2 h3 hc hP hB hon2
   ·exact on_1 h2 h3 hc hP hB hon2
   ·exact on_2 h2 h3 hc hP hB hon2
   ·exact on_3 h2 h3 hc hP hB hon2
end Vm
end Go.Proofs.YteaijdgnagkllaaGreatDoor
