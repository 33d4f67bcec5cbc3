/- The law OuterDefines, walked: what the first text has left. Conditions: the tables that numbers are written by lie there. Printed by gen_odefw.py. -/
import Derived.Test.YteaijdgnagkllaaGreatDoorZd46
namespace Go.Proofs.YteaijdgnagkllaaGreatDoor
set_option linter.unusedVariables false
set_option linter.unusedSimpArgs false
set_option maxHeartbeats 8000000
set_option maxRecDepth 100000
open Go.RowKit Go.Lib Go.Deep
namespace Vm
theorem def_9{w W:World}{nm:List UInt8}{n m:Int}{c:Vc}{b:Bo}{wo:Value}{at1:Int}{s1:Mt}{left tl:Nat}(hname:Dc.nameB nm=true)(hn:V64 n)(hm:V64 m)(hc:Oends c b)(hP:Pows w)(hB:Bruijn w)(ho:OB (defA nm n left tl) s1)(h3:On (OldF w) w (AllA (BlkA b.gB 36 (bothO b)::uL (c.plus (OldA w)) b.gO wo at1 s1)) W){u3 u4 u5 u11 u12 u13 u14 u15 u16 u17 u18 u19 u20 u21 u22 u23 u24 u25 u26 u27 u28 u29 u30 u31 u32 u33 u34 u35 u36 u37 u38 u39 u40 u41 u42 u43 u44 u45 u46 u47 u48 u49 u50 u51 u52 u53 u54 u55 u56 u57 u58 u59 u60 u61 u62 u63 u64 u65 u66 u67 u68 u69 u70 u71 u72 u73 u74 u75 u76 u77 u78 u79 u80 u81 u82 u83 u84 u85 u86 u87 u88 u89 u90 u91 u92 u93 u94 u95 u96 u97 u98 u99 u100 u101 u102 u103 u104 u105 u106 u107 u108 u109 u110 u111 u112 u113 u114 u115 u116 u117 u118 u119 u120 u121 u122 u123 u124 u125 u126 u127 u128 u129 u130 u131 u132 u133 u134 u135 u136 u137 u138 u139 u140 u141 u142 u143 u144 u145 u146 u147 u148 u149 u150 u151 u152 u153 u154 u155 u156 u157 u158 u159 u160 u161 u162 u163 u164 u165 u166 u167 u168 u169 u170 u171 u172 u173 u174 u175 u176 u177:Value}:Code.wp Tryz.prog (codeDrop 7 (Tryz.f4.body.getD .skip)) (bodyPost Tryz.prog Tryz.f4 (Quiet (.bool true) w)) ⟨List.toArray (.string ⟨nm.toArray⟩:: .int .i64 n :: .int .i64 m::u3::u4::u5 :: .bool false :: .bool true :: .bool true :: .pointer b.gB :: .int .i64 0::u11::u12::u13::u14::u15::u16::u17::u18::u19::u20::u21::u22::u23::u24::u25::u26::u27::u28::u29::u30::u31::u32::u33::u34::u35::u36::u37::u38::u39::u40::u41::u42::u43::u44::u45::u46::u47::u48::u49::u50::u51::u52::u53::u54::u55::u56::u57::u58::u59::u60::u61::u62::u63::u64::u65::u66::u67::u68::u69::u70::u71::u72::u73::u74::u75::u76::u77::u78::u79::u80::u81::u82::u83::u84::u85::u86::u87::u88::u89::u90::u91::u92::u93::u94::u95::u96::u97::u98::u99::u100::u101::u102::u103::u104::u105::u106::u107::u108::u109::u110::u111::u112::u113::u114::u115::u116::u117::u118::u119::u120::u121::u122::u123::u124::u125::u126::u127::u128::u129::u130::u131::u132::u133::u134::u135::u136::u137::u138::u139::u140::u141::u142::u143::u144::u145::u146::u147::u148::u149::u150::u151::u152::u153::u154::u155::u156::u157::u158::u159::u160::u161::u162::u163::u164::u165::u166::u167::u168::u169::u170::u171::u172::u173::u174::u175::u176::u177 :: []),[]⟩ W:=by
 conv=>
  arg 2
  unfold Tryz.f4
  dsimp only[codeDrop,Option.getD]
 have hrep:=ho.om.rep
 have hlen: (defA nm n left tl).ds.length=1:=rfl
 have z5:W.cell? (b.gB,5)=some (b.gM:Vl):=(show Blk W b.gB 36 (bothO b)from h3.blkAt 0 rfl).cell 5
 have hda:=x_data (c:=c.plus (OldA w)) (s:=s1) (h3.blkAt 3 rfl)
 obtain⟨gb,hi⟩:=h3.img 4 rfl
 have hcl:=h3.makeV (k_cells (h3.stk 5 rfl) hi hrep.ok.pd (by rw[hrep.d,hlen];decide))
 rw[hrep.all,hrep.d,hlen,show(defA nm n left tl).ds = [n]from rfl]at hcl
 rw[show(c.plus (OldA w)).gM=b.gM from hc.m]at hda
 have hcs:=λW2 (h:On (OldF w) w (AllA (AllA [BlkA W.heap.size 3 (intsC [n])]::BlkA b.gB 36 (bothO b)::uL (c.plus (OldA w)) b.gO wo at1 s1)) W2)=>(by
  have h1:Blk W2 b.gB 36 (bothO b):=h.blkAt 1 rfl
  have h2:=h.flat.blkAt 0 rfl
  exact⟨h1.cell 1,h1.cell 2,h2.cell 0⟩:W2.cell? (b.gB,1)=some (b.gK:Vl)∧W2.cell? (b.gB,2)=some (b.gS:Vl)∧W2.cell? (W.heap.size,0)=some (n:Vl))
 have hsz: (⟨nm.toArray⟩:ByteArray).size=nm.length:=List.size_toArray
 have hnl:=nameB_len hname
 have hfi:=λW2 (h:On (OldF w) w (AllA (AllA [BlkA W.heap.size 3 (intsC [n])]::BlkA b.gB 36 (bothO b)::uL (c.plus (OldA w)) b.gO wo at1 s1)) W2)=>(by
  obtain⟨gb,hI⟩:=h.img 5 rfl
  have h1:=b_finds (c:=c.plus (OldA w)) (s:=s1) (hc.lists ho.om) (h.blkAt 9 rfl) (h.blkAt 10 rfl) hI ⟨nm.toArray⟩ (by rw[hsz];omega)
  rw[ho.om.findS,show(⟨nm.toArray⟩:ByteArray).data.toList=nm from rfl,show(defA nm n left tl).ws.find? (λw=> !w.hid&&sameB w.name nm)=some (defW 16456 nm false)from by simp[defA,defW,sameB_refl],show(c.plus (OldA w)).gS=b.gS from hc.s,show(c.plus (OldA w)).gK=b.gK from hc.k,ho.om.findK,kWds_find]at h1
  exact h1:Calls Tryz.prog 18 #[b.gS,.string ⟨nm.toArray⟩] W2 (FindPost (some (defW 16456 nm false)) W2)∧Calls Tryz.prog 18 #[b.gK,.string ⟨nm.toArray⟩] W2 (FindPost ((kp nm).map λp=>kwWd p.1 p.2) W2))
 replace hda:=hid hda
 replace hcl:=hid hcl
 replace hcs:=hid hcs
 replace hfi:=hid hfi
 replace h3:=hid h3
 clear hi
 go_wp2_with fail
 refine hda.out.mono ?_
 rintro e w4 ⟨rfl,rfl⟩
 simp only[]
 go_wp2_with fail
 refine mo hcl.out λw5 h5=>?_
 simp only[]
 have⟨z1,z2,y0⟩:=hcs.out _ h5
 have hf5:=hid (hfi.out _ h5).1
 replace h5:=hid h5
 go_wp2_with fail
 refine mo hf5.out λw6 hb6=>?_
 unfold foundV defW Wd.c
 simp only[Option.isSome]
 have h6:=h5.out.below hb6
 have⟨z1,z2,y0⟩:=hcs.out _ h6
 have hlt:=(h6.blkAt 1 rfl:Blk w6 b.gB 36 (bothO b)).lt
 have hlt2:=(h6.flat.blkAt 0 rfl).lt
 have h7:=h6.box #[.string ⟨nm.toArray⟩,(16456:Int),((xtOf 16456 nm:Nat):Int),.bool false,.bool false,.bool false] 55
 have hf7:=hid (hfi.out _ h7.tail).2
 have hcs7:=λW2 (h:On (OldF w) w (AllA (BlkA w6.heap.size 55 #[.string ⟨nm.toArray⟩,(16456:Int),((xtOf 16456 nm:Nat):Int),.bool false,.bool false,.bool false]::AllA [BlkA w4.heap.size 3 (intsC [n])]::BlkA b.gB 36 (bothO b)::uL (c.plus (OldA w)) b.gO wo at1 s1)) W2)=>(by
  have h0:=h.blkAt 0 rfl
  have h1:=h.tail.flat.blkAt 0 rfl
  exact⟨h0.cell 0,h1.cell 0⟩:W2.cell? (w6.heap.size,0)=some (.string ⟨nm.toArray⟩)∧W2.cell? (w4.heap.size,0)=some (n:Vl))
 replace hcs7:=hid hcs7
 replace h7:=hid h7
 replace h6:=hid h6
 clear hb6 hf5 hfi
 obtain⟨R,hR⟩: ∃R,(kp nm).map (λp=>kwWd p.1 p.2)=R:=⟨_,rfl⟩
 rw[hR]at hf7
 replace hR:=hid hR
 go_upto_region 11 with fail
 go_cut [16] (λt16 wx=>t16 = .bool R.isSome∧On (OldF w) w (AllA (BlkA w6.heap.size 55 #[.string ⟨nm.toArray⟩,(16456:Int),((xtOf 16456 nm:Nat):Int),.bool false,.bool false,.bool false]::AllA [BlkA w4.heap.size 3 (intsC [n])]::BlkA b.gB 36 (bothO b)::uL (c.plus (OldA w)) b.gO wo at1 s1)) wx)
 case first=>
  go_wp2_with fail
  refine mo hf7.out λw8 hb8=>?_
  have h8:=hid (h7.out.below hb8)
  clear hb8
  rcases R with _| ⟨nm1,hd1,xt1,im1,hh1,il1⟩
  ·unfold foundV noWd
   simp only[Option.isSome]
   go_wp2_with fail
   go_meet
   exact⟨rfl,h8.out.alloc _⟩
  ·unfold foundV Wd.c
   simp only[Option.isSome]
   go_wp2_with fail
   go_meet
   exact⟨rfl,h8.out.alloc _⟩
 case rest=>
  obtain⟨rfl,h9⟩:=hcut
  obtain⟨q,hq⟩: ∃q,Option.isSome R=q:=⟨_,rfl⟩
  rw[hq]
  replace hq:=hid hq
  have⟨x0,x1⟩:=hcs7.out _ h9
  have h10:=h9.tail.tail
  replace h9:=hid h9
  replace h10:=hid h10
  clear h7 hf7 hcs hcs7 h6 hlt hlt2 z1 z2 y0
  go_upto_region 14 with fail
  go_cut [17] (λt17 wx=> ∃c2 b2 wo2,Oends c2 b2∧t17 = .pointer (some ⟨b2.gB,0,none⟩)∧On (OldF w) w (AllA (AllA (BlkA b2.gB 36 (bothO b2)::uL c2 b2.gO wo2 0 m13)::BlkA b.gB 36 (bothO b)::uL (c.plus (OldA w)) b.gO wo at1 s1)) wx)
  case first=>
   go_wp2_with fail
   refine mo (plain13 _) λw1 hb1=>?_
   simp only[]
   have h11:=hid (h10.out.below hb1)
   clear hb1
   go_wp2_with fail
   refine(h11.out.make (o_made _)).mono ?_
   rintro e w2 ⟨B,⟨c2,b2,wo2,hc2,rfl,rfl⟩,h12⟩
   simp only[]
   replace h12:=hid h12
   go_wp2_with fail
   go_meet
   exact⟨c2,b2,wo2,hc2,rfl,h12.out⟩
  case rest=>
   obtain⟨c2,b2,wo2,hc2,rfl,h12⟩:=hcut
   clear h10 h9 x0 x1
   apply_assumption
   exact def_15 hname hn hm hc hP hB ho hR.out hq.out hc2 h12
theorem odef_walk(nm:List UInt8)(n m:Int)(hnl:nm.length<=140737488355327)(hn:V64 n)(hm:V64 m)(w:World)(hP:Pows w)(hB:Bruijn w):Calls Tryz.prog 4 #[.string ⟨nm.toArray⟩,n,m] w (Quiet (.bool true) w):=by
 have hon0:=hid (old_start w)
 have hsh:=hid (shown13 hP hB)
 have hsz: (⟨nm.toArray⟩:ByteArray).size=nm.length:=List.size_toArray
 have hnw:=λW2=>name_walk ⟨nm.toArray⟩ (by rw[hsz];omega) W2
 rw[show(⟨nm.toArray⟩:ByteArray).data.toList=nm from rfl]at hnw
 replace hnw:=hid hnw
 go_enter Tryz.func4,Tryz.ntmps4
 go_wp2_with fail
 refine mo hsh.out λw0 hb0=>?_
 simp only[]
 have hon1:=hid (hon0.out.below hb0)
 clear hb0 hon0 hsh
 go_wp2_with fail
 refine(hnw.out _).mono ?_
 rintro e w1 ⟨rfl,rfl⟩
 simp only[]
 cases hname:Dc.nameB nm with
 | false=>
   go_wp2
   go_ret
   exact⟨rfl,On.old 0 hon1.out rfl⟩
 | true=>
   go_wp2_with fail
   refine mo (plain13 _) λw1 hb1=>?_
   simp only[]
   have hon2:=hid (hon1.out.below hb1)
   clear hb1 hon1
   go_wp2_with fail
   refine(made_pair3 hon2.out).mono ?_
   rintro e w2 ⟨c,b,wo,hc,rfl,hp2⟩
   simp only[]
   have z6:w2.cell? (b.gB,6)=some (b.gO:Vl):=(show Blk w2 b.gB 36 (bothO b)from hp2.blkAt 0 rfl).cell 6
   have hpw:Pows w2.drew∧Bruijn w2.drew:=⟨hP.below (pair_old hc hp2.drew),hB.below (pair_old hc hp2.drew)⟩
   have hpr:=hid (print_walk n hn 10 w2.drew hpw.1 hpw.2)
   have hrun:=hid (λW2 h=>def_run (W:=W2) (wo:=wo) hc hP hB hname hn h)
   have hnl2:=nameB_len hname
   have hpl:=print_size hn
   clear hon2
   replace hp2:=hid hp2
   go_upto_region 8 with fail
   go_cut [10] (λt10 wx=>t10 = .int .i64 0∧∃s1 left tl at1,OB (defA nm n left tl) s1∧On (OldF w) w (AllA (BlkA b.gB 36 (bothO b)::uL (c.plus (OldA w)) b.gO wo at1 s1)) wx)
   case first=>
    go_region_held (λw'=>w'.cell? (b.gB,6)=some (b.gO:Vl)) (go_keep)
     ((first
       | (go_at_call 15;refine mo hpr.out λw5 hk5=>?_;simp only[];have hon5:=hp2.out.drew.keptNob hk5;have y6:w5.cell? (b.gB,6)=some (b.gO:Vl):=(show Blk w5 b.gB 36 (bothO b)from hon5.blkAt 0 rfl).cell 6;replace hon5:=hid hon5;clear hk5)
       | (go_at_call 13;refine(hrun.out _ hon5.out).mono ?_;rintro e w6 ⟨s1,left,k,at1,ho,rfl,h3⟩;simp only[];have y7:w6.cell? (b.gB,6)=some (b.gO:Vl):=(show Blk w6 b.gB 36 (bothO b)from h3.blkAt 0 rfl).cell 6;replace h3:=hid h3;replace ho:=hid ho)))
    all_goals go_wp2_with fail
    all_goals go_meet
    all_goals exact⟨rfl,s1,_,_,at1,ho.out,h3.out⟩
   case rest=>
    obtain⟨rfl,s1,left,tl,at1,ho,h3⟩:=hcut
    clear hp2 hpr hrun z6 hpw hnw
    apply_assumption
    exact def_9 hname hn hm hc hP hB ho h3
theorem odef_any(a:ByteArray)(n m:Int)(ha:a.size<=140737488355327)(hn:V64 n)(hm:V64 m)(w:World)(hP:Pows w)(hB:Bruijn w):Calls Tryz.prog 4 #[.string a,n,m] w (Quiet (.bool true) w):=by
 have h:=odef_walk a.data.toList n m (by rw[Array.length_toList];exact ha) hn hm w hP hB
 rw[show(⟨a.data.toList.toArray⟩:ByteArray)=a from Caps.ext _ _ (by simp)]at h
 exact h
end Vm
end Go.Proofs.YteaijdgnagkllaaGreatDoor
