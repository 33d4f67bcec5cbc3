/- Chapter 13's example, in plain words: how the reader goes through its texts. Conditions: as written. -/
import Derived.Test.YteaijdgnagkllaaGreatDoorZd40
open Go.Proofs.Tryz
namespace Go.Proofs.YteaijdgnagkllaaGreatDoor
set_option linter.unusedVariables false
set_option linter.unusedSimpArgs false
set_option maxHeartbeats 8000000
set_option maxRecDepth 100000
open Go.RowKit Go.Lib Go.Deep
namespace Vm
section
variable {c:Vc}{o:Oc}{L:List Asr}{a:Oa}
theorem reads_end(h0:Oc0 c o L)(hw:nxW a.R = [])(hf:nxC a.R<=a.left):ReadsR c o L 0 (PI a.paid) 0 (PI a):=
 .done (end_of h0 flat_keep (λx s h=>h.2) hw hf)
theorem reads_none(h0:Oc0 c o L)(hw:nxW a.R≠[])(hf:nxC a.R<=a.left)(hS:NoWd a.ws (nxW a.R))(hK:kp (nxW a.R)=none)(hn: (parseN (nxW a.R) 10).2=false):ReadsR c o L 8 (PI a.paid) 0 (PI a):=
 .done (none_of h0 flat_keep hw hf λx s nm hq hnm=>hq.kv_no nm (by rw[hnm];exact hS) (by rw[hnm];exact hK) (by rw[hnm];exact hn))
def sqN:List UInt8:=[115,113]
def sqXt:Nat:=16472
def sqC:List Int:=[21,33,1]
theorem reads_1(h0:Oc0 c o L):ReadsR c o L 0 (PI (⟨[],[],[53,32],16456,0,[],[],985,7⟩:Oa)) 4 (PI (⟨[],[],[],16456,0,[],[50,32,51,32,43,32,46],1000,7⟩:Oa)):=by
 refine .step ((round_num (a:=⟨[],[],[],16456,0,[],[50,32,51,32,43,32,46],1000,7⟩) (n:=2) h0 (by decide) (by decide) (by unfold NoWd;kernel_rfl) (by decide +kernel) (by decide +kernel) (by unfold V64;omega) (by decide)).toI (b:=⟨[],[2],[],16456,0,[],[51,32,43,32,46],997,7⟩) kR) ?_
 refine .step ((round_num (a:=⟨[],[2],[],16456,0,[],[51,32,43,32,46],997,7⟩) (n:=3) h0 (by decide) (by decide) (by unfold NoWd;kernel_rfl) (by decide +kernel) (by decide +kernel) (by unfold V64;omega) (by decide)).toI (b:=⟨[],[2,3],[],16456,0,[],[43,32,46],994,7⟩) kR) ?_
 refine .step ((round_kop (a:=⟨[],[2,3],[],16456,0,[],[43,32,46],994,7⟩) (op:=31) (inl:=true) h0 (by decide) (by decide) (by unfold NoWd;kernel_rfl) (by decide +kernel) (by decide) (by decide) (λs s1 F xt hxt hob h2 h3 h4=>op_plus (ds:=[]) (u:=2) (v:=3) h2 hxt h3 h4)).toI (b:=⟨[],[5],[],16456,0,[],[46],989,7⟩) kR) ?_
 refine .step ((round_kop (a:=⟨[],[5],[],16456,0,[],[46],989,7⟩) (op:=80) (inl:=true) h0 (by decide) (by decide) (by unfold NoWd;kernel_rfl) (by decide +kernel) (by decide) (by decide) (λs s1 F xt hxt hob h2 h3 h4=>op_dot (ds:=[]) (u:=5) (out:=[]) hob h2 hxt h3 h4 (by decide +kernel))).toI (b:=⟨[],[],[53,32],16456,0,[],[],985,7⟩) kR) ?_
 exact reads_end (a:=⟨[],[],[53,32],16456,0,[],[],985,7⟩) h0 (by decide) (by decide)
theorem runs_sq{s:Mt}{a:Oa}(h:OB a s)(hd:a.ds = [7])(hc: (sqXt,sqC)∈a.codes):RunsTo 3 s (sqXt:Int) [49] (tabO a.out):=by
 have hcode:=(h.codes _ hc).1
 refine runs_of (k:=2) (pc:=16488) oM λF h1 h3=> ?_
 have hst:=VS.start h.om.rep h.om.quiet
 rw[hd,h.T]at hst
 have hf:=(hst.code hcode).fetch hst.rep.lay 0 21 21 0 16472 rfl (by decide) (by decide) (by decide) (by decide)
 obtain⟨s2,g1,g2⟩:=VS.step1 (tab:=outTab) (left:=F) (ds:=[]) (a:=7) hst [7,7] oM oM (.inl rfl) hf (λs=>[ar s 1 0,ar s 1 0]) rfl (λe=>by rw[e]) (by decide) (by decide) rfl (λb=>rfl) (by decide) (λv hv=>by
  simp only[List.mem_cons,List.mem_nil_iff,or_false,or_self]at hv
  rw[hv];unfold V64;omega)
 have hf2:=(g2.code hcode).fetch g2.rep.lay 1 33 33 0 16480 rfl (by decide) (by decide) (by decide) (by decide)
 obtain⟨s3,k1,k2⟩:=VS.step2 (tab:=outTab) (left:=F-1) (ds:=[]) (a:=7) (b:=7) g2 [49] oM oM (.inl rfl) hf2 (λs=>[wrap64 (ar s 2 0*ar s 2 1)]) rfl (λe1 e2=>by rw[e1,e2];decide +kernel) (by decide) (by decide) rfl (λb=>rfl) (by decide) (λv hv=>by
  rw[List.mem_singleton.1 hv];unfold V64;omega)
 exact⟨s3,g1.go.and k1,k2,(k2.code hcode).fetch k2.rep.lay 2 1 1 0 _ rfl (by decide) (by decide) (by decide) (by decide)⟩
theorem reads_2(h0:Oc0 c o L):ReadsR c o L 0 (PI (⟨[defW 16456 [115,113] false],[],[53,32,52,57,32],16496,16456,[(16472,[21,33,1])],[],968,19⟩:Oa)) 7 (PI (⟨[],[],[53,32],16456,0,[],[58,32,115,113,32,100,117,112,32,42,32,59,32,55,32,115,113,32,46],1000,19⟩:Oa)):=by
 refine .step ((round_colon (a:=⟨[],[],[53,32],16456,0,[],[58,32,115,113,32,100,117,112,32,42,32,59,32,55,32,115,113,32,46],1000,19⟩) (inl:=false) (v:=276) (b:=true) h0 (by decide) (by decide) (by unfold NoWd;kernel_rfl) (by decide +kernel) (by decide +kernel) (by decide) (by decide)).toD (b:=⟨[defW 16456 [115,113] true],[],[53,32],16472,16456,[],[100,117,112,32,42,32,59,32,55,32,115,113,32,46],993,19⟩) (f:=⟨[],[115,113],[],16456,0⟩) kR kR) ?_
 refine .step ((round_inl (a:=⟨[defW 16456 [115,113] true],[],[53,32],16472,16456,[],[100,117,112,32,42,32,59,32,55,32,115,113,32,46],993,19⟩) (d:=⟨[],[115,113],[],16456,0⟩) (v:=21) (cs:=[1]) (op:=21) h0 (by decide) (by decide) (by unfold NoWd;kernel_rfl) (by decide +kernel) (by decide) (by decide) (by unfold V64;omega) (by decide)).toD (b:=⟨[defW 16456 [115,113] true],[],[53,32],16480,16456,[],[42,32,59,32,55,32,115,113,32,46],988,19⟩) (f:=⟨[],[115,113],[21],16456,0⟩) kR kR) ?_
 refine .step ((round_inl (a:=⟨[defW 16456 [115,113] true],[],[53,32],16480,16456,[],[42,32,59,32,55,32,115,113,32,46],988,19⟩) (d:=⟨[],[115,113],[21],16456,0⟩) (v:=33) (cs:=[1]) (op:=33) h0 (by decide) (by decide) (by unfold NoWd;kernel_rfl) (by decide +kernel) (by decide) (by decide) (by unfold V64;omega) (by decide)).toD (b:=⟨[defW 16456 [115,113] true],[],[53,32],16488,16456,[],[59,32,55,32,115,113,32,46],985,19⟩) (f:=⟨[],[115,113],[21,33],16456,0⟩) kR kR) ?_
 refine .step ((round_semi (a:=⟨[defW 16456 [115,113] true],[],[53,32],16488,16456,[],[59,32,55,32,115,113,32,46],985,19⟩) (d:=⟨[],[115,113],[21,33],16456,0⟩) (inl:=false) (v:=532) (b:=true) h0 (by decide) (by decide) (by unfold NoWd;kernel_rfl) (by decide +kernel) (by decide +kernel) (by decide)).toI (b:=⟨[defW 16456 [115,113] false],[],[53,32],16496,16456,[(16472,[21,33,1])],[55,32,115,113,32,46],982,19⟩) kR) ?_
 refine .step ((round_num (a:=⟨[defW 16456 [115,113] false],[],[53,32],16496,16456,[(16472,[21,33,1])],[55,32,115,113,32,46],982,19⟩) (n:=7) h0 (by decide) (by decide) (by unfold NoWd;kernel_rfl) (by decide +kernel) (by decide +kernel) (by unfold V64;omega) (by decide)).toI (b:=⟨[defW 16456 [115,113] false],[7],[53,32],16496,16456,[(16472,[21,33,1])],[115,113,32,46],979,19⟩) kR) ?_
 refine .step ((round_own (a:=⟨[defW 16456 [115,113] false],[7],[53,32],16496,16456,[(16472,[21,33,1])],[115,113,32,46],979,19⟩) (wd:=defW 16456 sqN false) (k:=3) (es:=[49]) (out:=[53,32]) h0 (by decide) (by decide) kR (by decide) (by decide) (λs hob=>runs_sq hob rfl (List.mem_singleton.2 rfl))).toI (b:=⟨[defW 16456 [115,113] false],[49],[53,32],16496,16456,[(16472,[21,33,1])],[46],972,19⟩) kR) ?_
 refine .step ((round_kop (a:=⟨[defW 16456 [115,113] false],[49],[53,32],16496,16456,[(16472,[21,33,1])],[46],972,19⟩) (op:=80) (inl:=true) h0 (by decide) (by decide) (by unfold NoWd;kernel_rfl) (by decide +kernel) (by decide) (by decide) (λs s1 F xt hxt hob h2 h3 h4=>op_dot (ds:=[]) (u:=49) (out:=[53,32]) hob h2 hxt h3 h4 (by decide +kernel))).toI (b:=⟨[defW 16456 [115,113] false],[],[53,32,52,57,32],16496,16456,[(16472,[21,33,1])],[],968,19⟩) kR) ?_
 exact reads_end (a:=⟨[defW 16456 [115,113] false],[],[53,32,52,57,32],16496,16456,[(16472,[21,33,1])],[],968,19⟩) h0 (by decide) (by decide)
theorem reads_3(h0:Oc0 c o L):ReadsR c o L 8 (PI (Oa.paid ⟨[defW 16456 [115,113] false],[],[53,32,52,57,32],16496,16456,[(16472,[21,33,1])],[110,111,115,117,99,104],1000,6⟩)) 0 (PI (⟨[defW 16456 [115,113] false],[],[53,32,52,57,32],16496,16456,[(16472,[21,33,1])],[110,111,115,117,99,104],1000,6⟩:Oa)):=reads_none h0 (by decide) (by decide) (by unfold NoWd;kernel_rfl) (by decide +kernel) (by decide +kernel)
end
def wideV:Value:= .agg #[(16384:Int),(64:Int),(2656:Int),(296:Int),(296:Int)]
def newO(r:Rc):List Asr:=
 [RefA r.gC (Caps.made 0 0 ⟨#[]⟩),AllA (rstkL r.gR r.gRr 0 3 4 (List.replicate 37 0)),AllA (rstkL r.gD r.gDr 0 1 2 (List.replicate 37 0)),
  RDicA r.gS r.gb 16448 19104 3248 false stu13,RDicA r.gK r.gb 0 16384 19696 false ker0,BlkA r.gT 197 (rturC 0 0 1 0 true),
  BlkA r.gM 130 (rimgCells r.gb img13),RbA r.gb img13]
def Made13(e:Ending)(B:Asr):Prop:= ∃(r:Rc) (gws:Nat),e = .returned (.tuple #[r.gW,.bool true])∧
 B=AllA (BlkA r.gW 91 (worldC r r.gK (.slice gws 1 1) 0 0 0 false)::BlkA gws 84 #[r.gK]::newO r)
theorem span_of3{w W:World}{F:Nat->Prop}{L:List Asr}{gM gb:Nat}(h:On F w (AllA L) W)(i j:Nat)(hi:L[i]? = some (BlkA gM 130 (rimgCells gb img13)))(hj:L[j]? = some (RbA gb img13))(r a b:Int)(ha:spanFrom img13 r=a)(hb:spanTo img13 r=b):
 Calls prog 54 #[gM,(r:Int)] W (Got (.returned (.tuple #[a,b])) (AllA L) F w):=by
 have hs:=r_span (rep_of h i j hi hj img13_ok) r
 rw[ha,hb]at hs
 refine hs.mono ?_
 rintro e w' ⟨he,hb⟩
 exact⟨he,h.below hb⟩
theorem w_new3(w:World):Calls prog 24 #[wideV] w (PostE Made13 Nob w):=by
 have hon0:=(On.refl (A:=AllA []) (F:=Nob) (w:=w) (λ_ h=>h)).box #[(16384:Int),(64:Int),(2656:Int),(296:Int),(296:Int)] 70
 have hr3:=λW=>(r3_new 16384 64 2656 296 296 img13_fits W:Calls prog 52 #[wideV] W (PostE (λe B=> ∃g gb,e = .returned (.tuple #[.pointer (some ⟨g,0,none⟩),.bool true])∧B=AllA [BlkA g 130 (rimgCells gb img13),RbA gb img13]) Nob W))
 unfold wideV at hr3⊢
 replace hr3:=hid hr3
 replace hon0:=hid hon0
 go_enter func24,ntmps24
 go_wp2_with fail
 refine(hon0.out.make (hr3.out _)).mono ?_
 rintro e w1 ⟨B,⟨gM,gb,rfl,rfl⟩,hon1⟩
 replace hon1:=hid hon1.flat
 clear hon0 hr3
 go_wp2_with fail
 refine(hon1.out.make (rt_new _)).mono ?_
 rintro e w2 ⟨B,⟨gT,rfl,rfl⟩,hon2⟩
 have hon3:=hon2.box (wC0 gM gT nilP nilP nilP nilS nilP nilP nilP) 91
 obtain⟨gW,hgW⟩: ∃gW,w2.heap.size=gW:=⟨_,rfl⟩
 rw[hgW]at hon3
 unfold wC0 nilP nilS at hon3
 replace hon3:=hid hon3
 clear hon1 hon2
 go_wp2_with fail
 generalize w2.alloc (Obj.cells _ 91)=w3 at *
 clear hgW
 refine mo (span_of3 hon3.out 2 3 rfl rfl 1 0 16384 rfl rfl) λw4 hon4=>?_
 have b5:w4.cell? (gM,5)=some (.slice gb 19696 19696):=(hon4.blkAt 2 rfl).cell 5
 have hk:=(rd_new gb 0 16384 19696 oM oM 1 w4:Calls prog 55 #[.slice gb 16384 19696,(0:Int)] w4 (PostE (λe B=> ∃g,e = .returned (.pointer (some ⟨g,0,none⟩))∧B=RDicA g gb 0 16384 19696 false ker0) Nob w4))
 have hk2:=hid (hon4.make hk)
 replace hon4:=hid hon4
 clear hon3 hk
 go_wp2_with fail
 refine hk2.out.mono ?_
 rintro e w5 ⟨B,⟨gK,rfl,rfl⟩,hon5⟩
 have fW:=(hon5.blkAt 1 rfl).frozen 1
 have cW:w5.cell? (gW,1)=some (.pointer none):=(hon5.blkAt 1 rfl).cell 1
 have hon6:=hid (hon5.setAt 1 rfl 1 (.pointer gK))
 clear hk2 hon4 b5
 replace hon5:=hid hon5
 go_wp2_with fail
 generalize w5.setCell (gW,1) (.pointer gK)=w6 at *
 clear fW cW hon5
 refine mo (span_of3 hon6.out 3 4 rfl rfl 3 16448 19104 rfl rfl) λw7 hon7=>?_
 have b5:w7.cell? (gM,5)=some (.slice gb 19696 19696):=(hon7.blkAt 3 rfl).cell 5
 have hk:=(rd_new gb 16448 19104 3248 oM oM 3 w7:Calls prog 55 #[.slice (some ⟨gb,16448,none⟩) 2656 3248,(16448:Int)] w7 (PostE (λe B=> ∃g,e = .returned (.pointer (some ⟨g,0,none⟩))∧B=RDicA g gb 16448 19104 3248 false stu13) Nob w7))
 have hk2:=hid (hon7.make hk)
 replace hon7:=hid hon7
 clear hon6 hk
 go_wp2_with fail
 refine hk2.out.mono ?_
 rintro e w8 ⟨B,⟨gS,rfl,rfl⟩,hon8⟩
 clear hk2 hon7 b5
 have f2:=(hon8.blkAt 2 rfl).frozen 2
 have c2:w8.cell? (gW,2)=some (.pointer none):=(hon8.blkAt 2 rfl).cell 2
 have f3:=(hon8.blkAt 2 rfl).frozen 3
 have c3:w8.cell? (gW,3)=some (.pointer none):=(hon8.blkAt 2 rfl).cell 3
 have f4:=(hon8.blkAt 2 rfl).frozen 4
 have c4:w8.cell? (gW,4)=some (.slice none 0 0):=(hon8.blkAt 2 rfl).cell 4
 have c1:w8.cell? (gW,1)=some (gK:Vl):=(hon8.blkAt 2 rfl).cell 1
 have l0:=(hon8.blkAt 4 rfl).lt
 have hlW:=(hon8.blkAt 2 rfl).lt
 have hlw:w.heap.size<w8.heap.size:=(hon8.blkAt 6 rfl).lt
 have x3:w8.cell? (w.heap.size,3)=some (.int .i64 296):=(hon8.blkAt 6 rfl).cell 3
 have x4:w8.cell? (w.heap.size,4)=some (.int .i64 296):=(hon8.blkAt 6 rfl).cell 4
 have hneW:=hon8.neAt 2 6 (by decide) rfl rfl
 have hon9:=(((hon8.setAt 2 rfl 2 (.pointer gS)).setAt 2 rfl 3 (.pointer gK)).setAt 2 rfl 4 (.slice w8.heap.size 1 1)).box #[gK] 84
 have hsz: (((w8.setCell (gW,2) (.pointer gS)).setCell (gW,3) (.pointer gK)).setCell (gW,4) (.slice w8.heap.size 1 1)).heap.size=w8.heap.size:=by simp
 rw[hsz]at hon9
 replace hon9:=hid hon9
 replace hon8:=hid hon8
 clear hsz
 go_wp2_with fail
 clear f2 c2 f3 c3 f4 c4 c1 x3 x4
 generalize (((w8.setCell (gW,2) (.pointer gS)).setCell (gW,3) (.pointer gK)).setCell (gW,4) (.slice w8.heap.size 1 1)).alloc (.cells #[gK] 84)=w9 at *
 have hs4:=(rs_new 4 37 oM 1 2 (.inl ⟨rfl,rfl,rfl⟩) w9:Calls prog 56 #[(4:Int),(296:Int)] w9 (PostE (λe B=> ∃g gr,e = .returned (.tuple #[.pointer (some ⟨g,0,none⟩),.bool true])∧B=AllA (rstkL g gr 0 1 2 (List.replicate 37 0))) Nob w9))
 replace hs4:=hon9.out.make hs4
 refine hs4.mono ?_
 rintro e w10 ⟨B,⟨gD,gDr,rfl,rfl⟩,hon10⟩
 have f5:=(hon10.blkAt 4 rfl).frozen 5
 have c5:w10.cell? (gW,5)=some (.pointer none):=(hon10.blkAt 4 rfl).cell 5
 have hon11:=hid (hon10.setAt 4 rfl 5 (.pointer gD))
 have x4: (w10.setCell (gW,5) (.pointer gD)).cell? (w.heap.size,4)=some (.int .i64 296):=(hon11.out.blkAt 8 rfl).cell 4
 clear hs4 hon9
 replace hon10:=hid hon10
 go_wp2_with fail
 generalize w10.setCell (gW,5) (.pointer gD)=w11 at *
 have hs5:=(rs_new 5 37 oM 3 4 (.inr ⟨rfl,rfl,rfl⟩) w11:Calls prog 56 #[(5:Int),(296:Int)] w11 (PostE (λe B=> ∃g gr,e = .returned (.tuple #[.pointer (some ⟨g,0,none⟩),.bool true])∧B=AllA (rstkL g gr 0 3 4 (List.replicate 37 0))) Nob w11))
 replace hs5:=hon11.out.make hs5
 refine hs5.mono ?_
 rintro e w12 ⟨B,⟨gR,gRr,rfl,rfl⟩,hon12⟩
 clear hs5 hon11 f5 c5 x4
 have f6:=(hon12.blkAt 5 rfl).frozen 6
 have c6:w12.cell? (gW,6)=some (.pointer none):=(hon12.blkAt 5 rfl).cell 6
 have hon13:=hid (hon12.setAt 5 rfl 6 (.pointer gR))
 replace hon12:=hid hon12
 go_wp2_with fail
 generalize w12.setCell (gW,6) (.pointer gR)=w13 at *
 clear f6 c6 hon12
 have hc9:=make_of_at (w:=w13) (R:=λe B=> ∃g,e = .returned (.tuple #[.pointer (some ⟨g,0,none⟩),(0:Int)])∧B=RefA g (Caps.made 0 0 ⟨#[]⟩)) (λw0 L h=>(r_new h 0 0 ⟨#[]⟩ err0).mono λe w' ⟨g,he,h2⟩=>⟨_,⟨g,he,rfl⟩,h2⟩)
 replace hc9:=hon13.out.make hc9
 refine hc9.mono ?_
 rintro e w14 ⟨B,⟨gC,rfl,rfl⟩,hon14⟩
 clear hc9 hon13
 have f7:=(hon14.blkAt 6 rfl).frozen 7
 have c7:w14.cell? (gW,7)=some (.pointer none):=(hon14.blkAt 6 rfl).cell 7
 have hon15:=hon14.setAt 6 rfl 7 (.pointer gC)
 have hd:=((hon15.drop 10 rfl).front 3 rfl).front 6 rfl
 replace hd:=hid hd
 clear hon15
 replace hon14:=hid hon14
 go_wp2
 go_ret2
 exact⟨_,⟨⟨gW,gM,gb,gK,gS,gD,gDr,gR,gRr,gC,gT⟩,w8.heap.size,rfl,rfl⟩,hd.out⟩
def docO(r:Rc)(l:Nat)(ws:Value)(x:Rw):List Asr:=
 [BlkA r.gW 91 (worldC r l ws x.fault x.used x.hidden x.tells),RefA r.gC x.T,AllA (rstkL r.gR r.gRr x.rd 3 4 x.ra),AllA (rstkL r.gD r.gDr x.dd 1 2 x.da),
  RDicA r.gS r.gb 16448 19104 3248 false x.D,RDicA r.gK r.gb 0 16384 19696 x.kcl x.K,BlkA r.gT 197 (rturC 0 0 1 0 true),
  BlkA r.gM 130 (rimgCells r.gb x.S),RbA r.gb x.S]
def DocB(r:Rc)(l:Nat)(ws:Value)(x:Rw):Asr:=AllA (docO r l ws x)
section
variable {w w1:World}{F:Nat->Prop}{r:Rc}{l:Nat}{ws:Value}{x:Rw}
theorem doc_world3(h:On F w (DocB r l ws x) w1):Blk w1 r.gW 91 (worldC r l ws x.fault x.used x.hidden x.tells):=On.blkAt (L:=docO r l ws x) 0 h rfl
theorem doc_rep3(h:On F w (DocB r l ws x) w1)(hS:x.S.Ok):IRRep w1 r.gM r.gb x.S:=rep_of (L:=docO r l ws x) h 7 8 rfl rfl hS
theorem w_base3(h:On F w (DocB r l ws x) w1)(hS:x.S.Ok):Calls prog 39 #[r.gW] w1 (Quiet (x.S.beg 3:Int) w1):=by
 have hs:=r_span (doc_rep3 h hS) 3
 have ha:spanFrom x.S 3= (x.S.beg 3:Int):=by unfold spanFrom;rw[if_pos oM];rfl
 rw[ha]at hs
 have c0:w1.cell? (r.gW,0)=some (r.gM:Vl):=(doc_world3 h).cell 0
 replace hs:=hid hs
 clear h ha hS
 go_enter func39,ntmps39
 go_wp2_with fail
 refine mo hs.out λw2 hb=>?_
 replace hb:=hid hb
 go_wp2
 go_ret
 exact⟨rfl,hb.out⟩
theorem w_caps3(hb: (DocB r l ws x).holds w F)(p rm:Int)(s:ByteArray)(h0:Caps.newErr p rm s=0):Calls prog 28 #[r.gW,p,rm,.string s] w
 (PostE (λe B=> ∃g,e = .returned (.int .i64 0)∧B=DocB { r with gC:=g } l ws { x with T:=Caps.made p rm s }) F w):=by
 have hon:On F w (AllA (docO r l ws x)) w:=On.refl hb
 have hc9:=make_of_at (w:=w) (R:=λe B=> ∃g,e = .returned (.tuple #[.pointer (some ⟨g,0,none⟩),(0:Int)])∧B=RefA g (Caps.made p rm s)) (λw0 L h=>(r_new h p rm s h0).mono λe w' ⟨g,he,h2⟩=>⟨_,⟨g,he,rfl⟩,h2⟩)
 replace hc9:=hid (hon.make hc9)
 clear hb hon h0
 go_enter func28,ntmps28
 go_wp2_with fail
 refine hc9.out.mono ?_
 rintro e w2 ⟨B,⟨g,rfl,rfl⟩,hon2⟩
 have f7:=(On.blkAt 1 hon2 rfl).frozen 7
 have c7:w2.cell? (r.gW,7)=some (r.gC:Vl):=(On.blkAt 1 hon2 rfl).cell 7
 have hon3:=On.setAt 1 hon2 rfl 7 (.pointer g)
 have hd:On F w (AllA (docO { r with gC:=g } l ws { x with T:=Caps.made p rm s })) _:=(On.drop (On.front 1 hon3 rfl) 2 rfl)
 replace hd:=hid hd
 replace hon2:=hid hon2
 clear hon3
 go_wp2
 go_ret
 exact⟨_,⟨g,rfl,rfl⟩,hd.out⟩
theorem w_seal3(hb: (DocB r l ws x).holds w F)(hS:x.S.Ok)(hc:x.S.cl=false):Calls prog 35 #[r.gW] w (Got (.returned (.tuple #[])) (DocB r l ws { x with S:=x.S.sealed,kcl:=true }) F w):=by
 have hon:On F w (DocB r l ws x) w:=On.refl hb
 have hop:=r_seal (doc_rep3 hon hS) hc
 have c0:w.cell? (r.gW,0)=some (r.gM:Vl):=(doc_world3 hon).cell 0
 have hmid:On F w (AllA (docO r l ws { x with S:=x.S.sealed })) (w.setCell (r.gM,7) (.bool true)):=On.setAt (L:=docO r l ws x) 7 hon rfl 7 (.bool true)
 have c1: (w.setCell (r.gM,7) (.bool true)).cell? (r.gW,1)=some (r.gK:Vl):=(doc_world3 (x:={ x with S:=x.S.sealed }) hmid).cell 1
 have hbk:Blk (w.setCell (r.gM,7) (.bool true)) r.gK 157 (rdicC r.gb 0 16384 19696 x.kcl x.K):=On.blkAt (L:=docO r l ws { x with S:=x.S.sealed }) 5 hmid rfl
 have ck: (w.setCell (r.gM,7) (.bool true)).cell? (r.gK,2)=some (.bool x.kcl):=hbk.cell 2
 have fk:=hbk.frozen 2
 have hfin:On F w (AllA (docO r l ws { x with S:=x.S.sealed,kcl:=true })) _:=On.setAt (L:=docO r l ws { x with S:=x.S.sealed }) 5 hmid rfl 2 (.bool true)
 replace hop:=hid hop
 replace hfin:=hid hfin
 clear hb hon hS hc hmid hbk
 generalize w.setCell (r.gM,7) (.bool true)=wm at *
 go_enter func35,ntmps35
 go_wp2_with fail
 refine hop.out.mono ?_
 rintro e w2 ⟨rfl,rfl⟩
 go_wp2
 go_end0
 exact⟨rfl,hfin.out⟩
end
end Vm
end Go.Proofs.YteaijdgnagkllaaGreatDoor
