/- The law VmAsked. Conditions: as written. -/
import Derived.Test.YtilaogbkdbbdkaaGreatDoorOm
import Derived.Test.YtilaogbkdbbdkaaGreatDoorZ45
open Go.Proofs.Tryz
namespace Go.Proofs.YtilaogbkdbbdkaaGreatDoor
set_option linter.unusedVariables false
set_option linter.unusedSimpArgs false
set_option maxHeartbeats 8000000
set_option maxRecDepth 100000
open Go.RowKit Go.Lib Go.Deep
namespace Vm
def vZ(s:Setup)(cs:List Int)(cc:Int):Setup:={ s with kernel:=[⟨ey,false,false,cs⟩],ret:=[],dp:=cc }
def Qh(m:Sl)(B kc:Nat):Sl:={ m with kA:=some ⟨B,0,none⟩,kc:=kc,rA:=none,rc:=0 }
theorem yu{W:World}{s:Setup}{m:Sl}{B1 B2 cp kc:Nat}{t2:TypeId}{cs:List Int}{cc:Int}(h:dP W s m)(h1:ln W (some ⟨B1,0,none⟩) cs)(Rd:B1<W.heap.size)(h2:Blk W B2 t2 #[.string ey,.bool false,.bool false,.slice B1 cs.length cp])
 (hv: ∀v∈cs,V64 v) (hl:cs.length<=9223372036854775807) (hc:V64 cc):dP W (vZ s cs cc) (Qh m B2 kc):=by
 refine⟨?_,h.sw,h.dw,oP,by show 1<=_;omega,h.sl,hc,h.room,h.base,h.inp,h.hid⟩
 intro j x hx
 rcases j with _|j
 ·obtain rfl: (⟨ey,false,false,cs⟩:Wrd)=x:=by simpa [vZ]using hx
  exact⟨B2,0,some ⟨B1,0,none⟩,cp,rfl,λh=>h,h2.cell 0,h2.cell 1,h2.cell 2,h2.cell 3,h1,λ_ a ha=>by cases ha;exact⟨λh=>h,Rd⟩,by show ey.size<=_;decide,hv,hl⟩
 ·simp[vZ]at hx
section
variable {w W:World}{F:Nat->Prop}{L:List Asr}{a:Mw}{b:Bc}{r:Rc}{x:Rw}{t:Mt}{s:Setup}{cs:List Int}{k:Nat}{v m:Int}
theorem Ko(i:Nat)(h:On F w (aa L) W)(hi:L[i]? = some (aa (mL (cL a b r x) s.mt)))(hj:tF s cs):
 Calls prog 9 #[b.gK,.string ey] W (Quiet (.tuple #[.agg #[.string ey,(8:Int),(24:Int),.bool false,.bool false,.bool false],.bool true]) W):=by
 obtain⟨F',hF⟩:=h.at_ i hi
 have h2:On F' W (aa (mL (cL a b r x) s.mt)) W:=On.refl hF
 have hd:Blk W b.gK 123 (cm b.gI 8 16384 s.mt.hk s.mt.lk):=h2.ab 6 rfl
 have e1:s.mt.hk= ((dK s.mt).h:Int):=(Int.toNat_of_nonneg (Int.natCast_nonneg _)).symm
 have e2:s.mt.lk= ((dK s.mt).l:Int):=(Int.toNat_of_nonneg (Int.natCast_nonneg _)).symm
 rw[e1,e2]at hd
 obtain⟨gb,hi⟩:=h2.img 1 rfl
 have hf:=rW (D:=dK s.mt) W hd hi (Kk s) ey (by decide)
 rw[L4 hj]at hf
 exact hf
theorem xM(i:Nat)(h:On F w (aa L) W)(hi:L[i]? = some (aa (mL (cL a b r x) t))):Calls prog 11 #[b.gT] W (Draws (.tuple #[t.T.points,.bool t.T.said]) W):=by
 obtain⟨F',hF⟩:=h.at_ i hi
 have h2:On F' W (aa (mL (cL a b r x) t)) W:=On.refl hF
 obtain⟨F2,hT⟩:=h2.at_ 4 rfl
 exact dC.points hT
theorem mach_cells(h:On F w (aa (mL (cL a b r x) t)) W):W.cell? (b.gB,0)=some (b.gI:Vl)∧W.cell? (b.gB,1)=some (b.gK:Vl)∧W.cell? (b.gB,3)=some (b.gT:Vl)∧W.cell? (b.gB,5)=some (b.gM:Vl):=by
 have h1:=jQg (nB (a:=a) (b:=b) (r:=r) (x:=x)) h
 obtain⟨p,cap,z0,z1,z2,z3,z4,z5,z6,z7⟩:=h1
 exact⟨z0,z1,z3,z5⟩
theorem mach_data(h:On F w (aa (mL (cL a b r x) t)) W):Calls prog 13 #[b.gM] W (ax a.gD W):=by
 have h1:=uF (nB (a:=a) (b:=b) (r:=r) (x:=x)) h
 exact h1
theorem mach_return(h:On F w (aa (mL (cL a b r x) t)) W):Calls prog 15 #[b.gM] W (ax a.gR W):=by
 have h1:=xN (nB (a:=a) (b:=b) (r:=r) (x:=x)) h
 exact h1
theorem mach_peek(h:On F w (aa (mL (cL a b r x) t)) W)(hs:t.Ok)(h0:0<t.d):Calls prog 14 #[a.gD,(0:Int)] W (Quiet (.tuple #[(t.top 0),(0:Int)]) W):=by
 have h1:=uA h hs h0
 exact h1
theorem mach_rdepth(h:On F w (aa (mL (cL a b r x) t)) W):Calls prog 16 #[a.gR] W (ax (t.r:Int) W):=by
 have h1:=zD h
 exact h1
theorem Lz(hj:tF s (dL k v m))(hv:AD s)(Su:s.ret = [])(h0:0<=s.dp)(h8:s.dp<8)(hk:k<=8)(hm:0<=m∧m<=3000)(hP:Pows w)(hB:Bruijn w)(aZ:Int):
 ∃q:Rs,Jq s.mt q∧q.s.Ok∧∀W F',(aa [aa (mL (cL a b r (x41 s)) s.mt),eD w]).holds W F'->Calls prog 10 #[b.gM,(2:Int),(24:Int),aZ,.pointer none] W (Got (.returned (.tuple #[q.f,(clip aZ-q.x.left:Int)])) (aa [aa (mL (cL a b r (x41 s)) q.s),eD w]) F' W):=by
 have hw:=Oe (a:=a) (b:=b) (r:=r) (x:=x41 s) s hv w hP hB
 have V8:fX ((cL a b r (x41 s)).plus (eD w)) s.mt.au:=(yy:fX (cL a b r (x41 s)) true)
 obtain⟨⟨q,hq,hjq⟩,hp⟩:=Ac hj hv Su h0 h8 hk hm hw V8 aZ
 have OF:1<=s.mt.pr.rm-s.mt.r:=by
  have e1:s.mt.pr.rm=8:=rfl
  have e2:s.mt.r=0:=by
   show 0+ (s.ret.take 8).length=0
   rw[Su]
   rfl
  omega
 have Rv: (Rn.start 2 aZ).Ok:=rH 2 aZ
 have h24:V64 24:=by unfold V64;omega
 have hqo:=(nQ oa _ (.pointer none) _ { Rn.start 2 aZ with pc:=24 } _ _ (oa.push _ _ _ _ _ hp) (eU (Ie s) [0] OF) ⟨Rv.base,Rv.dh,Rv.next,h24,Rv.left,Rv.cG⟩ hq).1
 refine⟨q,hjq,hqo,λW F' hb=> ?_⟩
 have hb: (Nf (cL a b r (x41 s)) s.mt w).holds W F':=hb
 exact(Hr oa 8 none ((rD _).1 hb) hp (Ie s) V8 2 24 aZ h24 OF q hq).mono λe W2 ⟨h2,h3⟩=>⟨h2,h3.mono λF' h=>(rD _).2 h⟩
end
theorem IJ{S S':Img}(al:Alike S S')(hS:S.Ok)(hS':S'.Ok)(hL:bH S)(hl:Low S S'):S'.part 1=S.part 1:=by
 have b:=hL.dU
 have b':=(hL.alike al).dU
 have e: ∀T:Img,T.part 1= ⟨((T.b.drop 0).take (T.beg 2)).toArray⟩:=λT=>rfl
 rw[e,e,b.1,b'.1]
 rw[jR S'.b S.b 0 0 16384 (by rw[hS'.len,b'.2.2.2.2];omega) (by rw[hS.len,b.2.2.2.2];omega) λk hk=>hl (0+k) oM]
theorem Ey{w W:World}{s:Setup}{k:Nat}{v m a3 Fu:Int}{a:Mw}{b:Bc}{r:Rc}(hj:tF s (dL k v m))(hv:AD s)(Su:s.ret = [])(h0:0<=s.dp)(h8:s.dp<8)(hk:k<=8)(hm:0<=m∧m<=3000)(hP:Pows w)(hB:Bruijn w)(YO: ∀W,Calls prog 6 #[.int .i64 a3,.int .i64 4000] W (ax (.int .i64 Fu) W))
 (so:On (gN w) w (aa [aa (mL (cL a b r (x41 s)) s.mt),eD w]) W) {u0 u1 u2 u4 u5 u6 u7 u8 YR YP u12 u13 Yr u16 Xw XG XC Xb X5 Xc XP XA XL Xf Xn X4 Xz Ya Yg u32 W8 Xm XN Yf XM Yx Xx XK X1 XE Yz Xr Yp XI Ys Xi Yn Xo Xp YB Xh XX YE X0 Yj Xj Yc W9 Xy Yh Yl u64 Xl X3 XT XO Xg Yu Xu Yi XH XQ XR X7 Ye XB XU XW YC Xk Yb X2 XD Xe Xa YF X9 Yk Yv XZ YD Xs Xd XF Xt Yt Yo S5 Tz TN Tc Tm To Tj S4 Tk TT Tu TC TR SW TE Tf T1 Tg Tq Th TB TP T8 Ty S6 TD Td Tw TZ Tv Tx TW T2 TX T7 T3 S7 Tb Tn SZ S0 TV Te Tr Tl T5 S9 TQ Ts TS TL SV S1 SY TI SX S8 TH TM S3 Tt T4 Ti TY Tp TO TG T6:Value}:Code.wp prog (bC 13 (Tryz.f3.body.getD .skip)) (bodyPost prog Tryz.f3 (Quiet (.bool true) w)) ⟨List.toArray (u0::u1::u2 :: .int .i64 a3::u4::u5::u6::u7::u8 :: .bool true::YR::YP::u12::u13 :: .pointer (some ⟨b.gB,0,none⟩)::Yr::u16::Xw::XG::XC::Xb::X5::Xc::XP::XA::XL::Xf::Xn::X4::Xz::Ya::Yg::u32::W8::Xm::XN::Yf::XM::Yx::Xx::XK::X1::XE::Yz::Xr::Yp::XI::Ys::Xi::Yn::Xo::Xp::YB::Xh::XX::YE::X0::Yj::Xj::Yc::W9::Xy::Yh::Yl::u64::Xl::X3::XT::XO::Xg::Yu::Xu::Yi::XH::XQ::XR::X7::Ye::XB::XU::XW::YC::Xk::Yb::X2::XD::Xe::Xa::YF::X9::Yk::Yv::XZ::YD::Xs::Xd::XF::Xt::Yt::Yo::S5::Tz::TN::Tc::Tm::To::Tj::S4::Tk::TT::Tu::TC::TR::SW::TE::Tf::T1::Tg::Tq::Th::TB::TP::T8::Ty::S6::TD::Td::Tw::TZ::Tv::Tx::TW::T2::TX::T7::T3::S7::Tb::Tn::SZ::S0::TV::Te::Tr::Tl::T5::S9::TQ::Ts::TS::TL::SV::S1::SY::TI::SX::S8::TH::TM::S3::Tt::T4::Ti::TY::Tp::TO::TG::T6 :: []),[]⟩ W:=by
 conv=>
  arg 2
  unfold Tryz.f3
  dsimp only[bC,Option.getD]
 have SI: ∀(t:Mt) W2,On (gN w) w (aa [aa (mL (cL a b r (x41 s)) t),eD w]) W2->W2.cell? (b.gB,0)=some (b.gI:Vl)∧W2.cell? (b.gB,1)=some (b.gK:Vl)∧W2.cell? (b.gB,3)=some (b.gT:Vl)∧W2.cell? (b.gB,5)=some (b.gM:Vl):=λt W2 h=>mach_cells h.flat.jH
 obtain⟨q,hjq,hqo,Sd⟩:=Lz (w:=w) (a:=a) (b:=b) (r:=r) hj hv Su h0 h8 hk hm hP hB Fu
 obtain⟨Rj,hf⟩:=hjq
 obtain⟨hS1,hS2⟩:=AK s
 have Zm:q.s.S.part 1=s.mt.S.part 1:=IJ Rj.wr.al hS1 Rj.wr.ok hS2 Rj.low
 have ep:q.s.T.points=0:=Rj.pts
 have es:q.s.T.said=false:=Rj.said
 have eo:q.s.T.out= ⟨#[]⟩:=Rj.out
 obtain⟨P0,hP0⟩: ∃p,s.mt.S.part 1=p:=⟨_,rfl⟩
 have WQ:=ue 0 so rfl 1 oM oM
 have Uf: ∀W2,On (gN w) w (aa [aa (mL (cL a b r (x41 s)) q.s),eD w]) W2->Calls prog 8 #[.pointer (some ⟨b.gI,0,none⟩),.int .i64 1] W2 (λe w'=>e = .returned (.string P0)∧∃n,w'=W2.drewN n):=λW2 h=>by
  have h1:=ue 0 h rfl 1 oM oM
  rw[Zm,hP0]at h1
  exact h1
 have hcU: ∀W2,On (gN w) w (aa [aa (mL (cL a b r (x41 s)) q.s),eD w]) W2->Calls prog 11 #[.pointer (some ⟨b.gT,0,none⟩)] W2 (λe w'=>e = .returned (.tuple #[.int .i64 0,.bool false])∧∃n,w'=W2.drewN n):=λW2 h=>by
  have h1:=xM 0 h rfl
  rw[ep,es]at h1
  exact h1
 have Zh: ∀W2,On (gN w) w (aa [aa (mL (cL a b r (x41 s)) q.s),eD w]) W2->Calls prog 12 #[.pointer (some ⟨b.gT,0,none⟩)] W2 (λe w'=>e = .returned (.string ⟨#[]⟩)∧w'=W2):=λW2 h=>by
  have h1:=Gm 0 h rfl
  rw[eo]at h1
  exact h1
 rw[hP0]at WQ
 replace⟨SI,Sd,hqo,Uf,hcU,Zh,hf,YO⟩:=iH SI Sd hqo Uf hcU Zh hf YO
 clear Rj hS1 hS2 Zm ep es eo hP0 hv Su h0 h8 hk hm hP hB
 have⟨c0,c1,c3,c5⟩:=SI.out _ _ so
 replace⟨so,WQ,hj⟩:=iC so WQ hj
 go_upto_region 20 with fail
 go_cut [15] (λt15 wx=>t15 = .string P0∧On (gN w) w (aa [aa (mL (cL a b r (x41 s)) s.mt),eD w]) wx)
 case first=>
  go_wp2_with fail
  refine WQ.out.mono ?_
  rintro e w1 ⟨rfl,n,rfl⟩
  simp only[]
  go_wp2_with fail
  go_meet
  exact⟨rfl,so.out.drewN _⟩
 case rest=>
 obtain⟨rfl,M0⟩:=hcut
 have V1:=Ko 0 M0 rfl hj.out
 clear c0 c1 c3 c5 so WQ
 have⟨c0,c1,c3,c5⟩:=SI.out _ _ M0
 replace⟨V1,M0⟩:=iB V1 M0
 go_upto_region 21 with fail
 go_cut [16,17] (λt16 t17 wx=> ∃g,t16 = .pointer (some ⟨g,0,none⟩)∧t17 = .bool true∧On (gN w) w (aa [ae g 43 #[.string ey,.int .i64 8,.int .i64 24,.bool false,.bool false,.bool false],aa (mL (cL a b r (x41 s)) s.mt),eD w]) wx)
 case first=>
  go_wp2_with fail
  refine mo V1.out λw1 hb=>?_
  simp only[]
  have BY:=(M0.out.below hb).box #[.string ey,.int .i64 8,.int .i64 24,.bool false,.bool false,.bool false] 43
  replace⟨BY,hb⟩:=iB BY hb
  go_wp2_with fail
  go_meet
  exact⟨_,rfl,rfl,BY.out⟩
 case rest=>
 obtain⟨g,rfl,rfl,BY⟩:=hcut
 clear c0 c1 c3 c5 M0 V1
 have⟨c0,c1,c3,c5⟩:=SI.out _ _ BY.tail
 have d2:wc.cell? (g,2)=some (.int .i64 24):=(BY.ab 0 rfl).cell 2
 have hrn:=BY.drew.aM (e0:= .returned (.tuple #[.int .i64 q.f,.int .i64 (clip Fu-q.x.left)])) (L':=[aa (mL (cL a b r (x41 s)) q.s),eD w]) λF' hb _ _=>Sd.out _ F' hb
 obtain⟨us,hus⟩: ∃u,clip Fu-q.x.left=u:=⟨_,rfl⟩
 rw[hus]at hrn
 clear hus c0 c1 c3
 have hcw: ∀W2,On (gN w) w (aa [ae g 43 #[.string ey,.int .i64 8,.int .i64 24,.bool false,.bool false,.bool false],aa (mL (cL a b r (x41 s)) q.s),eD w]) W2->W2.cell? (g,2)=some (.int .i64 24):=λW2 h=>(h.ab 0 rfl).cell 2
 replace⟨hcw,hrn,BY⟩:=iC hcw hrn BY
 go_upto_region 22 with fail
 go_cut [18] (λt18 wx=>t18 = .int .i64 q.f∧On (gN w) w (aa [aa (mL (cL a b r (x41 s)) q.s),eD w]) wx)
 case first=>
  go_region_held (λw'=>w'.cell? (b.gB,5)=some (b.gM:Vl)∧w'.cell? (g,2)=some (.int .i64 24)) (go_keep)
   ((first
     | (go_at_call 6;refine(YO.out _).mono ?_;rintro e w3 ⟨rfl,rfl⟩;simp only[])
     | (go_at_call 10;refine mo hrn.out λw3 h=>?_;simp only[];have n5:=(SI.out _ _ h.tail).2.2.2;have n2:=hcw.out _ h;replace h:=hid h)))
  all_goals go_wp2_with fail
  all_goals go_meet
  all_goals exact⟨rfl,h.out.tail⟩
 case rest=>
 obtain⟨rfl,Rb⟩:=hcut
 clear c5 d2 hrn hcw BY Sd YO hj
 have⟨c0,c1,c3,c5⟩:=SI.out _ _ Rb
 have hpt:=hcU.out _ Rb
 replace⟨hpt,Rb⟩:=iB hpt Rb
 go_upto_region 23 with fail
 go_cut [20,21] (λt20 t21 wx=>t20 = .int .i64 0∧t21 = .bool false∧On (gN w) w (aa [aa (mL (cL a b r (x41 s)) q.s),eD w]) wx)
 case first=>
  go_wp2_with fail
  refine hpt.out.mono ?_
  rintro e w1 ⟨rfl,n,rfl⟩
  simp only[]
  go_wp2_with fail
  go_meet
  exact⟨rfl,rfl,Rb.out.drewN _⟩
 case rest=>
 obtain⟨rfl,rfl,Ra⟩:=hcut
 clear c0 c1 c3 c5 hpt Rb hcU
 have⟨c0,c1,c3,c5⟩:=SI.out _ _ Ra
 replace Ra:=hid Ra
 go_upto_region 24 with fail
 go_cut [135] (λt wx=>t = .bool false∧On (gN w) w (aa [aa (mL (cL a b r (x41 s)) q.s),eD w]) wx)
 case first=>
  go_wp2_with fail
  refine(Zh.out _ Ra.out).mono ?_
  rintro e w1 ⟨rfl,rfl⟩
  simp only[]
  go_wp2_with fail
  refine(Uf.out _ Ra.out).mono ?_
  rintro e w2 ⟨rfl,n,rfl⟩
  simp only[]
  go_wp2_with fail
  go_meet
  exact⟨by first|rfl|simp,Ra.out.drewN _⟩
 case rest=>
 obtain⟨rfl,Rf⟩:=hcut
 clear c0 c1 c3 c5 Ra Uf Zh
 rcases hf.out with hf|hf| ⟨hf,hr0,hd1,htp⟩
 ·rw[hf]
  have Z7:=Rf.old 1 rfl
  replace Z7:=hid Z7
  clear hf Rf
  go_wp2
  go_ret
  exact⟨rfl,Z7.out⟩
 ·rw[hf]
  have Z7:=Rf.old 1 rfl
  replace Z7:=hid Z7
  clear hf Rf
  go_wp2
  go_ret
  exact⟨rfl,Z7.out⟩
 ·rw[hf]
  have hm5:=Rf.flat.jH
  have hax:=λW2 (h:On (gN w) w (aa [aa (mL (cL a b r (x41 s)) q.s),eD w]) W2)=>mach_data h.flat.jH
  have Su:=λW2 (h:On (gN w) w (aa [aa (mL (cL a b r (x41 s)) q.s),eD w]) W2)=>mach_return h.flat.jH
  have WX:=λW2 (h:On (gN w) w (aa [aa (mL (cL a b r (x41 s)) q.s),eD w]) W2)=>mach_peek h.flat.jH hqo.out oM
  have hrd:=λW2 (h:On (gN w) w (aa [aa (mL (cL a b r (x41 s)) q.s),eD w]) W2)=>mach_rdepth h.flat.jH
  rw[htp]at WX
  rw[hr0]at hrd
  have⟨c0,c1,c3,c5⟩:=SI.out _ _ Rf
  replace⟨hax,Su,WX,hrd,Rf⟩:=iE hax Su WX hrd Rf
  clear hm5 hf hr0 hd1 htp c0 c1 c3
  go_wp2_with fail
  refine(hax.out _ Rf.out).mono ?_
  rintro e w1 ⟨rfl,rfl⟩
  simp only[]
  go_wp2_with fail
  refine mo (WX.out _ Rf.out) λw2 hb=>?_
  simp only[]
  have Rz:=Rf.out.below hb
  clear c5
  have⟨c0,c1,c3,c5⟩:=SI.out _ _ Rz
  replace Rz:=hid Rz
  clear hb c0 c1 c3
  go_wp2_with fail
  refine(Su.out _ Rz.out).mono ?_
  rintro e w3 ⟨rfl,rfl⟩
  simp only[]
  go_wp2_with fail
  refine(hrd.out _ Rz.out).mono ?_
  rintro e w4 ⟨rfl,rfl⟩
  simp only[]
  have Z7:=Rz.out.old 1 rfl
  replace Z7:=hid Z7
  clear Rz
  go_wp2
  go_ret
  exact⟨rfl,Z7.out⟩
theorem ET{W:World}{g n cap:Nat}{e:TypeId}{l:List Int}(h:W.ownsRow 0 e 1 (.slice (some ⟨g,0,none⟩) n cap) n (l.map (Value.int .i64))):ln W (some ⟨g,0,none⟩) l∧g<W.heap.size:=by
 rcases h.2 with⟨h1,_⟩ | ⟨g',cap',cur,hv,_,hg,_,_,hsz,Wy⟩
 ·cases h1
 ·cases hv
  refine⟨λk v hk=> ?_,?_⟩
  ·have e2: ((⟨g,0,none⟩:Addr).add k)= ⟨g,k,none⟩:=by simp[Addr.add];intro h;exact h.symm
   refine⟨_,rfl,?_⟩
   rw[e2,cell_of_row W g k cur e _ hg]
   have SS: (l.map (Value.int .i64))[k]? = some (.int .i64 v):=by simp[hk]
   rw[<-Wy]at SS
   rw[List.getElem?_take]at SS
   split at SS
   ·simpa using SS
   ·cases SS
  ·rcases Nat.lt_or_ge g W.heap.size with Rd|Ud
   ·exact Rd
   ·rw[Array.getElem?_eq_none Ud]at hg;cases hg
theorem Br{w W:World}{s:Setup}{m:Sl}{k g2 VY:Nat}{v mo a3 Fu cp:Int}{J:List Int}(hs:dP w s m)(hv:AD s)(hP:Pows w)(hB:Bruijn w)(hk:k<=8)(hjv: ∀u∈J,V64 u)(RQ:J.length<=10)(Za:0<=cp)(hc8:cp<8)(hm:0<=mo∧mo<=3000)(Un: ∀W,Calls prog 6 #[.int .i64 s.dp,.int .i64 8] W (ax (.int .i64 cp) W))(YO: ∀W,Calls prog 6 #[.int .i64 a3,.int .i64 4000] W (ax (.int .i64 Fu) W))
 (hjs:tF (vZ s J cp) (dL k v mo)) (so:On (gN w) w (aa [iv 3 1 (.slice (some ⟨g2,0,none⟩) J.length VY) J.length (J.map (Value.int .i64)),ae w.heap.size 25 (ap s m),eD w]) W) {u0 u1 u2 u5 u6 u7 u8 YR YP u12 Zk Yr u16 Xw XG XC Xb X5 Xc XP XA XL Xf Xn X4 Xz Ya Yg u32 W8 Xm XN Yf XM Yx Xx XK X1 XE Yz Xr Yp XI Ys Xi Yn Xo Xp YB Xh XX YE X0 Yj Xj Yc W9 Xy Yh Yl u64 Xl X3 XT XO Xg Yu Xu Yi XH XQ XR X7 Ye XB XU XW YC Xk Yb X2 XD Xe Xa YF X9 Yk Yv XZ YD Xs Xd XF Xt Yt Yo S5 Tz TN Tc Tm To Tj S4 Tk TT Tu TC TR SW TE Tf T1 Tg Tq Th TB TP T8 Ty S6 TD Td Tw TZ Tv Tx TW T2 TX T7 T3 S7 Tb Tn SZ S0 TV Te Tr Tl T5 S9 TQ Ts TS TL SV S1 SY TI SX S8 TH TM S3 Tt T4 Ti TY Tp TO TG T6:Value}:Code.wp prog (bC 9 (Tryz.f3.body.getD .skip)) (bodyPost prog Tryz.f3 (Quiet (.bool true) w)) ⟨List.toArray (u0::u1::u2 :: .int .i64 a3 :: .pointer (some ⟨w.heap.size,0,none⟩)::u5::u6::u7::u8 :: .bool true::YR::YP::u12 :: .slice (some ⟨g2,0,none⟩) J.length VY::Zk::Yr::u16::Xw::XG::XC::Xb::X5::Xc::XP::XA::XL::Xf::Xn::X4::Xz::Ya::Yg::u32::W8::Xm::XN::Yf::XM::Yx::Xx::XK::X1::XE::Yz::Xr::Yp::XI::Ys::Xi::Yn::Xo::Xp::YB::Xh::XX::YE::X0::Yj::Xj::Yc::W9::Xy::Yh::Yl::u64::Xl::X3::XT::XO::Xg::Yu::Xu::Yi::XH::XQ::XR::X7::Ye::XB::XU::XW::YC::Xk::Yb::X2::XD::Xe::Xa::YF::X9::Yk::Yv::XZ::YD::Xs::Xd::XF::Xt::Yt::Yo::S5::Tz::TN::Tc::Tm::To::Tj::S4::Tk::TT::Tu::TC::TR::SW::TE::Tf::T1::Tg::Tq::Th::TB::TP::T8::Ty::S6::TD::Td::Tw::TZ::Tv::Tx::TW::T2::TX::T7::T3::S7::Tb::Tn::SZ::S0::TV::Te::Tr::Tl::T5::S9::TQ::Ts::TS::TL::SV::S1::SY::TI::SX::S8::TH::TM::S3::Tt::T4::Ti::TY::Tp::TO::TG::T6 :: []),[]⟩ W:=by
 conv=>
  arg 2
  unfold Tryz.f3
  dsimp only[bC,Option.getD]
 have hb:=so.ab 1 rfl
 have f5:=hb.frozen 5
 have e5:W.cell? (w.heap.size,5)=some (.slice m.kA s.kernel.length m.kc):=hb.cell 5
 have hwt:=hb.lt
 have YI:=(so.box #[.string ey,.bool false,.bool false,.slice (some ⟨g2,0,none⟩) J.length VY] 29).setAt 2 rfl 5 (.slice (some ⟨W.heap.size,0,none⟩) 1 1)
 have SE:=(so.setAt 1 rfl 5 (.slice (some ⟨W.heap.size,0,none⟩) 1 1)).box #[.string ey,.bool false,.bool false,.slice (some ⟨g2,0,none⟩) J.length VY] 29
 simp only[World.size_setCell]at SE
 replace⟨YI,SE,Un,YO,hs,hjs,hjv,RQ,so,hv⟩:=iJ YI SE Un YO hs hjs hjv RQ so hv
 clear hb
 go_upto_region 14 with fail
 go_cut [] (λwx=> ∃gw,On (gN w) w (aa [ae gw 29 #[.string ey,.bool false,.bool false,.slice (some ⟨g2,0,none⟩) J.length VY],iv 3 1 (.slice (some ⟨g2,0,none⟩) J.length VY) J.length (J.map (Value.int .i64)),ae w.heap.size 25 (ap { s with kernel:=[⟨ey,false,false,J⟩] } { m with kA:=some ⟨gw,0,none⟩,kc:=1 }),eD w]) wx)
 case first=>
  go_wp2_with fail
  go_meet
  first
   | exact⟨W.heap.size,YI.out⟩
   | exact⟨W.heap.size,SE.out⟩
 case rest=>
 obtain⟨gw,M0⟩:=hcut
 clear YI SE f5 e5 hwt so
 have hb:=M0.ab 2 rfl
 have f9:=hb.frozen 9
 have e9:wc.cell? (w.heap.size,9)=some (.slice m.rA s.ret.length m.rc):=hb.cell 9
 have hx:=M0.setAt 2 rfl 9 (.slice none 0 0)
 replace⟨hx,M0⟩:=iB hx M0
 clear hb
 go_upto_region 15 with fail
 go_cut [] (λwx=>On (gN w) w (aa [ae gw 29 #[.string ey,.bool false,.bool false,.slice (some ⟨g2,0,none⟩) J.length VY],iv 3 1 (.slice (some ⟨g2,0,none⟩) J.length VY) J.length (J.map (Value.int .i64)),ae w.heap.size 25 (ap { s with kernel:=[⟨ey,false,false,J⟩],ret:=[] } { m with kA:=some ⟨gw,0,none⟩,kc:=1,rA:=none,rc:=0 }),eD w]) wx)
 case first=>
  go_wp2_with fail
  go_meet
  exact hx.out
 case rest=>
 have BY:=hcut
 clear hx f9 e9 M0 hcut
 have hb:=BY.ab 2 rfl
 have f0:=hb.frozen 0
 have e0:wc.cell? (w.heap.size,0)=some (.int .i64 s.dp):=hb.cell 0
 have hx:=BY.setAt 2 rfl 0 (.int .i64 cp)
 replace⟨hx,BY⟩:=iB hx BY
 clear hb
 go_upto_region 16 with fail
 go_cut [] (λwx=>On (gN w) w (aa [ae gw 29 #[.string ey,.bool false,.bool false,.slice (some ⟨g2,0,none⟩) J.length VY],iv 3 1 (.slice (some ⟨g2,0,none⟩) J.length VY) J.length (J.map (Value.int .i64)),ae w.heap.size 25 (ap (vZ s J cp) (Qh m gw 1)),eD w]) wx)
 case first=>
  go_wp2_with fail
  refine(Un.out _).mono ?_
  rintro e w3 ⟨rfl,rfl⟩
  simp only[]
  go_wp2_with fail
  go_meet
  exact hx.out
 case rest=>
 have Wo:=hcut
 clear hx f0 e0 BY hcut
 have hb:=Wo.ab 2 rfl
 have k0:wc.cell? (w.heap.size,0)=some (.int .i64 cp):=hb.cell 0
 have k1:wc.cell? (w.heap.size,1)=some (.int .i64 s.room):=hb.cell 1
 have k2:wc.cell? (w.heap.size,2)=some (.string s.input):=hb.cell 2
 have k3:wc.cell? (w.heap.size,3)=some (.string s.hidden):=hb.cell 3
 have k4:wc.cell? (w.heap.size,4)=some (.bool s.opened):=hb.cell 4
 have k5:wc.cell? (w.heap.size,5)=some (.slice (some ⟨gw,0,none⟩) 1 1):=hb.cell 5
 have k6:wc.cell? (w.heap.size,6)=some (.slice m.sA s.aT.length m.sc):=hb.cell 6
 have k7:wc.cell? (w.heap.size,7)=some (.int .i64 s.base):=hb.cell 7
 have k8:wc.cell? (w.heap.size,8)=some (.slice m.dA s.data.length m.dc):=hb.cell 8
 have k9:wc.cell? (w.heap.size,9)=some (.slice none 0 0):=hb.cell 9
 have k10:wc.cell? (w.heap.size,10)=some (.int .i64 s.fault):=hb.cell 10
 have k11:wc.cell? (w.heap.size,11)=some (.int .i64 s.used):=hb.cell 11
 have k12:wc.cell? (w.heap.size,12)=some (.int .i64 s.eF):=hb.cell 12
 obtain⟨F1,hr⟩:=Wo.at_ 1 rfl
 obtain⟨Se,hgM⟩:=ET hr.1
 have WC:=Ec Wo (yu (cc:=cp) (kc:=1) (hs.out.later (Wo.old 3 rfl)) Se hgM (Wo.ab 0 rfl) hjv.out (by have:=RQ.out;omega) (by unfold V64;omega))
 replace⟨WC,Wo⟩:=iB WC Wo
 clear hb hr Se hgM
 go_upto_region 17 with fail
 go_cut [14] (λt14 wx=> ∃(a:Mw) (b:Bc) (r:Rc),t14 = .pointer (some ⟨b.gB,0,none⟩)∧On (gN w) w (aa [aa (mL (cL a b r (x41 (vZ s J cp))) (vZ s J cp).mt),eD w]) wx)
 case first=>
  go_wp2_with fail
  refine WC.out.mono ?_
  rintro e v1 ⟨a,b,r,rfl,hW,Rz⟩
  simp only[]
  have Ri:=((Rz.drop 1 rfl).drop 1 rfl).drop 1 rfl
  replace⟨Ri,hW⟩:=iB Ri hW
  clear Rz
  go_wp2_with fail
  go_meet
  exact⟨a,b,r,rfl,Ri.out⟩
 case rest=>
 obtain⟨a,b,r,rfl,Ri⟩:=hcut
 clear WC Wo k0 k1 k2 k3 k4 k5 k6 k7 k8 k9 k10 k11 k12
 apply_assumption
 exact Ey (s:=vZ s J cp) hjs.out ⟨hv.out.fa,hv.out.us,hv.out.hd⟩ rfl Za hc8 hk hm hP hB YO.out Ri
