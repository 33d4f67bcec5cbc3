/- Chapter 11. Conditions: as written. -/
import Derived.Test.YtilaogbkdbbdkaaGreatDoorOm
import Derived.Test.YtilaogbkdbbdkaaGreatDoorZVMadeF1
namespace Go.Proofs.YtilaogbkdbbdkaaGreatDoor
set_option linter.unusedVariables false
set_option linter.unusedSimpArgs false
set_option maxHeartbeats 8000000
set_option maxRecDepth 100000
open Go.RowKit Go.Lib Go.Deep
namespace Vm
theorem QZ{w W:World}{F:Nat->Prop}{WO RF RR RD RS RK RT RI RB W2 BO MA SD SR WP TU DS DK TA IM SB:Asr}(h:On F w (aa [WO,RF,RR,RD,RS,RK,RT,RI,RB,W2,BO,MA,SD,SR,WP,TU,DS,DK,TA,IM,SB]) W):On F w (aa [SB,W2,WP,TU,TA,DS,DK,BO,MA,SD,SR,IM,WO,RF,RR,RD,RS,RK,RT,RI,RB]) W:=by
 replace h:On F w (aa [RB,WO,RF,RR,RD,RS,RK,RT,RI,W2,BO,MA,SD,SR,WP,TU,DS,DK,TA,IM,SB]) W:=h.front 8 rfl
 replace h:On F w (aa [RI,RB,WO,RF,RR,RD,RS,RK,RT,W2,BO,MA,SD,SR,WP,TU,DS,DK,TA,IM,SB]) W:=h.front 8 rfl
 replace h:On F w (aa [RT,RI,RB,WO,RF,RR,RD,RS,RK,W2,BO,MA,SD,SR,WP,TU,DS,DK,TA,IM,SB]) W:=h.front 8 rfl
 replace h:On F w (aa [RK,RT,RI,RB,WO,RF,RR,RD,RS,W2,BO,MA,SD,SR,WP,TU,DS,DK,TA,IM,SB]) W:=h.front 8 rfl
 replace h:On F w (aa [RS,RK,RT,RI,RB,WO,RF,RR,RD,W2,BO,MA,SD,SR,WP,TU,DS,DK,TA,IM,SB]) W:=h.front 8 rfl
 replace h:On F w (aa [RD,RS,RK,RT,RI,RB,WO,RF,RR,W2,BO,MA,SD,SR,WP,TU,DS,DK,TA,IM,SB]) W:=h.front 8 rfl
 replace h:On F w (aa [RR,RD,RS,RK,RT,RI,RB,WO,RF,W2,BO,MA,SD,SR,WP,TU,DS,DK,TA,IM,SB]) W:=h.front 8 rfl
 replace h:On F w (aa [RF,RR,RD,RS,RK,RT,RI,RB,WO,W2,BO,MA,SD,SR,WP,TU,DS,DK,TA,IM,SB]) W:=h.front 8 rfl
 replace h:On F w (aa [WO,RF,RR,RD,RS,RK,RT,RI,RB,W2,BO,MA,SD,SR,WP,TU,DS,DK,TA,IM,SB]) W:=h.front 8 rfl
 replace h:On F w (aa [IM,WO,RF,RR,RD,RS,RK,RT,RI,RB,W2,BO,MA,SD,SR,WP,TU,DS,DK,TA,SB]) W:=h.front 19 rfl
 replace h:On F w (aa [SR,IM,WO,RF,RR,RD,RS,RK,RT,RI,RB,W2,BO,MA,SD,WP,TU,DS,DK,TA,SB]) W:=h.front 14 rfl
 replace h:On F w (aa [SD,SR,IM,WO,RF,RR,RD,RS,RK,RT,RI,RB,W2,BO,MA,WP,TU,DS,DK,TA,SB]) W:=h.front 14 rfl
 replace h:On F w (aa [MA,SD,SR,IM,WO,RF,RR,RD,RS,RK,RT,RI,RB,W2,BO,WP,TU,DS,DK,TA,SB]) W:=h.front 14 rfl
 replace h:On F w (aa [BO,MA,SD,SR,IM,WO,RF,RR,RD,RS,RK,RT,RI,RB,W2,WP,TU,DS,DK,TA,SB]) W:=h.front 14 rfl
 replace h:On F w (aa [DK,BO,MA,SD,SR,IM,WO,RF,RR,RD,RS,RK,RT,RI,RB,W2,WP,TU,DS,TA,SB]) W:=h.front 18 rfl
 replace h:On F w (aa [DS,DK,BO,MA,SD,SR,IM,WO,RF,RR,RD,RS,RK,RT,RI,RB,W2,WP,TU,TA,SB]) W:=h.front 18 rfl
 replace h:On F w (aa [TA,DS,DK,BO,MA,SD,SR,IM,WO,RF,RR,RD,RS,RK,RT,RI,RB,W2,WP,TU,SB]) W:=h.front 19 rfl
 replace h:On F w (aa [TU,TA,DS,DK,BO,MA,SD,SR,IM,WO,RF,RR,RD,RS,RK,RT,RI,RB,W2,WP,SB]) W:=h.front 19 rfl
 replace h:On F w (aa [WP,TU,TA,DS,DK,BO,MA,SD,SR,IM,WO,RF,RR,RD,RS,RK,RT,RI,RB,W2,SB]) W:=h.front 19 rfl
 replace h:On F w (aa [W2,WP,TU,TA,DS,DK,BO,MA,SD,SR,IM,WO,RF,RR,RD,RS,RK,RT,RI,RB,SB]) W:=h.front 19 rfl
 replace h:On F w (aa [SB,W2,WP,TU,TA,DS,DK,BO,MA,SD,SR,IM,WO,RF,RR,RD,RS,RK,RT,RI,RB]) W:=h.front 20 rfl
 exact h
theorem EU{w:World}{B:Nat}{t:TypeId}{g1 g2:Nat}(hb:Blk w B t #[g1,g2]): ∀j u,[Value.pointer g1,.pointer g2][j]? = some u->w.cell? ((⟨B,0,none⟩:Addr).add j)=some u:=λj u hu=>World.news_of_block hb j u hu
theorem GR(g1 g2:Nat): ∀u∈[Value.pointer (some (⟨g1,0,none⟩:Addr)),.pointer (some (⟨g2,0,none⟩:Addr))],u.oneCell'=true:=by
 intro u hu
 simp only[List.mem_cons,List.mem_nil_iff,or_false]at hu
 rcases hu with rfl|rfl<;>rfl
theorem KL: (Tryz.prog.info? 80).map (λi=>(i.zero,i.size,i.bytes))=some (some (.pointer none),1,8):=by kernel_rfl
theorem QQ{w W:World}{s:Setup}{m:Sl}{ws:Value}{gD gR gws:Nat}{b:Bc}{r:Rc}(hW:b.gW=r.gW)(hs:dP w s m)(so:On Nob w (aa (ju r r.gS (.slice gws 0 1) (x08 s)++ [iv 80 1 (.slice gws 0 1) 0 [],ae b.gB 40 (fJ b (.slice none 0 0)),ae b.gM 109 (jF b.gI b.gS b.gT b.gP ws (.pointer gD) (.pointer gR)),cS b.gI gD pd0 0,cS b.gI gR pr0 0,kL ws [b.gS,b.gK],ae b.gP 149 mX,Rk b.gI b.gS 16456 16960 iA,Rk b.gI b.gK 8 16384 gH,dF b.gT s.km,av b.gI bk,ae w.heap.size 25 (ap s.cut m)])) W){u0 u4 u6 u7 u8 u9 YR YP Zk Yr u16 Xw XG XC Xb X5 Xc XP XA XL Xf Xn X4 Xz Ya Yg u32 W8 Xm XN Yf XM Yx Xx XK X1 XE Yz Xr Yp XI Ys Xi Yn Xo Xp YB Xh XX YE X0 Yj Xj Yc W9 Xy Yh Yl u64 Xl X3 XT XO Xg Yu Xu Yi XH XQ XR X7 Ye XB XU XW YC Xk Yb X2 XD Xe Xa YF X9 Yk Yv XZ YD Xs Xd XF Xt Yt Yo S5 Tz TN Tc Tm To Tj S4 Tk TT Tu TC TR SW TE Tf T1 Tg Tq Th TB TP T8 Ty S6 TD Td Tw TZ Tv Tx TW T2 TX T7 T3 S7 Tb Tn SZ S0 TV Te Tr Tl T5 S9 TQ Ts TS TL SV S1 SY TI SX S8 TH TM S3 Tt T4 Ti TY Tp TO TG T6 VM VH Vf UX U6 U8 U2 VI Vz VL UJ Vi Vd Vq UE UM Vk U1 Vw UG VE Vj UA UB VN U3 U7 Vp U5 Ve U0 VK VC UR U9 VF UY VD UL Vv UC US UH Vh Vx UD Vn UW UK UN UI Vo UT UZ VB VG Vr UQ Vb UO Vg VJ Vt Vs UU VO UP:Value}:Code.wp Tryz.prog (bC 16 (Tryz.f7.body.getD .skip)) (bodyPost Tryz.prog Tryz.f7 (cz (mu s) Nob w)) ⟨List.toArray (u0 :: .pointer w.heap.size :: .pointer none :: .pointer r.gW::u4 :: .pointer b.gI::u6::u7::u8::u9::YR::YP :: .pointer b.gM :: .pointer b.gB::Zk::Yr::u16::Xw::XG::XC::Xb::X5::Xc::XP::XA::XL::Xf::Xn::X4::Xz::Ya::Yg::u32::W8::Xm::XN::Yf::XM::Yx::Xx::XK::X1::XE::Yz::Xr::Yp::XI::Ys::Xi::Yn::Xo::Xp::YB::Xh::XX::YE::X0::Yj::Xj::Yc::W9::Xy::Yh::Yl::u64::Xl::X3::XT::XO::Xg::Yu::Xu::Yi::XH::XQ::XR::X7::Ye::XB::XU::XW::YC::Xk::Yb::X2::XD::Xe::Xa::YF::X9::Yk::Yv::XZ::YD::Xs::Xd::XF::Xt::Yt::Yo::S5::Tz::TN::Tc::Tm::To::Tj::S4::Tk::TT::Tu::TC::TR::SW::TE::Tf::T1::Tg::Tq::Th::TB::TP::T8::Ty::S6::TD::Td::Tw::TZ::Tv::Tx::TW::T2::TX::T7::T3::S7::Tb::Tn::SZ::S0::TV::Te::Tr::Tl::T5::S9::TQ::Ts::TS::TL::SV::S1::SY::TI::SX::S8::TH::TM::S3::Tt::T4::Ti::TY::Tp::TO::TG::T6::VM::VH::Vf::UX::U6::U8::U2::VI::Vz::VL::UJ::Vi::Vd::Vq::UE::UM::Vk::U1::Vw::UG::VE::Vj::UA::UB::VN::U3::U7::Vp::U5::Ve::U0::VK::VC::UR::U9::VF::UY::VD::UL::Vv::UC::US::UH::Vh::Vx::UD::Vn::UW::UK::UN::UI::Vo::UT::UZ::VB::VG::Vr::UQ::Vb::UO::Vg::VJ::Vt::Vs::UU::VO::UP :: []),[]⟩ W:=by
 conv=>
  arg 2
  unfold Tryz.f7
  dsimp only[bC,Option.getD]
 replace hs:=hid hs
 have Q9:Blk W r.gW 86 (hO r r.gS (.slice gws 0 1) 0 0 0 false):=so.ab 0 rfl
 have c1:W.cell? (r.gW,1)=some (r.gK:Vl):=Q9.cell 1
 have c2:W.cell? (r.gW,2)=some (r.gS:Vl):=Q9.cell 2
 have c4:W.cell? (r.gW,4)=some (.slice gws 0 1):=Q9.cell 4
 obtain⟨F1,hR⟩:=so.at_ (A:=iv 80 1 (.slice gws 0 1) 0 []) 9 rfl
 have R6:=hR.1
 obtain⟨i0,Ur,Us,Uj,SQ⟩:=info_parts KL
 have Rd:=Q9.lt
 have RP: (Value.slice gws 0 1).ownBlock≠some r.gW:=λe=>by
  obtain⟨F1,F2,h1,h2,hd⟩:=so.apart (A:=ae r.gW 86 (hO r r.gS (.slice gws 0 1) 0 0 0 false)) (B:=iv 80 1 (.slice gws 0 1) 0 []) 0 9 (by decide) rfl rfl
  exact hd r.gW ((h1.2 _).2 rfl) ((h2.2 _).2 e)
 have R9:0+2<=maxLen∧(0+2)*8<=140737488355328:=by unfold maxLen;omega
 have IS:=λ(w2 w3:World) (sg cap:Nat) (so:On Nob w (aa (ju r r.gS (.slice gws 0 1) (x08 s)++ [iv 80 1 (.slice gws 0 1) 0 [],ae b.gB 40 (fJ b (.slice none 0 0)),ae b.gM 109 (jF b.gI b.gS b.gT b.gP ws (.pointer gD) (.pointer gR)),cS b.gI gD pd0 0,cS b.gI gR pr0 0,kL ws [b.gS,b.gK],ae b.gP 149 mX,Rk b.gI b.gS 16456 16960 iA,Rk b.gI b.gK 8 16384 gH,dF b.gT s.km,av b.gI bk,ae w.heap.size 25 (ap s.cut m)])) w2) (hG:w3.ownsRow 0 80 1 (.slice sg (0+2) cap) (0+2) ([]++ [.pointer r.gS,.pointer r.gK])) (RN:w2.grownBy w3 (Value.slice gws 0 1).ownBlock) (SU: (Value.slice gws 0 1).ownBlock=some sg∨sg=w2.heap.size)=>(by
  have h1:=so.oC 9 rfl hG RN (lV SU)
  have h2:=h1.setAt 0 rfl 4 (.slice sg (0+2) cap)
  have h3:=QZ h2
  exact h3:On Nob w (aa (mdL (mwX w s m (.slice sg 2 cap) ws gD gR) b r (mcN (mwX w s m (.slice sg 2 cap) ws gD gR) b) bk (x08 s))) (w3.setCell (r.gW,4) (.slice sg (0+2) cap)))
 replace⟨so,R6,Ur,Us,Uj,SQ,R9,IS,Q9,RP⟩:=iJ so R6 Ur Us Uj SQ R9 IS Q9 RP
 clear hR
 go_upto_region 21 with fail
 go_cut [] (λwx=> ∃v2,On Nob w (aa (mdL (mwX w s m v2 ws gD gR) b r (mcN (mwX w s m v2 ws gD gR) b) bk (x08 s))) wx)
 case first=>
  go_region_law ((refine step_append_lies _ rfl (.tmp 160) (.tmp 169) 81 rfl 0 80 i0 (.pointer none) 1 8 ?_ ?_ ?_ ?_ ?_ ?_ ?_ (.slice gws 0 1) 0 [] ?_ ?_ ⟨W.heap.size,0,none⟩ 2 2 [.pointer r.gS,.pointer r.gK] ?_ ?_ ?_ ?_ ?_ ?_ ?_ ?_ (W.heap.size+1) ?_ ?_;exact Tryz.underlying81;exact Ur.out;exact Us.out;exact Uj.out;exact SQ.out;rfl;omega;rfl;exact nZ (R6.out.alloc _);rfl;rfl;refine EU (t:=80) ?_;refine Blk.drew (Blk.oS ?_);simp;exact GR _ _;omega;exact R9.out.1;exact R9.out.2;omega;simp;intro sg cap w3 hG RN SU Wu;have YH:=Blk.grown (Q9.out.alloc _).drew RN (λe=>RP.out e.symm);have c4b:w3.cell? (r.gW,4)=some (.slice gws 0 1):=YH.cell 4;have f4b:=YH.frozen 4))
  all_goals
   have hd:=IS.out _ w3 sg cap (so.out.alloc _).drew hG RN (by
    rcases SU with h|h
    ·exact .inl h
    ·exact .inr (by rw[h];simp))
   replace hd:=hid hd
   clear hG RN YH SU
  all_goals go_wp2_with fail
  all_goals go_meet
  all_goals exact⟨_,hd.out⟩
 case rest=>
  obtain⟨v2,h1⟩:=hcut
  clear so Q9 R6 RP c1 c2 c4 IS
  apply_assumption
  exact PT hW hs.out h1
