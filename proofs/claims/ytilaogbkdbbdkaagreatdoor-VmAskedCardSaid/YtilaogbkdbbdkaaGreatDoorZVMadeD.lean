/- Chapter 11. Conditions: as written. -/
import Derived.Test.YtilaogbkdbbdkaaGreatDoorOm
import Derived.Test.YtilaogbkdbbdkaaGreatDoorZVMadeE
namespace Go.Proofs.YtilaogbkdbbdkaaGreatDoor
set_option linter.unusedVariables false
set_option linter.unusedSimpArgs false
set_option maxHeartbeats 8000000
set_option maxRecDepth 100000
open Go.RowKit Go.Lib Go.Deep
namespace Vm
theorem HZ{w:World}{F:Nat->Prop}{gws:Nat}{v:Value}(h: (ae gws 80 #[v]).holds w F): (iv 80 1 (.slice gws 0 1) 0 []).holds w F:=
 ⟨⟨rfl,.inr ⟨gws,1,#[v],rfl,Nat.zero_le _,h.1,by omega,by decide,rfl,rfl⟩⟩,λk=>⟨λhk=>by rw[(h.2 k).1 hk];rfl,λhk=>(h.2 k).2 (by cases hk;rfl)⟩⟩
theorem Q5{w W:World}{s:Setup}{m:Sl}{gI gK gS gT gP gws:Nat}{r:Rc}(hs:dP w s m)(so:On Nob w (aa ([ae gP 149 mX,Rk gI gS 16456 16960 iA,Rk gI gK 8 16384 gH,dF gT s.km,av gI bk,iT r r.gK (.slice gws 1 1) (x08 s),ae gws 80 #[r.gK],ae w.heap.size 25 (ap s.cut m)])) W){u0 u4 u12 u13 Zk Yr u16 Xw XG XC Xb X5 Xc XP XA XL Xf Xn X4 Xz Ya Yg u32 W8 Xm XN Yf XM Yx Xx XK X1 XE Yz Xr Yp XI Ys Xi Yn Xo Xp YB Xh XX YE X0 Yj Xj Yc W9 Xy Yh Yl u64 Xl X3 XT XO Xg Yu Xu Yi XH XQ XR X7 Ye XB XU XW YC Xk Yb X2 XD Xe Xa YF X9 Yk Yv XZ YD Xs Xd XF Xt Yt Yo S5 Tz TN Tc Tm To Tj S4 Tk TT Tu TC TR SW TE Tf T1 Tg Tq Th TB TP T8 Ty S6 TD Td Tw TZ Tv Tx TW T2 TX T7 T3 S7 Tb Tn SZ S0 TV Te Tr Tl T5 S9 TQ Ts TS TL SV S1 SY TI SX S8 TH TM S3 Tt T4 Ti TY Tp TO TG T6 VM VH Vf UX U6 U8 U2 VI Vz VL UJ Vi Vd Vq UE UM Vk U1 Vw UG VE Vj UA UB VN U3 U7 Vp U5 Ve U0 VK VC UR U9 VF UY VD UL Vv UC US UH Vh Vx UD Vn UW UK UN UI Vo UT UZ VB VG Vr UQ Vb UO Vg VJ Vt Vs UU VO UP:Value}:Code.wp Tryz.prog (bC 10 (Tryz.f7.body.getD .skip)) (bodyPost Tryz.prog Tryz.f7 (cz (mu s) Nob w)) ⟨List.toArray (u0 :: .pointer w.heap.size :: .pointer none :: .pointer r.gW::u4 :: .pointer gI :: .int .i64 0 :: .pointer gT :: .int .i64 0 :: .pointer gK :: .pointer gS :: .pointer gP::u12::u13::Zk::Yr::u16::Xw::XG::XC::Xb::X5::Xc::XP::XA::XL::Xf::Xn::X4::Xz::Ya::Yg::u32::W8::Xm::XN::Yf::XM::Yx::Xx::XK::X1::XE::Yz::Xr::Yp::XI::Ys::Xi::Yn::Xo::Xp::YB::Xh::XX::YE::X0::Yj::Xj::Yc::W9::Xy::Yh::Yl::u64::Xl::X3::XT::XO::Xg::Yu::Xu::Yi::XH::XQ::XR::X7::Ye::XB::XU::XW::YC::Xk::Yb::X2::XD::Xe::Xa::YF::X9::Yk::Yv::XZ::YD::Xs::Xd::XF::Xt::Yt::Yo::S5::Tz::TN::Tc::Tm::To::Tj::S4::Tk::TT::Tu::TC::TR::SW::TE::Tf::T1::Tg::Tq::Th::TB::TP::T8::Ty::S6::TD::Td::Tw::TZ::Tv::Tx::TW::T2::TX::T7::T3::S7::Tb::Tn::SZ::S0::TV::Te::Tr::Tl::T5::S9::TQ::Ts::TS::TL::SV::S1::SY::TI::SX::S8::TH::TM::S3::Tt::T4::Ti::TY::Tp::TO::TG::T6::VM::VH::Vf::UX::U6::U8::U2::VI::Vz::VL::UJ::Vi::Vd::Vq::UE::UM::Vk::U1::Vw::UG::VE::Vj::UA::UB::VN::U3::U7::Vp::U5::Ve::U0::VK::VC::UR::U9::VF::UY::VD::UL::Vv::UC::US::UH::Vh::Vx::UD::Vn::UW::UK::UN::UI::Vo::UT::UZ::VB::VG::Vr::UQ::Vb::UO::Vg::VJ::Vt::Vs::UU::VO::UP :: []),[]⟩ W:=by
 conv=>
  arg 2
  unfold Tryz.f7
  dsimp only[bC,Option.getD]
 replace hs:=hid hs
 obtain⟨gbI,hiI⟩:=so.img 4 rfl
 have An:=λ(W2:World) (h:Below W.heap.size W W2)=>(⟨hiI.blk.below h hiI.blk.lt,hiI.row.below h hiI.row.lt,hiI.ok⟩:b9 W2 gI gbI bk)
 have hvm:=λ(W2:World) (h:Below W.heap.size W W2) (hb:Blk W2 W.heap.size 33 #[gS,gK])=>(so.below h).make (Pw (gS:=gS) (gT:=gT) (gP:=gP) (rb:=W.heap.size) (n:=2) (cap:=2) (ds:=[gS,gK]) (An W2 h) (by decide) (by decide) (by omega) false ⟨λj g hj=>by
  rcases j with _|_|j
  ·simp at hj;subst hj;exact hb.cell 0
  ·simp at hj;subst hj;exact hb.cell 1
  ·simp at hj,rfl⟩)
 replace⟨so,hvm⟩:=iB so hvm
 clear An hiI
 go_upto_region 15 with fail
 go_cut [6,12] (λt6 t12 wx=> ∃gM gD gR ws,t12 = .pointer (some ⟨gM,0,none⟩)∧t6 = .int .i64 0∧On Nob w (aa ([ae gM 109 (jF gI gS gT gP ws (.pointer (some ⟨gD,0,none⟩)) (.pointer (some ⟨gR,0,none⟩))),cS gI gD pd0 0,cS gI gR pr0 0,kL ws [gS,gK],ae gP 149 mX,Rk gI gS 16456 16960 iA,Rk gI gK 8 16384 gH,dF gT s.km,av gI bk,iT r r.gK (.slice gws 1 1) (x08 s),ae gws 80 #[r.gK],ae w.heap.size 25 (ap s.cut m)])) wx)
 case first=>
  go_wp2_with fail
  refine(hvm.out _ ((Below.refl _ _).alloc (Nat.le_refl _) _) (Blk.new _ _ _)).mono ?_
  rintro e w1 ⟨B,⟨gM,gD,gR,ws,rfl,rfl⟩,h⟩
  have h1:=hid h.flat
  clear h hvm
  go_wp2_with fail
  go_meet
  exact⟨gM,gD,gR,ws,rfl,rfl,h1.out⟩
 case rest=>
  obtain⟨gM,gD,gR,ws,rfl,rfl,h1⟩:=hcut
  clear so hvm
  have hm:Blk wc gM 109 (jF gI gS gT gP ws (.pointer gD) (.pointer gR)):=h1.ab 0 rfl
  have d5:wc.cell? (gM,5)=some (gD:Vl):=hm.cell 5
  have d6:wc.cell? (gM,6)=some (gR:Vl):=hm.cell 6
  have hda:=hid (Am d5)
  have hre:=hid (qR d6)
  have h2:=h1.box (fJ ⟨wc.heap.size,gI,gK,gS,gT,gP,gM,r.gW⟩ (.slice none 0 0)) 40
  have h3:=hid ((h2.front 11 rfl).front 11 rfl).flat
  clear h2 hm
  replace h1:=hid h1
  go_upto_region 18 with(first| (go_at_call 13;refine hda.out.mono ?_;rintro e w1 ⟨rfl,rfl⟩) | (go_at_call 15;refine hre.out.mono ?_;rintro e w1 ⟨rfl,rfl⟩))
  go_cut [13] (λt13 wx=> ∃gB,t13 = .pointer (some ⟨gB,0,none⟩)∧On Nob w (aa (ju r r.gK (.slice gws 1 1) (x08 s)++ [ae gws 80 #[r.gK],ae gB 40 (fJ (⟨gB,gI,gK,gS,gT,gP,gM,r.gW⟩:Bc) (.slice none 0 0)),ae gM 109 (jF gI gS gT gP ws (.pointer gD) (.pointer gR)),cS gI gD pd0 0,cS gI gR pr0 0,kL ws [gS,gK],ae gP 149 mX,Rk gI gS 16456 16960 iA,Rk gI gK 8 16384 gH,dF gT s.km,av gI bk,ae w.heap.size 25 (ap s.cut m)])) wx)
  case first=>
   go_wp2_with fail
   go_meet
   exact⟨_,rfl,h3.out⟩
  case rest=>
   obtain⟨gB,rfl,h4⟩:=hcut
   clear h1 h3 hda hre d5 d6
   have hw:Blk wc r.gW 86 (hO r r.gK (.slice gws 1 1) 0 0 0 false):=h4.ab 0 rfl
   have d2:wc.cell? (r.gW,2)=some (r.gS:Vl):=hw.cell 2
   have d3:wc.cell? (r.gW,3)=some (r.gK:Vl):=hw.cell 3
   have f3:=hw.frozen 3
   have h5:=hid (h4.setAt 0 rfl 3 (.pointer r.gS))
   replace⟨h4,hw⟩:=iB h4 hw
   go_upto_region 19 with fail
   go_cut [] (λwx=>On Nob w (aa (ju r r.gS (.slice gws 1 1) (x08 s)++ [ae gws 80 #[r.gK],ae gB 40 (fJ (⟨gB,gI,gK,gS,gT,gP,gM,r.gW⟩:Bc) (.slice none 0 0)),ae gM 109 (jF gI gS gT gP ws (.pointer gD) (.pointer gR)),cS gI gD pd0 0,cS gI gR pr0 0,kL ws [gS,gK],ae gP 149 mX,Rk gI gS 16456 16960 iA,Rk gI gK 8 16384 gH,dF gT s.km,av gI bk,ae w.heap.size 25 (ap s.cut m)])) wx)
   case first=>
    go_wp2_with fail
    go_meet
    exact h5.out
   case rest=>
    clear h4 hw d2 d3 f3 h5
    have hw:Blk wc r.gW 86 (hO r r.gS (.slice gws 1 1) 0 0 0 false):=hcut.ab 0 rfl
    have d4:wc.cell? (r.gW,4)=some (.slice gws 1 1):=hw.cell 4
    have f4:=hw.frozen 4
    have h5:=hcut.setAt 0 rfl 4 (.slice gws 0 1)
    have h6:=hid (On.Qu (A':=iv 80 1 (.slice gws 0 1) 0 []) 9 h5 rfl (λF'=>HZ))
    replace⟨hcut,hw⟩:=iB hcut hw
    clear h5
    go_upto_region 20 with fail
    go_cut [] (λwx=>On Nob w (aa (ju r r.gS (.slice gws 0 1) (x08 s)++ [iv 80 1 (.slice gws 0 1) 0 [],ae gB 40 (fJ (⟨gB,gI,gK,gS,gT,gP,gM,r.gW⟩:Bc) (.slice none 0 0)),ae gM 109 (jF gI gS gT gP ws (.pointer gD) (.pointer gR)),cS gI gD pd0 0,cS gI gR pr0 0,kL ws [gS,gK],ae gP 149 mX,Rk gI gS 16456 16960 iA,Rk gI gK 8 16384 gH,dF gT s.km,av gI bk,ae w.heap.size 25 (ap s.cut m)])) wx)
    case first=>
     go_wp2_with fail
     go_meet
     exact h6.out
    case rest=>
     clear hw d4 f4 h6
     apply_assumption
     exact QQ (b:=(⟨gB,gI,gK,gS,gT,gP,gM,r.gW⟩:Bc)) rfl hs.out hcut
