/- Chapter 11. Conditions: as written. -/
import Derived.Test.YtilaogbkdbbdkaaGreatDoorOm
import Derived.Test.YtilaogbkdbbdkaaGreatDoorZVMadeD
namespace Go.Proofs.YtilaogbkdbbdkaaGreatDoor
set_option linter.unusedVariables false
set_option linter.unusedSimpArgs false
set_option maxHeartbeats 8000000
set_option maxRecDepth 100000
open Go.RowKit Go.Lib Go.Deep
namespace Vm
theorem Pg{w W:World}{s:Setup}{m:Sl}{gI gT gws:Nat}{r:Rc}(hs:dP w s m)(so:On Nob w (aa ([dF gT s.km,av gI bk,iT r r.gK (.slice gws 1 1) (x08 s),ae gws 80 #[r.gK],ae w.heap.size 25 (ap s.cut m)])) W){u0 u9 YR YP u12 u13 Zk Yr u16 Xw XG XC Xb X5 Xc XP XA XL Xf Xn X4 Xz Ya Yg u32 W8 Xm XN Yf XM Yx Xx XK X1 XE Yz Xr Yp XI Ys Xi Yn Xo Xp YB Xh XX YE X0 Yj Xj Yc W9 Xy Yh Yl u64 Xl X3 XT XO Xg Yu Xu Yi XH XQ XR X7 Ye XB XU XW YC Xk Yb X2 XD Xe Xa YF X9 Yk Yv XZ YD Xs Xd XF Xt Yt Yo S5 Tz TN Tc Tm To Tj S4 Tk TT Tu TC TR SW TE Tf T1 Tg Tq Th TB TP T8 Ty S6 TD Td Tw TZ Tv Tx TW T2 TX T7 T3 S7 Tb Tn SZ S0 TV Te Tr Tl T5 S9 TQ Ts TS TL SV S1 SY TI SX S8 TH TM S3 Tt T4 Ti TY Tp TO TG T6 VM VH Vf UX U6 U8 U2 VI Vz VL UJ Vi Vd Vq UE UM Vk U1 Vw UG VE Vj UA UB VN U3 U7 Vp U5 Ve U0 VK VC UR U9 VF UY VD UL Vv UC US UH Vh Vx UD Vn UW UK UN UI Vo UT UZ VB VG Vr UQ Vb UO Vg VJ Vt Vs UU VO UP:Value}:Code.wp Tryz.prog (bC 7 (Tryz.f7.body.getD .skip)) (bodyPost Tryz.prog Tryz.f7 (cz (mu s) Nob w)) ⟨List.toArray (u0 :: .pointer w.heap.size :: .pointer none :: .pointer r.gW :: .bool true :: .pointer gI :: .int .i64 0 :: .pointer gT :: .int .i64 0::u9::YR::YP::u12::u13::Zk::Yr::u16::Xw::XG::XC::Xb::X5::Xc::XP::XA::XL::Xf::Xn::X4::Xz::Ya::Yg::u32::W8::Xm::XN::Yf::XM::Yx::Xx::XK::X1::XE::Yz::Xr::Yp::XI::Ys::Xi::Yn::Xo::Xp::YB::Xh::XX::YE::X0::Yj::Xj::Yc::W9::Xy::Yh::Yl::u64::Xl::X3::XT::XO::Xg::Yu::Xu::Yi::XH::XQ::XR::X7::Ye::XB::XU::XW::YC::Xk::Yb::X2::XD::Xe::Xa::YF::X9::Yk::Yv::XZ::YD::Xs::Xd::XF::Xt::Yt::Yo::S5::Tz::TN::Tc::Tm::To::Tj::S4::Tk::TT::Tu::TC::TR::SW::TE::Tf::T1::Tg::Tq::Th::TB::TP::T8::Ty::S6::TD::Td::Tw::TZ::Tv::Tx::TW::T2::TX::T7::T3::S7::Tb::Tn::SZ::S0::TV::Te::Tr::Tl::T5::S9::TQ::Ts::TS::TL::SV::S1::SY::TI::SX::S8::TH::TM::S3::Tt::T4::Ti::TY::Tp::TO::TG::T6::VM::VH::Vf::UX::U6::U8::U2::VI::Vz::VL::UJ::Vi::Vd::Vq::UE::UM::Vk::U1::Vw::UG::VE::Vj::UA::UB::VN::U3::U7::Vp::U5::Ve::U0::VK::VC::UR::U9::VF::UY::VD::UL::Vv::UC::US::UH::Vh::Vx::UD::Vn::UW::UK::UN::UI::Vo::UT::UZ::VB::VG::Vr::UQ::Vb::UO::Vg::VJ::Vt::Vs::UU::VO::UP :: []),[]⟩ W:=by
 conv=>
  arg 2
  unfold Tryz.f7
  dsimp only[bC,Option.getD]
 replace hs:=hid hs
 obtain⟨gbI,hiI⟩:=so.img 1 rfl
 have hk:=so.make (JV hiI 1 (.inl rfl))
 replace⟨so,hk⟩:=iB so hk
 clear hiI
 go_upto_region 10 with fail
 go_cut [6,9] (λt6 t9 wx=> ∃gK,t9 = .pointer (some ⟨gK,0,none⟩)∧t6 = .int .i64 0∧On Nob w (aa [Rk gI gK 8 16384 gH,dF gT s.km,av gI bk,iT r r.gK (.slice gws 1 1) { x00 with T:=s.km },ae gws 80 #[r.gK],ae w.heap.size 25 (ap s.cut m)]) wx)
 case first=>
  go_wp2_with fail
  refine hk.out.mono ?_
  rintro e w1 ⟨B,⟨gK,rfl,rfl⟩,h⟩
  replace h:=hid h
  simp only[]
  go_wp2_with fail
  go_meet
  exact⟨gK,rfl,rfl,h.out⟩
 case rest=>
  obtain⟨gK,rfl,rfl,Uh⟩:=hcut
  clear so hk
  obtain⟨gbI,hiI⟩:=Uh.img 2 rfl
  have hk:=Uh.make (JV hiI 3 (.inr rfl))
  replace⟨Uh,hk⟩:=iB Uh hk
  clear hiI
  go_upto_region 11 with fail
  go_cut [8,10] (λt8 t10 wx=> ∃gS,t10 = .pointer (some ⟨gS,0,none⟩)∧t8 = .int .i64 0∧On Nob w (aa [Rk gI gS 16456 16960 iA,Rk gI gK 8 16384 gH,dF gT s.km,av gI bk,iT r r.gK (.slice gws 1 1) { x00 with T:=s.km },ae gws 80 #[r.gK],ae w.heap.size 25 (ap s.cut m)]) wx)
  case first=>
   go_wp2_with fail
   refine hk.out.mono ?_
   rintro e w1 ⟨B,⟨gS,rfl,rfl⟩,h⟩
   replace h:=hid h
   simp only[]
   go_wp2_with fail
   go_meet
   exact⟨gS,rfl,rfl,h.out⟩
  case rest=>
   obtain⟨gS,rfl,rfl,Wl⟩:=hcut
   clear Uh hk
   have hk:=Wl.make (HO _)
   replace⟨Wl,hk⟩:=iB Wl hk
   go_upto_region 12 with fail
   go_cut [11] (λt11 wx=> ∃gP,t11 = .pointer (some ⟨gP,0,none⟩)∧On Nob w (aa [ae gP 149 mX,Rk gI gS 16456 16960 iA,Rk gI gK 8 16384 gH,dF gT s.km,av gI bk,iT r r.gK (.slice gws 1 1) { x00 with T:=s.km },ae gws 80 #[r.gK],ae w.heap.size 25 (ap s.cut m)]) wx)
   case first=>
    go_wp2_with fail
    refine hk.out.mono ?_
    rintro e w1 ⟨B,⟨gP,rfl,rfl⟩,h⟩
    replace h:=hid h
    simp only[]
    go_wp2_with fail
    go_meet
    exact⟨gP,rfl,h.out⟩
   case rest=>
    obtain⟨gP,rfl,Wp⟩:=hcut
    clear Wl hk
    apply_assumption
    exact Q5 hs.out Wp
