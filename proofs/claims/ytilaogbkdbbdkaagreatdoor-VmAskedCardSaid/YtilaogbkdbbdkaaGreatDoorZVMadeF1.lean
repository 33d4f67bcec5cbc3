/- Chapter 11. Conditions: as written. -/
import Derived.Test.YtilaogbkdbbdkaaGreatDoorOm
import Derived.Test.YtilaogbkdbbdkaaGreatDoorZ33
namespace Go.Proofs.YtilaogbkdbbdkaaGreatDoor
set_option linter.unusedVariables false
set_option linter.unusedSimpArgs false
set_option maxHeartbeats 8000000
set_option maxRecDepth 100000
open Go.RowKit Go.Lib Go.Deep
namespace Vm
theorem PT{w W:World}{s:Setup}{m:Sl}{v2 ws:Value}{gD gR:Nat}{b:Bc}{r:Rc}(hW:b.gW=r.gW)(hs:dP w s m)(so:On Nob w (aa (mdL (mwX w s m v2 ws gD gR) b r (mcN (mwX w s m v2 ws gD gR) b) bk (x08 s))) W){u0 u4 u6 u7 u8 u9 YR YP Zk Yr u16 Xw XG XC Xb X5 Xc XP XA XL Xf Xn X4 Xz Ya Yg u32 W8 Xm XN Yf XM Yx Xx XK X1 XE Yz Xr Yp XI Ys Xi Yn Xo Xp YB Xh XX YE X0 Yj Xj Yc W9 Xy Yh Yl u64 Xl X3 XT XO Xg Yu Xu Yi XH XQ XR X7 Ye XB XU XW YC Xk Yb X2 XD Xe Xa YF X9 Yk Yv XZ YD Xs Xd XF Xt Yt Yo S5 Tz TN Tc Tm To Tj S4 Tk TT Tu TC TR SW TE Tf T1 Tg Tq Th TB TP T8 Ty S6 TD Td Tw TZ Tv Tx TW T2 TX T7 T3 S7 Tb Tn SZ S0 TV Te Tr Tl T5 S9 TQ Ts TS TL SV S1 SY TI SX S8 TH TM S3 Tt T4 Ti TY Tp TO TG T6 VM VH Vf UX U6 U8 U2 VI Vz VL UJ Vi Vd Vq UE UM Vk U1 Vw UG VE Vj UA UB VN U3 U7 Vp U5 Ve U0 VK VC UR U9 VF UY VD UL Vv UC US UH Vh Vx UD Vn UW UK UN UI Vo UT UZ VB VG Vr UQ Vb UO Vg VJ Vt Vs UU VO UP:Value}:Code.wp Tryz.prog (bC 17 (Tryz.f7.body.getD .skip)) (bodyPost Tryz.prog Tryz.f7 (cz (mu s) Nob w)) ⟨List.toArray (u0 :: .pointer w.heap.size :: .pointer none :: .pointer r.gW::u4 :: .pointer b.gI::u6::u7::u8::u9::YR::YP :: .pointer b.gM :: .pointer b.gB::Zk::Yr::u16::Xw::XG::XC::Xb::X5::Xc::XP::XA::XL::Xf::Xn::X4::Xz::Ya::Yg::u32::W8::Xm::XN::Yf::XM::Yx::Xx::XK::X1::XE::Yz::Xr::Yp::XI::Ys::Xi::Yn::Xo::Xp::YB::Xh::XX::YE::X0::Yj::Xj::Yc::W9::Xy::Yh::Yl::u64::Xl::X3::XT::XO::Xg::Yu::Xu::Yi::XH::XQ::XR::X7::Ye::XB::XU::XW::YC::Xk::Yb::X2::XD::Xe::Xa::YF::X9::Yk::Yv::XZ::YD::Xs::Xd::XF::Xt::Yt::Yo::S5::Tz::TN::Tc::Tm::To::Tj::S4::Tk::TT::Tu::TC::TR::SW::TE::Tf::T1::Tg::Tq::Th::TB::TP::T8::Ty::S6::TD::Td::Tw::TZ::Tv::Tx::TW::T2::TX::T7::T3::S7::Tb::Tn::SZ::S0::TV::Te::Tr::Tl::T5::S9::TQ::Ts::TS::TL::SV::S1::SY::TI::SX::S8::TH::TM::S3::Tt::T4::Ti::TY::Tp::TO::TG::T6::VM::VH::Vf::UX::U6::U8::U2::VI::Vz::VL::UJ::Vi::Vd::Vq::UE::UM::Vk::U1::Vw::UG::VE::Vj::UA::UB::VN::U3::U7::Vp::U5::Ve::U0::VK::VC::UR::U9::VF::UY::VD::UL::Vv::UC::US::UH::Vh::Vx::UD::Vn::UW::UK::UN::UI::Vo::UT::UZ::VB::VG::Vr::UQ::Vb::UO::Vg::VJ::Vt::Vs::UU::VO::UP :: []),[]⟩ W:=by
 conv=>
  arg 2
  unfold Tryz.f7
  dsimp only[bC,Option.getD]
 replace hs:=hid hs
 obtain⟨ha1,ho1⟩:=Dh s
 have Si:s.t1.1.cl=false:=ha1.cl.trans rfl
 have RV:Blk W w.heap.size 25 (ap s.cut m):=so.ab 0 rfl
 have k0:W.cell? (w.heap.size,0)=some (s.dp:Vl):=RV.cell 0
 have k1:W.cell? (w.heap.size,1)=some (s.room:Vl):=RV.cell 1
 have k2:W.cell? (w.heap.size,2)=some (.string s.inp):=RV.cell 2
 have k3:W.cell? (w.heap.size,3)=some (.string s.hid):=RV.cell 3
 have k4:W.cell? (w.heap.size,4)=some (.bool s.opened):=RV.cell 4
 have k5:W.cell? (w.heap.size,5)=some (.slice m.kA s.kernel.length m.kc):=RV.cell 5
 have k6:W.cell? (w.heap.size,6)=some (.slice m.sA s.aT.length m.sc):=RV.cell 6
 have k7:W.cell? (w.heap.size,7)=some (s.base:Vl):=RV.cell 7
 have k8:W.cell? (w.heap.size,8)=some (.slice m.dA s.data.length m.dc):=RV.cell 8
 have k9:W.cell? (w.heap.size,9)=some (.slice m.rA s.ret.length m.rc):=RV.cell 9
 have k10:W.cell? (w.heap.size,10)=some (s.fault:Vl):=RV.cell 10
 have k11:W.cell? (w.heap.size,11)=some (s.used:Vl):=RV.cell 11
 have k12:W.cell? (w.heap.size,12)=some (s.eF:Vl):=RV.cell 12
 have hli:=hid (GH (x:=x08 s) so rfl hW CT rfl CP rfl hs.out.cut)
 replace⟨RV,so⟩:=iB RV so
 go_upto_region 22 with fail
 go_cut [4] (λt4 wx=>t4 = .bool true∧On Nob w (aa (mdL (mwX w s m v2 ws gD gR) b r (mcN (mwX w s m v2 ws gD gR) b) s.t1.1 (x22 s))) wx)
 case first=>
  go_wp2_with fail
  refine mo hli.out λw1 h1=>?_
  replace h1:=hid h1
  go_wp2_with fail
  go_meet
  exact⟨rfl,h1.out⟩
 case rest=>
  obtain⟨rfl,h1⟩:=hcut
  clear RV so hli k0 k1 k2 k3 k4 k5 k6 k7 k8 k9 k10 k11 k12
  have Rh:Blk wc w.heap.size 25 (ap s.cut m):=h1.ab 0 rfl
  have k4:wc.cell? (w.heap.size,4)=some (.bool s.opened):=Rh.cell 4
  have hbh:=Gi h1
  have eo0:s.opened=false->s.i2=s.t1.1:=λh=>by unfold Setup.i2;rw[h];rfl
  have eo1:s.opened=true->s.i2 = { s.t1.1 with op:=true }∧s.t1.1.opened = { s.t1.1 with op:=true }:=λh=>by
   have e1:s.t1.1.opened = { s.t1.1 with op:=true }:=by unfold Img.opened;rw[if_neg (by rw[Si];decide)]
   refine⟨?_,e1⟩
   unfold Setup.i2
   rw[h]
   exact e1
  obtain⟨o,ho⟩: ∃o,s.opened=o:=⟨_,rfl⟩
  rw[ho]at k4 eo0 eo1
  replace⟨h1,Rh,hbh,eo0,eo1,ho⟩:=iF h1 Rh hbh eo0 eo1 ho
  go_upto_if 179 with fail
  go_cut [] (λwx=>On Nob w (aa (mdL (mwX w s m v2 ws gD gR) b r (mcN (mwX w s m v2 ws gD gR) b) s.i2 (x25 s))) wx)
  case first=>
   cases o
   ·go_wp2
    go_meet
    have e1:=eo0.out (by first|rfl|trivial)
    unfold x25
    rw[e1]
    exact h1.out
   ·go_wp2_with fail
    refine mo hbh.out λw2 h2=>?_
    obtain⟨e1,e2⟩:=eo1.out (by first|rfl|trivial)
    rw[e2]at h2
    have Sc:=hid (Hc h2 ho1 Si)
    replace⟨h2,e1⟩:=iB h2 e1
    clear hbh e2
    go_wp2_with fail
    refine mo Sc.out λw3 h3=>?_
    replace h3:=hid h3
    go_wp2_with fail
    go_meet
    unfold x25
    rw[e1.out]
    exact h3.out
  case rest=>
   clear h1 Rh k4 hbh eo0 eo1 ho
   apply_assumption
   exact PY hW hs.out hcut
