/- Chapter 11. Conditions: as written. -/
import Derived.Test.YtilaogbkdbbdkaaGreatDoorOm
import Derived.Test.YtilaogbkdbbdkaaGreatDoorZVMadeC10
namespace Go.Proofs.YtilaogbkdbbdkaaGreatDoor
set_option linter.unusedVariables false
set_option linter.unusedSimpArgs false
set_option maxHeartbeats 8000000
set_option maxRecDepth 100000
open Go.RowKit Go.Lib Go.Deep
namespace Vm
theorem QX{w W:World}{s:Setup}{m:Sl}{gI gT gws:Nat}{r:Rc}(hs:dP w s m)(so:On Nob w (aa ([dF gT s.km,av gI bk,iT r r.gK (.slice gws 1 1) x00,ae gws 80 #[r.gK],ae w.heap.size 25 (ap s.cut m)])) W){u0 u9 YR YP u12 u13 Zk Yr u16 Xw XG XC Xb X5 Xc XP XA XL Xf Xn X4 Xz Ya Yg u32 W8 Xm XN Yf XM Yx Xx XK X1 XE Yz Xr Yp XI Ys Xi Yn Xo Xp YB Xh XX YE X0 Yj Xj Yc W9 Xy Yh Yl u64 Xl X3 XT XO Xg Yu Xu Yi XH XQ XR X7 Ye XB XU XW YC Xk Yb X2 XD Xe Xa YF X9 Yk Yv XZ YD Xs Xd XF Xt Yt Yo S5 Tz TN Tc Tm To Tj S4 Tk TT Tu TC TR SW TE Tf T1 Tg Tq Th TB TP T8 Ty S6 TD Td Tw TZ Tv Tx TW T2 TX T7 T3 S7 Tb Tn SZ S0 TV Te Tr Tl T5 S9 TQ Ts TS TL SV S1 SY TI SX S8 TH TM S3 Tt T4 Ti TY Tp TO TG T6 VM VH Vf UX U6 U8 U2 VI Vz VL UJ Vi Vd Vq UE UM Vk U1 Vw UG VE Vj UA UB VN U3 U7 Vp U5 Ve U0 VK VC UR U9 VF UY VD UL Vv UC US UH Vh Vx UD Vn UW UK UN UI Vo UT UZ VB VG Vr UQ Vb UO Vg VJ Vt Vs UU VO UP:Value}:Code.wp Tryz.prog (bC 5 (Tryz.f7.body.getD .skip)) (bodyPost Tryz.prog Tryz.f7 (cz (mu s) Nob w)) ⟨List.toArray (u0 :: .pointer w.heap.size :: .pointer none :: .pointer r.gW :: .bool true :: .pointer gI :: .int .i64 0 :: .pointer gT :: .int .i64 0::u9::YR::YP::u12::u13::Zk::Yr::u16::Xw::XG::XC::Xb::X5::Xc::XP::XA::XL::Xf::Xn::X4::Xz::Ya::Yg::u32::W8::Xm::XN::Yf::XM::Yx::Xx::XK::X1::XE::Yz::Xr::Yp::XI::Ys::Xi::Yn::Xo::Xp::YB::Xh::XX::YE::X0::Yj::Xj::Yc::W9::Xy::Yh::Yl::u64::Xl::X3::XT::XO::Xg::Yu::Xu::Yi::XH::XQ::XR::X7::Ye::XB::XU::XW::YC::Xk::Yb::X2::XD::Xe::Xa::YF::X9::Yk::Yv::XZ::YD::Xs::Xd::XF::Xt::Yt::Yo::S5::Tz::TN::Tc::Tm::To::Tj::S4::Tk::TT::Tu::TC::TR::SW::TE::Tf::T1::Tg::Tq::Th::TB::TP::T8::Ty::S6::TD::Td::Tw::TZ::Tv::Tx::TW::T2::TX::T7::T3::S7::Tb::Tn::SZ::S0::TV::Te::Tr::Tl::T5::S9::TQ::Ts::TS::TL::SV::S1::SY::TI::SX::S8::TH::TM::S3::Tt::T4::Ti::TY::Tp::TO::TG::T6::VM::VH::Vf::UX::U6::U8::U2::VI::Vz::VL::UJ::Vi::Vd::Vq::UE::UM::Vk::U1::Vw::UG::VE::Vj::UA::UB::VN::U3::U7::Vp::U5::Ve::U0::VK::VC::UR::U9::VF::UY::VD::UL::Vv::UC::US::UH::Vh::Vx::UD::Vn::UW::UK::UN::UI::Vo::UT::UZ::VB::VG::Vr::UQ::Vb::UO::Vg::VJ::Vt::Vs::UU::VO::UP :: []),[]⟩ W:=by
 conv=>
  arg 2
  unfold Tryz.f7
  dsimp only[bC,Option.getD]
 replace hs:=hid hs
 have pk1:=λW=>mP s.dp 32 W hs.out.dp oM
 have pk2:=λW=>mP s.room 65537 W hs.out.room oM
 replace⟨pk1,pk2⟩:=iB pk1 pk2
 have Re:Blk W w.heap.size 25 (ap s.cut m):=so.ab 4 rfl
 have c0:W.cell? (w.heap.size,0)=some (s.dp:Vl):=Re.cell 0
 have c1:W.cell? (w.heap.size,1)=some (s.room:Vl):=Re.cell 1
 have c2:W.cell? (w.heap.size,2)=some (.string s.inp):=Re.cell 2
 have ht:=hid (so.drew.GL 2 rfl λF' hb=>Pn hb (ew s.dp 32) (ew s.room 65537) s.inp (C1 _ _ _ s.vB))
 replace⟨so,Re⟩:=iB so Re
 go_upto_region 9 with fail
 go_cut [3] (λt3 wx=> ∃r:Rc,t3 = .pointer r.gW∧On Nob w (aa [dF gT s.km,av gI bk,iT r r.gK (.slice gws 1 1) { x00 with T:=s.km },ae gws 80 #[r.gK],ae w.heap.size 25 (ap s.cut m)]) wx)
 case first=>
  go_region_held (λw'=>w'.cell? (w.heap.size,0)=some (s.dp:Vl)∧w'.cell? (w.heap.size,1)=some (s.room:Vl)∧w'.cell? (w.heap.size,2)=some (.string s.inp)) (go_keep)
   ((first
     | (go_at_call_of 6 (Value.int .i64 s.dp);refine(pk1.out _).mono ?_;rintro e w1 ⟨rfl,rfl⟩;simp only[])
     | (go_at_call_of 6 (Value.int .i64 s.room);refine(pk2.out _).mono ?_;rintro e w1 ⟨rfl,rfl⟩;simp only[])
     | (go_at_call 23;refine ht.out.mono ?_;rintro e w5 ⟨B,⟨gC,rfl,rfl⟩,h⟩;have U4:Blk w5 w.heap.size 25 (ap s.cut m):=h.ab 4 rfl;have e0:w5.cell? (w.heap.size,0)=some (s.dp:Vl):=U4.cell 0;have e1:w5.cell? (w.heap.size,1)=some (s.room:Vl):=U4.cell 1;have e2:w5.cell? (w.heap.size,2)=some (.string s.inp):=U4.cell 2;replace U4:=hid U4;replace h:=hid h;simp only[])))
  all_goals go_wp2_with fail
  all_goals go_meet
  all_goals exact⟨{ r with gC:=gC },rfl,h.out⟩
 case rest=>
  clear so ht c0 c1 c2 Re pk1 pk2
  obtain⟨r,rfl,V6⟩:=hcut
  apply_assumption
  exact Pg hs.out V6
theorem Q4{w W:World}{s:Setup}{m:Sl}{gI gws:Nat}{r:Rc}(hs:dP w s m)(so:On Nob w (aa ([av gI bk,iT r r.gK (.slice gws 1 1) x00,ae gws 80 #[r.gK],ae w.heap.size 25 (ap s.cut m)])) W){u0 u7 u8 u9 YR YP u12 u13 Zk Yr u16 Xw XG XC Xb X5 Xc XP XA XL Xf Xn X4 Xz Ya Yg u32 W8 Xm XN Yf XM Yx Xx XK X1 XE Yz Xr Yp XI Ys Xi Yn Xo Xp YB Xh XX YE X0 Yj Xj Yc W9 Xy Yh Yl u64 Xl X3 XT XO Xg Yu Xu Yi XH XQ XR X7 Ye XB XU XW YC Xk Yb X2 XD Xe Xa YF X9 Yk Yv XZ YD Xs Xd XF Xt Yt Yo S5 Tz TN Tc Tm To Tj S4 Tk TT Tu TC TR SW TE Tf T1 Tg Tq Th TB TP T8 Ty S6 TD Td Tw TZ Tv Tx TW T2 TX T7 T3 S7 Tb Tn SZ S0 TV Te Tr Tl T5 S9 TQ Ts TS TL SV S1 SY TI SX S8 TH TM S3 Tt T4 Ti TY Tp TO TG T6 VM VH Vf UX U6 U8 U2 VI Vz VL UJ Vi Vd Vq UE UM Vk U1 Vw UG VE Vj UA UB VN U3 U7 Vp U5 Ve U0 VK VC UR U9 VF UY VD UL Vv UC US UH Vh Vx UD Vn UW UK UN UI Vo UT UZ VB VG Vr UQ Vb UO Vg VJ Vt Vs UU VO UP:Value}:Code.wp Tryz.prog (bC 4 (Tryz.f7.body.getD .skip)) (bodyPost Tryz.prog Tryz.f7 (cz (mu s) Nob w)) ⟨List.toArray (u0 :: .pointer w.heap.size :: .pointer none :: .pointer r.gW :: .bool true :: .pointer gI :: .int .i64 0::u7::u8::u9::YR::YP::u12::u13::Zk::Yr::u16::Xw::XG::XC::Xb::X5::Xc::XP::XA::XL::Xf::Xn::X4::Xz::Ya::Yg::u32::W8::Xm::XN::Yf::XM::Yx::Xx::XK::X1::XE::Yz::Xr::Yp::XI::Ys::Xi::Yn::Xo::Xp::YB::Xh::XX::YE::X0::Yj::Xj::Yc::W9::Xy::Yh::Yl::u64::Xl::X3::XT::XO::Xg::Yu::Xu::Yi::XH::XQ::XR::X7::Ye::XB::XU::XW::YC::Xk::Yb::X2::XD::Xe::Xa::YF::X9::Yk::Yv::XZ::YD::Xs::Xd::XF::Xt::Yt::Yo::S5::Tz::TN::Tc::Tm::To::Tj::S4::Tk::TT::Tu::TC::TR::SW::TE::Tf::T1::Tg::Tq::Th::TB::TP::T8::Ty::S6::TD::Td::Tw::TZ::Tv::Tx::TW::T2::TX::T7::T3::S7::Tb::Tn::SZ::S0::TV::Te::Tr::Tl::T5::S9::TQ::Ts::TS::TL::SV::S1::SY::TI::SX::S8::TH::TM::S3::Tt::T4::Ti::TY::Tp::TO::TG::T6::VM::VH::Vf::UX::U6::U8::U2::VI::Vz::VL::UJ::Vi::Vd::Vq::UE::UM::Vk::U1::Vw::UG::VE::Vj::UA::UB::VN::U3::U7::Vp::U5::Ve::U0::VK::VC::UR::U9::VF::UY::VD::UL::Vv::UC::US::UH::Vh::Vx::UD::Vn::UW::UK::UN::UI::Vo::UT::UZ::VB::VG::Vr::UQ::Vb::UO::Vg::VJ::Vt::Vs::UU::VO::UP :: []),[]⟩ W:=by
 conv=>
  arg 2
  unfold Tryz.f7
  dsimp only[bC,Option.getD]
 replace hs:=hid hs
 have Re:Blk W w.heap.size 25 (ap s.cut m):=so.ab 3 rfl
 have c0:W.cell? (w.heap.size,0)=some (s.dp:Vl):=Re.cell 0
 have c1:W.cell? (w.heap.size,1)=some (s.room:Vl):=Re.cell 1
 have c2:W.cell? (w.heap.size,2)=some (.string s.inp):=Re.cell 2
 have pk1:=λW=>mP s.dp 32 W hs.out.dp oM
 have pk2:=λW=>mP s.room 65537 W hs.out.room oM
 have ht:=hid (so.drew.make (OM W.drew (ew s.dp 32) (ew s.room 65537) s.inp (C1 _ _ _ s.vB)))
 replace⟨pk1,pk2,so,Re⟩:=iD pk1 pk2 so Re
 go_upto_region 6 with fail
 go_cut [7,8] (λt7 t8 wx=> ∃gT,t7 = .pointer (some ⟨gT,0,none⟩)∧t8 = .int .i64 0∧On Nob w (aa [dF gT s.km,av gI bk,iT r r.gK (.slice gws 1 1) x00,ae gws 80 #[r.gK],ae w.heap.size 25 (ap s.cut m)]) wx)
 case first=>
  go_region_held (λw'=>w'.cell? (w.heap.size,0)=some (s.dp:Vl)∧w'.cell? (w.heap.size,1)=some (s.room:Vl)∧w'.cell? (w.heap.size,2)=some (.string s.inp)) (go_keep)
   ((first
     | (go_at_call_of 6 (Value.int .i64 s.dp);refine(pk1.out _).mono ?_;rintro e w1 ⟨rfl,rfl⟩;simp only[])
     | (go_at_call_of 6 (Value.int .i64 s.room);refine(pk2.out _).mono ?_;rintro e w1 ⟨rfl,rfl⟩;simp only[])
     | (go_at_call 22;refine ht.out.mono ?_;rintro e w5 ⟨B,⟨gT,rfl,rfl⟩,h⟩;have U4:Blk w5 w.heap.size 25 (ap s.cut m):=h.ab 4 rfl;have e0:w5.cell? (w.heap.size,0)=some (s.dp:Vl):=U4.cell 0;have e1:w5.cell? (w.heap.size,1)=some (s.room:Vl):=U4.cell 1;have e2:w5.cell? (w.heap.size,2)=some (.string s.inp):=U4.cell 2;replace U4:=hid U4;replace h:=hid h;simp only[])))
  all_goals go_wp2_with fail
  all_goals go_meet
  all_goals exact⟨_,rfl,rfl,h.out⟩
 case rest=>
  obtain⟨gT,rfl,rfl,Sa⟩:=hcut
  clear so Re c0 c1 c2 ht
  apply_assumption
  exact QX hs.out Sa
theorem Hm{w:World}{s:Setup}{m:Sl}(hs:dP w s m):Calls Tryz.prog 7 #[.agg (ap s m)] w (cz (mu s) Nob w):=by
 have Ub:=(On.refl (A:=aa []) (F:=Nob) (w:=w) (λ_ h=>h)).box (ap s m) 25
 have Ub:=hid Ub
 replace hs:=hid hs
 unfold ap
 go_enter Tryz.func7,Tryz.ntmps7
 have b0:Blk (w.alloc (.cells (ap s m) 25)) w.heap.size 25 (ap s m):=Ub.out.ab 0 rfl
 have i1:s.input.size<=9223372036854775807:=hs.out.inp
 have i2:s.hidden.size<=9223372036854775807:=hs.out.hid
 have i3:=s.vB
 have i4:=s.sf
 replace b0:=hid b0
 go_upto_region 1 with fail
 go_cut [23] (λt wx=>t = .bool s.iy∧On Nob w (aa [ae w.heap.size 25 (ap s m)]) wx)
 case first=>
  go_wp2
  all_goals go_meet
  all_goals refine⟨?_,Ub.out⟩
  all_goals unfold Setup.iy
  all_goals congr 1
  ·have h1:decide (4096< (s.input.size:Int))=decide (4096<s.input.size):=by apply decide_eq_decide.2;omega
   have h2:decide (64< (s.hidden.size:Int))=decide (64<s.hidden.size):=by apply decide_eq_decide.2;omega
   rw[h1,h2]
  ·rename_i h1
   have h2:decide (4096<s.input.size)=true:=by simp at h1⊢;omega
   rw[h2]
   rfl
 case rest=>
  obtain⟨rfl,M0⟩:=hcut
  have b1:Blk wc w.heap.size 25 (ap s m):=M0.ab 0 rfl
  have c2:wc.cell? (w.heap.size,2)=some (.string s.input):=b1.cell 2
  have c3:wc.cell? (w.heap.size,3)=some (.string s.hidden):=b1.cell 3
  have f2:=b1.frozen 2
  have f3:=b1.frozen 3
  have Zd:s.iy=false->On Nob w (aa [ae w.heap.size 25 (ap s.cut m)]) wc:=λh=>by
   have e1:ap s.cut m=ap s m:=by
    show ap { s with input:=s.inp,hidden:=s.hid } m=_
    unfold Setup.inp Setup.hid
    rw[h]
    rfl
   rw[e1]
   exact M0
  have Zf:s.iy=true->On Nob w (aa [ae w.heap.size 25 (ap s.cut m)]) ((wc.setCell (w.heap.size,2) (.string ⟨#[]⟩)).setCell (w.heap.size,3) (.string ⟨#[]⟩)):=λh=>by
   have e1:ap s.cut m= ((ap s m).setIfInBounds 2 (.string ⟨#[]⟩)).setIfInBounds 3 (.string ⟨#[]⟩):=by
    show ap { s with input:=s.inp,hidden:=s.hid } m=_
    unfold Setup.inp Setup.hid
    rw[h]
    rfl
   rw[e1]
   exact(M0.setAt 0 rfl 2 (.string ⟨#[]⟩)).setAt 0 rfl 3 (.string ⟨#[]⟩)
  obtain⟨tl,V8⟩: ∃tl,s.iy=tl:=⟨_,rfl⟩
  rw[V8]at Zd Zf⊢
  replace⟨Zd,Zf,M0,b1⟩:=iD Zd Zf M0 b1
  clear V8 b0 Ub
  go_upto_if 23 with fail
  go_cut [] (λwx=>On Nob w (aa [ae w.heap.size 25 (ap s.cut m)]) wx)
  case first=>
   cases tl
   all_goals go_wp2
   all_goals go_meet
   ·exact Zd.out (by first|rfl|trivial)
   ·exact Zf.out (by first|rfl|trivial)
  case rest=>
   have BY:=hcut
   clear hcut Zd Zf M0 b1 c2 c3 f2 f3
   replace BY:=hid BY
   go_upto_region 4 with fail
   go_cut [3,4] (λt3 t4 wx=> ∃(r:Rc) (gws:Nat),t3 = .pointer r.gW∧t4 = .bool true∧On Nob w (aa [iT r r.gK (.slice gws 1 1) x00,ae gws 80 #[r.gK],ae w.heap.size 25 (ap s.cut m)]) wx)
   case first=>
    go_wp2_with fail
    refine mo (rG _) λw1 Rh=>?_
    have Rb:=hid (BY.out.below Rh)
    clear BY Rh
    go_wp2_with fail
    refine(Rb.out.make (PZ _)).mono ?_
    rintro e w2 ⟨B,⟨r,gws,rfl,rfl⟩,Ra⟩
    have Rf:=hid (Ia Ra)
    clear Rb Ra
    go_wp2_with fail
    go_meet
    exact⟨r,gws,rfl,rfl,Rf.out⟩
   case rest=>
    obtain⟨r,gws,rfl,rfl,Rf⟩:=hcut
    replace Rf:=hid Rf
    clear BY
    go_upto_region 5 with fail
    go_cut [5,6] (λt5 t6 wx=> ∃gI,t5 = .pointer (some ⟨gI,0,none⟩)∧t6 = .int .i64 0∧On Nob w (aa [av gI bk,iT r r.gK (.slice gws 1 1) x00,ae gws 80 #[r.gK],ae w.heap.size 25 (ap s.cut m)]) wx)
    case first=>
     go_wp2_with fail
     refine mo (rG _) λw1 Rh=>?_
     have Rz:=hid (Rf.out.below Rh)
     clear Rf Rh
     go_wp2_with fail
     refine(Rz.out.make (Ol _)).mono ?_
     rintro e w2 ⟨B,⟨gI,rfl,rfl⟩,Ri⟩
     replace Ri:=hid Ri
     clear Rz
     go_wp2_with fail
     go_meet
     exact⟨gI,rfl,rfl,Ri.out⟩
    case rest=>
     obtain⟨gI,rfl,rfl,Ri⟩:=hcut
     clear Rf
     apply_assumption
     exact Q4 hs.out Ri
