/- Chapter 11: the walk of made: the loads, the seals and the stacks. Conditions: as written. -/
import Derived.Test.YtjhdpmimccpcdaaGreatDoorQ35
import Derived.Test.YtjhdpmimccpcdaaGreatDoorQVMadeG
namespace Go.Proofs.YtjhdpmimccpcdaaGreatDoor
set_option linter.unusedVariables false
set_option maxRecDepth 100000
open Go.RowKit Go.Lib Go.Deep
namespace Vm
set_option maxHeartbeats 8000000 in
theorem mk_F2 {w W : World} {s : Setup} {m : Sl} {v2 ws : Value} {gD gR : Nat} {b : Bc} {r : Rc} (hW : b.gW = r.gW) (hs : SetIn w s m) (hon : On Nob w (AllA (mdL (mwX w s m v2 ws gD gR) b r (mcN (mwX w s m v2 ws gD gR) b) s.i2 (x25 s))) W) {u0 u4 u6 u7 u8 u9 u10 u11 u14 u15 u16 u17 u18 u19 u20 u21 u22 u23 u24 u25 u26 u27 u28 u29 u30 u31 u32 u33 u34 u35 u36 u37 u38 u39 u40 u41 u42 u43 u44 u45 u46 u47 u48 u49 u50 u51 u52 u53 u54 u55 u56 u57 u58 u59 u60 u61 u62 u63 u64 u65 u66 u67 u68 u69 u70 u71 u72 u73 u74 u75 u76 u77 u78 u79 u80 u81 u82 u83 u84 u85 u86 u87 u88 u89 u90 u91 u92 u93 u94 u95 u96 u97 u98 u99 u100 u101 u102 u103 u104 u105 u106 u107 u108 u109 u110 u111 u112 u113 u114 u115 u116 u117 u118 u119 u120 u121 u122 u123 u124 u125 u126 u127 u128 u129 u130 u131 u132 u133 u134 u135 u136 u137 u138 u139 u140 u141 u142 u143 u144 u145 u146 u147 u148 u149 u150 u151 u152 u153 u154 u155 u156 u157 u158 u159 u160 u161 u162 u163 u164 u165 u166 u167 u168 u169 u170 u171 u172 u173 u174 u175 u176 u177 u178 u179 u180 u181 u182 u183 u184 u185 u186 u187 u188 u189 u190 u191 u192 u193 u194 u195 u196 u197 u198 u199 u200 u201 u202 u203 u204 u205 u206 u207 u208 u209 u210 u211 u212 u213 u214 u215 u216 u217 u218 u219 u220 u221 u222 u223 u224 u225 u226 u227 u228 u229 u230 u231 u232 u233 u234 : Value} : Code.wp Tryz.prog (codeDrop 20 (Tryz.f11.body.getD .skip)) (bodyPost Tryz.prog Tryz.f11 (PostE (MadeB s) Nob w)) ⟨List.toArray (u0 :: .pointer (some ⟨w.heap.size, 0, none⟩) :: .pointer none :: .pointer (some ⟨r.gW, 0, none⟩) :: u4 :: .pointer (some ⟨b.gI, 0, none⟩) :: u6 :: u7 :: u8 :: u9 :: u10 :: u11 :: .pointer (some ⟨b.gM, 0, none⟩) :: .pointer (some ⟨b.gB, 0, none⟩) :: u14 :: u15 :: u16 :: u17 :: u18 :: u19 :: u20 :: u21 :: u22 :: u23 :: u24 :: u25 :: u26 :: u27 :: u28 :: u29 :: u30 :: u31 :: u32 :: u33 :: u34 :: u35 :: u36 :: u37 :: u38 :: u39 :: u40 :: u41 :: u42 :: u43 :: u44 :: u45 :: u46 :: u47 :: u48 :: u49 :: u50 :: u51 :: u52 :: u53 :: u54 :: u55 :: u56 :: u57 :: u58 :: u59 :: u60 :: u61 :: u62 :: u63 :: u64 :: u65 :: u66 :: u67 :: u68 :: u69 :: u70 :: u71 :: u72 :: u73 :: u74 :: u75 :: u76 :: u77 :: u78 :: u79 :: u80 :: u81 :: u82 :: u83 :: u84 :: u85 :: u86 :: u87 :: u88 :: u89 :: u90 :: u91 :: u92 :: u93 :: u94 :: u95 :: u96 :: u97 :: u98 :: u99 :: u100 :: u101 :: u102 :: u103 :: u104 :: u105 :: u106 :: u107 :: u108 :: u109 :: u110 :: u111 :: u112 :: u113 :: u114 :: u115 :: u116 :: u117 :: u118 :: u119 :: u120 :: u121 :: u122 :: u123 :: u124 :: u125 :: u126 :: u127 :: u128 :: u129 :: u130 :: u131 :: u132 :: u133 :: u134 :: u135 :: u136 :: u137 :: u138 :: u139 :: u140 :: u141 :: u142 :: u143 :: u144 :: u145 :: u146 :: u147 :: u148 :: u149 :: u150 :: u151 :: u152 :: u153 :: u154 :: u155 :: u156 :: u157 :: u158 :: u159 :: u160 :: u161 :: u162 :: u163 :: u164 :: u165 :: u166 :: u167 :: u168 :: u169 :: u170 :: u171 :: u172 :: u173 :: u174 :: u175 :: u176 :: u177 :: u178 :: u179 :: u180 :: u181 :: u182 :: u183 :: u184 :: u185 :: u186 :: u187 :: u188 :: u189 :: u190 :: u191 :: u192 :: u193 :: u194 :: u195 :: u196 :: u197 :: u198 :: u199 :: u200 :: u201 :: u202 :: u203 :: u204 :: u205 :: u206 :: u207 :: u208 :: u209 :: u210 :: u211 :: u212 :: u213 :: u214 :: u215 :: u216 :: u217 :: u218 :: u219 :: u220 :: u221 :: u222 :: u223 :: u224 :: u225 :: u226 :: u227 :: u228 :: u229 :: u230 :: u231 :: u232 :: u233 :: u234 :: []), []⟩ W := by
  conv =>
    arg 2
    unfold Tryz.f11
    dsimp only [codeDrop, Option.getD]
  replace hs := Lib.hid hs

  obtain ⟨ho2, hc2, hl2⟩ := i2_fine s
  obtain ⟨ho, hc, hl⟩ := load_fine s
  have hhid := s.hid_le
  have hb0 : Blk W w.heap.size 30 (setupC s.cut m) := hon.blkAt 0 rfl
  have c3 : W.cell? ⟨w.heap.size, 3, none⟩ = some (.string s.hid) := hb0.cell 3
  have hld := Lib.hid (md_load1 hon (by rw [hl2.s]; decide) s.hid (by rw [hl2.s]; exact hhid))
  clear hb0
  replace hon := Lib.hid hon
  go_wp2_with fail
  refine hld.out.mono ?_
  rintro e w1 ⟨rfl, h1⟩
  have hb1 : Blk w1 w.heap.size 30 (setupC s.cut m) := h1.blkAt 0 rfl
  have d3 : w1.cell? ⟨w.heap.size, 3, none⟩ = some (.string s.hid) := hb1.cell 3
  have hbw : Blk w1 r.gW 77 (worldC r r.gS v2 (x25 s).fault (x25 s).used (x25 s).hidden (x25 s).tells) := h1.blkAt 12 rfl
  have g0 : w1.cell? ⟨r.gW, 0, none⟩ = some (.pointer (some ⟨r.gM, 0, none⟩)) := hbw.cell 0
  have hld2 := Lib.hid (md_load2 h1.drew (x := x25 s) ho2 (by show s.i2.s ≤ 4096; rw [hl2.s]; decide) s.hid (by show s.hid.size ≤ s.i2.s; rw [hl2.s]; exact hhid))
  replace h1 := Lib.hid h1
  replace hb1 := Lib.hid hb1
  replace hbw := Lib.hid hbw
  clear hon hld
  go_upto_region 29 with fail
  go_cut [] (fun wx => On Nob w (AllA (mdL (mwX w s m v2 ws gD gR) b r (mcN (mwX w s m v2 ws gD gR) b) (Setup.load s.i2 s.hid.data.toList) { x25 s with S := Setup.load s.i2 s.hid.data.toList })) wx)
  case first =>
    go_region_held (fun w' => w'.cell? ⟨w.heap.size, 3, none⟩ = some (.string s.hid) ∧ w'.cell? ⟨r.gW, 0, none⟩ = some (.pointer (some ⟨r.gM, 0, none⟩))) (go_keep)
      ((go_at_call 43; refine hld2.out.mono ?_; rintro e w5 ⟨rfl, h⟩; have hbx1 : Blk w5 w.heap.size 30 (setupC s.cut m) := h.blkAt 0 rfl; have e3 : w5.cell? ⟨w.heap.size, 3, none⟩ = some (.string s.hid) := hbx1.cell 3; have hbw2 : Blk w5 r.gW 77 (worldC r r.gS v2 (x25 s).fault (x25 s).used (x25 s).hidden (x25 s).tells) := h.blkAt 12 rfl; have e0 : w5.cell? ⟨r.gW, 0, none⟩ = some (.pointer (some ⟨r.gM, 0, none⟩)) := hbw2.cell 0; replace hbx1 := Lib.hid hbx1; replace hbw2 := Lib.hid hbw2; replace h := Lib.hid h))
    all_goals go_wp2_with fail
    all_goals go_meet
    all_goals exact h.out
  case rest =>
    have hse := Lib.hid (md_seal1 hcut)
    replace hcut := Lib.hid hcut
    clear h1 hb1 hbw c3 d3 g0 hld2
    go_wp2_with fail
    refine hse.out.mono ?_
    rintro e w2 ⟨rfl, h2⟩
    have hse2 := Lib.hid (md_seal2 h2 (x := { x25 s with S := Setup.load s.i2 s.hid.data.toList }) ho hc)
    replace h2 := Lib.hid h2
    clear hse hcut
    go_wp2_with fail
    refine hse2.out.mono ?_
    rintro e w3 ⟨rfl, h3⟩
    have h4 : On Nob w (AllA (mdL (mwX w s m v2 ws gD gR) b r (mcN (mwX w s m v2 ws gD gR) b) s.i3 (x32 s))) w3 := h3
    have hb3 : Blk w3 w.heap.size 30 (setupC s.cut m) := h4.blkAt 0 rfl
    have k0 : w3.cell? ⟨w.heap.size, 0, none⟩ = some (.int .i64 s.caps) := hb3.cell 0
    have k1 : w3.cell? ⟨w.heap.size, 1, none⟩ = some (.int .i64 s.room) := hb3.cell 1
    have k2 : w3.cell? ⟨w.heap.size, 2, none⟩ = some (.string s.inp) := hb3.cell 2
    have k3 : w3.cell? ⟨w.heap.size, 3, none⟩ = some (.string s.hid) := hb3.cell 3
    have k4 : w3.cell? ⟨w.heap.size, 4, none⟩ = some (.bool s.opened) := hb3.cell 4
    have k5 : w3.cell? ⟨w.heap.size, 5, none⟩ = some (.slice m.kA s.kernel.length m.kc) := hb3.cell 5
    have k6 : w3.cell? ⟨w.heap.size, 6, none⟩ = some (.slice m.sA s.student.length m.sc) := hb3.cell 6
    have k7 : w3.cell? ⟨w.heap.size, 7, none⟩ = some (.int .i64 s.base) := hb3.cell 7
    have k8 : w3.cell? ⟨w.heap.size, 8, none⟩ = some (.slice m.dA s.data.length m.dc) := hb3.cell 8
    have k9 : w3.cell? ⟨w.heap.size, 9, none⟩ = some (.slice m.rA s.ret.length m.rc) := hb3.cell 9
    have k10 : w3.cell? ⟨w.heap.size, 10, none⟩ = some (.int .i64 s.fault) := hb3.cell 10
    have k11 : w3.cell? ⟨w.heap.size, 11, none⟩ = some (.int .i64 s.used) := hb3.cell 11
    have k12 : w3.cell? ⟨w.heap.size, 12, none⟩ = some (.int .i64 s.hiddenAs) := hb3.cell 12
    have hst := Lib.hid (md_stacks h4 hW rfl rfl rfl ⟨rfl, rfl⟩ rfl rfl (i3_fine s).1 (i3_fine s).2 (i3_fine s).1 (i3_fine s).2 hs.out.cut)
    replace h3 := Lib.hid h3
    replace h4 := Lib.hid h4
    replace hb3 := Lib.hid hb3
    clear hse2 h2
    go_upto_region 32 with fail
    go_cut [4] (fun t4 wx => t4 = .bool true ∧ On Nob w (AllA (mdL (mwX w s m v2 ws gD gR) b r (mcN (mwX w s m v2 ws gD gR) b) (y32 s).S (x33 s))) wx)
    case first =>
      go_wp2_with fail
      refine hst.out.mono ?_
      rintro e w4 ⟨rfl, h5⟩
      replace h5 := Lib.hid h5
      go_wp2_with fail
      go_meet
      exact ⟨rfl, h5.out⟩
    case rest =>
      obtain ⟨rfl, h5⟩ := hcut
      apply_assumption
      exact mk_G hW hs.out h5
end Vm
end Go.Proofs.YtjhdpmimccpcdaaGreatDoor
