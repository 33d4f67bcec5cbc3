/- Chapter 11: the walk of made: what is told. Conditions: as written. -/
import Derived.Test.YtjhdpmimccpcdaaGreatDoorQ35
namespace Go.Proofs.YtjhdpmimccpcdaaGreatDoor
set_option linter.unusedVariables false
set_option maxRecDepth 100000
open Go.RowKit Go.Lib Go.Deep
namespace Vm
set_option maxHeartbeats 8000000 in
theorem mk_G {w W : World} {s : Setup} {m : Sl} {v2 ws : Value} {gD gR : Nat} {b : Bc} {r : Rc} (hW : b.gW = r.gW) (hs : SetIn w s m) (hon : On Nob w (AllA (mdL (mwX w s m v2 ws gD gR) b r (mcN (mwX w s m v2 ws gD gR) b) (y32 s).S (x33 s))) W) {u0 u6 u7 u8 u9 u10 u11 u14 u15 u16 u17 u18 u19 u20 u21 u22 u23 u24 u25 u26 u27 u28 u29 u30 u31 u32 u33 u34 u35 u36 u37 u38 u39 u40 u41 u42 u43 u44 u45 u46 u47 u48 u49 u50 u51 u52 u53 u54 u55 u56 u57 u58 u59 u60 u61 u62 u63 u64 u65 u66 u67 u68 u69 u70 u71 u72 u73 u74 u75 u76 u77 u78 u79 u80 u81 u82 u83 u84 u85 u86 u87 u88 u89 u90 u91 u92 u93 u94 u95 u96 u97 u98 u99 u100 u101 u102 u103 u104 u105 u106 u107 u108 u109 u110 u111 u112 u113 u114 u115 u116 u117 u118 u119 u120 u121 u122 u123 u124 u125 u126 u127 u128 u129 u130 u131 u132 u133 u134 u135 u136 u137 u138 u139 u140 u141 u142 u143 u144 u145 u146 u147 u148 u149 u150 u151 u152 u153 u154 u155 u156 u157 u158 u159 u160 u161 u162 u163 u164 u165 u166 u167 u168 u169 u170 u171 u172 u173 u174 u175 u176 u177 u178 u179 u180 u181 u182 u183 u184 u185 u186 u187 u188 u189 u190 u191 u192 u193 u194 u195 u196 u197 u198 u199 u200 u201 u202 u203 u204 u205 u206 u207 u208 u209 u210 u211 u212 u213 u214 u215 u216 u217 u218 u219 u220 u221 u222 u223 u224 u225 u226 u227 u228 u229 u230 u231 u232 u233 u234 : Value} : Code.wp Tryz.prog (codeDrop 25 (Tryz.f11.body.getD .skip)) (bodyPost Tryz.prog Tryz.f11 (PostE (MadeB s) Nob w)) ⟨List.toArray (u0 :: .pointer (some ⟨w.heap.size, 0, none⟩) :: .pointer none :: .pointer (some ⟨r.gW, 0, none⟩) :: .bool true :: .pointer (some ⟨b.gI, 0, none⟩) :: u6 :: u7 :: u8 :: u9 :: u10 :: u11 :: .pointer (some ⟨b.gM, 0, none⟩) :: .pointer (some ⟨b.gB, 0, none⟩) :: u14 :: u15 :: u16 :: u17 :: u18 :: u19 :: u20 :: u21 :: u22 :: u23 :: u24 :: u25 :: u26 :: u27 :: u28 :: u29 :: u30 :: u31 :: u32 :: u33 :: u34 :: u35 :: u36 :: u37 :: u38 :: u39 :: u40 :: u41 :: u42 :: u43 :: u44 :: u45 :: u46 :: u47 :: u48 :: u49 :: u50 :: u51 :: u52 :: u53 :: u54 :: u55 :: u56 :: u57 :: u58 :: u59 :: u60 :: u61 :: u62 :: u63 :: u64 :: u65 :: u66 :: u67 :: u68 :: u69 :: u70 :: u71 :: u72 :: u73 :: u74 :: u75 :: u76 :: u77 :: u78 :: u79 :: u80 :: u81 :: u82 :: u83 :: u84 :: u85 :: u86 :: u87 :: u88 :: u89 :: u90 :: u91 :: u92 :: u93 :: u94 :: u95 :: u96 :: u97 :: u98 :: u99 :: u100 :: u101 :: u102 :: u103 :: u104 :: u105 :: u106 :: u107 :: u108 :: u109 :: u110 :: u111 :: u112 :: u113 :: u114 :: u115 :: u116 :: u117 :: u118 :: u119 :: u120 :: u121 :: u122 :: u123 :: u124 :: u125 :: u126 :: u127 :: u128 :: u129 :: u130 :: u131 :: u132 :: u133 :: u134 :: u135 :: u136 :: u137 :: u138 :: u139 :: u140 :: u141 :: u142 :: u143 :: u144 :: u145 :: u146 :: u147 :: u148 :: u149 :: u150 :: u151 :: u152 :: u153 :: u154 :: u155 :: u156 :: u157 :: u158 :: u159 :: u160 :: u161 :: u162 :: u163 :: u164 :: u165 :: u166 :: u167 :: u168 :: u169 :: u170 :: u171 :: u172 :: u173 :: u174 :: u175 :: u176 :: u177 :: u178 :: u179 :: u180 :: u181 :: u182 :: u183 :: u184 :: u185 :: u186 :: u187 :: u188 :: u189 :: u190 :: u191 :: u192 :: u193 :: u194 :: u195 :: u196 :: u197 :: u198 :: u199 :: u200 :: u201 :: u202 :: u203 :: u204 :: u205 :: u206 :: u207 :: u208 :: u209 :: u210 :: u211 :: u212 :: u213 :: u214 :: u215 :: u216 :: u217 :: u218 :: u219 :: u220 :: u221 :: u222 :: u223 :: u224 :: u225 :: u226 :: u227 :: u228 :: u229 :: u230 :: u231 :: u232 :: u233 :: u234 :: []), []⟩ W := by
  conv =>
    arg 2
    unfold Tryz.f11
    dsimp only [codeDrop, Option.getD]
  replace hs := Lib.hid hs

  have hf : On Nob w (AllA (MachA (c33 (mwX w s m v2 ws gD gR) b) (t33 s) :: (mdL (mwX w s m v2 ws gD gR) b r (mcN (mwX w s m v2 ws gD gR) b) (y32 s).S (x33 s)).eraseIdx 8)) W := md_front (c := c33 (mwX w s m v2 ws gD gR) b) (t := t33 s) hon rfl
  have hb0 : Blk W w.heap.size 30 (setupC s.cut m) := hon.blkAt 0 rfl
  have c10 : W.cell? ⟨w.heap.size, 10, none⟩ = some (.int .i64 s.fault) := hb0.cell 10
  have c11 : W.cell? ⟨w.heap.size, 11, none⟩ = some (.int .i64 s.used) := hb0.cell 11
  have c12 : W.cell? ⟨w.heap.size, 12, none⟩ = some (.int .i64 s.hiddenAs) := hb0.cell 12
  have ht := Lib.hid (x_told hf s.fault s.used s.hiddenAs)
  clear hb0
  replace hon := Lib.hid hon
  replace hf := Lib.hid hf
  go_wp2_with fail
  refine ht.out.mono ?_
  rintro e w1 ⟨rfl, h1⟩
  have hb1 : Blk w1 w.heap.size 30 (setupC s.cut m) := h1.blkAt 1 rfl
  have d10 : w1.cell? ⟨w.heap.size, 10, none⟩ = some (.int .i64 s.fault) := hb1.cell 10
  have d11 : w1.cell? ⟨w.heap.size, 11, none⟩ = some (.int .i64 s.used) := hb1.cell 11
  have d12 : w1.cell? ⟨w.heap.size, 12, none⟩ = some (.int .i64 s.hiddenAs) := hb1.cell 12
  have hbw : Blk w1 r.gW 77 (worldC r r.gS v2 (x33 s).fault (x33 s).used (x33 s).hidden (x33 s).tells) := h1.blkAt 12 rfl
  have g9 : w1.cell? ⟨r.gW, 9, none⟩ = some (.int .i64 (x33 s).fault) := hbw.cell 9
  have g10 : w1.cell? ⟨r.gW, 10, none⟩ = some (.int .i64 (x33 s).used) := hbw.cell 10
  have g11 : w1.cell? ⟨r.gW, 11, none⟩ = some (.int .i64 (x33 s).hidden) := hbw.cell 11
  have f9 := hbw.frozen 9
  have f10 := hbw.frozen 10
  have f11 := hbw.frozen 11
  have hne := h1.neAt 1 12 (by decide) rfl rfl
  have h2 := ((h1.setAt 12 rfl 9 (.int .i64 s.fault)).setAt 12 rfl 10 (.int .i64 s.used)).setAt 12 rfl 11 (.int .i64 s.hiddenAs)
  have hwt := Lib.hid (x_watch h2 rfl (.func 49) #[.pointer (some ⟨b.gB, 0, none⟩)] #[] (BothA b) (endC (mwX w s m v2 ws gD gR) b r (x41 s)).rest)
  replace h1 := Lib.hid h1
  replace h2 := Lib.hid h2
  replace hb1 := Lib.hid hb1
  replace hbw := Lib.hid hbw
  clear c10 c11 c12 ht hf hon
  go_wp2_with fail
  refine hwt.out.mono ?_
  rintro e w2 ⟨rfl, h3⟩
  have hbw2 := h3.blkAt 12 rfl
  have g12 : w2.cell? ⟨r.gW, 12, none⟩ = some (.bool false) := hbw2.cell 12
  have f12 := hbw2.frozen 12
  have h4 := h3.setAt 12 rfl 12 (.bool true)
  have hfin := Lib.hid (md_end (s := s) (m := m) (v2 := v2) (ws := ws) (gD := gD) (gR := gR) (b := b) (r := r) h4)
  clear hwt h2 h4 hbw2
  replace h3 := Lib.hid h3
  go_wp2_with fail
  go_ret
  exact ⟨_, ⟨_, _, _, hW, rfl, rfl⟩, hfin.out⟩
end Vm
end Go.Proofs.YtjhdpmimccpcdaaGreatDoor
