/- Chapter 11: the walk of made: the table of the document. Conditions: as written. -/
import Derived.Test.YtjhdpmimccpcdaaGreatDoorQVMadeC10
import Derived.Deep.RegionWith
import Derived.Test.YtjhdpmimccpcdaaGreatDoorQ39
import Derived.BigQuiet
namespace Go.Proofs.YtjhdpmimccpcdaaGreatDoor
set_option linter.unusedVariables false
set_option maxRecDepth 100000
open Go.RowKit Go.Lib Go.Deep
namespace Vm
set_option maxHeartbeats 8000000 in
theorem mk_C {w W : World} {s : Setup} {m : Sl} {gI gT gws : Nat} {r : Rc} (hs : SetIn w s m) (hon : On Nob w (AllA ([TabA gT s.tab0, ImgA gI img0, DocA r r.gK (.slice (some ⟨gws, 0, none⟩) 1 1) x00, BlkA gws 71 #[.pointer (some ⟨r.gK, 0, none⟩)], BlkA w.heap.size 30 (setupC s.cut m)])) W) {u0 u9 u10 u11 u12 u13 u14 u15 u16 u17 u18 u19 u20 u21 u22 u23 u24 u25 u26 u27 u28 u29 u30 u31 u32 u33 u34 u35 u36 u37 u38 u39 u40 u41 u42 u43 u44 u45 u46 u47 u48 u49 u50 u51 u52 u53 u54 u55 u56 u57 u58 u59 u60 u61 u62 u63 u64 u65 u66 u67 u68 u69 u70 u71 u72 u73 u74 u75 u76 u77 u78 u79 u80 u81 u82 u83 u84 u85 u86 u87 u88 u89 u90 u91 u92 u93 u94 u95 u96 u97 u98 u99 u100 u101 u102 u103 u104 u105 u106 u107 u108 u109 u110 u111 u112 u113 u114 u115 u116 u117 u118 u119 u120 u121 u122 u123 u124 u125 u126 u127 u128 u129 u130 u131 u132 u133 u134 u135 u136 u137 u138 u139 u140 u141 u142 u143 u144 u145 u146 u147 u148 u149 u150 u151 u152 u153 u154 u155 u156 u157 u158 u159 u160 u161 u162 u163 u164 u165 u166 u167 u168 u169 u170 u171 u172 u173 u174 u175 u176 u177 u178 u179 u180 u181 u182 u183 u184 u185 u186 u187 u188 u189 u190 u191 u192 u193 u194 u195 u196 u197 u198 u199 u200 u201 u202 u203 u204 u205 u206 u207 u208 u209 u210 u211 u212 u213 u214 u215 u216 u217 u218 u219 u220 u221 u222 u223 u224 u225 u226 u227 u228 u229 u230 u231 u232 u233 u234 : Value} : Code.wp Tryz.prog (codeDrop 5 (Tryz.f11.body.getD .skip)) (bodyPost Tryz.prog Tryz.f11 (PostE (MadeB s) Nob w)) ⟨List.toArray (u0 :: .pointer (some ⟨w.heap.size, 0, none⟩) :: .pointer none :: .pointer (some ⟨r.gW, 0, none⟩) :: .bool true :: .pointer (some ⟨gI, 0, none⟩) :: .int .i64 0 :: .pointer (some ⟨gT, 0, none⟩) :: .int .i64 0 :: u9 :: u10 :: u11 :: u12 :: u13 :: u14 :: u15 :: u16 :: u17 :: u18 :: u19 :: u20 :: u21 :: u22 :: u23 :: u24 :: u25 :: u26 :: u27 :: u28 :: u29 :: u30 :: u31 :: u32 :: u33 :: u34 :: u35 :: u36 :: u37 :: u38 :: u39 :: u40 :: u41 :: u42 :: u43 :: u44 :: u45 :: u46 :: u47 :: u48 :: u49 :: u50 :: u51 :: u52 :: u53 :: u54 :: u55 :: u56 :: u57 :: u58 :: u59 :: u60 :: u61 :: u62 :: u63 :: u64 :: u65 :: u66 :: u67 :: u68 :: u69 :: u70 :: u71 :: u72 :: u73 :: u74 :: u75 :: u76 :: u77 :: u78 :: u79 :: u80 :: u81 :: u82 :: u83 :: u84 :: u85 :: u86 :: u87 :: u88 :: u89 :: u90 :: u91 :: u92 :: u93 :: u94 :: u95 :: u96 :: u97 :: u98 :: u99 :: u100 :: u101 :: u102 :: u103 :: u104 :: u105 :: u106 :: u107 :: u108 :: u109 :: u110 :: u111 :: u112 :: u113 :: u114 :: u115 :: u116 :: u117 :: u118 :: u119 :: u120 :: u121 :: u122 :: u123 :: u124 :: u125 :: u126 :: u127 :: u128 :: u129 :: u130 :: u131 :: u132 :: u133 :: u134 :: u135 :: u136 :: u137 :: u138 :: u139 :: u140 :: u141 :: u142 :: u143 :: u144 :: u145 :: u146 :: u147 :: u148 :: u149 :: u150 :: u151 :: u152 :: u153 :: u154 :: u155 :: u156 :: u157 :: u158 :: u159 :: u160 :: u161 :: u162 :: u163 :: u164 :: u165 :: u166 :: u167 :: u168 :: u169 :: u170 :: u171 :: u172 :: u173 :: u174 :: u175 :: u176 :: u177 :: u178 :: u179 :: u180 :: u181 :: u182 :: u183 :: u184 :: u185 :: u186 :: u187 :: u188 :: u189 :: u190 :: u191 :: u192 :: u193 :: u194 :: u195 :: u196 :: u197 :: u198 :: u199 :: u200 :: u201 :: u202 :: u203 :: u204 :: u205 :: u206 :: u207 :: u208 :: u209 :: u210 :: u211 :: u212 :: u213 :: u214 :: u215 :: u216 :: u217 :: u218 :: u219 :: u220 :: u221 :: u222 :: u223 :: u224 :: u225 :: u226 :: u227 :: u228 :: u229 :: u230 :: u231 :: u232 :: u233 :: u234 :: []), []⟩ W := by
  conv =>
    arg 2
    unfold Tryz.f11
    dsimp only [codeDrop, Option.getD]
  replace hs := Lib.hid hs
  have pk1 := fun W => pick11 s.caps 32 W hs.out.caps (by omega)
  have pk2 := fun W => pick11 s.room 65537 W hs.out.room (by omega)
  replace pk1 := Lib.hid pk1
  replace pk2 := Lib.hid pk2
  have hbx : Blk W w.heap.size 30 (setupC s.cut m) := hon.blkAt 4 rfl
  have c0 : W.cell? ⟨w.heap.size, 0, none⟩ = some (.int .i64 s.caps) := hbx.cell 0
  have c1 : W.cell? ⟨w.heap.size, 1, none⟩ = some (.int .i64 s.room) := hbx.cell 1
  have c2 : W.cell? ⟨w.heap.size, 2, none⟩ = some (.string s.inp) := hbx.cell 2
  have ht := Lib.hid (hon.drew.callAt 2 rfl fun F' hb => w_caps hb (pickS s.caps 32) (pickS s.room 65537) s.inp (pick_no _ _ _ s.inp_le))
  replace hon := Lib.hid hon
  replace hbx := Lib.hid hbx
  go_upto_region 9 with fail
  go_cut [3] (fun t3 wx => ∃ r : Rc, t3 = .pointer (some ⟨r.gW, 0, none⟩) ∧ On Nob w (AllA [TabA gT s.tab0, ImgA gI img0, DocA r r.gK (.slice (some ⟨gws, 0, none⟩) 1 1) { x00 with T := s.tab0 }, BlkA gws 71 #[.pointer (some ⟨r.gK, 0, none⟩)], BlkA w.heap.size 30 (setupC s.cut m)]) wx)
  case first =>
    go_region_held (fun w' => w'.cell? ⟨w.heap.size, 0, none⟩ = some (.int .i64 s.caps) ∧ w'.cell? ⟨w.heap.size, 1, none⟩ = some (.int .i64 s.room) ∧ w'.cell? ⟨w.heap.size, 2, none⟩ = some (.string s.inp)) (go_keep)
      ((first
        | (go_at_call_of 12 (Value.int .i64 s.caps); refine (pk1.out _).mono ?_; rintro e w1 ⟨rfl, rfl⟩; simp only [])
        | (go_at_call_of 12 (Value.int .i64 s.room); refine (pk2.out _).mono ?_; rintro e w1 ⟨rfl, rfl⟩; simp only [])
        | (go_at_call 36; refine ht.out.mono ?_; rintro e w5 ⟨B, ⟨gC, rfl, rfl⟩, h⟩; have hbx1 : Blk w5 w.heap.size 30 (setupC s.cut m) := h.blkAt 4 rfl; have e0 : w5.cell? ⟨w.heap.size, 0, none⟩ = some (.int .i64 s.caps) := hbx1.cell 0; have e1 : w5.cell? ⟨w.heap.size, 1, none⟩ = some (.int .i64 s.room) := hbx1.cell 1; have e2 : w5.cell? ⟨w.heap.size, 2, none⟩ = some (.string s.inp) := hbx1.cell 2; replace hbx1 := Lib.hid hbx1; replace h := Lib.hid h; simp only [])))
    all_goals go_wp2_with fail
    all_goals go_meet
    all_goals exact ⟨{ r with gC := gC }, rfl, h.out⟩
  case rest =>
    clear hon ht c0 c1 c2 hbx pk1 pk2
    obtain ⟨r, rfl, hon9⟩ := hcut
    apply_assumption
    exact mk_C10 hs.out hon9
end Vm
end Go.Proofs.YtjhdpmimccpcdaaGreatDoor
/- Chapter 11: the walk of made: the table. Conditions: as written. -/
namespace Go.Proofs.YtjhdpmimccpcdaaGreatDoor
set_option linter.unusedVariables false
set_option maxRecDepth 100000
open Go.RowKit Go.Lib Go.Deep
namespace Vm
set_option maxHeartbeats 8000000 in
theorem mk_B {w W : World} {s : Setup} {m : Sl} {gI gws : Nat} {r : Rc} (hs : SetIn w s m) (hon : On Nob w (AllA ([ImgA gI img0, DocA r r.gK (.slice (some ⟨gws, 0, none⟩) 1 1) x00, BlkA gws 71 #[.pointer (some ⟨r.gK, 0, none⟩)], BlkA w.heap.size 30 (setupC s.cut m)])) W) {u0 u7 u8 u9 u10 u11 u12 u13 u14 u15 u16 u17 u18 u19 u20 u21 u22 u23 u24 u25 u26 u27 u28 u29 u30 u31 u32 u33 u34 u35 u36 u37 u38 u39 u40 u41 u42 u43 u44 u45 u46 u47 u48 u49 u50 u51 u52 u53 u54 u55 u56 u57 u58 u59 u60 u61 u62 u63 u64 u65 u66 u67 u68 u69 u70 u71 u72 u73 u74 u75 u76 u77 u78 u79 u80 u81 u82 u83 u84 u85 u86 u87 u88 u89 u90 u91 u92 u93 u94 u95 u96 u97 u98 u99 u100 u101 u102 u103 u104 u105 u106 u107 u108 u109 u110 u111 u112 u113 u114 u115 u116 u117 u118 u119 u120 u121 u122 u123 u124 u125 u126 u127 u128 u129 u130 u131 u132 u133 u134 u135 u136 u137 u138 u139 u140 u141 u142 u143 u144 u145 u146 u147 u148 u149 u150 u151 u152 u153 u154 u155 u156 u157 u158 u159 u160 u161 u162 u163 u164 u165 u166 u167 u168 u169 u170 u171 u172 u173 u174 u175 u176 u177 u178 u179 u180 u181 u182 u183 u184 u185 u186 u187 u188 u189 u190 u191 u192 u193 u194 u195 u196 u197 u198 u199 u200 u201 u202 u203 u204 u205 u206 u207 u208 u209 u210 u211 u212 u213 u214 u215 u216 u217 u218 u219 u220 u221 u222 u223 u224 u225 u226 u227 u228 u229 u230 u231 u232 u233 u234 : Value} : Code.wp Tryz.prog (codeDrop 4 (Tryz.f11.body.getD .skip)) (bodyPost Tryz.prog Tryz.f11 (PostE (MadeB s) Nob w)) ⟨List.toArray (u0 :: .pointer (some ⟨w.heap.size, 0, none⟩) :: .pointer none :: .pointer (some ⟨r.gW, 0, none⟩) :: .bool true :: .pointer (some ⟨gI, 0, none⟩) :: .int .i64 0 :: u7 :: u8 :: u9 :: u10 :: u11 :: u12 :: u13 :: u14 :: u15 :: u16 :: u17 :: u18 :: u19 :: u20 :: u21 :: u22 :: u23 :: u24 :: u25 :: u26 :: u27 :: u28 :: u29 :: u30 :: u31 :: u32 :: u33 :: u34 :: u35 :: u36 :: u37 :: u38 :: u39 :: u40 :: u41 :: u42 :: u43 :: u44 :: u45 :: u46 :: u47 :: u48 :: u49 :: u50 :: u51 :: u52 :: u53 :: u54 :: u55 :: u56 :: u57 :: u58 :: u59 :: u60 :: u61 :: u62 :: u63 :: u64 :: u65 :: u66 :: u67 :: u68 :: u69 :: u70 :: u71 :: u72 :: u73 :: u74 :: u75 :: u76 :: u77 :: u78 :: u79 :: u80 :: u81 :: u82 :: u83 :: u84 :: u85 :: u86 :: u87 :: u88 :: u89 :: u90 :: u91 :: u92 :: u93 :: u94 :: u95 :: u96 :: u97 :: u98 :: u99 :: u100 :: u101 :: u102 :: u103 :: u104 :: u105 :: u106 :: u107 :: u108 :: u109 :: u110 :: u111 :: u112 :: u113 :: u114 :: u115 :: u116 :: u117 :: u118 :: u119 :: u120 :: u121 :: u122 :: u123 :: u124 :: u125 :: u126 :: u127 :: u128 :: u129 :: u130 :: u131 :: u132 :: u133 :: u134 :: u135 :: u136 :: u137 :: u138 :: u139 :: u140 :: u141 :: u142 :: u143 :: u144 :: u145 :: u146 :: u147 :: u148 :: u149 :: u150 :: u151 :: u152 :: u153 :: u154 :: u155 :: u156 :: u157 :: u158 :: u159 :: u160 :: u161 :: u162 :: u163 :: u164 :: u165 :: u166 :: u167 :: u168 :: u169 :: u170 :: u171 :: u172 :: u173 :: u174 :: u175 :: u176 :: u177 :: u178 :: u179 :: u180 :: u181 :: u182 :: u183 :: u184 :: u185 :: u186 :: u187 :: u188 :: u189 :: u190 :: u191 :: u192 :: u193 :: u194 :: u195 :: u196 :: u197 :: u198 :: u199 :: u200 :: u201 :: u202 :: u203 :: u204 :: u205 :: u206 :: u207 :: u208 :: u209 :: u210 :: u211 :: u212 :: u213 :: u214 :: u215 :: u216 :: u217 :: u218 :: u219 :: u220 :: u221 :: u222 :: u223 :: u224 :: u225 :: u226 :: u227 :: u228 :: u229 :: u230 :: u231 :: u232 :: u233 :: u234 :: []), []⟩ W := by
  conv =>
    arg 2
    unfold Tryz.f11
    dsimp only [codeDrop, Option.getD]
  replace hs := Lib.hid hs
  have hbx : Blk W w.heap.size 30 (setupC s.cut m) := hon.blkAt 3 rfl
  have c0 : W.cell? ⟨w.heap.size, 0, none⟩ = some (.int .i64 s.caps) := hbx.cell 0
  have c1 : W.cell? ⟨w.heap.size, 1, none⟩ = some (.int .i64 s.room) := hbx.cell 1
  have c2 : W.cell? ⟨w.heap.size, 2, none⟩ = some (.string s.inp) := hbx.cell 2
  have pk1 := fun W => pick11 s.caps 32 W hs.out.caps (by omega)
  have pk2 := fun W => pick11 s.room 65537 W hs.out.room (by omega)
  have ht := Lib.hid (hon.drew.make (t_make W.drew (pickS s.caps 32) (pickS s.room 65537) s.inp (pick_no _ _ _ s.inp_le)))
  replace pk1 := Lib.hid pk1
  replace pk2 := Lib.hid pk2
  replace hon := Lib.hid hon
  replace hbx := Lib.hid hbx
  go_upto_region 6 with fail
  go_cut [7, 8] (fun t7 t8 wx => ∃ gT, t7 = .pointer (some ⟨gT, 0, none⟩) ∧ t8 = .int .i64 0 ∧ On Nob w (AllA [TabA gT s.tab0, ImgA gI img0, DocA r r.gK (.slice (some ⟨gws, 0, none⟩) 1 1) x00, BlkA gws 71 #[.pointer (some ⟨r.gK, 0, none⟩)], BlkA w.heap.size 30 (setupC s.cut m)]) wx)
  case first =>
    go_region_held (fun w' => w'.cell? ⟨w.heap.size, 0, none⟩ = some (.int .i64 s.caps) ∧ w'.cell? ⟨w.heap.size, 1, none⟩ = some (.int .i64 s.room) ∧ w'.cell? ⟨w.heap.size, 2, none⟩ = some (.string s.inp)) (go_keep)
      ((first
        | (go_at_call_of 12 (Value.int .i64 s.caps); refine (pk1.out _).mono ?_; rintro e w1 ⟨rfl, rfl⟩; simp only [])
        | (go_at_call_of 12 (Value.int .i64 s.room); refine (pk2.out _).mono ?_; rintro e w1 ⟨rfl, rfl⟩; simp only [])
        | (go_at_call 35; refine ht.out.mono ?_; rintro e w5 ⟨B, ⟨gT, rfl, rfl⟩, h⟩; have hbx1 : Blk w5 w.heap.size 30 (setupC s.cut m) := h.blkAt 4 rfl; have e0 : w5.cell? ⟨w.heap.size, 0, none⟩ = some (.int .i64 s.caps) := hbx1.cell 0; have e1 : w5.cell? ⟨w.heap.size, 1, none⟩ = some (.int .i64 s.room) := hbx1.cell 1; have e2 : w5.cell? ⟨w.heap.size, 2, none⟩ = some (.string s.inp) := hbx1.cell 2; replace hbx1 := Lib.hid hbx1; replace h := Lib.hid h; simp only [])))
    all_goals go_wp2_with fail
    all_goals go_meet
    all_goals exact ⟨_, rfl, rfl, h.out⟩
  case rest =>
    obtain ⟨gT, rfl, rfl, hon8⟩ := hcut
    clear hon hbx c0 c1 c2 ht
    apply_assumption
    exact mk_C hs.out hon8
end Vm
end Go.Proofs.YtjhdpmimccpcdaaGreatDoor
/- Chapter 11: what is made ahead of each law: whatever the law gives, made returns the pair of machines that the plain words say. Conditions: as written. -/
namespace Go.Proofs.YtjhdpmimccpcdaaGreatDoor
set_option linter.unusedVariables false
set_option maxRecDepth 100000
open Go.RowKit Go.Lib Go.Deep
namespace Vm
set_option maxHeartbeats 8000000 in
theorem b_made {w : World} {s : Setup} {m : Sl} (hs : SetIn w s m) : Calls Tryz.prog 11 #[.agg (setupC s m)] w (PostE (MadeB s) Nob w) := by
  have hon0 := (On.refl (A := AllA []) (F := Nob) (w := w) (fun _ h => h)).box (setupC s m) 30
  have hon0 := Lib.hid hon0
  replace hs := Lib.hid hs
  unfold setupC
  go_enter Tryz.func11, Tryz.ntmps11
  have b0 : Blk (w.alloc (.cells (setupC s m) 30)) w.heap.size 30 (setupC s m) := hon0.out.blkAt 0 rfl
  have i1 : s.input.size ≤ 9223372036854775807 := hs.out.inp
  have i2 : s.hidden.size ≤ 9223372036854775807 := hs.out.hid
  have i3 := s.inp_le
  have i4 := s.hid_le
  replace b0 := Lib.hid b0
  go_upto_region 1 with fail
  go_cut [23] (fun t wx => t = .bool s.tooLong ∧ On Nob w (AllA [BlkA w.heap.size 30 (setupC s m)]) wx)
  case first =>
    go_wp2
    all_goals go_meet
    all_goals refine ⟨?_, hon0.out⟩
    all_goals unfold Setup.tooLong
    all_goals congr 1
    · have h1 : decide (4096 < (s.input.size : Int)) = decide (4096 < s.input.size) := by apply decide_eq_decide.2; omega
      have h2 : decide (64 < (s.hidden.size : Int)) = decide (64 < s.hidden.size) := by apply decide_eq_decide.2; omega
      rw [h1, h2]
    · rename_i h1
      have h2 : decide (4096 < s.input.size) = true := by simp at h1 ⊢; omega
      rw [h2]
      rfl
  case rest =>
    obtain ⟨rfl, hon1⟩ := hcut
    have b1 : Blk wc w.heap.size 30 (setupC s m) := hon1.blkAt 0 rfl
    have c2 : wc.cell? ⟨w.heap.size, 2, none⟩ = some (.string s.input) := b1.cell 2
    have c3 : wc.cell? ⟨w.heap.size, 3, none⟩ = some (.string s.hidden) := b1.cell 3
    have f2 := b1.frozen 2
    have f3 := b1.frozen 3
    have ecut0 : s.tooLong = false → On Nob w (AllA [BlkA w.heap.size 30 (setupC s.cut m)]) wc := fun h => by
      have e1 : setupC s.cut m = setupC s m := by
        show setupC { s with input := s.inp, hidden := s.hid } m = _
        unfold Setup.inp Setup.hid
        rw [h]
        rfl
      rw [e1]
      exact hon1
    have ecut1 : s.tooLong = true → On Nob w (AllA [BlkA w.heap.size 30 (setupC s.cut m)]) ((wc.setCell ⟨w.heap.size, 2, none⟩ (.string ⟨#[]⟩)).setCell ⟨w.heap.size, 3, none⟩ (.string ⟨#[]⟩)) := fun h => by
      have e1 : setupC s.cut m = ((setupC s m).setIfInBounds 2 (.string ⟨#[]⟩)).setIfInBounds 3 (.string ⟨#[]⟩) := by
        show setupC { s with input := s.inp, hidden := s.hid } m = _
        unfold Setup.inp Setup.hid
        rw [h]
        rfl
      rw [e1]
      exact (hon1.setAt 0 rfl 2 (.string ⟨#[]⟩)).setAt 0 rfl 3 (.string ⟨#[]⟩)
    obtain ⟨tl, htl⟩ : ∃ tl, s.tooLong = tl := ⟨_, rfl⟩
    rw [htl] at ecut0 ecut1 ⊢
    replace ecut0 := Lib.hid ecut0
    replace ecut1 := Lib.hid ecut1
    replace hon1 := Lib.hid hon1
    replace b1 := Lib.hid b1
    clear htl b0 hon0
    go_upto_if 23 with fail
    go_cut [] (fun wx => On Nob w (AllA [BlkA w.heap.size 30 (setupC s.cut m)]) wx)
    case first =>
      cases tl
      all_goals go_wp2
      all_goals go_meet
      · exact ecut0.out (by first | rfl | trivial)
      · exact ecut1.out (by first | rfl | trivial)
    case rest =>
      have hon2 := hcut
      clear hcut ecut0 ecut1 hon1 b1 c2 c3 f2 f3
      replace hon2 := Lib.hid hon2
      go_upto_region 4 with fail
      go_cut [3, 4] (fun t3 t4 wx => ∃ (r : Rc) (gws : Nat), t3 = .pointer (some ⟨r.gW, 0, none⟩) ∧ t4 = .bool true ∧ On Nob w (AllA [DocA r r.gK (.slice (some ⟨gws, 0, none⟩) 1 1) x00, BlkA gws 71 #[.pointer (some ⟨r.gK, 0, none⟩)], BlkA w.heap.size 30 (setupC s.cut m)]) wx)
      case first =>
        go_wp2_with fail
        refine (small_walk _).mono ?_
        rintro e w1 ⟨rfl, hb1⟩
        have hon3 := Lib.hid (hon2.out.below hb1)
        clear hon2 hb1
        go_wp2_with fail
        refine (hon3.out.make (w_new _)).mono ?_
        rintro e w2 ⟨B, ⟨r, gws, rfl, rfl⟩, hon4⟩
        have hon5 := Lib.hid (md_start hon4)
        clear hon3 hon4
        go_wp2_with fail
        go_meet
        exact ⟨r, gws, rfl, rfl, hon5.out⟩
      case rest =>
        obtain ⟨r, gws, rfl, rfl, hon5⟩ := hcut
        replace hon5 := Lib.hid hon5
        clear hon2
        go_upto_region 5 with fail
        go_cut [5, 6] (fun t5 t6 wx => ∃ gI, t5 = .pointer (some ⟨gI, 0, none⟩) ∧ t6 = .int .i64 0 ∧ On Nob w (AllA [ImgA gI img0, DocA r r.gK (.slice (some ⟨gws, 0, none⟩) 1 1) x00, BlkA gws 71 #[.pointer (some ⟨r.gK, 0, none⟩)], BlkA w.heap.size 30 (setupC s.cut m)]) wx)
        case first =>
          go_wp2_with fail
          refine (small_walk _).mono ?_
          rintro e w1 ⟨rfl, hb1⟩
          have hon6 := Lib.hid (hon5.out.below hb1)
          clear hon5 hb1
          go_wp2_with fail
          refine (hon6.out.make (i_make _)).mono ?_
          rintro e w2 ⟨B, ⟨gI, rfl, rfl⟩, hon7⟩
          replace hon7 := Lib.hid hon7
          clear hon6
          go_wp2_with fail
          go_meet
          exact ⟨gI, rfl, rfl, hon7.out⟩
        case rest =>
          obtain ⟨gI, rfl, rfl, hon7⟩ := hcut
          clear hon5
          apply_assumption
          exact mk_B hs.out hon7
end Vm
end Go.Proofs.YtjhdpmimccpcdaaGreatDoor
/- Chapter 11's example, walked. No condition. -/
namespace Go.Proofs.YtjhdpmimccpcdaaGreatDoor
set_option linter.unusedVariables false
set_option maxRecDepth 100000
open Go.RowKit Go.Lib Go.Deep
namespace Vm
theorem setupX_heads (cs data : List Int) (base : Int) (hc : 16472 + 8 * cs.length ≤ 16960) : (setupX cs data base).mt.ls = 16456 ∧ ∃ n : Nat, (setupX cs data base).mt.hs = n ∧ 16472 ≤ n ∧ n ≤ 16960 := by
  have h1 : (setupX cs data base).mt.ls = ((setupX cs data base).t1.2.l : Int) := rfl
  have h2 : (setupX cs data base).mt.hs = ((setupX cs data base).t1.2.h : Int) := rfl
  rw [h1, h2, setupX_t1 cs data base hc]
  exact ⟨rfl, 16472 + 8 * cs.length, rfl, by omega, hc⟩
theorem shown_v64 : ∀ v ∈ codeShown, V64 v := by
  intro v hv
  simp only [codeShown, List.mem_cons, List.mem_nil_iff, or_false] at hv
  unfold V64
  omega
theorem made_len {B : Asr} {e : Ending} {s : Setup} (h : MadeB s e B) : ∃ (c : Vc) (b : Bc), e = .returned (.pointer (some ⟨b.gB, 0, none⟩)) ∧ B = AllA (mL c s.mt) ∧ Ends c b := by
  obtain ⟨a, b, r, hW, rfl, rfl⟩ := h
  exact ⟨_, b, rfl, rfl, end_ends⟩
theorem On.rebase {w w1 w2 : World} {A : Asr} (hb : Below w.heap.size w w1) (h : On Nob w1 A w2) : On Nob w A w2 := by
  obtain ⟨F', ha, hk, hF⟩ := h
  exact ⟨F', ha, (⟨hb.os, hb.tape, hb.output, hb.size, fun k hk _ => hb.block k hk⟩ : Kept Nob w w1).trans' hk (fun _ h => h.elim), fun k h => (hF k h).imp id (fun h => Nat.le_trans hb.size h)⟩
/-- the law's setup of one word, in memory -/
theorem setIn_lit {W : World} {cs : List Int} {base : Int} {B1 B2 cp : Nat} {t1 t2 : TypeId} (hv : ∀ v ∈ cs, V64 v) (hl : cs.length ≤ 1000000000) (hb : V64 base) (h1 : Blk W B1 t1 (intsC cs)) (h2 : Blk W B2 t2 #[.string nameX, .bool false, .bool false, .slice (some ⟨B1, 0, none⟩) cs.length cp]) : SetIn W (setupX cs [] base) (slX B2) :=
  setIn_x (t1 := t1) (t2 := t2) (cells := intsC cs) (fun k v hk => by
    refine ⟨_, rfl, ?_⟩
    have e2 : ((⟨B1, 0, none⟩ : Addr).add k) = ⟨B1, k, none⟩ := by simp [Addr.add]; intro h; exact h.symm
    rw [e2, h1.cell k]
    simp [intsC, hk]) h1.lt h2 hv hl hb
section
variable {w w' : World} {F : Nat → Prop} {c : Vc} {b : Bc} {s : Mt} {L : List Asr}
/-- small calls on the pair's machine -/
theorem ends_data (he : Ends c b) (h : On F w (AllA (mL c s)) w') : Calls Tryz.prog 16 #[.pointer (some ⟨b.gM, 0, none⟩)] w' (Same (.pointer (some ⟨c.gD, 0, none⟩)) w') := by
  rw [← he.m]
  exact x_data (h.blkAt 0 rfl)
theorem ends_return (he : Ends c b) (h : On F w (AllA (mL c s)) w') : Calls Tryz.prog 18 #[.pointer (some ⟨b.gM, 0, none⟩)] w' (Same (.pointer (some ⟨c.gR, 0, none⟩)) w') := by
  rw [← he.m]
  exact x_return (h.blkAt 0 rfl)
theorem ends_depth (h : On F w (AllA (mL c s)) w') : Calls Tryz.prog 17 #[.pointer (some ⟨c.gD, 0, none⟩)] w' (Same (.int .i64 (s.d : Int)) w') := k_depth (h.stk 2 rfl)
theorem ends_rdepth (h : On F w (AllA (mL c s)) w') : Calls Tryz.prog 17 #[.pointer (some ⟨c.gR, 0, none⟩)] w' (Same (.int .i64 (s.r : Int)) w') := k_depth (h.stk 3 rfl)
theorem ends_peek (h : On F w (AllA (mL c s)) w') (hs : s.Ok) (h0 : 0 < s.d) : Calls Tryz.prog 25 #[.pointer (some ⟨c.gD, 0, none⟩), .int .i64 0] w' (Quiet (.tuple #[.int .i64 (s.top 0), .int .i64 0]) w') := by
  obtain ⟨gb, hi⟩ := h.img 1 rfl
  have h1 := k_peek (h.stk 2 rfl) hi hs.pd hs.dle 0
  unfold peekV at h1
  have h2 : hasB s.d 0 = true := by unfold hasB; simp; omega
  rw [h2] at h1
  exact h1
end
/-- whatever the law gives, in memory: the pair -/
theorem made_ends {w W : World} {s : Setup} {m : Sl} (hb : Below w.heap.size w W) (hs : SetIn W s m) : Calls Tryz.prog 11 #[.agg (setupC s m)] W (fun e w' => ∃ (c : Vc) (b : Bc), e = .returned (.pointer (some ⟨b.gB, 0, none⟩)) ∧ Ends c b ∧ On Nob w (AllA (mL c s.mt)) w') := by
  refine (b_made hs).mono ?_
  rintro e w1 ⟨B, hMB, hon⟩
  obtain ⟨c, b, rfl, rfl, he⟩ := made_len hMB
  exact ⟨c, b, rfl, he, On.rebase hb hon⟩
theorem top_ar (s : Mt) : s.top 0 = ar s 1 0 := by
  unfold ar Mt.args
  rfl
set_option maxHeartbeats 1000000 in
theorem shown_walk (w : World) : Calls Tryz.prog 10 #[] w (Quiet (.bool true) w) := by
  obtain ⟨hrep, hhead, hseen, htells⟩ := setupX_rep codeShown [] 10 (by decide) shown_v64 (by simp) (fun v h => by cases h)
  obtain ⟨hls, hhs⟩ := setupX_heads codeShown [] 10 (by decide)
  obtain ⟨q, hq, hqf, hql, hqr, hqn⟩ := shown_run hrep htells
  have hbx := ((On.refl (A := AllA []) (F := Nob) (w := w) (fun _ h => h)).box (intsC codeShown) 3).box #[.string nameX, .bool false, .bool false, .slice (some ⟨w.heap.size, 0, none⟩) codeShown.length 5] 27
  simp only [World.size_alloc] at hbx
  have hmade := made_ends (s := setupX codeShown [] 10) (m := slX (w.heap.size + 1)) hbx.outB (setIn_lit (cs := codeShown) (base := 10) (B1 := w.heap.size) (B2 := w.heap.size + 1) (cp := 5) shown_v64 (by decide) (by unfold V64; omega) (hbx.blkAt 1 rfl) (hbx.blkAt 0 rfl))
  clear hbx
  generalize (setupX codeShown [] 10).mt = mt at *
  have hlen : q.s.seen.length = 4 := by rw [hqn, hseen]; rfl
  have hsok := hrep.ok
  have hqok := hqr.ok
  have hroom : 1 ≤ mt.pr.rm - mt.r := by rw [hrep.pr, hrep.r]; decide
  have hsn : mt.seen.length ≤ 900000000 := by rw [hseen]; decide
  have htop : q.s.top 0 = 25 := (top_ar _).trans (hqr.arv 1 0 25 (by omega) (by simp) rfl)
  have hqd : q.s.d = 1 := hqr.d
  have hrun := fun (c : Vc) (W : World) (F' : Nat → Prop) (hb : (AllA (mL c mt)).holds W F') (ht : TellOk c true) => v_run hb hsok (by rw [htells]; exact ht) 1 16472 100 (by unfold V64; omega) none hroom hsn q hq
  rw [hqf, hql] at hrun
  have e4 : clip 100 - 96 = 4 := by decide
  rw [e4] at hrun
  replace hmade := Lib.hid hmade
  replace hrun := Lib.hid hrun
  replace hrep := Lib.hid hrep
  replace hhead := Lib.hid hhead
  replace hls := Lib.hid hls
  replace hhs := Lib.hid hhs
  replace hqok := Lib.hid hqok
  replace htop := Lib.hid htop
  replace hqd := Lib.hid hqd
  replace hlen := Lib.hid hlen
  clear hq hqf hql hqr hqn hseen htells hroom hsn hsok e4
  go_enter Tryz.func10, Tryz.ntmps10
  go_wp2_with fail
  refine hmade.out.mono ?_
  rintro e w1 ⟨c, b, rfl, he, hon⟩
  simp only []
  obtain ⟨p, cap, z0, z1, z2, z3, z4, z5, z6, z7⟩ := ends_both he hon
  have hfind := ends_find he hon hrep.out hhead.out hls.out hhs.out
  replace hfind := Lib.hid hfind
  replace hon := Lib.hid hon
  go_wp2_with fail
  refine hfind.out.mono ?_
  rintro e w2 ⟨rfl, hB⟩
  simp only []
  have hon2 := hon.out.below hB
  obtain ⟨p2, cap2, y0, y1, y2, y3, y4, y5, y6, y7⟩ := ends_both he hon2
  have hbw := hon2.box #[.string ⟨#[120]⟩, .int .i64 16456, .int .i64 16472, .bool false, .bool false, .bool false] 49
  have k5 : (w2.alloc (.cells #[.string ⟨#[120]⟩, .int .i64 16456, .int .i64 16472, .bool false, .bool false, .bool false] 49)).cell? ⟨b.gB, 5, none⟩ = some (.pointer (some ⟨b.gM, 0, none⟩)) := (ends_both he hbw.tail).choose_spec.choose_spec.2.2.2.2.2.1
  have k2 : (w2.alloc (.cells #[.string ⟨#[120]⟩, .int .i64 16456, .int .i64 16472, .bool false, .bool false, .bool false] 49)).cell? ⟨w2.heap.size, 2, none⟩ = some (.int .i64 16472) := (hbw.blkAt 0 rfl).cell 2
  have hrn := hbw.drew.callTail (e0 := .returned (.tuple #[.int .i64 0, .int .i64 4])) (L' := mL c q.s) fun F' hb _ _ => hrun.out c _ F' hb he.tell
  rw [he.m] at hrn
  replace hrn := Lib.hid hrn
  replace hbw := Lib.hid hbw
  clear hfind z0 z1 z2 z3 z4 z5 z6 z7 hon hB hrun
  replace hon2 := Lib.hid hon2
  clear y0 y1 y2 y3 y4 y5 y6 y7
  go_wp2_with fail
  go_region_held (fun w' => w'.cell? ⟨b.gB, 5, none⟩ = some (.pointer (some ⟨b.gM, 0, none⟩)) ∧ w'.cell? ⟨w2.heap.size, 2, none⟩ = some (.int .i64 16472)) (go_keep)
    ((go_at_call 20; refine hrn.out.mono ?_; rintro e w3 ⟨rfl, h⟩; simp only []; have n2 : w3.cell? ⟨w2.heap.size, 2, none⟩ = some (.int .i64 16472) := (h.blkAt 0 rfl).cell 2; have h6 := h.tail; obtain ⟨p3, cap3, x0, x1, x2, x3, x4, x5, x6, x7⟩ := ends_both he h6; clear h; replace h6 := Lib.hid h6))
  clear k5 k2 hrn hbw hon2
  have hdat := Lib.hid (fun W (h : On Nob w (AllA (mL c q.s)) W) => ends_data he h)
  have hdep := Lib.hid (fun W (h : On Nob w (AllA (mL c q.s)) W) => ends_depth h)
  have hpk := fun W (h : On Nob w (AllA (mL c q.s)) W) => ends_peek h hqok.out (by rw [hqd.out]; decide)
  rw [htop.out] at hpk
  rw [hqd.out] at hdep
  replace hpk := Lib.hid hpk
  rw [hlen.out] at x7
  go_wp2_with fail
  refine (hdat.out _ h6.out).mono ?_
  rintro e w4 ⟨rfl, rfl⟩
  simp only []
  go_wp2_with fail
  refine (hpk.out _ h6.out).mono ?_
  rintro e w5 ⟨rfl, hB⟩
  simp only []
  have h7 := h6.out.below hB
  obtain ⟨p4, cap4, v0, v1, v2, v3, v4, v5, v6, v7⟩ := ends_both he h7
  rw [hlen.out] at v7
  clear x0 x1 x2 x3 x4 x5 x6 x7 h6 hB n2
  replace h7 := Lib.hid h7
  go_wp2_with fail
  refine (hdat.out _ h7.out).mono ?_
  rintro e w6 ⟨rfl, rfl⟩
  simp only []
  go_wp2_with fail
  refine (hdep.out _ h7.out).mono ?_
  rintro e w7 ⟨rfl, rfl⟩
  simp only []
  go_wp2
  go_ret
  exact ⟨rfl, h7.out.outB⟩
end Vm
end Go.Proofs.YtjhdpmimccpcdaaGreatDoor
