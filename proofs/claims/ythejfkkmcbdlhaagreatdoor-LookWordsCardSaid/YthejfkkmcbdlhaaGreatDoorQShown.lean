/- Chapter 19: the examples that stand at the head of all statements. Conditions: the program's tables lie as their initialisers lay them. -/
import Derived.Test.YthejfkkmcbdlhaaGreatDoorQWords
import Derived.Laws.StructEq
namespace Go.Proofs.YthejfkkmcbdlhaaGreatDoor
set_option linter.unusedVariables false
set_option maxRecDepth 100000
open Go.RowKit Go.Lib
namespace Look
theorem ex0_all : (readAll env ex0 rd0).list = [⟨[115, 113], 1, 1, true, 0⟩, ⟨[101], 3, 5, true, 0⟩, ⟨[98], 0, 0, false, 0⟩] := by decide +kernel
theorem ex1_all : (readAll env ex1 rd0).needs = 1 ∧ (readAll env ex1 rd0).loose = false ∧ isBad (readAll env ex1 rd0) = false := by decide +kernel
def words5 : List (List UInt8) := [[39], [58], [59], [69, 77, 73, 84], [83, 87, 65, 80]]
theorem ex2_all : (∀ k ∈ words5, k ∈ (readAll env ex2 rd0).spoken) ∧ (∀ k ∈ (readAll env ex2 rd0).spoken, k ∈ words5) := by decide +kernel
theorem words5_rise : words5.Pairwise fun a b => cb a b < 0 := by decide +kernel
theorem ex2_words5 {ws : List (List UInt8)} (h : IsWords ws (readAll env ex2 rd0).spoken) : ws = words5 := h.unique ⟨fun k => ⟨ex2_all.1 k, ex2_all.2 k⟩, words5_rise⟩
/-- two effects are compared -/
theorem eff_eql (e1 e2 : Eff) (w : World) : (binOp .eql 34 (.agg #[.string ⟨e1.name.toArray⟩, .int .i64 e1.inn, .int .i64 e1.out, .bool e1.known, .int .i64 (e1.needs : Int)]) (.agg #[.string ⟨e2.name.toArray⟩, .int .i64 e2.inn, .int .i64 e2.out, .bool e2.known, .int .i64 (e2.needs : Int)])).run Tryz.prog w = .ok (.bool (decide (e1 = e2))) w := by
  have u1 := Tryz.underlying3
  have u2 := Tryz.underlying9
  have u3 := Tryz.underlying4
  have hS : Tryz.prog.underlying 34 = some (.struct (Tryz.prog.fieldsOf 34)) := by kernel_rfl
  have hp : Tryz.prog.stoodInHeld 34 = false := by kernel_rfl
  rcases e1 with ⟨n1, i1, o1, k1, d1⟩
  rcases e2 with ⟨n2, i2, o2, k2, d2⟩
  simp only
  rw [run_eql_struct, show (10000 : Nat) = 9999 + 1 from rfl, run_equalIn_agg w 9999 34 _ _ hS hp]
  simp only [Program.fieldsOf, Tryz.underlying34]
  go_simp
  by_cases h1 : n1 = n2 <;> by_cases h2 : i1 = i2 <;> by_cases h3 : o1 = o2 <;> by_cases h4 : k1 = k2 <;> by_cases h5 : d1 = d2 <;> simp [h1, h2, h3, h4, h5] <;> omega
set_option maxHeartbeats 4000000 in
theorem shown_walk (w : World) (hG : Ground w) : Calls Tryz.prog 7 #[] w (Fresh' (.bool true) w) := by
  have h0 : (⟨ex0.toArray⟩ : ByteArray).data.toList = ex0 := rfl
  have h1 : (⟨ex1.toArray⟩ : ByteArray).data.toList = ex1 := rfl
  have h2 : (⟨ex2.toArray⟩ : ByteArray).data.toList = ex2 := rfl
  have s0 : (⟨ex0.toArray⟩ : ByteArray).size ≤ 60000 := by decide +kernel
  have s1 : (⟨ex1.toArray⟩ : ByteArray).size ≤ 60000 := by decide +kernel
  have s2 : (⟨ex2.toArray⟩ : ByteArray).size ≤ 60000 := by decide +kernel
  have hef := effects_walk ⟨ex0.toArray⟩ s0 w hG
  have hnd := fun w1 (h : Kept Nob w w1) => needs_walk ⟨ex1.toArray⟩ s1 w1 (hG.kept h)
  have hwd := fun w1 (h : Kept Nob w w1) => words_walk ⟨ex2.toArray⟩ s2 w1 (hG.kept h)
  rw [h0, ex0_all] at hef
  simp only [ex1_all.1, ex1_all.2.1, ex1_all.2.2] at hnd
  simp only at hwd
  have hwd2 : ∀ w1, Kept Nob w w1 → Calls Tryz.prog 8 #[.string ⟨ex2.toArray⟩] w1 (Post (fun u B => ∃ v, u = .tuple #[v, .int .i64 0] ∧ B = RowS v words5) Nob w1) := fun w1 h => (hwd w1 h).mono fun e w' ⟨v, A', F', ⟨v1, ws, a, b, c⟩, d⟩ => ⟨v, A', F', ⟨v1, a, by rw [b, ex2_words5 c]⟩, d⟩
  have heq := eff_eql ⟨[115, 113], 1, 1, true, 0⟩ ⟨[115, 113], 1, 1, true, 0⟩
  simp only [decide_true] at heq
  have hon0 := On.nob w
  clear hwd s0 s1 s2 h0 h1 h2 hG
  unfold ex0 at hef
  unfold ex1 at hnd
  unfold ex2 at hwd2
  replace hef := Lib.hid hef
  replace hnd := Lib.hid hnd
  replace hwd2 := Lib.hid hwd2
  replace hon0 := Lib.hid hon0
  go_enter Tryz.func7, Tryz.ntmps7
  go_wp2_with fail
  refine (hon0.out.makeA hef.out).mono ?_
  rintro e w1 ⟨v, A', ⟨vl, rfl, rfl⟩, rfl, hon1⟩
  have hk1 := hon1.keptW
  replace hon1 := Lib.hid hon1
  replace hk1 := Lib.hid hk1
  go_wp2_with fail
  refine (hnd.out w1 hk1.out).mono ?_
  rintro e w2 ⟨rfl, hk2⟩
  have hon2 := hon1.out.keptNob hk2
  have hk3 := hk1.out.trans hk2
  clear hon1 hk1 hk2
  replace hon2 := Lib.hid hon2
  replace hk3 := Lib.hid hk3
  go_wp2_with fail
  refine (hon2.out.makeA (hwd2.out w2 hk3.out)).mono ?_
  rintro e w3 ⟨v, A', ⟨vs, rfl, rfl⟩, rfl, hon3⟩
  obtain ⟨_, hrs⟩ := hon3.firstA
  obtain ⟨_, hrl⟩ := hon3.swapA.firstA
  obtain ⟨sg, cap, rfl, -⟩ := effs_form (i := 0) hrl.1 (by decide)
  obtain ⟨sg2, cap2, rfl, -, -⟩ := stack_form (n := 4) hrs.1
  have a0 := effs_cell hrl.1 0 0 (by decide) (by decide)
  have a1 := effs_cell hrl.1 0 1 (by decide) (by decide)
  have a2 := effs_cell hrl.1 0 2 (by decide) (by decide)
  have a3 := effs_cell hrl.1 0 3 (by decide) (by decide)
  have a4 := effs_cell hrl.1 0 4 (by decide) (by decide)
  have b1 := effs_cell hrl.1 1 1 (by decide) (by decide)
  have b2 := effs_cell hrl.1 1 2 (by decide) (by decide)
  have b3 := effs_cell hrl.1 1 3 (by decide) (by decide)
  have c3 := effs_cell hrl.1 2 3 (by decide) (by decide)
  have d0 := strs_at hrs (j := 0) (s := [39]) rfl
  have d3 := strs_at hrs (j := 3) (s := [69, 77, 73, 84]) rfl
  simp [effC] at a0 a1 a2 a3 a4 b1 b2 b3 c3
  have hk4 := hon3.keptW
  clear hon3 hon2 hk3 hrs hrl hon0 hef hnd hwd2
  replace hk4 := Lib.hid hk4
  simp only [List.length_cons, List.length_nil] at *
  go_wp2_with fail
  go_ret
  exact ⟨rfl, hk4.out⟩
end Look
end Go.Proofs.YthejfkkmcbdlhaaGreatDoor
