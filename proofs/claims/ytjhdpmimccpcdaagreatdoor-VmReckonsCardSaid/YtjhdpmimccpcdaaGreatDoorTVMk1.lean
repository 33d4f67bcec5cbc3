/- Chapters 4, 8, 10, 11: small methods of the machine; a new wordlist, a new turtle. Conditions: as written. -/
import Derived.Test.YtjhdpmimccpcdaaGreatDoorT19
import Derived.Test.YtjhdpmimccpcdaaGreatDoorT18
import Derived.Test.YtjhdpmimccpcdaaGreatDoorT05
import Derived.Laws.EntriesVeiled
namespace Go.Proofs.YtjhdpmimccpcdaaGreatDoor
set_option linter.unusedVariables false
set_option maxRecDepth 100000
open Go.RowKit Go.Lib Go.Deep
namespace Vm
section
variable {w w' : World} {F : Nat → Prop} {c : Vc} {s : Mt} {L : List Asr} {gI gb : Nat} {S : Img}
theorem x_data (h : Blk w c.gM 107 (machC c s)) : Calls Tryz.prog 16 #[.pointer (some ⟨c.gM, 0, none⟩)] w (Same (.pointer (some ⟨c.gD, 0, none⟩)) w) := by
  have c5 : w.cell? ⟨c.gM, 5, none⟩ = some (.pointer (some ⟨c.gD, 0, none⟩)) := h.cell 5
  clear h
  go_enter Tryz.func16, Tryz.ntmps16
  go_wp2
  go_ret
  exact ⟨rfl, rfl⟩
theorem x_told (h : On F w (AllA (MachA c s :: L)) w') (ft us hd : Int) : Calls Tryz.prog 47 #[.pointer (some ⟨c.gM, 0, none⟩), .int .i64 ft, .int .i64 us, .int .i64 hd] w' (Got (.returned (.tuple #[])) (AllA (MachA c { s with fault := ft, used := us, hidden := hd } :: L)) F w) := by
  have hb : Blk w' c.gM 107 (machC c s) := h.blkAt 0 rfl
  have c8 : w'.cell? ⟨c.gM, 8, none⟩ = some (.int .i64 s.fault) := hb.cell 8
  have c9 : w'.cell? ⟨c.gM, 9, none⟩ = some (.int .i64 s.used) := hb.cell 9
  have c10 : w'.cell? ⟨c.gM, 10, none⟩ = some (.int .i64 s.hidden) := hb.cell 10
  have f8 := hb.frozen 8
  have f9 := hb.frozen 9
  have f10 := hb.frozen 10
  have hfin := ((h.setAt 0 rfl 8 (.int .i64 ft)).setAt 0 rfl 9 (.int .i64 us)).setAt 0 rfl 10 (.int .i64 hd)
  replace hfin := Lib.hid hfin
  clear hb h
  go_enter Tryz.func47, Tryz.ntmps47
  go_wp2
  refine bodyPost_end (v := .tuple #[]) (results_none (by rfl) _ _ _) (by rfl) ⟨rfl, ?_⟩
  exact hfin.out
def Vc.tells (c : Vc) (v : Value) (tl : List Stp → Asr) (rest : Ext → List Asr) : Vc := { c with tell := v, tl := tl, rest := rest }
theorem x_watch (h : On F w (AllA (MachA c s :: L)) w') (ht : c.tell = .nilFunc) (fn : Fn) (first cap : Array Value) (tl : List Stp → Asr) (rest : Ext → List Asr) : Calls Tryz.prog 48 #[.pointer (some ⟨c.gM, 0, none⟩), .func fn first cap] w' (Got (.returned (.tuple #[])) (AllA (MachA (c.tells (.func fn first cap) tl rest) s :: L)) F w) := by
  have hb : Blk w' c.gM 107 (machC c s) := h.blkAt 0 rfl
  have c7 : w'.cell? ⟨c.gM, 7, none⟩ = some c.tell := hb.cell 7
  rw [ht] at c7
  have f7 := hb.frozen 7
  have hfin := h.setAt 0 rfl 7 (.func fn first cap)
  replace hfin := Lib.hid hfin
  clear hb h ht
  go_enter Tryz.func48, Tryz.ntmps48
  go_wp2
  refine bodyPost_end (v := .tuple #[]) (results_none (by rfl) _ _ _) (by rfl) ⟨rfl, ?_⟩
  exact hfin.out
def MadeDict (gI fr en rg : Nat) (e : Ending) (B : Asr) : Prop := ∃ g, e = .returned (.tuple #[.pointer (some ⟨g, 0, none⟩), .int .i64 0]) ∧ B = DcA gI g fr en ⟨rg, fr, 0⟩
theorem n_dict (hi : IRep w gI gb S) (rg : Nat) (hrg : rg = 1 ∨ rg = 3) : Calls Tryz.prog 37 #[.pointer (some ⟨gI, 0, none⟩), .int .i64 (rg : Int)] w (PostE (MadeDict gI (S.beg rg + 8) (S.beg (rg + 1)) rg) Nob w) := by
  have hon := On.refl (A := AllA []) (F := Nob) (w := w) (fun _ h => h)
  have hsm : S.beg rg ≤ 143360 := by
    rcases hrg with rfl | rfl
    · show 0 ≤ _; omega
    · exact Nat.le_trans (S.beg_mono (by omega) (by omega) (by omega)) hi.ok.small
  have hsp := i_span hi rg (by rcases hrg with rfl | rfl <;> omega) (by rcases hrg with rfl | rfl <;> omega)
  generalize S.beg rg = b at *
  generalize S.beg (rg + 1) = en at *
  replace hsp := Lib.hid hsp
  replace hon := Lib.hid hon
  clear hi
  have hb8 : ((b + 8 : Nat) : Int) = (b : Int) + 8 := by omega
  rcases hrg with rfl | rfl
  · go_enter Tryz.func37, Tryz.ntmps37
    go_wp2_with fail
    refine hsp.out.mono ?_
    rintro e w1 ⟨rfl, n, rfl⟩
    have hfin := (hon.out.drewN n).box (dictC gI (b + 8) en ((b + 8 : Nat) : Int) 0) 146
    replace hfin := Lib.hid hfin
    go_wp2
    go_ret2
    exact ⟨_, ⟨_, rfl, rfl⟩, hfin.out.ofOne⟩
  · go_enter Tryz.func37, Tryz.ntmps37
    go_wp2_with fail
    refine hsp.out.mono ?_
    rintro e w1 ⟨rfl, n, rfl⟩
    have hfin := (hon.out.drewN n).box (dictC gI (b + 8) en ((b + 8 : Nat) : Int) 0) 146
    replace hfin := Lib.hid hfin
    go_wp2
    go_ret2
    exact ⟨_, ⟨_, rfl, rfl⟩, hfin.out.ofOne⟩
end
end Vm
end Go.Proofs.YtjhdpmimccpcdaaGreatDoor
