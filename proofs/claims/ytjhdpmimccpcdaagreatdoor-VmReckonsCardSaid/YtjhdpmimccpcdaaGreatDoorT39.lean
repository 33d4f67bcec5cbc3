/- Chapter 11: the word x, as the laws lay it. Conditions: as written. -/
import Derived.Test.YtjhdpmimccpcdaaGreatDoorT38
import Derived.Test.YtjhdpmimccpcdaaGreatDoorT32
import Derived.Test.YtjhdpmimccpcdaaGreatDoorT23
namespace Go.Proofs.YtjhdpmimccpcdaaGreatDoor
set_option linter.unusedVariables false
set_option maxRecDepth 100000
open Go.RowKit Go.Lib Go.Deep
namespace Vm
def slX (B : Nat) : Sl := ⟨none, 0, some ⟨B, 0, none⟩, 1, none, 0, none, 0⟩
theorem rowIn_nil {n0 : Nat} {w : World} : RowIn n0 w Nob none [] := ⟨fun j v h => by simp at h, fun v h => by simp at h, by simp⟩
theorem wordsIn_nil {n0 : Nat} {w : World} : WordsIn n0 w Nob none [] := fun j x h => by simp at h
theorem setIn_x {W : World} {B1 B2 cp : Nat} {cs : List Int} {base : Int} {t1 t2 : TypeId} {cells : Array Value} (h1 : Ints W (some ⟨B1, 0, none⟩) cs) (hlt : B1 < W.heap.size) (h2 : Blk W B2 t2 #[.string nameX, .bool false, .bool false, .slice (some ⟨B1, 0, none⟩) cs.length cp])
    (hv : ∀ v ∈ cs, V64 v) (hl : cs.length ≤ 1000000000) (hb : V64 base) : SetIn W (setupX cs [] base) (slX B2) := by
  refine ⟨wordsIn_nil, ?_, rowIn_nil, rowIn_nil, by show 0 ≤ _; omega, by show 1 ≤ _; omega, by show V64 0; unfold V64; omega, by show V64 0; unfold V64; omega, hb, by show (⟨#[]⟩ : ByteArray).size ≤ _; decide, by show (⟨#[]⟩ : ByteArray).size ≤ _; decide⟩
  intro j x hx
  rcases j with _ | j
  · have hx' : (⟨nameX, false, false, cs⟩ : Wrd) = x := by simpa [setupX] using hx
    subst hx'
    exact ⟨B2, 0, some ⟨B1, 0, none⟩, cp, rfl, fun h => h, h2.cell 0, h2.cell 1, h2.cell 2, h2.cell 3, h1, fun a ha => by cases ha; exact ⟨fun h => h, hlt⟩, by show nameX.size ≤ _; decide, hv, hl⟩
  · simp [setupX] at hx
theorem at8_stud {S : Img} (hS : S.Ok) (hL : Lay0 S) (h : Nat) (h1 : 16472 ≤ h) (h2 : h ≤ 16960) : At8 S ⟨3, h, 16456⟩ 16456 16960 := by
  obtain ⟨b2, b3, b4, b5, b6⟩ := hL.begs
  have e1 : Dc.fr S ⟨3, h, 16456⟩ = 16456 := by show S.beg 3 + 8 = _; omega
  have e2 : Dc.lim S ⟨3, h, 16456⟩ = 16960 := b4
  refine ⟨⟨.inr rfl, ?_, ?_, .inr ⟨?_, ?_⟩, ?_, ?_⟩, hS, e1, e2⟩
  · rw [e1]; show 16456 ≤ h; omega
  · rw [e2]; exact h2
  · show 16456 % 8 = 0; rfl
  · rw [e1, e2]; show 16456 ≤ 16456 ∧ 16456 + 16 ≤ 16960; omega
  · rw [e2]; show 16960 % 8 = 0 ∧ S.beg 3 % 8 = 0; omega
  · rw [e2]; show S.beg 3 + 256 ≤ 16960; omega
end Vm
end Go.Proofs.YtjhdpmimccpcdaaGreatDoor
/- Chapter 11: the pair that is made, as its parts are read. Conditions: as written. -/
namespace Go.Proofs.YtjhdpmimccpcdaaGreatDoor
set_option linter.unusedVariables false
set_option maxRecDepth 100000
open Go.RowKit Go.Lib Go.Deep
namespace Vm
section
variable {w W : World} {F : Nat → Prop} {L : List Asr} {b : Bc} {l : List Stp} {c : Vc} {s : Mt} {a : Mw} {r : Rc} {x : Rw}
theorem both_at (i : Nat) (h : On F w (AllA L) W) (hi : L[i]? = some (BothA b l)) : ∃ p cap, Blk W b.gB 39 (bothC b (.slice p l.length cap)) := by
  obtain ⟨F1, v, F2, F3, h1, h2, _⟩ := h.at_ i hi
  obtain ⟨F4, F5, h4, _⟩ := h2
  obtain ⟨hx, ⟨rfl, hn⟩ | ⟨g, cap, cur, rfl, _⟩⟩ := h4.1
  · exact ⟨none, 0, by rw [hn]; exact h1.1⟩
  · exact ⟨_, cap, h1.1⟩
theorem both_read (i : Nat) (h : On F w (AllA L) W) (hi : L[i]? = some (BothA b l)) : ∃ p cap, W.cell? ⟨b.gB, 0, none⟩ = some (.pointer (some ⟨b.gI, 0, none⟩)) ∧ W.cell? ⟨b.gB, 1, none⟩ = some (.pointer (some ⟨b.gK, 0, none⟩)) ∧ W.cell? ⟨b.gB, 2, none⟩ = some (.pointer (some ⟨b.gS, 0, none⟩)) ∧ W.cell? ⟨b.gB, 3, none⟩ = some (.pointer (some ⟨b.gT, 0, none⟩)) ∧ W.cell? ⟨b.gB, 4, none⟩ = some (.pointer (some ⟨b.gP, 0, none⟩)) ∧ W.cell? ⟨b.gB, 5, none⟩ = some (.pointer (some ⟨b.gM, 0, none⟩)) ∧ W.cell? ⟨b.gB, 6, none⟩ = some (.pointer (some ⟨b.gW, 0, none⟩)) ∧ W.cell? ⟨b.gB, 7, none⟩ = some (.slice p l.length cap) := by
  obtain ⟨p, cap, hb⟩ := both_at i h hi
  exact ⟨p, cap, hb.cell 0, hb.cell 1, hb.cell 2, hb.cell 3, hb.cell 4, hb.cell 5, hb.cell 6, hb.cell 7⟩
theorem end_tell : TellOk (endC a b r x) true := .inr ⟨rfl, b.gB, rfl, fun l p w F hl hb => both_tell b l p w F hl hb⟩
/-- where a pair lies: the machine's parts, the pair's -/
structure Ends (c : Vc) (b : Bc) : Prop where
  m : c.gM = b.gM
  i : c.gI = b.gI
  s : c.gS = b.gS
  k : c.gK = b.gK
  t : c.gT = b.gT
  p : c.gP = b.gP
  sfr : c.sfr = 16456
  sto : c.sto = 16960
  tl : c.tl = BothA b
  tell : TellOk c true
theorem end_ends : Ends (endC a b r x) b := ⟨rfl, rfl, rfl, rfl, rfl, rfl, rfl, rfl, rfl, end_tell⟩
/-- the pair among other things -/
theorem ends_both (he : Ends c b) (h : On F w (AllA (mL c s)) W) : ∃ p cap, W.cell? ⟨b.gB, 0, none⟩ = some (.pointer (some ⟨b.gI, 0, none⟩)) ∧ W.cell? ⟨b.gB, 1, none⟩ = some (.pointer (some ⟨b.gK, 0, none⟩)) ∧ W.cell? ⟨b.gB, 2, none⟩ = some (.pointer (some ⟨b.gS, 0, none⟩)) ∧ W.cell? ⟨b.gB, 3, none⟩ = some (.pointer (some ⟨b.gT, 0, none⟩)) ∧ W.cell? ⟨b.gB, 4, none⟩ = some (.pointer (some ⟨b.gP, 0, none⟩)) ∧ W.cell? ⟨b.gB, 5, none⟩ = some (.pointer (some ⟨b.gM, 0, none⟩)) ∧ W.cell? ⟨b.gB, 6, none⟩ = some (.pointer (some ⟨b.gW, 0, none⟩)) ∧ W.cell? ⟨b.gB, 7, none⟩ = some (.slice p s.seen.length cap) :=
  both_read 7 h (by show some (c.tl s.seen) = _; rw [he.tl])
/-- FIND of x in the student's list -/
theorem ends_find (he : Ends c b) (h : On F w (AllA (mL c s)) W) {cs ds rs : List Int} (hr : Rep s 16472 cs ds rs) (hh : HeadX s.S) (hx : s.ls = 16456) (hhs : ∃ n : Nat, s.hs = n ∧ 16472 ≤ n ∧ n ≤ 16960) :
    Calls Tryz.prog 19 #[.pointer (some ⟨b.gS, 0, none⟩), .string ⟨#[120]⟩] W (Quiet (.tuple #[.agg #[.string ⟨#[120]⟩, .int .i64 16456, .int .i64 16472, .bool false, .bool false, .bool false], .bool true]) W) := by
  obtain ⟨n, hn, h1, h2⟩ := hhs
  have hd : Blk W c.gS 146 (dictC c.gI c.sfr c.sto s.hs s.ls) := h.blkAt 5 rfl
  rw [he.s, he.sfr, he.sto, hn, hx] at hd
  obtain ⟨gb, hi⟩ := h.img 1 rfl
  have hf := d_find (D := ⟨3, n, 16456⟩) W hd hi (at8_stud hr.img hr.lay n h1 h2) nameX (by decide)
  rw [find_x (D := ⟨3, n, 16456⟩) hr.img hr.lay hh rfl rfl] at hf
  exact hf
end
end Vm
end Go.Proofs.YtjhdpmimccpcdaaGreatDoor
