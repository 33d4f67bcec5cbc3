/- Chapter 7: listings, on both sides. Conditions: the tables lie as their initialisers lay them. -/
import Derived.Test.YtanpbphgmnjdeaaDoorList2
import Derived.Test.YtanpbphgmnjdeaaDoorBld
namespace Go.Proofs.YtanpbphgmnjdeaaDoor
set_option linter.unusedVariables false
open Go.RowKit Go.Lib Go.Deep Go.Shelf

theorem nameOf_100 (op : Int) : (Code.nameOf op).size < 100 := by
  unfold Code.nameOf
  split
  · rename_i h
    have h2 := (Code.inOps_iff op).1 h
    exact Code.name_small ⟨(op - 1).toNat, by omega⟩
  · decide
theorem fetch_lineok {S : Img} {m a : Int} (hS : S.Ok) (h : (S.fetch m a).2 = 0) : LineOk S m a (S.fetch m a).1 := by
  have hn := fetch_next hS h
  unfold Img.fetch at h ⊢
  have hlit := cellV_ok S m (a + 8)
  split at h
  · rename_i h1; exact absurd h h1
  · rename_i h1
    rw [if_neg h1]
    split at h
    · simp at h
    · rename_i h2
      rw [if_neg h2]
      obtain ⟨⟨op, arg, ok⟩, hu⟩ : ∃ x, Code.unpack (S.cellV m a) = x := ⟨_, rfl⟩
      rw [hu] at h h2 ⊢
      simp only at h h2 ⊢
      have hok : ok = true := by cases ok <;> simp at h2 ⊢
      subst hok
      have hr := unpack_arg hu
      have hops := Code.right_ops hr
      have harg : i64r arg := by unfold i64r; omega
      have h0 : i64r 0 := by unfold i64r; omega
      split at h
      · rename_i h3
        rw [if_pos h3]
        split at h
        · rename_i h4; exact absurd h h4
        · rename_i h4
          rw [if_neg h4]
          exact ⟨by omega, harg, hlit, fun e => by simp at e⟩
      · rename_i h3
        rw [if_neg h3]
        split at h
        · rename_i h4
          rw [if_pos h4]
          split at h
          · rename_i h5; exact absurd h h5
          · rename_i h5
            rw [if_neg h5]
            have h6 : S.textF m (a + 8) arg = 0 := by simpa using h5
            exact ⟨by omega, harg, h0, fun _ => ⟨(textF_in hS h6).1, h6⟩⟩
        · rename_i h4
          rw [if_neg h4]
          exact ⟨by omega, harg, h0, fun e => absurd e h4⟩
theorem lineL_len {S : Img} {m a : Int} {i : Inst} (hS : S.Ok) (hL : LineOk S m a i) : (S.lineL m a i).length ≤ 300000 := by
  have ha : i64r a := ⟨hL.at_.1, by have := hL.at_.2; omega⟩
  have h1 := itoa_len a ha
  have h2 := itoa_len i.arg hL.arg
  have h3 := itoa_len i.lit hL.lit
  have h4 := nameOf_100 i.op
  have h5 : (Code.nameOf i.op).data.toList.length = (Code.nameOf i.op).size := by rw [Array.length_toList]; rfl
  have ht : (S.tailL m a i).length ≤ 290000 := by
    unfold Img.tailL
    split
    · simp; omega
    · split
      · rename_i h19
        have htx := text_size hS (hL.text h19).2
        have h6 : (S.text m (a + 8) i.arg).data.toList.length = (S.text m (a + 8) i.arg).size := by rw [Array.length_toList]; rfl
        split
        · simp only [List.length_append, List.length_cons, hexB_len, h6]; omega
        · simp; omega
      · split
        · simp
        · simp; omega
  unfold Img.lineL
  simp only [List.length_append, List.length_cons, h5, List.length_nil]
  omega
/-- what holds at a round's head of a listing: at a, acc is written -/
structure ListRel (S : Img) (m t a0 : Int) (R : List UInt8 × Int) (a : Int) (acc : List UInt8) : Prop where
  rest : S.listL m t a acc = R
  a_ : i64r a
  size : acc.length ≤ 300000 * a.toNat
theorem ListRel.next {S : Img} {m t a0 : Int} {R : List UInt8 × Int} {a : Int} {acc : List UInt8} (h : ListRel S m t a0 R a acc) (hS : S.Ok) (hlt : a < t) (hf : (S.fetch m a).2 = 0) :
    ListRel S m t a0 R (a + 8 * (S.fetch m a).1.cells) (acc ++ S.lineL m a (S.fetch m a).1) := by
  have hn := fetch_next hS hf
  have hl := lineL_len hS (fetch_lineok hS hf)
  have h1 := h.size
  refine ⟨by rw [← listL_next hS hlt hf]; exact h.rest, by unfold i64r; omega, ?_⟩
  rw [List.length_append]
  omega
section
variable {w0 w : World} {g : Nat} {S : Img} {L : List Asr}
set_option maxRecDepth 100000 in
set_option maxHeartbeats 2000000 in
theorem list_walk (h : At w0 w (ImgA g S :: L)) (m a t : Int) (ha : i64r a) (hN : NamesAt w0) (hP : Pow w0) (hS : S.Ok) :
    Calls Tryd.prog 32 #[.pointer (some ⟨g, 0, none⟩), .int .i64 m, .int .i64 a, .int .i64 t] w (Got1 (.tuple #[.string ⟨(S.listL m t a []).1.toArray⟩, .int .i64 (S.listL m t a []).2]) (ImgA g S) w0 L) := by
  have hB := h.bld
  have hrel0 : ListRel S m t a (S.listL m t a []) a [] := ⟨rfl, ha, by simp⟩
  generalize S.listL m t a [] = R at *
  obtain ⟨R1, R2⟩ := R
  replace hB := Lib.hid hB
  replace hrel0 := Lib.hid hrel0
  clear h
  go_enter Tryd.func32, Tryd.ntmps32
  go_wp2
  generalize w.alloc _ = wb at *
  generalize w.heap.size = b at *
  go_loopw [2] (fun i wr => ∃ (a1 : Int) (acc : List UInt8), i = .int .i64 a1 ∧ ListRel S m t a (R1, R2) a1 acc ∧ At w0 wr (BldA b acc :: ImgA g S :: L)) (fun i _ => (143361 - RowKit.intOf i).toNat)
  case atStart => exact ⟨a, [], rfl, hrel0.out, hB.out⟩
  case round =>
    obtain ⟨a1, acc, rfl, hR, hA⟩ := hrel
    clear hB
    rcases Int.lt_or_le a1 t with hlt | hge
    · have hfw := fetch_walk hA.swap m a1
      obtain ⟨⟨⟨i1, i2, i3, i4⟩, f⟩, hfe⟩ : ∃ x, S.fetch m a1 = x := ⟨_, rfl⟩
      rw [hfe] at hfw
      dsimp only [Inst.v] at hfw
      replace hfw := Lib.hid hfw
      by_cases hf0 : f = 0
      · subst hf0
        have hf : (S.fetch m a1).2 = 0 := by rw [hfe]
        have hnx := hR.next hS hlt hf
        have hlo := fetch_lineok hS hf
        have hll := lineL_len hS hlo
        have hfn := fetch_next hS hf
        have hsz := hR.size
        rw [hfe] at hnx hlo hll hfn
        simp only at hnx hlo hll hfn
        obtain ⟨q1, q2, q3, q4⟩ := hfn
        have hlw := fun (w : World) (L' : List Asr) (hA : At w0 w (ImgA g S :: L')) => line_walk hA m a1 ⟨i1, i2, i3, i4⟩ hN hP hS hlo
        dsimp only [Inst.v] at hlw
        generalize S.lineL m a1 ⟨i1, i2, i3, i4⟩ = ln at *
        have hsum : acc.length + (strOf ln).size ≤ 140737488355328 := by rw [strOf_size]; omega
        replace hnx := Lib.hid hnx
        replace hlw := Lib.hid hlw
        replace hfe := Lib.hid hfe
        replace hsum := Lib.hid hsum
        replace hA := Lib.hid hA
        clear hlo hR hf hsz
        go_wp2_with fail
        refine hfw.out.mono ?_
        rintro e w1 ⟨rfl, h1⟩
        have hX : At w0 (w1.alloc (.cells #[.int .i64 i1, .int .i64 i2, .int .i64 i3, .int .i64 i4] 40)) (BlkA w1.heap.size 40 (Inst.c ⟨i1, i2, i3, i4⟩) :: _) := h1.box (Inst.c ⟨i1, i2, i3, i4⟩) 40
        replace hX := Lib.hid hX
        obtain ⟨⟨d0, d1, d2, d3⟩, e0, e1, e2, e3⟩ := box4 (i := ⟨i1, i2, i3, i4⟩) hX.out.blk
        dsimp only at d0 d1 d2 d3 e0 e1 e2 e3
        clear h1
        go_wp2_with fail
        refine (hlw.out _ _ hX.out.swap).mono ?_
        rintro e w2 ⟨rfl, h2⟩
        have h3 := Lib.hid h2.rot3
        have hbw := bld_write h3.out (strOf ln) hsum.out
        replace hbw := Lib.hid hbw
        clear h2 d0 d1 d2 d3 e0 e1 e2 e3
        go_wp2_with fail
        refine hbw.out.mono ?_
        rintro e w3 ⟨rfl, h4⟩
        obtain ⟨⟨d0, d1, d2, d3⟩, e0, e1, e2, e3⟩ := box4 (i := ⟨i1, i2, i3, i4⟩) h4.rot3.blk
        dsimp only at d0 d1 d2 d3 e0 e1 e2 e3
        have h5 := h4.rot3.tail
        rw [show (strOf ln).data.toList = ln by simp [strOf]] at h5
        replace h5 := Lib.hid h5
        clear h4
        go_wp2
        go_roundw
        case rel => exact ⟨a1 + 8 * i4, acc ++ ln, rfl, hnx.out, h5.out⟩
        case measure => simp [RowKit.intOf]; omega
      · have hfb : (f != 0) = true := by rw [bne_iff_ne]; exact hf0
        have hbad := listL_bad (acc := acc) hlt (by rw [hfe]; exact hf0)
        have hrest := hR.rest
        rw [hbad, hfe] at hrest
        injection hrest with r1 r2
        subst r1
        simp only at r2
        subst r2
        clear hR hbad hf0 hfe
        go_wp2_with fail
        refine hfw.out.mono ?_
        rintro e w1 ⟨rfl, h1⟩
        have h2 := Lib.hid (h1.alloc (.cells #[.int .i64 i1, .int .i64 i2, .int .i64 i3, .int .i64 i4] 40))
        clear h1
        go_wp2
        go_ret2
        exact ⟨rfl, h2.out.swap.tail⟩
    · have hrest := hR.rest
      rw [listL_end hge] at hrest
      injection hrest with r1 r2
      subst r1
      subst r2
      have hs := bld_string hA
      replace hs := Lib.hid hs
      clear hR hA
      go_wp2_with fail
      refine hs.out.mono ?_
      rintro e w1 ⟨rfl, h1⟩
      replace h1 := Lib.hid h1
      go_wp2
      go_ret2
      exact ⟨rfl, h1.out⟩
set_option maxRecDepth 100000 in
set_option maxHeartbeats 2000000 in
theorem List_walk (h : At w0 w (RimgA g S :: L)) (m a t : Int) (ha : i64r a) (hS : S.Ok) :
    Calls Tryd.prog 33 #[.pointer (some ⟨g, 0, none⟩), .int .i64 m, .int .i64 a, .int .i64 t] w (Got1 (.tuple #[.string ⟨(S.listL m t a []).1.toArray⟩, .int .i64 (S.listL m t a []).2]) (RimgA g S) w0 L) := by
  have hrel0 : ListRel S m t a (S.listL m t a []) a [] := ⟨rfl, ha, by simp⟩
  generalize S.listL m t a [] = R at *
  obtain ⟨R1, R2⟩ := R
  replace h := Lib.hid h
  replace hrel0 := Lib.hid hrel0
  go_enter Tryd.func33, Tryd.ntmps33
  go_wp2
  go_loopw [2, 10] (fun i s wr => ∃ (a1 : Int) (acc : List UInt8), i = .int .i64 a1 ∧ s = .string ⟨acc.toArray⟩ ∧ ListRel S m t a (R1, R2) a1 acc ∧ At w0 wr (RimgA g S :: L)) (fun i _ _ => (143361 - RowKit.intOf i).toNat)
  case atStart => exact ⟨a, [], rfl, rfl, hrel0.out, h.out⟩
  case round =>
    obtain ⟨a1, acc, rfl, rfl, hR, hA⟩ := hrel
    clear h
    rcases Int.lt_or_le a1 t with hlt | hge
    · have hfw := Fetch_walk hA m a1
      obtain ⟨⟨⟨i1, i2, i3, i4⟩, f⟩, hfe⟩ : ∃ x, S.fetch m a1 = x := ⟨_, rfl⟩
      rw [hfe] at hfw
      dsimp only [Inst.v] at hfw
      replace hfw := Lib.hid hfw
      by_cases hf0 : f = 0
      · subst hf0
        have hf : (S.fetch m a1).2 = 0 := by rw [hfe]
        have hnx := hR.next hS hlt hf
        have hlo := fetch_lineok hS hf
        have hll := lineL_len hS hlo
        have hfn := fetch_next hS hf
        have hsz := hR.size
        rw [hfe] at hnx hlo hll hfn
        simp only at hnx hlo hll hfn
        obtain ⟨q1, q2, q3, q4⟩ := hfn
        have hlw := fun (w : World) (L' : List Asr) (hA : At w0 w (RimgA g S :: L')) => Line_walk hA m a1 ⟨i1, i2, i3, i4⟩ hS hlo
        dsimp only [Inst.v] at hlw
        generalize S.lineL m a1 ⟨i1, i2, i3, i4⟩ = ln at *
        have hal : acc.length ≤ 50000000000 := by omega
        unfold strOf at hlw
        replace hnx := Lib.hid hnx
        replace hlw := Lib.hid hlw
        replace hfe := Lib.hid hfe
        replace hA := Lib.hid hA
        clear hlo hR hf hsz
        go_wp2_with fail
        refine hfw.out.mono ?_
        rintro e w1 ⟨rfl, h1⟩
        have hX : At w0 (w1.alloc (.cells #[.int .i64 i1, .int .i64 i2, .int .i64 i3, .int .i64 i4] 44)) (BlkA w1.heap.size 44 (Inst.c ⟨i1, i2, i3, i4⟩) :: _) := h1.box (Inst.c ⟨i1, i2, i3, i4⟩) 44
        replace hX := Lib.hid hX
        obtain ⟨⟨d0, d1, d2, d3⟩, e0, e1, e2, e3⟩ := box4 (i := ⟨i1, i2, i3, i4⟩) hX.out.blk
        dsimp only at d0 d1 d2 d3 e0 e1 e2 e3
        clear h1
        go_wp2_with fail
        refine (hlw.out _ _ hX.out.swap).mono ?_
        rintro e w2 ⟨rfl, h2⟩
        clear d0 d1 d2 d3 e0 e1 e2 e3
        obtain ⟨⟨d0, d1, d2, d3⟩, e0, e1, e2, e3⟩ := box4 (i := ⟨i1, i2, i3, i4⟩) h2.swap.blk
        dsimp only at d0 d1 d2 d3 e0 e1 e2 e3
        have h5 := Lib.hid h2.swap.tail
        have hcat : (⟨acc.toArray⟩ : ByteArray) ++ ⟨ln.toArray⟩ = ⟨(acc ++ ln).toArray⟩ := by apply ba_ext; simp
        replace hcat := Lib.hid hcat
        clear h2
        go_wp2
        go_roundw
        case rel => exact ⟨a1 + 8 * i4, acc ++ ln, rfl, by rw [hcat.out], hnx.out, h5.out⟩
        case measure => simp [RowKit.intOf]; omega
      · have hfb : (f != 0) = true := by rw [bne_iff_ne]; exact hf0
        have hbad := listL_bad (acc := acc) hlt (by rw [hfe]; exact hf0)
        have hrest := hR.rest
        rw [hbad, hfe] at hrest
        injection hrest with r1 r2
        subst r1
        simp only at r2
        subst r2
        clear hR hbad hf0 hfe
        go_wp2_with fail
        refine hfw.out.mono ?_
        rintro e w1 ⟨rfl, h1⟩
        have h2 := Lib.hid (h1.alloc (.cells #[.int .i64 i1, .int .i64 i2, .int .i64 i3, .int .i64 i4] 44))
        clear h1
        go_wp2
        go_ret2
        exact ⟨rfl, h2.out⟩
    · have hrest := hR.rest
      rw [listL_end hge] at hrest
      injection hrest with r1 r2
      subst r1
      subst r2
      replace hA := Lib.hid hA
      clear hR
      go_wp2
      go_ret2
      exact ⟨rfl, hA.out⟩
end
end Go.Proofs.YtanpbphgmnjdeaaDoor
