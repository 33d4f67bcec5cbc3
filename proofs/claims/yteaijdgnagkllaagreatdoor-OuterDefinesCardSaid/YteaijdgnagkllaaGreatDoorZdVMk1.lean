/- Chapters 4, 8, 10, 11: small methods of the machine; a new wordlist, a new turtle. Conditions: as written. -/
import Derived.Test.YteaijdgnagkllaaGreatDoorZd22
import Derived.Laws.EntriesVeiled
namespace Go.Proofs.YteaijdgnagkllaaGreatDoor
set_option linter.unusedVariables false
set_option linter.unusedSimpArgs false
set_option maxRecDepth 100000
open Go.RowKit Go.Lib Go.Deep
namespace Vm
section
variable {w w':World}{F:Nat->Prop}{c:Vc}{s:Mt}{L:List Asr}{gI gb:Nat}{S:Img}
theorem x_data(h:Blk w c.gM 108 (machC c s)):Calls Tryz.prog 16 #[.pointer (some ⟨c.gM,0,none⟩)] w (Same (.pointer (some ⟨c.gD,0,none⟩)) w):=by
 have c5:w.cell? (c.gM,5)=some (.pointer (some ⟨c.gD,0,none⟩)):=h.cell 5
 clear h
 go_enter Tryz.func16,Tryz.ntmps16
 go_wp2
 go_ret
 exact⟨rfl,rfl⟩
theorem x_base(h:Blk w c.gM 108 (machC c s))(hi:IRep w c.gI gb s.S):Calls Tryz.prog 37 #[.pointer (some ⟨c.gM,0,none⟩)] w (Quiet (s.S.beg 3:Int) w):=by
 have c0:w.cell? (c.gM,0)=some (.pointer (some ⟨c.gI,0,none⟩)):=h.cell 0
 have hsp:=i_span hi 3 (by omega) (by omega)
 replace hsp:=hid hsp
 clear h hi
 go_enter Tryz.func37,Tryz.ntmps37
 go_wp2_with fail
 refine hsp.out.mono ?_
 rintro e w1 ⟨rfl,n,rfl⟩
 go_wp2
 go_ret
 exact⟨rfl,Below.dN (Below.refl _ _) n⟩
def Vc.tells(c:Vc)(v:Value)(tl:List Stp->Asr)(rest:Ext->List Asr):Vc:={ c with tell:=v,tl:=tl,rest:=rest }
def MadeDict(gI fr en rg:Nat)(e:Ending)(B:Asr):Prop:= ∃g,e = .returned (.tuple #[.pointer (some ⟨g,0,none⟩),(0:Int)])∧B=DcA gI g fr en ⟨rg,fr,0⟩
theorem n_dict(hi:IRep w gI gb S)(rg:Nat)(hrg:rg=1∨rg=3):Calls Tryz.prog 29 #[.pointer (some ⟨gI,0,none⟩),(rg:Int)] w (PostE (MadeDict gI (S.beg rg+8) (S.beg (rg+1)) rg) Nob w):=by
 have hon:=On.refl (A:=AllA []) (F:=Nob) (w:=w) (λ_ h=>h)
 have hsm:S.beg rg<=143360:=by
  rcases hrg with rfl|rfl
  ·show 0<=_;omega
  ·exact Nat.le_trans (S.beg_mono (by omega) (by omega) (by omega)) hi.ok.small
 have hsp:=i_span hi rg (by rcases hrg with rfl|rfl<;>omega) (by rcases hrg with rfl|rfl<;>omega)
 generalize S.beg rg=b at *
 generalize S.beg (rg+1)=en at *
 replace hsp:=hid hsp
 replace hon:=hid hon
 clear hi
 have hb8: ((b+8:Nat):Int)= (b:Int) +8:=by omega
 rcases hrg with rfl|rfl
 ·go_enter Tryz.func29,Tryz.ntmps29
  go_wp2_with fail
  refine hsp.out.mono ?_
  rintro e w1 ⟨rfl,n,rfl⟩
  have hfin:=(hon.out.drewN n).box (dictC gI (b+8) en ((b+8:Nat):Int) 0) 146
  replace hfin:=hid hfin
  go_wp2
  go_ret2
  exact⟨_,⟨_,rfl,rfl⟩,hfin.out.ofOne⟩
 ·go_enter Tryz.func29,Tryz.ntmps29
  go_wp2_with fail
  refine hsp.out.mono ?_
  rintro e w1 ⟨rfl,n,rfl⟩
  have hfin:=(hon.out.drewN n).box (dictC gI (b+8) en ((b+8:Nat):Int) 0) 146
  replace hfin:=hid hfin
  go_wp2
  go_ret2
  exact⟨_,⟨_,rfl,rfl⟩,hfin.out.ofOne⟩
end
end Vm
end Go.Proofs.YteaijdgnagkllaaGreatDoor
