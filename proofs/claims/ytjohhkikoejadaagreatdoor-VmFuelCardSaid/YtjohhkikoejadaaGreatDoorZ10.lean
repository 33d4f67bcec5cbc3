/- Chapter 5: reading a number, on both sides. Conditions: as written. -/
import Derived.Test.YtjohhkikoejadaaGreatDoorOm
import Derived.Test.YtjohhkikoejadaaGreatDoorZ02
import Derived.Test.YtjohhkikoejadaaGreatDoorZ08
import Derived.Test.YtjohhkikoejadaaGreatDoorZShelf
import Derived.Deep.DeepCutAuto
import Derived.Deep.CutBlock
import Derived.BigRegion
import Derived.RegionTactic
import Derived.Test.YtjohhkikoejadaaGreatDoorZ09
import Derived.Test.YtjohhkikoejadaaGreatDoorZ07
namespace Go.Proofs.YtjohhkikoejadaaGreatDoor
set_option linter.unusedVariables false
set_option maxHeartbeats 8000000
open Go.RowKit Go.Lib
theorem kT(n:Int)(w:World) :Calls Tryz.prog 150 #[n] w (aA (.bool (decide (2<=n) &&decide (n<=36))) w):=by
 rcases Int.lt_or_le n 2 with h|h
 ·have e: (decide (2<=n) &&decide (n<=36)) =false:=by simp;omega
  rw[e]
  go_enter Tryz.func150,Tryz.ntmps150
  go_wp2
  all_goals go_ret
  all_goals exact⟨rfl,rfl⟩
 ·rcases Int.lt_or_le 36 n with h2|h2
  ·have e: (decide (2<=n) &&decide (n<=36)) =false:=by simp;omega
   have e2:decide (n<=36) =false:=by simp;omega
   rw[e]
   go_enter Tryz.func150,Tryz.ntmps150
   go_wp2
   all_goals go_ret
   all_goals exact⟨rfl,rfl⟩
  ·have e: (decide (2<=n) &&decide (n<=36)) =true:=by simp;omega
   rw[e]
   go_enter Tryz.func150,Tryz.ntmps150
   go_wp2
   all_goals go_ret
   all_goals exact⟨rfl,rfl⟩
theorem tg{a b:ByteArray}(h:a.data.toList=b.data.toList) :a=b:=by
 cases a;cases b;simpa [Array.toList_inj]using h
theorem size_data(s:ByteArray) :s.data.toList.length=s.size:=by rw[Array.length_toList];rfl
def Pows(w:World) :Prop:=Lib.TabIs Tryz.prog w "internal/strconv.uint64pow10" .u64 Lib.pow10Tab
theorem Pows.below{w w':World}(h:Pows w)(hb:Below w.heap.size w w') :Pows w':=(tabBelow_of_tabIs h) w' hb
theorem Bruijn.below{w w':World}(h:Bruijn w)(hb:Below w.heap.size w w') :Bruijn w':=(tabBelow_of_tabIs h) w' hb
theorem rL(w:World)(k:Nat)(os:Array Obj) :Kept Nob w (Go.Sort.grow (w.drewN k) os):=
 ⟨rfl,rfl,rfl,Lib.size_grow w k os,λj hj _=>Lib.heap_grow_old w k os j hj⟩
set_option maxRecDepth 100000 in
theorem DH(u:Nat)(hu64:u<18446744073709551616)(w:World)(hP:Pows w) :
 Calls Tryz.prog 214 #[.int .u64 (u:Int),(10:Int)] w (ey (.string ⟨(decDigits u).toArray⟩) w):=by
 by_cases hs:u<100
 ·have h1:=λw=>Tryz.internal_strconv_small u hs w
  replace h1:=hid h1
  go_enter Tryz.func214,Tryz.ntmps214
  go_wp2_with (go_at_call 232;refine(h1.out _).mono ?_;rintro e w1 ⟨rfl,rfl⟩)
  go_ret
  exact⟨rfl,Kept.refl _ _⟩
 ·have hu1:1<=u:=by omega
  have hnd20:Lib.nDigits u<=20:=by have:=Lib.numDigits_eq u hu1 hu64;split at this<;>omega
  have hal:Tryz.prog.arrayLen 298=24:=by kernel_rfl
  have hsl : ∀W,(Instr.sliceAt 298 (.pointer w.heap.size) none (some ((Lib.nDigits u:Int) :Vl)) none).run Tryz.prog W = .ok (.slice w.heap.size (Lib.nDigits u) 24) W:=λW=>by
   rw[run_sliceAt_array_h W 298 ⟨w.heap.size,0,none⟩ kR .i64 (Lib.nDigits u:Int) oM (by rw[hal];omega),hal]
   have hsz: (sizeOf (Tryz.prog.elem 298)).run Tryz.prog W = .ok 1 W:=by kernel_rfl
   rw[hsz]
   simp[Result.andThen,slicedAt,Addr.add]
  have hH0:=Lib.holds_zero0 w 298 (Lib.nDigits u) oM
  have hfmt:=Tryz.internal_strconv_formatBase10 w.heap.size 0 24 u (Array.replicate (Lib.nDigits u) 0) (w.alloc (.cells Lib.zeros24 298)) hH0 (by rw[Array.size_replicate];exact Lib.lt_pow_nDigits u) hu64 (by rw[Array.size_replicate];omega)
  rw[Array.size_replicate]at hfmt
  have hnd:=λw h=>Tryz.internal_strconv_numDigits u hu1 hu64 w h
  have hPa:Pows (w.alloc (.cells Lib.zeros24 298)):=hP.below ((Below.refl _ _).alloc (Nat.le_refl _) _)
  have HH0:=hid hH0
  replace hfmt:=hid hfmt
  replace hnd:=hid hnd
  replace hPa:=hid hPa
  have iu: (100:Int)<=(u:Int):=by omega
  clear hH0 hal
  go_enter Tryz.func214,Tryz.ntmps214
  go_wp2_with (go_at_call 233;refine(hnd.out _ hPa.out).mono ?_;rintro e w1 ⟨rfl,rfl⟩)
  go_at_call 234
  refine hfmt.out.mono ?_
  rintro e w2 ⟨rfl,k,v',dk,rfl,hF⟩
  have hcv: (convert 92 9 (.slice w.heap.size (Lib.nDigits u) 24)).run Tryz.prog ((Go.Sort.putRow (λ(b:UInt8)=>Value.int .u8 (b.toNat:Int)) (w.alloc (.cells Lib.zeros24 298)) w.heap.size 0 dk).drewN k) = .ok (.string ⟨(Lib.decDigits u).toArray⟩) ((Go.Sort.putRow (λ(b:UInt8)=>Value.int .u8 (b.toNat:Int)) (w.alloc (.cells Lib.zeros24 298)) w.heap.size 0 dk).drewN k):=by
   have h:=run_convert_bytes_back (P:=Tryz.prog) ((Go.Sort.putRow (λ(b:UInt8)=>Value.int .u8 (b.toNat:Int)) (w.alloc (.cells Lib.zeros24 298)) w.heap.size 0 dk).drewN k) 92 9 5 ⟨w.heap.size,0,none⟩ 24 (Lib.decDigits u) Tryz.underlying92 Tryz.underlying5 Tryz.underlying9 (λj hj=>by
    rw[Lib.row_is_numeral hF j hj,Lib.add_plain,World.cell?_drewN]
    exact Go.Sort.cell?_putRow (λ(b:UInt8)=>Value.int .u8 (b.toNat:Int)) _ w.heap.size 0 _ dk HH0.out (by rw[hF.size,Array.size_replicate]) j (by rw[hF.size];rw[Lib.decDigits_length]at hj;exact hj))
   rw[Lib.decDigits_length]at h
   exact h
  obtain⟨os,eo⟩:=Lib.fin_at w (.cells Lib.zeros24 298) dk k 0
  have hkk:Kept Nob w ((Go.Sort.putRow (λ(b:UInt8)=>Value.int .u8 (b.toNat:Int)) (w.alloc (.cells Lib.zeros24 298)) w.heap.size 0 dk).drewN k):=by rw[eo];exact rL w k os
  replace hkk:=hid hkk
  clear eo
  go_wp2
  go_ret
  exact⟨rfl,hkk.out⟩
theorem lR : ∀u,bj 10 u=decDigits u:=by
 intro u
 induction u using Nat.strongRecOn with
 | ind u ih=>
   by_cases h:u<10
   ·rw[fM h,decDigits,dif_pos h]
    unfold dr
    rw[if_pos h]
   ·rw[iG oM oM,decDigits,dif_neg h,ih (u/10) oM]
    unfold dr
    rw[if_pos oM]
set_option maxRecDepth 100000 in
theorem IW(u:Nat)(hu64:u<18446744073709551616)(b:Nat)(h2:2<=b)(h36:b<=36)(w:World)(hP:Pows w)(hB:Bruijn w) :
 Calls Tryz.prog 214 #[.int .u64 (u:Int),(b:Int)] w (ey (.string ⟨(bj b u).toArray⟩) w):=by
 by_cases h10:b=10
 ·subst h10
  rw[lR]
  exact DH u hu64 w hP
 ·have hf:Calls Tryz.prog 235 #[.slice none 0 0,.int .u64 (u:Int),(b:Int),.bool false,.bool false] w (ey (.tuple #[.slice none 0 0,.string ⟨(bj b u).toArray⟩]) w):=by
   cases hp:oh b
   ·exact B5 u u b false (.inl ⟨rfl,rfl⟩) hu64 h2 h36 h10 hp w
   ·exact FJ u u b false (.inl ⟨rfl,rfl⟩) hu64 h2 h36 h10 hp w hB
  have h10b: ((b:Int) ==10) =false:=by rw[beq_eq_false_iff_ne];omega
  generalize bj b u=R at *
  replace hf:=hid hf
  clear hP hB h10
  go_enter Tryz.func214,Tryz.ntmps214
  go_wp2_with fail
  refine hf.out.mono ?_
  rintro e w1 ⟨rfl,hk⟩
  replace hk:=hid hk
  go_wp2
  go_ret
  exact⟨rfl,hk.out⟩
def eR(n:Int)(b:Nat) :List UInt8:=(if n<0 then [45]else []) ++bj b n.natAbs
set_option maxRecDepth 100000 in
theorem Ke(n:Int)(hn : -9223372036854775808<=n∧n<=9223372036854775807)(b:Nat)(h2:2<=b)(h36:b<=36)(w:World)(hP:Pows w)(hB:Bruijn w) :
 Calls Tryz.prog 213 #[n,(b:Int)] w (ey (.string ⟨(eR n b).toArray⟩) w):=by
 by_cases h10:b=10
 ·subst h10
  have e:eR n 10=itoa n:=by
   unfold eR itoa
   by_cases h:n<0
   ·rw[if_pos h,if_pos h,lR];rfl
   ·rw[if_neg h,if_neg h,lR,show n.natAbs=n.toNat by omega];rfl
  rw[e]
  refine(Tryz.internal_strconv_FormatInt_10 n hn.1 hn.2 w hP).mono ?_
  rintro e w' ⟨rfl,k,os,rfl⟩
  exact⟨rfl,rL w k os⟩
 ·have hun:IntKind.u64.wrap n= (((n % 18446744073709551616).toNat:Nat) :Int):=by rw[IntKind.wrap_u64];omega
  have hu: (decide (n<0) =false∧n.natAbs= (n % 18446744073709551616).toNat)∨(decide (n<0) =true∧IntKind.u64.wrap (-(((n % 18446744073709551616).toNat:Nat) :Int)) = (n.natAbs:Int)):=by
   by_cases h:n<0
   ·exact .inr ⟨by simpa using h,by rw[IntKind.wrap_u64];omega⟩
   ·exact .inl ⟨by simpa using h,by omega⟩
  have hf:Calls Tryz.prog 235 #[.slice none 0 0,.int .u64 (((n % 18446744073709551616).toNat:Nat) :Int),(b:Int),.bool (decide (n<0)),.bool false] w (ey (.tuple #[.slice none 0 0,.string ⟨((if decide (n<0) =true then [45]else []) ++bj b n.natAbs).toArray⟩]) w):=by
   cases hp:oh b
   ·exact B5 _ _ b _ hu oM h2 h36 h10 hp w
   ·exact FJ _ _ b _ hu oM h2 h36 h10 hp w hB
  have e: (if decide (n<0) =true then [45]else []) ++bj b n.natAbs=eR n b:=by unfold eR;simp
  rw[e,<-hun]at hf
  have h10b: ((b:Int) ==10) =false:=by rw[beq_eq_false_iff_ne];omega
  generalize eR n b=R at *
  replace hf:=hid hf
  clear hP hB h10 hun hu e
  go_enter Tryz.func213,Tryz.ntmps213
  go_wp2_with fail
  refine hf.out.mono ?_
  rintro e w1 ⟨rfl,hk⟩
  replace hk:=hid hk
  go_wp2
  go_ret
  exact⟨rfl,hk.out⟩
theorem Fy(u:Nat)(hu64:u<18446744073709551616)(b:Nat)(h2:2<=b)(h36:b<=36)(w:World)(hP:Pows w)(hB:Bruijn w) :
 Calls Tryz.prog 190 #[.int .u64 (u:Int),(b:Int)] w (ey (.string ⟨(bj b u).toArray⟩) w):=by
 have hf:=IW u hu64 b h2 h36 w hP hB
 generalize bj b u=R at *
 replace hf:=hid hf
 clear hP hB
 go_enter Tryz.func190,Tryz.ntmps190
 go_wp2_with fail
 refine hf.out.mono ?_
 rintro e w1 ⟨rfl,hk⟩
 replace hk:=hid hk
 go_wp2
 go_ret
 exact⟨rfl,hk.out⟩
theorem Gm(n:Int)(hn : -9223372036854775808<=n∧n<=9223372036854775807)(b:Nat)(h2:2<=b)(h36:b<=36)(w:World)(hP:Pows w)(hB:Bruijn w) :
 Calls Tryz.prog 189 #[n,(b:Int)] w (ey (.string ⟨(eR n b).toArray⟩) w):=by
 have hf:=Ke n hn b h2 h36 w hP hB
 generalize eR n b=R at *
 replace hf:=hid hf
 clear hP hB
 go_enter Tryz.func189,Tryz.ntmps189
 go_wp2_with fail
 refine hf.out.mono ?_
 rintro e w1 ⟨rfl,hk⟩
 replace hk:=hid hk
 go_wp2
 go_ret
 exact⟨rfl,hk.out⟩
theorem tX(n:Int){b:Nat}(h2:2<=b)(h36:b<=36) :Lib.toUpperA (eR n b) =nK n b:=by
 have h:=qP h2 h36 n.natAbs
 unfold eR nK Lib.toUpperA at *
 by_cases hn:n<0
 ·rw[if_pos hn,if_neg oM,List.map_append,h];rfl
 ·rw[if_neg hn,if_pos oM,List.map_append,h,show n.natAbs=n.toNat by omega];rfl
theorem AU(n:Int){b:Nat}(h2:2<=b)(h36:b<=36) : ∀c∈eR n b,c.toNat<128:=by
 intro c hc
 unfold eR at hc
 rcases List.mem_append.1 hc with hc|hc
 ·split at hc
  ·simp at hc;subst hc;decide
  ·simp at hc
 ·exact po h2 h36 _ c hc
theorem o9(l:List UInt8)(hl:l.length<=100)(h : ∀c∈l,c.toNat<128)(w:World) :Calls Tryz.prog 188 #[.string ⟨l.toArray⟩] w (ey (.string ⟨(Lib.toUpperA l).toArray⟩) w):=by
 refine(Tryz.strings_ToUpper_ascii ⟨l.toArray⟩ w (by simp[ByteArray.size];omega) (λj b hb=>h b (List.mem_of_getElem? hb))).mono ?_
 rintro e w' ⟨rfl,hb⟩
 exact⟨rfl,⟨hb.os,hb.tape,hb.output,hb.size,λk hk _=>hb.block k hk⟩⟩
def fG(n b:Int) :List UInt8:=if 2<=b∧b<=36 then nK n b.toNat else [63]
def ei(n b:Int) :List UInt8:=if 2<=b∧b<=36 then oD n b.toNat else [63]
theorem rp(n:Int)(hn : -9223372036854775808<=n∧n<=9223372036854775807)(b:Int)(w:World)(hP:Pows w)(hB:Bruijn w) :
 Calls Tryz.prog 151 #[n,b] w (ey (.string ⟨(fG n b).toArray⟩) w):=by
 have hbw:=kT b w
 by_cases hb:2<=b∧b<=36
 ·have e: (decide (2<=b) &&decide (b<=36)) =true:=by simp;omega
  rw[e]at hbw
  have hS:fG n b=nK n b.toNat:=by unfold fG;rw[if_pos hb]
  have hf:=Gm n hn b.toNat oM oM w hP hB
  have hup:=λw=>o9 (eR n b.toNat) (by have:=uB (b:=b.toNat) oM hn;rw[<-tX n (b:=b.toNat) oM oM]at this;unfold Lib.toUpperA at this;rw[List.length_map]at this;omega) (AU n oM oM) w
  rw[tX n oM oM,<-hS]at hup
  rw[Int.toNat_of_nonneg oM]at hf
  generalize fG n b=R at *
  generalize eR n b.toNat=R' at *
  replace hbw:=hid hbw
  replace hf:=hid hf
  replace hup:=hid hup
  clear e hS hP hB hb
  go_enter Tryz.func151,Tryz.ntmps151
  go_wp2_with (first
   | (go_at_call 150;refine hbw.out.mono ?_;rintro e w1 ⟨rfl,rfl⟩)
   | (go_at_call 189;refine hf.out.mono ?_;rintro e w2 ⟨rfl,hk2⟩)
   | (go_at_call 188;refine(hup.out _).mono ?_;rintro e w3 ⟨rfl,hk3⟩))
  go_ret
  exact⟨rfl,hk2.trans hk3⟩
 ·have e: (decide (2<=b) &&decide (b<=36)) =false:=by simp;omega
  rw[e]at hbw
  have hS:fG n b = [63]:=by unfold fG;rw[if_neg hb]
  rw[hS]
  replace hbw:=hid hbw
  go_enter Tryz.func151,Tryz.ntmps151
  go_wp2_with (go_at_call 150;refine hbw.out.mono ?_;rintro e w1 ⟨rfl,rfl⟩)
  go_ret
  exact⟨rfl,Kept.refl _ _⟩
theorem ss(n:Int)(b:Int)(w:World)(hP:Pows w)(hB:Bruijn w) :
 Calls Tryz.prog 152 #[n,b] w (ey (.string ⟨(ei n b).toArray⟩) w):=by
 have hbw:=kT b w
 by_cases hb:2<=b∧b<=36
 ·have e: (decide (2<=b) &&decide (b<=36)) =true:=by simp;omega
  rw[e]at hbw
  have hu64:ky n<18446744073709551616:=by unfold ky;omega
  have hun:IntKind.u64.wrap n= ((ky n:Nat) :Int):=by rw[IntKind.wrap_u64];unfold ky;omega
  have hS:ei n b=bm b.toNat (ky n):=by unfold ei oD;rw[if_pos hb]
  have hf:=Fy (ky n) hu64 b.toNat oM oM w hP hB
  have hup:=λw=>o9 (bj b.toNat (ky n)) (by rw[iE];have:=fB (b:=b.toNat) oM hu64;omega) (po oM oM _) w
  rw[qP oM oM,<-hS]at hup
  rw[Int.toNat_of_nonneg oM,<-hun]at hf
  generalize ei n b=R at *
  generalize bj b.toNat (ky n) =R' at *
  replace hbw:=hid hbw
  replace hf:=hid hf
  replace hup:=hid hup
  clear e hS hP hB hb hun hu64
  go_enter Tryz.func152,Tryz.ntmps152
  go_wp2_with (first
   | (go_at_call 150;refine hbw.out.mono ?_;rintro e w1 ⟨rfl,rfl⟩)
   | (go_at_call 190;refine hf.out.mono ?_;rintro e w2 ⟨rfl,hk2⟩)
   | (go_at_call 188;refine(hup.out _).mono ?_;rintro e w3 ⟨rfl,hk3⟩))
  go_ret
  exact⟨rfl,hk2.trans hk3⟩
 ·have e: (decide (2<=b) &&decide (b<=36)) =false:=by simp;omega
  rw[e]at hbw
  have hS:ei n b = [63]:=by unfold ei;rw[if_neg hb]
  rw[hS]
  replace hbw:=hid hbw
  go_enter Tryz.func152,Tryz.ntmps152
  go_wp2_with (go_at_call 150;refine hbw.out.mono ?_;rintro e w1 ⟨rfl,rfl⟩)
  go_ret
  exact⟨rfl,Kept.refl _ _⟩
def MP(n:Int) :Prop:= -9223372036854775808<=n∧n<=9223372036854775807
theorem ma{n:Int}(hn:MP n)(b:Int) : (fG n b).length<=65:=by
 unfold fG
 split
 ·exact uB oM hn
 ·simp
def pB(width:Int)(l:List UInt8) :Nat:=(min width 255-l.length).toNat
def pP(n b width:Int) :List UInt8:=List.replicate (pB width (fG n b)) 32++fG n b
theorem uK(k:Nat) :Lib.repeatL [32] k=List.replicate k (32:UInt8):=by
 induction k with
 | zero=>rfl
 | succ k ih=>rw[List.replicate_succ,<-ih];rfl
set_option maxRecDepth 100000 in
theorem wX(n:Int)(hn:MP n)(b width:Int)(hw:MP width)(w:World)(hP:Pows w)(hB:Bruijn w) :
 Calls Tryz.prog 153 #[n,b,width] w (ey (.string ⟨(pP n b width).toArray⟩) w):=by
 have hp:=rp n hn b w hP hB
 have hl:=ma hn b
 unfold pP
 generalize fG n b=R at *
 obtain⟨hw1,hw2⟩:=hw
 replace hp:=hid hp
 clear hP hB
 by_cases h: (R.length:Int) <min width 255
 ·have hk: ((pB width R:Nat) :Int) =min width 255-R.length:=by unfold pB;omega
  have hrep:=λw=>Tryz.strings_Repeat ⟨#[32]⟩ (pB width R) w oM (by show 1*_<=_;omega)
  rw[show({ data:= #[32] }:ByteArray).data.toList = [32]from rfl,uK]at hrep
  rw[hk]at hrep
  have hcat: (⟨(List.replicate (pB width R) 32).toArray⟩ :ByteArray) ++ ⟨R.toArray⟩ = ⟨(List.replicate (pB width R) 32++R).toArray⟩:=by apply tg;simp
  have hrl: (List.replicate (pB width R) (32:UInt8)).length<=255:=by simp;omega
  generalize List.replicate (pB width R) (32:UInt8) =S at *
  have hd:decide ((R.length:Int) <min width 255) =true:=by rw[decide_eq_true_iff];exact h
  replace hrep:=hid hrep
  replace hcat:=hid hcat
  replace hk:=hid hk
  go_enter Tryz.func153,Tryz.ntmps153
  go_wp2_with (first
   | (go_at_call 151;refine hp.out.mono ?_;rintro e w1 ⟨rfl,hk1⟩)
   | (go_at_call 191;refine(hrep.out _).mono ?_;rintro e w2 ⟨rfl,hb2⟩))
  go_ret
  exact⟨by rw[<-hcat.out];rfl,hk1.trans ⟨hb2.os,hb2.tape,hb2.output,hb2.size,λk hk _=>hb2.block k hk⟩⟩
 ·have hk:pB width R=0:=by unfold pB;omega
  rw[hk]
  have hd:decide ((R.length:Int) <min width 255) =false:=by rw[decide_eq_false_iff_not];exact h
  clear hk
  go_enter Tryz.func153,Tryz.ntmps153
  go_wp2_with (go_at_call 151;refine hp.out.mono ?_;rintro e w1 ⟨rfl,hk1⟩)
  go_ret
  exact⟨rfl,hk1⟩
end Go.Proofs.YtjohhkikoejadaaGreatDoor
