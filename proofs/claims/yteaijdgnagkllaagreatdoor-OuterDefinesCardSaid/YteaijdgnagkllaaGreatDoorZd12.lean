/- Chapter 5: writing a number, on both sides. Conditions: the tables of powers and of trailing zeros lie as their initialisers lay them; as written. -/
import Derived.Test.YteaijdgnagkllaaGreatDoorZd11
import Derived.Test.YteaijdgnagkllaaGreatDoorZd09
open Go.Proofs.Tryz
namespace Go.Proofs.YteaijdgnagkllaaGreatDoor
set_option linter.unusedVariables false
set_option linter.unusedSimpArgs false
open Go.RowKit Go.Lib
def Pows(w:World):Prop:=Lib.TabIs prog w "internal/strconv.uint64pow10" .u64 Lib.pow10Tab
theorem Pows.below{w w':World}(h:Pows w)(hb:Below w.heap.size w w'):Pows w':=(tabBelow_of_tabIs h) w' hb
theorem Bruijn.below{w w':World}(h:Bruijn w)(hb:Below w.heap.size w w'):Bruijn w':=(tabBelow_of_tabIs h) w' hb
theorem grow_kept'(w:World)(k:Nat)(os:Array Obj):Kept Nob w (Go.Sort.grow (w.drewN k) os):=
 ⟨rfl,rfl,rfl,Lib.size_grow w k os,λj hj _=>Lib.heap_grow_old w k os j hj⟩
theorem digitsL_10: ∀u,digitsL 10 u=decDigits u:=by
 intro u
 induction u using Nat.strongRecOn with
 | ind u ih=>
   by_cases h:u<10
   ·rw[digitsL_small h,decDigits,dif_pos h]
    unfold digLC
    rw[if_pos h]
   ·rw[digitsL_big oM oM,decDigits,dif_neg h,ih (u/10) oM]
    unfold digLC
    rw[if_pos oM]
def printL(n:Int)(b:Nat):List UInt8:=(if n<0 then [45]else [])++digitsL b n.natAbs
set_option maxRecDepth 100000 in
theorem fi_walk(n:Int)(hn : -9223372036854775808<=n∧n<=9223372036854775807)(b:Nat)(h2:2<=b)(h36:b<=36)(w:World)(hP:Pows w)(hB:Bruijn w):
 Calls prog 78 #[n,(b:Int)] w (Fresh' (.string ⟨(printL n b).toArray⟩) w):=by
 by_cases h10:b=10
 ·subst h10
  have e:printL n 10=itoa n:=by
   unfold printL itoa
   by_cases h:n<0
   ·rw[if_pos h,if_pos h,digitsL_10];rfl
   ·rw[if_neg h,if_neg h,digitsL_10,show n.natAbs=n.toNat by omega];rfl
  rw[e]
  refine(Tryz.internal_strconv_FormatInt_10 n hn.1 hn.2 w hP).mono ?_
  rintro e w' ⟨rfl,k,os,rfl⟩
  exact⟨rfl,grow_kept' w k os⟩
 ·have hun:IntKind.u64.wrap n= (((n % 18446744073709551616).toNat:Nat):Int):=by rw[IntKind.wrap_u64];omega
  have hu: (decide (n<0)=false∧n.natAbs= (n % 18446744073709551616).toNat)∨(decide (n<0)=true∧IntKind.u64.wrap (-(((n % 18446744073709551616).toNat:Nat):Int))= (n.natAbs:Int)):=by
   by_cases h:n<0
   ·exact .inr ⟨by simpa using h,by rw[IntKind.wrap_u64];omega⟩
   ·exact .inl ⟨by simpa using h,by omega⟩
  have hf:Calls prog 124 #[.slice none 0 0,.int .u64 (((n % 18446744073709551616).toNat:Nat):Int),(b:Int),.bool (decide (n<0)),.bool false] w (Fresh' (.tuple #[.slice none 0 0,.string ⟨((if decide (n<0)=true then [45]else [])++digitsL b n.natAbs).toArray⟩]) w):=by
   cases hp:isP2 b
   ·exact fmt_gen _ _ b _ hu oM h2 h36 h10 hp w
   ·exact fmt_p2 _ _ b _ hu oM h2 h36 h10 hp w hB
  have e: (if decide (n<0)=true then [45]else [])++digitsL b n.natAbs=printL n b:=by unfold printL;simp
  rw[e,<-hun]at hf
  have h10b: ((b:Int) ==10)=false:=by rw[beq_eq_false_iff_ne];omega
  generalize printL n b=R at *
  replace hf:=hid hf
  clear hP hB h10 hun hu e
  go_enter func78,ntmps78
  go_wp2_with fail
  refine mo hf.out λw1 hk=>?_
  replace hk:=hid hk
  go_wp2
  go_ret
  exact⟨rfl,hk.out⟩
theorem sfi_walk(n:Int)(hn : -9223372036854775808<=n∧n<=9223372036854775807)(b:Nat)(h2:2<=b)(h36:b<=36)(w:World)(hP:Pows w)(hB:Bruijn w):
 Calls prog 45 #[n,(b:Int)] w (Fresh' (.string ⟨(printL n b).toArray⟩) w):=by
 have hf:=fi_walk n hn b h2 h36 w hP hB
 generalize printL n b=R at *
 replace hf:=hid hf
 clear hP hB
 go_enter func45,ntmps45
 go_wp2_with fail
 refine mo hf.out λw1 hk=>?_
 replace hk:=hid hk
 go_wp2
 go_ret
 exact⟨rfl,hk.out⟩
theorem printL_up(n:Int){b:Nat}(h2:2<=b)(h36:b<=36):Lib.toUpperA (printL n b)=printB n b:=by
 have h:=digitsL_up h2 h36 n.natAbs
 unfold printL printB Lib.toUpperA at *
 by_cases hn:n<0
 ·rw[if_pos hn,if_neg oM,List.map_append,h];rfl
 ·rw[if_neg hn,if_pos oM,List.map_append,h,show n.natAbs=n.toNat by omega];rfl
theorem printL_low(n:Int){b:Nat}(h2:2<=b)(h36:b<=36): ∀c∈printL n b,c.toNat<128:=by
 intro c hc
 unfold printL at hc
 rcases List.mem_append.1 hc with hc|hc
 ·split at hc
  ·simp at hc;subst hc;decide
  ·simp at hc
 ·exact digitsL_low h2 h36 _ c hc
theorem upper_ascii(l:List UInt8)(hl:l.length<=100)(h: ∀c∈l,c.toNat<128)(w:World):Calls prog 44 #[.string ⟨l.toArray⟩] w (Fresh' (.string ⟨(Lib.toUpperA l).toArray⟩) w):=by
 refine mo (Tryz.strings_ToUpper_ascii ⟨l.toArray⟩ w (by simp[ByteArray.size];omega) (λj b hb=>h b (List.mem_of_getElem? hb))) λw' hb=>?_
 exact⟨rfl,⟨hb.os,hb.tape,hb.output,hb.size,λk hk _=>hb.block k hk⟩⟩
def printS(n b:Int):List UInt8:=if 2<=b∧b<=36 then printB n b.toNat else [63]
theorem print_walk(n:Int)(hn : -9223372036854775808<=n∧n<=9223372036854775807)(b:Int)(w:World)(hP:Pows w)(hB:Bruijn w):
 Calls prog 15 #[n,b] w (Fresh' (.string ⟨(printS n b).toArray⟩) w):=by
 have hbw:=base_walk b w
 by_cases hb:2<=b∧b<=36
 ·have e: (decide (2<=b) &&decide (b<=36))=true:=by simp;omega
  rw[e]at hbw
  have hS:printS n b=printB n b.toNat:=by unfold printS;rw[if_pos hb]
  have hf:=sfi_walk n hn b.toNat oM oM w hP hB
  have hup:=λw=>upper_ascii (printL n b.toNat) (by have:=print_len (b:=b.toNat) oM hn;rw[<-printL_up n (b:=b.toNat) oM oM]at this;unfold Lib.toUpperA at this;rw[List.length_map]at this;omega) (printL_low n oM oM) w
  rw[printL_up n oM oM,<-hS]at hup
  rw[Int.toNat_of_nonneg oM]at hf
  generalize printS n b=R at *
  generalize printL n b.toNat=R' at *
  replace hbw:=hid hbw
  replace hf:=hid hf
  replace hup:=hid hup
  clear e hS hP hB hb
  go_enter func15,ntmps15
  go_wp2_with (first
   | (go_at_call 43;refine hbw.out.mono ?_;rintro e w1 ⟨rfl,rfl⟩)
   | (go_at_call 45;refine mo hf.out λw2 hk2=>?_)
   | (go_at_call 44;refine mo (hup.out _) λw3 hk3=>?_))
  go_ret
  exact⟨rfl,hk2.trans hk3⟩
 ·have e: (decide (2<=b) &&decide (b<=36))=false:=by simp;omega
  rw[e]at hbw
  have hS:printS n b = [63]:=by unfold printS;rw[if_neg hb]
  rw[hS]
  replace hbw:=hid hbw
  go_enter func15,ntmps15
  go_wp2_with (go_at_call 43;refine hbw.out.mono ?_;rintro e w1 ⟨rfl,rfl⟩)
  go_ret
  exact⟨rfl,Kept.refl _ _⟩
def i64R(n:Int):Prop:= -9223372036854775808<=n∧n<=9223372036854775807
theorem printS_len{n:Int}(hn:i64R n)(b:Int): (printS n b).length<=65:=by
 unfold printS
 split
 ·exact print_len oM hn
 ·simp
end Go.Proofs.YteaijdgnagkllaaGreatDoor
