/- Chapter 5. Conditions: as written. -/
import Derived.Test.YtilaogbkdbbdkaaGreatDoorOm
import Derived.Test.YtilaogbkdbbdkaaGreatDoorZShelf
import Derived.Test.YtilaogbkdbbdkaaGreatDoorZ09
open Go.Proofs.Tryz
namespace Go.Proofs.YtilaogbkdbbdkaaGreatDoor
set_option linter.unusedVariables false
set_option maxHeartbeats 8000000
open Go.RowKit Go.Lib
theorem l5(n:Int)(w:World):Calls prog 159 #[n] w (ax (.bool (decide (2<=n) &&decide (n<=36))) w):=by
 rcases Int.lt_or_le n 2 with h|h
 ·have e: (decide (2<=n) &&decide (n<=36))=false:=by simp;omega
  rw[e]
  go_enter func159,ntmps159
  go_wp2
  all_goals go_ret
  all_goals exact⟨rfl,rfl⟩
 ·rcases Int.lt_or_le 36 n with h2|h2
  ·have e: (decide (2<=n) &&decide (n<=36))=false:=by simp;omega
   have e2:decide (n<=36)=false:=by simp;omega
   rw[e]
   go_enter func159,ntmps159
   go_wp2
   all_goals go_ret
   all_goals exact⟨rfl,rfl⟩
  ·have e: (decide (2<=n) &&decide (n<=36))=true:=by simp;omega
   rw[e]
   go_enter func159,ntmps159
   go_wp2
   all_goals go_ret
   all_goals exact⟨rfl,rfl⟩
theorem uc{a b:ByteArray}(h:a.data.toList=b.data.toList):a=b:=by
 cases a;cases b;simpa [Array.toList_inj]using h
theorem size_data(s:ByteArray):s.data.toList.length=s.size:=by rw[Array.length_toList];rfl
def Pows(w:World):Prop:=Lib.TabIs prog w "internal/strconv.uint64pow10" .u64 Lib.pow10Tab
theorem Pows.below{w w':World}(h:Pows w)(hb:Below w.heap.size w w'):Pows w':=(tabBelow_of_tabIs h) w' hb
theorem Bruijn.below{w w':World}(h:Bruijn w)(hb:Below w.heap.size w w'):Bruijn w':=(tabBelow_of_tabIs h) w' hb
theorem sb(w:World)(k:Nat)(os:Array Obj):Kept Nob w (Go.Sort.grow (w.drewN k) os):=
 ⟨rfl,rfl,rfl,Lib.size_grow w k os,λj hj _=>Lib.heap_grow_old w k os j hj⟩
set_option maxRecDepth 100000 in
theorem Et(u:Nat)(hu64:u<18446744073709551616)(w:World)(hP:Pows w):
 Calls prog 248 #[.int .u64 (u:Int),(10:Int)] w (eQ (.string ⟨(decDigits u).toArray⟩) w):=by
 by_cases hs:u<100
 ·have h1:=λw=>Tryz.internal_strconv_small u hs w
  replace h1:=hid h1
  go_enter func248,ntmps248
  go_wp2_with (go_at_call 302;refine(h1.out _).mono ?_;rintro e w1 ⟨rfl,rfl⟩)
  go_ret
  exact⟨rfl,Kept.refl _ _⟩
 ·have hu1:1<=u:=by omega
  have hnd20:Lib.nDigits u<=20:=by have:=Lib.numDigits_eq u hu1 hu64;split at this<;>omega
  have RY:prog.arrayLen 332=24:=by kernel_rfl
  have hsl: ∀W,(Instr.sliceAt 332 (.pointer w.heap.size) none (some ((Lib.nDigits u:Int):Vl)) none).run prog W = .ok (.slice w.heap.size (Lib.nDigits u) 24) W:=λW=>by
   rw[run_sliceAt_array_h W 332 ⟨w.heap.size,0,none⟩ kR .i64 (Lib.nDigits u:Int) oM (by rw[RY];omega),RY]
   have hsz: (sizeOf (prog.elem 332)).run prog W = .ok 1 W:=by kernel_rfl
   rw[hsz]
   simp[Result.andThen,slicedAt,Addr.add]
  have hH0:=Lib.holds_zero0 w 332 (Lib.nDigits u) oM
  have hcB:=Tryz.internal_strconv_formatBase10 w.heap.size 0 24 u (Array.replicate (Lib.nDigits u) 0) (w.alloc (.cells Lib.zeros24 332)) hH0 (by rw[Array.size_replicate];exact Lib.lt_pow_nDigits u) hu64 (by rw[Array.size_replicate];omega)
  rw[Array.size_replicate]at hcB
  have hnd:=λw h=>Tryz.internal_strconv_numDigits u hu1 hu64 w h
  have hPa:Pows (w.alloc (.cells Lib.zeros24 332)):=hP.below ((Below.refl _ _).alloc (Nat.le_refl _) _)
  have HH0:=hid hH0
  replace⟨hcB,hnd,hPa⟩:=iC hcB hnd hPa
  have iu: (100:Int)<=(u:Int):=by omega
  clear hH0 RY
  go_enter func248,ntmps248
  go_wp2_with (go_at_call 303;refine(hnd.out _ hPa.out).mono ?_;rintro e w1 ⟨rfl,rfl⟩)
  go_at_call 304
  refine hcB.out.mono ?_
  rintro e w2 ⟨rfl,k,v',dk,rfl,hF⟩
  have hcv: (convert 93 9 (.slice w.heap.size (Lib.nDigits u) 24)).run prog ((Go.Sort.putRow (λ(b:UInt8)=>Value.int .u8 (b.toNat:Int)) (w.alloc (.cells Lib.zeros24 332)) w.heap.size 0 dk).drewN k)= .ok (.string ⟨(Lib.decDigits u).toArray⟩) ((Go.Sort.putRow (λ(b:UInt8)=>Value.int .u8 (b.toNat:Int)) (w.alloc (.cells Lib.zeros24 332)) w.heap.size 0 dk).drewN k):=by
   have h:=run_convert_bytes_back (P:=prog) ((Go.Sort.putRow (λ(b:UInt8)=>Value.int .u8 (b.toNat:Int)) (w.alloc (.cells Lib.zeros24 332)) w.heap.size 0 dk).drewN k) 93 9 5 ⟨w.heap.size,0,none⟩ 24 (Lib.decDigits u) underlying93 underlying5 underlying9 (λj hj=>by
    rw[Lib.row_is_numeral hF j hj,Lib.add_plain,World.cell?_drewN]
    exact Go.Sort.cell?_putRow (λ(b:UInt8)=>Value.int .u8 (b.toNat:Int)) _ w.heap.size 0 _ dk HH0.out (by rw[hF.size,Array.size_replicate]) j (by rw[hF.size];rw[Lib.decDigits_length]at hj;exact hj))
   rw[Lib.decDigits_length]at h
   exact h
  obtain⟨os,eo⟩:=Lib.fin_at w (.cells Lib.zeros24 332) dk k 0
  have hkk:Kept Nob w ((Go.Sort.putRow (λ(b:UInt8)=>Value.int .u8 (b.toNat:Int)) (w.alloc (.cells Lib.zeros24 332)) w.heap.size 0 dk).drewN k):=by rw[eo];exact sb w k os
  replace hkk:=hid hkk
  clear eo
  go_wp2
  go_ret
  exact⟨rfl,hkk.out⟩
theorem mB: ∀u,bn 10 u=decDigits u:=by
 intro u
 induction u using Nat.strongRecOn with
 | ind u ih=>
   by_cases h:u<10
   ·rw[ga h,decDigits,dif_pos h]
    unfold dQ
    rw[if_pos h]
   ·rw[jc oM oM,decDigits,dif_neg h,ih (u/10) oM]
    unfold dQ
    rw[if_pos oM]
set_option maxRecDepth 100000 in
theorem L0(u:Nat)(hu64:u<18446744073709551616)(b:Nat)(h2:2<=b)(WY:b<=36)(w:World)(hP:Pows w)(hB:Bruijn w):
 Calls prog 248 #[.int .u64 (u:Int),(b:Int)] w (eQ (.string ⟨(bn b u).toArray⟩) w):=by
 by_cases TK:b=10
 ·subst TK
  rw[mB]
  exact Et u hu64 w hP
 ·have hf:Calls prog 305 #[.slice none 0 0,.int .u64 (u:Int),(b:Int),.bool false,.bool false] w (eQ (.tuple #[.slice none 0 0,.string ⟨(bn b u).toArray⟩]) w):=by
   cases hp:px b
   ·exact CM u u b false (.inl ⟨rfl,rfl⟩) hu64 h2 WY TK hp w
   ·exact Kh u u b false (.inl ⟨rfl,rfl⟩) hu64 h2 WY TK hp w hB
  have hiH: ((b:Int) ==10)=false:=by rw[beq_eq_false_iff_ne];omega
  generalize bn b u=R at *
  replace hf:=hid hf
  clear hP hB TK
  go_enter func248,ntmps248
  go_wp2_with fail
  refine mo hf.out λw1 hk=>?_
  replace hk:=hid hk
  go_wp2
  go_ret
  exact⟨rfl,hk.out⟩
def fw(n:Int)(b:Nat):List UInt8:=(if n<0 then [45]else [])++bn b n.natAbs
set_option maxRecDepth 100000 in
theorem KP(n:Int)(hn : -9223372036854775808<=n∧n<=9223372036854775807)(b:Nat)(h2:2<=b)(WY:b<=36)(w:World)(hP:Pows w)(hB:Bruijn w):
 Calls prog 247 #[n,(b:Int)] w (eQ (.string ⟨(fw n b).toArray⟩) w):=by
 by_cases TK:b=10
 ·subst TK
  have e:fw n 10=itoa n:=by
   unfold fw itoa
   by_cases h:n<0
   ·rw[if_pos h,if_pos h,mB];rfl
   ·rw[if_neg h,if_neg h,mB,show n.natAbs=n.toNat by omega];rfl
  rw[e]
  refine(Tryz.internal_strconv_FormatInt_10 n hn.1 hn.2 w hP).mono ?_
  rintro e w' ⟨rfl,k,os,rfl⟩
  exact⟨rfl,sb w k os⟩
 ·have Sn:IntKind.u64.wrap n= (((n % 18446744073709551616).toNat:Nat):Int):=by rw[IntKind.wrap_u64];omega
  have hu: (decide (n<0)=false∧n.natAbs= (n % 18446744073709551616).toNat)∨(decide (n<0)=true∧IntKind.u64.wrap (-(((n % 18446744073709551616).toNat:Nat):Int))= (n.natAbs:Int)):=by
   by_cases h:n<0
   ·exact .inr ⟨by simpa using h,by rw[IntKind.wrap_u64];omega⟩
   ·exact .inl ⟨by simpa using h,by omega⟩
  have hf:Calls prog 305 #[.slice none 0 0,.int .u64 (((n % 18446744073709551616).toNat:Nat):Int),(b:Int),.bool (decide (n<0)),.bool false] w (eQ (.tuple #[.slice none 0 0,.string ⟨((if decide (n<0)=true then [45]else [])++bn b n.natAbs).toArray⟩]) w):=by
   cases hp:px b
   ·exact CM _ _ b _ hu oM h2 WY TK hp w
   ·exact Kh _ _ b _ hu oM h2 WY TK hp w hB
  have e: (if decide (n<0)=true then [45]else [])++bn b n.natAbs=fw n b:=by unfold fw;simp
  rw[e,<-Sn]at hf
  have hiH: ((b:Int) ==10)=false:=by rw[beq_eq_false_iff_ne];omega
  generalize fw n b=R at *
  replace hf:=hid hf
  clear hP hB TK Sn hu e
  go_enter func247,ntmps247
  go_wp2_with fail
  refine mo hf.out λw1 hk=>?_
  replace hk:=hid hk
  go_wp2
  go_ret
  exact⟨rfl,hk.out⟩
theorem HE(u:Nat)(hu64:u<18446744073709551616)(b:Nat)(h2:2<=b)(WY:b<=36)(w:World)(hP:Pows w)(hB:Bruijn w):
 Calls prog 204 #[.int .u64 (u:Int),(b:Int)] w (eQ (.string ⟨(bn b u).toArray⟩) w):=by
 have hf:=L0 u hu64 b h2 WY w hP hB
 generalize bn b u=R at *
 replace hf:=hid hf
 clear hP hB
 go_enter func204,ntmps204
 go_wp2_with fail
 refine mo hf.out λw1 hk=>?_
 replace hk:=hid hk
 go_wp2
 go_ret
 exact⟨rfl,hk.out⟩
theorem I3(n:Int)(hn : -9223372036854775808<=n∧n<=9223372036854775807)(b:Nat)(h2:2<=b)(WY:b<=36)(w:World)(hP:Pows w)(hB:Bruijn w):
 Calls prog 203 #[n,(b:Int)] w (eQ (.string ⟨(fw n b).toArray⟩) w):=by
 have hf:=KP n hn b h2 WY w hP hB
 generalize fw n b=R at *
 replace hf:=hid hf
 clear hP hB
 go_enter func203,ntmps203
 go_wp2_with fail
 refine mo hf.out λw1 hk=>?_
 replace hk:=hid hk
 go_wp2
 go_ret
 exact⟨rfl,hk.out⟩
theorem uq(n:Int){b:Nat}(h2:2<=b)(WY:b<=36):Lib.toUpperA (fw n b)=ph n b:=by
 have h:=sx h2 WY n.natAbs
 unfold fw ph Lib.toUpperA at *
 by_cases hn:n<0
 ·rw[if_pos hn,if_neg oM,List.map_append,h];rfl
 ·rw[if_neg hn,if_pos oM,List.map_append,h,show n.natAbs=n.toNat by omega];rfl
theorem Bn(n:Int){b:Nat}(h2:2<=b)(WY:b<=36): ∀c∈fw n b,c.toNat<128:=by
 intro c hc
 unfold fw at hc
 rcases List.mem_append.1 hc with hc|hc
 ·split at hc
  ·simp at hc;subst hc;decide
  ·simp at hc
 ·exact pU h2 WY _ c hc
theorem pL(l:List UInt8)(hl:l.length<=100)(h: ∀c∈l,c.toNat<128)(w:World):Calls prog 202 #[.string ⟨l.toArray⟩] w (eQ (.string ⟨(Lib.toUpperA l).toArray⟩) w):=by
 refine mo (Tryz.strings_ToUpper_ascii ⟨l.toArray⟩ w (by simp[ByteArray.size];omega) (λj b hb=>h b (List.mem_of_getElem? hb))) λw' hb=>?_
 exact⟨rfl,⟨hb.os,hb.tape,hb.output,hb.size,λk hk _=>hb.block k hk⟩⟩
def fV(n b:Int):List UInt8:=if 2<=b∧b<=36 then ph n b.toNat else [63]
def eL(n b:Int):List UInt8:=if 2<=b∧b<=36 then oz n b.toNat else [63]
theorem rN(n:Int)(hn : -9223372036854775808<=n∧n<=9223372036854775807)(b:Int)(w:World)(hP:Pows w)(hB:Bruijn w):
 Calls prog 160 #[n,b] w (eQ (.string ⟨(fV n b).toArray⟩) w):=by
 have Rr:=l5 b w
 by_cases hb:2<=b∧b<=36
 ·have e: (decide (2<=b) &&decide (b<=36))=true:=by simp;omega
  rw[e]at Rr
  have hS:fV n b=ph n b.toNat:=by unfold fV;rw[if_pos hb]
  have hf:=I3 n hn b.toNat oM oM w hP hB
  have WG:=λw=>pL (fw n b.toNat) (by have:=vi (b:=b.toNat) oM hn;rw[<-uq n (b:=b.toNat) oM oM]at this;unfold Lib.toUpperA at this;rw[List.length_map]at this;omega) (Bn n oM oM) w
  rw[uq n oM oM,<-hS]at WG
  rw[Int.toNat_of_nonneg oM]at hf
  generalize fV n b=R at *
  generalize fw n b.toNat=R' at *
  replace⟨Rr,hf,WG⟩:=iC Rr hf WG
  clear e hS hP hB hb
  go_enter func160,ntmps160
  go_wp2_with (first
   | (go_at_call 159;refine Rr.out.mono ?_;rintro e w1 ⟨rfl,rfl⟩)
   | (go_at_call 203;refine mo hf.out λw2 SS=>?_)
   | (go_at_call 202;refine mo (WG.out _) λw3 V5=>?_))
  go_ret
  exact⟨rfl,SS.trans V5⟩
 ·have e: (decide (2<=b) &&decide (b<=36))=false:=by simp;omega
  rw[e]at Rr
  have hS:fV n b = [63]:=by unfold fV;rw[if_neg hb]
  rw[hS]
  replace Rr:=hid Rr
  go_enter func160,ntmps160
  go_wp2_with (go_at_call 159;refine Rr.out.mono ?_;rintro e w1 ⟨rfl,rfl⟩)
  go_ret
  exact⟨rfl,Kept.refl _ _⟩
theorem tx(n:Int)(b:Int)(w:World)(hP:Pows w)(hB:Bruijn w):
 Calls prog 161 #[n,b] w (eQ (.string ⟨(eL n b).toArray⟩) w):=by
 have Rr:=l5 b w
 by_cases hb:2<=b∧b<=36
 ·have e: (decide (2<=b) &&decide (b<=36))=true:=by simp;omega
  rw[e]at Rr
  have hu64:lh n<18446744073709551616:=by unfold lh;omega
  have Sn:IntKind.u64.wrap n= ((lh n:Nat):Int):=by rw[IntKind.wrap_u64];unfold lh;omega
  have hS:eL n b=cd b.toNat (lh n):=by unfold eL oz;rw[if_pos hb]
  have hf:=HE (lh n) hu64 b.toNat oM oM w hP hB
  have WG:=λw=>pL (bn b.toNat (lh n)) (by rw[jh];have:=fZ (b:=b.toNat) oM hu64;omega) (pU oM oM _) w
  rw[sx oM oM,<-hS]at WG
  rw[Int.toNat_of_nonneg oM,<-Sn]at hf
  generalize eL n b=R at *
  generalize bn b.toNat (lh n)=R' at *
  replace⟨Rr,hf,WG⟩:=iC Rr hf WG
  clear e hS hP hB hb Sn hu64
  go_enter func161,ntmps161
  go_wp2_with (first
   | (go_at_call 159;refine Rr.out.mono ?_;rintro e w1 ⟨rfl,rfl⟩)
   | (go_at_call 204;refine mo hf.out λw2 SS=>?_)
   | (go_at_call 202;refine mo (WG.out _) λw3 V5=>?_))
  go_ret
  exact⟨rfl,SS.trans V5⟩
 ·have e: (decide (2<=b) &&decide (b<=36))=false:=by simp;omega
  rw[e]at Rr
  have hS:eL n b = [63]:=by unfold eL;rw[if_neg hb]
  rw[hS]
  replace Rr:=hid Rr
  go_enter func161,ntmps161
  go_wp2_with (go_at_call 159;refine Rr.out.mono ?_;rintro e w1 ⟨rfl,rfl⟩)
  go_ret
  exact⟨rfl,Kept.refl _ _⟩
def NJ(n:Int):Prop:= -9223372036854775808<=n∧n<=9223372036854775807
theorem mZ{n:Int}(hn:NJ n)(b:Int): (fV n b).length<=65:=by
 unfold fV
 split
 ·exact vi oM hn
 ·simp
def qt(width:Int)(l:List UInt8):Nat:=(min width 255-l.length).toNat
def qK(n b width:Int):List UInt8:=List.replicate (qt width (fV n b)) 32++fV n b
theorem wv(k:Nat):Lib.repeatL [32] k=List.replicate k (32:UInt8):=by
 induction k with
 | zero=>rfl
 | succ k ih=>rw[List.replicate_succ,<-ih];rfl
set_option maxRecDepth 100000 in
theorem zh(n:Int)(hn:NJ n)(b width:Int)(hw:NJ width)(w:World)(hP:Pows w)(hB:Bruijn w):
 Calls prog 162 #[n,b,width] w (eQ (.string ⟨(qK n b width).toArray⟩) w):=by
 have hp:=rN n hn b w hP hB
 have hl:=mZ hn b
 unfold qK
 generalize fV n b=R at *
 obtain⟨Ui,Q8⟩:=hw
 replace hp:=hid hp
 clear hP hB
 by_cases h: (R.length:Int) <min width 255
 ·have hk: ((qt width R:Nat):Int)=min width 255-R.length:=by unfold qt;omega
  have RO:=λw=>Tryz.strings_Repeat ⟨#[32]⟩ (qt width R) w oM (by show 1*_<=_;omega)
  rw[show({ data:=#[32] }:ByteArray).data.toList = [32]from rfl,wv]at RO
  rw[hk]at RO
  have YU: (⟨(List.replicate (qt width R) 32).toArray⟩:ByteArray)++ ⟨R.toArray⟩= ⟨(List.replicate (qt width R) 32++R).toArray⟩:=by apply uc;simp
  have hrl: (List.replicate (qt width R) (32:UInt8)).length<=255:=by simp;omega
  generalize List.replicate (qt width R) (32:UInt8)=S at *
  have hd:decide ((R.length:Int) <min width 255)=true:=by rw[decide_eq_true_iff];exact h
  replace⟨RO,YU,hk⟩:=iC RO YU hk
  go_enter func162,ntmps162
  go_wp2_with (first
   | (go_at_call 160;refine mo hp.out λw1 Zr=>?_)
   | (go_at_call 205;refine mo (RO.out _) λw2 Rm=>?_))
  go_ret
  exact⟨by rw[<-YU.out];rfl,Zr.trans ⟨Rm.os,Rm.tape,Rm.output,Rm.size,λk hk _=>Rm.block k hk⟩⟩
 ·have hk:qt width R=0:=by unfold qt;omega
  rw[hk]
  have hd:decide ((R.length:Int) <min width 255)=false:=by rw[decide_eq_false_iff_not];exact h
  clear hk
  go_enter func162,ntmps162
  go_wp2_with (go_at_call 160;refine mo hp.out λw1 Zr=>?_)
  go_ret
  exact⟨rfl,Zr⟩
