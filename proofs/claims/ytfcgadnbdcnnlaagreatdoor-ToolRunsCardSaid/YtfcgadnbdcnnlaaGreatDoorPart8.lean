/- A part of the proof; no conditions. -/
import Derived.Test.YtfcgadnbdcnnlaaGreatDoorPart7
set_option linter.unusedSimpArgs false
set_option linter.unusedVariables false
namespace Go.Proofs.YtfcgadnbdcnnlaaGreatDoor
open Go Go.Am Go.Asm Go.Mach
def bitC (l:List Nat):List C:=l.map fun x:Nat=>C.d (.int .i64 x)
def bitD (l:List Nat):D:=.sl (l.map fun x:Nat=>[.int .i64 x])
theorem bitC_get {l:List Nat} {i x:Nat} (h:l[i]? = some x):(bitC l)[i]? = some (.d (.int .i64 x)):=by unfold bitC; rw [List.getElem?_map,h]; rfl
theorem bitD_get {l:List Nat} {i x:Nat} (h:l[i]? = some x):(l.map fun x:Nat=>[D.int .i64 x])[i]? = some [.int .i64 x]:=by rw [List.getElem?_map,h]; rfl
theorem take_bits {a k:Nat} (h:k < 32):(bitsN a).take (k + 1) = (bitsN a).take k ++ [a / 2 ^ k % 2]:=by rw [List.take_add_one,bitsN_get h]; rfl
set_option maxHeartbeats 4000000 in
theorem flag_A (b:Bool):PureR Tryz.prog 343 [bv b] (· = iv .u32 (if b = true then 1 else 0:Nat)):=by
 refine pure_of_wp Tt_ok mixed Tryz.func343 rfl (by rfl) [2] rfl (by kernel_rfl) (by simp [Tryz.ntmps343]) fun g=>?_
 cases b <;> simp only [go_sem,↓reduceIte]
set_option maxHeartbeats 4000000 in
theorem Bits_R (a:Nat) (ha:a < 4294967296) {g:Nat → Nat} {ob:Obs}:FunR Tryz.prog 376 [iv .u32 a] g ob (fun r g' ob'=>r = .one (.osl 2014 (g' 2014) 1 0 32) ∧ ob' 2014 = some (bitC (bitsN a)) ∧ ∀ i,i < 2000 → g' i = g i ∧ ob' i = ob i):=by
 refine fun_of_wp 2000 Tt_ok mixed Tryz.func376 rfl (by rfl) [2] rfl (by kernel_rfl) (by simp [Tryz.ntmps376]) ?_
 simp only [go_sem,↓reduceIte]
 refine loop_introB (fun n st=>∃ k:Nat,n + k = 32 ∧ st.f 0 = iv .u32 (a / 2 ^ k:Nat) ∧ st.f 4 = iv .i64 (k:Nat) ∧ ((k = 0 ∧ st.f 3 = .one (.d .nsl)) ∨ (0 < k ∧ st.f 3 = .one (.osl 2014 (st.gen 2014) 1 0 k) ∧ st.obj 2014 = some (bitC ((bitsN a).take k)))) ∧ ∀ i,i < 2000 → st.gen i = g i ∧ st.obj i = ob i) 32 ?_ ?_
 ·refine ⟨0,rfl,?_⟩
  simp only [go_sem,↓reduceIte,Nat.pow_zero,Nat.div_one]
  exact .inl trivial
 rintro n f g' ob' ⟨k,hk,q0,q4,q3,q⟩
 simp only at q0 q4 q3 q
 have hw:=wrap_succ (k:=k) (by omega)
 by_cases hlt:k < 32
 ·have hlti:(k:Int) < 32:=by omega
  have hvl:a / 2 ^ k < 4294967296:=Nat.lt_of_le_of_lt (Nat.div_le_self _ _) ha
  have hv2:a / 2 ^ (k + 1) = a / 2 ^ k / 2:=by rw [Nat.pow_succ,Nat.div_div_eq_div_mul]
  have htk:=take_bits (a:=a) hlt
  generalize a / 2 ^ k = v at q0 hvl hv2 htk
  have hm:(v:Int).tmod 2 = ((v % 2:Nat):Int):=rfl
  have hd:(v:Int).tdiv 2 = ((v / 2:Nat):Int):=rfl
  have hwm:IntKind.i64.wrap ((v % 2:Nat):Int) = ((v % 2:Nat):Int):=by rw [wrap_i64] <;> omega
  have hwm2:IntKind.u32.wrap ((v % 2:Nat):Int) = ((v % 2:Nat):Int):=w32_lt (by omega)
  have hwd:IntKind.u32.wrap ((v / 2:Nat):Int) = ((v / 2:Nat):Int):=w32_lt (by omega)
  rcases q3 with ⟨hk0,q3⟩ | ⟨hk0,q3,qo⟩
  ·simp only [go_sem,↓reduceIte,q0,q3,q4,hlti,hm,hd,hwm,hwm2,hwd,hw]
   refine ⟨⟨by decide,by decide⟩,?_⟩
   refine round_end (P:=Tryz.prog) (n - 1) (by omega) ⟨k + 1,by omega,?_⟩
   simp only [go_sem,↓reduceIte,hv2]
   subst hk0
   refine ⟨.inr ⟨by omega,rfl,?_⟩,fun i hi=>?_⟩
   ·rw [htk]; rfl
   ·(repeat rw [if_neg (by omega)]); exact q i hi
  ·simp only [go_sem,↓reduceIte,q0,q3,q4,qo,hlti,hm,hd,hwm,hwm2,hwd,hw]
   refine ⟨by simp [bitC,bitsN_len]; omega,⟨by decide,by omega⟩,?_⟩
   refine round_end (P:=Tryz.prog) (n - 1) (by omega) ⟨k + 1,by omega,?_⟩
   simp only [go_sem,↓reduceIte,hv2]
   refine ⟨.inr ⟨by omega,?_⟩,fun i hi=>?_⟩
   ·rw [htk,List.take_of_length_le (by simp [bitC,bitsN_len]; omega)]; simp [bitC]
   ·(repeat rw [if_neg (by omega)]); exact q i hi
 ·have hlti:¬ (k:Int) < 32:=by omega
  obtain rfl:k = 32:=by omega
  rcases q3 with ⟨hk0,q3⟩ | ⟨hk0,q3,qo⟩
  ·omega
  rw [List.take_of_length_le (by rw [bitsN_len]; decide)] at qo
  simp only [go_sem,↓reduceIte,q0,q3,q4,show ¬ ((32:Nat):Int) < 32 by decide]
  exact retF_of (.inl rfl) ⟨by simp [resAV,upd],qo,q⟩
set_option maxHeartbeats 4000000 in
theorem shiftR_A (op a b:Nat) (h12:op = 12 ∨ op = 13) (ha:a < 4294967296) (hb:b < 4294967296):PureR Tryz.prog 342 [iv .i64 op,iv .u32 a,iv .u32 b] (· = iv .u32 (if 31 < b then 0 else if op = 12 then a * 2 ^ b % 4294967296 else a / 2 ^ b:Nat)):=by
 refine pure_of_wp Tt_ok mixed Tryz.func342 rfl (by rfl) [6] rfl (by kernel_rfl) (by simp [Tryz.ntmps342]) fun g=>?_
 by_cases h0:31 < b
 ·have h0i:(32:Int) ≤ (b:Int):=by omega
  rw [if_pos h0]
  simp only [go_sem,↓reduceIte,h0i]
 have h0i:¬ (32:Int) ≤ (b:Int):=by omega
 rw [if_neg h0]
 have ha64:IntKind.u64.wrap ((a:Nat):Int) = ((a:Nat):Int):=by rw [IntKind.wrap_u64]; omega
 simp only [go_sem,↓reduceIte,h0i,ha64]
 refine loop_intro (fun n st=>∃ k:Nat,n + k = b ∧ st.f 0 = iv .i64 op ∧ st.f 2 = iv .u32 b ∧ st.f 8 = iv .u32 (k:Nat) ∧ st.f 7 = iv .u64 (if op = 12 then a * 2 ^ k % 4294967296 else a / 2 ^ k:Nat)) b ?_ ?_
 ·refine ⟨0,rfl,?_⟩
  simp only [go_sem,↓reduceIte,Nat.pow_zero,Nat.mul_one,Nat.div_one,Nat.mod_eq_of_lt ha,ite_self]
  try rfl
 rintro n f g' ob ⟨k,hk,q0,q2,q8,q7⟩
 simp only at q0 q2 q8 q7
 have hw:IntKind.u32.wrap ((k:Int) + 1) = ((k + 1:Nat):Int):=by rw [show (k:Int) + 1 = ((k + 1:Nat):Int) by omega]; exact w32_lt (by omega)
 by_cases hlt:k < b
 ·have hlti:(k:Int) < (b:Int):=by omega
  have hv2:a / 2 ^ (k + 1) = a / 2 ^ k / 2:=by rw [Nat.pow_succ,Nat.div_div_eq_div_mul]
  have hv3:a * 2 ^ (k + 1) % 4294967296 = 2 * (a * 2 ^ k % 4294967296) % 4294967296:=by rw [Nat.pow_succ,← Nat.mul_assoc]; omega
  have hdl:=Nat.div_le_self a (2 ^ k)
  rcases h12 with rfl | rfl
  ·rw [if_pos rfl] at q7
   have hml:=Nat.mod_lt (a * 2 ^ k) (show 4294967296 > 0 by decide)
   generalize a * 2 ^ k % 4294967296 = v at q7 hv3 hml
   have e1:IntKind.u64.wrap (2 * (v:Int)) = ((2 * v:Nat):Int):=by rw [IntKind.wrap_u64]; omega
   have e2:((2 * v:Nat):Int).tmod 4294967296 = ((2 * v % 4294967296:Nat):Int):=rfl
   have e3:IntKind.u64.wrap ((2 * v % 4294967296:Nat):Int) = ((2 * v % 4294967296:Nat):Int):=by rw [IntKind.wrap_u64]; omega
   simp only [go_sem,↓reduceIte,q0,q2,q8,q7,hlti,hw,e1,e2,e3]
   refine round_end (n - 1) (by omega) ⟨k + 1,by omega,?_⟩
   simp only [go_sem,↓reduceIte,q0,q2,hv3]
  ·rw [if_neg (by decide)] at q7
   generalize a / 2 ^ k = v at q7 hv2 hdl
   have e2:(v:Int).tdiv 2 = ((v / 2:Nat):Int):=rfl
   have e3:IntKind.u64.wrap ((v / 2:Nat):Int) = ((v / 2:Nat):Int):=by rw [IntKind.wrap_u64]; omega
   simp only [go_sem,↓reduceIte,q0,q2,q8,q7,hlti,hw,e2,e3]
   refine round_end (n - 1) (by omega) ⟨k + 1,by omega,?_⟩
   simp only [go_sem,↓reduceIte,q0,q2,hv2]
 ·have hlti:¬ (k:Int) < (b:Int):=by omega
  obtain rfl:k = b:=by omega
  have hdl:=Nat.div_le_self a (2 ^ k)
  have hml:=Nat.mod_lt (a * 2 ^ k) (show 4294967296 > 0 by decide)
  have hxl:(if op = 12 then a * 2 ^ k % 4294967296 else a / 2 ^ k) < 4294967296:=iteQ (Q:=(· < 4294967296)) (fun _=>hml) fun _=>by omega
  generalize (if op = 12 then a * 2 ^ k % 4294967296 else a / 2 ^ k) = v at q7 hxl ⊢
  simp only [go_sem,↓reduceIte,q0,q2,q8,q7,hlti,w32_lt hxl]
set_option maxHeartbeats 4000000 in
theorem Of_A (l:List Nat) (hl:l.length = 32) (h1:∀ x ∈ l,x ≤ 1):PureR Tryz.prog 377 [.one (.d (bitD l))] (· = iv .u32 (ofB l:Nat)):=by
 refine pure_of_wp Tt_ok mixed Tryz.func377 rfl (by rfl) [2] rfl (by kernel_rfl) (by simp [Tryz.ntmps377]) fun g=>?_
 unfold bitD
 simp only [go_sem,↓reduceIte,List.length_map,hl]
 refine loop_intro (fun n st=>∃ k:Nat,n = k ∧ k ≤ 32 ∧ st.f 0 = .one (.d (.sl (l.map fun x:Nat=>[.int .i64 x]))) ∧ st.f 4 = iv .i64 ((k:Int) - 1) ∧ st.f 3 = iv .u64 (ofB (l.drop k):Nat)) 32 ?_ ?_
 ·refine ⟨32,rfl,Nat.le_refl _,?_⟩
  simp only [go_sem,↓reduceIte,List.drop_of_length_le (Nat.le_of_eq hl)]
  exact ⟨by decide,rfl⟩
 rintro n f g' ob ⟨k,rfl,hk,q0,q4,q3⟩
 simp only at q0 q4 q3
 cases n with
 | zero =>
   have hno:¬ (0:Int) ≤ 0 - 1:=by decide
   have hv:=ofB_lt h1
   rw [hl] at hv
   have e2:((ofB l:Nat):Int).tmod 4294967296 = ((ofB l % 4294967296:Nat):Int):=rfl
   have e4:ofB l % 4294967296 = ofB l:=Nat.mod_eq_of_lt hv
   have e3:IntKind.u64.wrap ((ofB l:Nat):Int) = ((ofB l:Nat):Int):=by rw [IntKind.wrap_u64]; omega
   rw [List.drop_zero] at q3
   simp only [go_sem,↓reduceIte,q0,q4,q3,hno,e2,e4,e3,w32_lt hv]
 | succ k =>
   have hyes:(0:Int) ≤ ((k + 1:Nat):Int) - 1:=by omega
   have hkk:((k + 1:Nat):Int) - 1 = (k:Int):=by omega
   obtain ⟨x,hx⟩:=getq (show k < l.length by omega)
   have hx1:=h1 x (List.mem_of_getElem? hx)
   have hv:=ofB_lt (l:=l.drop (k + 1)) fun y hy=>h1 y (List.mem_of_mem_drop hy)
   rw [List.length_drop,hl] at hv
   have hv32:ofB (l.drop (k + 1)) < 4294967296:=Nat.lt_of_lt_of_le hv (Nat.le_trans (Nat.pow_le_pow_right (by decide) (show 32 - (k + 1) ≤ 32 by omega)) (by decide))
   have hdr:=ofB_drop hx
   have hg:=bitD_get hx
   generalize ofB (l.drop (k + 1)) = v at q3 hv32 hdr
   have hk0:(0:Int) ≤ (k:Int):=by omega
   have e1:IntKind.u64.wrap (2 * (v:Int)) = ((2 * v:Nat):Int):=by rw [IntKind.wrap_u64]; omega
   have e2:IntKind.u64.wrap (x:Int) = (x:Int):=by rw [IntKind.wrap_u64]; omega
   have e3:IntKind.u64.wrap (((2 * v:Nat):Int) + (x:Int)) = ((x + 2 * v:Nat):Int):=by rw [IntKind.wrap_u64]; omega
   have e4:IntKind.i64.wrap ((k:Int) - 1) = (k:Int) - 1:=by rw [wrap_i64] <;> omega
   rw [hkk] at q4 hyes
   simp only [go_sem,↓reduceIte,q0,q4,q3,hyes,hg,hk0,e1,e2,e3,e4]
   refine round_end k (by omega) ⟨k,rfl,by omega,?_⟩
   simp only [go_sem,↓reduceIte,q0,hdr]
end Go.Proofs.YtfcgadnbdcnnlaaGreatDoor

namespace Go.Proofs.YtfcgadnbdcnnlaaGreatDoor
open Go Go.Am Go.Asm
def partsI (op:Nat):Str:=(if (Asm.shape op).1 = true then [97] else []) ++ (if (Asm.shape op).2.1 = true then [98] else []) ++ (if (Asm.shape op).2.2 = 2 then [114] else if (Asm.shape op).2.2 = 1 then [99] else [])
def partsT (op:Int):Str:=if knownN op.toNat = true then partsI op.toNat else [63]
theorem partsT_other {op:Int} (h:op.toNat = 0 ∨ 28 ≤ op.toNat):partsT op = [63]:=by
 unfold partsT
 rw [if_neg]
 unfold knownN
 simp; omega
theorem partsT_mid {op:Int} (h1:4 ≤ op) (h2:op ≤ 15):partsT op = [97,98,114]:=by
 obtain ⟨k,rfl⟩:∃ k:Nat,op = k:=⟨op.toNat,by omega⟩
 have key:∀ k:Nat,k < 16 → 4 ≤ k → partsT (k:Int) = [97,98,114]:=by decide
 exact key k (by omega) (by omega)
set_option maxHeartbeats 4000000 in
set_option maxRecDepth 100000 in
theorem PartsR_A (op:Int):PureR Tryz.prog 183 [iv .i64 op] (· = sv (partsT op)):=by
 refine pure_of_wp Tt_ok mixed Tryz.func183 rfl (by rfl) [2] rfl (by kernel_rfl) (by simp [Tryz.ntmps183]) fun g=>?_
 by_cases hr:1 ≤ op ∧ op ≤ 27
 case neg =>
  rw [partsT_other (by omega)]
  simp only [go_sem,↓reduceIte,show ¬ op = 1 by omega,show ¬ op = 2 by omega,show ¬ op = 3 by omega,show ¬ op = 16 by omega,show ¬ op = 17 by omega,show ¬ op = 18 by omega,show ¬ op = 19 by omega,show ¬ op = 20 by omega,show ¬ op = 21 by omega,show ¬ op = 22 by omega,show ¬ op = 23 by omega,show ¬ op = 24 by omega,show ¬ op = 25 by omega,show ¬ op = 26 by omega,show ¬ op = 27 by omega]
  exact fun h h'=>by omega
 by_cases hm:4 ≤ op ∧ op ≤ 15
 ·rw [partsT_mid hm.1 hm.2]
  simp only [go_sem,↓reduceIte,show ¬ op = 1 by omega,show ¬ op = 2 by omega,show ¬ op = 3 by omega,show ¬ op = 16 by omega,show ¬ op = 17 by omega,show ¬ op = 18 by omega,show ¬ op = 19 by omega,show ¬ op = 20 by omega,show ¬ op = 21 by omega,show ¬ op = 22 by omega,show ¬ op = 23 by omega,show ¬ op = 24 by omega,show ¬ op = 25 by omega,show ¬ op = 26 by omega,show ¬ op = 27 by omega,hm.1,hm.2]
 rcases (show op = 1 ∨ op = 2 ∨ op = 3 ∨ op = 16 ∨ op = 17 ∨ op = 18 ∨ op = 19 ∨ op = 20 ∨ op = 21 ∨ op = 22 ∨ op = 23 ∨ op = 24 ∨ op = 25 ∨ op = 26 ∨ op = 27 by omega) with rfl | rfl | rfl | rfl | rfl | rfl | rfl | rfl | rfl | rfl | rfl | rfl | rfl | rfl | rfl
 all_goals
  simp only [go_sem,↓reduceIte]
  rfl
def hasC (s:Str) (c:UInt8):Bool:=s.contains c
theorem has_A (s:Str) (c:UInt8) (hl:s.length ≤ 1000000):PureR Tryz.prog 184 [sv s,iv .u8 c.toNat] (· = bv (hasC s c)):=by
 refine pure_of_wp Tt_ok mixed Tryz.func184 rfl (by rfl) [4] rfl (by kernel_rfl) (by simp [Tryz.ntmps184]) fun g=>?_
 simp only [go_sem,↓reduceIte]
 refine loop_intro (fun n st=>∃ k:Nat,n + k = s.length ∧ st.f 0 = sv s ∧ st.f 1 = iv .u8 c.toNat ∧ st.f 5 = iv .i64 k ∧ ∀ x ∈ s.take k,x ≠ c) s.length ?_ ?_
 ·refine ⟨0,by omega,?_⟩
  simp only [go_sem,↓reduceIte]
  exact fun x hx=>by simp at hx
 rintro n f g ob ⟨k,hk,q0,q1,q5,hno⟩
 simp only at q0 q1 q5
 have hw:=wrap_succ (k:=k) (by omega)
 by_cases hlt:k < s.length
 ·obtain ⟨x,hx⟩:=getq hlt
  have hki:(k:Int) < (s.length:Int):=by omega
  have hk0:(0:Int) ≤ (k:Int):=by omega
  by_cases hxc:x = c
  ·subst hxc
   simp only [go_sem,↓reduceIte,q0,q1,q5,hki,hk0,hx]
   have:hasC s x = true:=by unfold hasC; rw [List.contains_iff_mem]; exact List.mem_of_getElem? hx
   rw [this]
  ·have hxi:¬ (x.toNat:Int) = (c.toNat:Int):=fun e=>hxc (UInt8.toNat_inj.1 (by omega))
   simp only [go_sem,↓reduceIte,q0,q1,q5,hki,hk0,hx,hxi,hw]
   refine round_end (n - 1) (by omega) ⟨k + 1,by omega,?_⟩
   simp only [go_sem,↓reduceIte,q0,q1]
   intro y hy
   rw [List.take_add_one,hx,List.mem_append] at hy
   rcases hy with hy | hy
   ·exact hno y hy
   ·simp at hy; rw [hy]; exact hxc
 ·have hki:¬ (k:Int) < (s.length:Int):=by omega
  simp only [go_sem,↓reduceIte,q0,q1,q5,hki]
  rw [List.take_of_length_le (by omega)] at hno
  have:hasC s c = false:=by
   unfold hasC
   cases h:s.contains c with
   | false=>rfl
   | true=>exact absurd rfl (hno c (List.contains_iff_mem.1 h))
  rw [this]
theorem withinR_A (b:Bool) (v most:Int):PureR Tryz.prog 185 [bv b,iv .i64 v,iv .i64 most] (· = bv (inW v most b)):=by
 refine pure_of_wp Tt_ok mixed Tryz.func185 rfl (by rfl) [6] rfl (by kernel_rfl) (by simp [Tryz.ntmps185]) fun g=>?_
 unfold inW
 cases b
 ·simp only [go_sem,↓reduceIte]
 ·simp only [go_sem,↓reduceIte]
  exact ⟨fun h=>by simp [h],fun h=>by simp [h]⟩
theorem parts_cases (op:Int):(knownN op.toNat = false ∧ partsT op = [63]) ∨ (knownN op.toNat = true ∧ (
  (Asm.shape op.toNat = (true,false,1) ∧ partsT op = [97,99]) ∨ (Asm.shape op.toNat = (true,true,0) ∧ partsT op = [97,98]) ∨ (Asm.shape op.toNat = (true,true,2) ∧ partsT op = [97,98,114]) ∨ (Asm.shape op.toNat = (true,true,1) ∧ partsT op = [97,98,99]) ∨
  (Asm.shape op.toNat = (false,false,1) ∧ partsT op = [99]) ∨ (Asm.shape op.toNat = (true,false,0) ∧ partsT op = [97]) ∨ (Asm.shape op.toNat = (false,false,0) ∧ partsT op = []))):=by
 unfold partsT
 cases hk:knownN op.toNat
 ·exact .inl ⟨rfl,by simp⟩
 ·refine .inr ⟨rfl,?_⟩
  unfold partsI
  rcases shape_cases op.toNat with h | h | h | h | h | h | h <;> simp [h]
set_option maxHeartbeats 16000000 in
set_option maxRecDepth 100000 in
theorem RightR_A (op a b c:Int):PureR Tryz.prog 123 [instV op a b c] (· = bv (rightI op a b c)):=by
 refine pure_of_wp Tt_ok mixed Tryz.func123 rfl (by rfl) [2] rfl (by kernel_rfl) (by simp [Tryz.ntmps123]) fun g=>?_
 unfold instV
 simp only [go_sem,↓reduceIte]
 refine hook_call rfl (by simp only [go_sem,↓reduceIte]; exact PartsR_A op) (by simp only [go_sem,↓reduceIte]; rfl) ?_
 rintro _ rfl
 have hh:∀ s:Str,s.length ≤ 3 → ∀ k:Nat,k < 256 → PureR Tryz.prog 184 [sv s,iv .u8 k] (· = bv (hasC s (UInt8.ofNat k))):=fun s hs k hk=>by
  have:=has_A s (UInt8.ofNat k) (by omega)
  rwa [show (UInt8.ofNat k).toNat = k by rw [UInt8.toNat_ofNat']; omega] at this
 rcases parts_cases op with ⟨hk,hp⟩ | ⟨hk,⟨hs,hp⟩ | ⟨hs,hp⟩ | ⟨hs,hp⟩ | ⟨hs,hp⟩ | ⟨hs,hp⟩ | ⟨hs,hp⟩ | ⟨hs,hp⟩⟩
 ·rw [hp,show rightI op a b c = false by unfold rightI; rw [hk]; rfl]
  simp only [go_sem,↓reduceIte]
  refine hook_call rfl (by simp only [go_sem,↓reduceIte]; exact hh [63] (by decide) 114 (by decide)) (by simp only [go_sem,↓reduceIte]; rfl) ?_
  rintro _ rfl
  rw [show hasC [63] (UInt8.ofNat 114) = false by decide]
  simp only [go_sem,↓reduceIte]
  refine draw_calls Tt_ok mixed (by decide +kernel) ?_
  simp only [go_sem,↓reduceIte,reduceCtorEq]
 all_goals
  have hl3:(partsT op).length ≤ 3:=by rw [hp]; decide
  have hne:(partsT op = [63]) = False:=by rw [hp]; simp
  have e97:hasC (partsT op) (UInt8.ofNat 97) = (Asm.shape op.toNat).1:=by rw [hp,hs]; decide
  have e98:hasC (partsT op) (UInt8.ofNat 98) = (Asm.shape op.toNat).2.1:=by rw [hp,hs]; decide
  have e99:hasC (partsT op) (UInt8.ofNat 99) = decide ((Asm.shape op.toNat).2.2 = 1):=by rw [hp,hs]; decide
  have e114:hasC (partsT op) (UInt8.ofNat 114) = decide ((Asm.shape op.toNat).2.2 = 2):=by rw [hp,hs]; decide
  have hri:rightI op a b c = (inW a 15 (Asm.shape op.toNat).1 && (inW b 15 (Asm.shape op.toNat).2.1 && inW c (mostC op.toNat) (decide ((Asm.shape op.toNat).2.2 ≠ 0)))):=by unfold rightI; rw [hk,Bool.true_and]
  unfold mostC at hri
  rw [hs] at e97 e98 e99 e114 hri
  simp only [decide_true,decide_false,Nat.reduceEqDiff,ne_eq,not_true_eq_false,not_false_eq_true,if_true,if_false,reduceCtorEq] at e97 e98 e99 e114 hri
  rw [hri]
  clear hp hs hri hk
  simp only [go_sem,↓reduceIte]
  refine hook_call rfl (by simp only [go_sem,↓reduceIte]; exact hh (partsT op) hl3 114 (by decide)) (by simp only [go_sem,↓reduceIte]; rfl) ?_
  rintro _ rfl
  rw [e114]
  simp only [go_sem,↓reduceIte]
  refine draw_calls Tt_ok mixed (by decide +kernel) ?_
  simp only [go_sem,↓reduceIte,hne]
  refine quiet_call rfl (hh (partsT op) hl3 97 (by decide)) (frzVs_data rfl) rfl ?_
  rw [e97]
  simp only [go_sem,↓reduceIte]
  refine quiet_call rfl (withinR_A _ _ _) (frzVs_data rfl) rfl ?_
  generalize inW a 15 _ = w1
  cases w1
  ·simp only [go_sem,↓reduceIte]
   try simp
  simp only [go_sem,↓reduceIte]
  refine quiet_call rfl (hh (partsT op) hl3 98 (by decide)) (frzVs_data rfl) rfl ?_
  rw [e98]
  simp only [go_sem,↓reduceIte]
  refine quiet_call rfl (withinR_A _ _ _) (frzVs_data rfl) rfl ?_
  generalize inW b 15 _ = w2
  cases w2
  ·simp only [go_sem,↓reduceIte]
   try simp
  simp only [go_sem,↓reduceIte]
  refine quiet_call rfl (hh (partsT op) hl3 99 (by decide)) (frzVs_data rfl) rfl ?_
  rw [e99]
  simp only [go_sem,↓reduceIte]
  try
   refine quiet_call rfl (hh (partsT op) hl3 114 (by decide)) (frzVs_data rfl) rfl ?_
   rw [e114]
   simp only [go_sem,↓reduceIte]
  refine quiet_call rfl (withinR_A _ _ _) (frzVs_data rfl) rfl ?_
  simp only [go_sem,↓reduceIte]
  try rfl
end Go.Proofs.YtfcgadnbdcnnlaaGreatDoor

namespace Go.Proofs.YtfcgadnbdcnnlaaGreatDoor
open Go Go.Am Go.Asm Go.Mach
set_option maxHeartbeats 4000000 in
theorem Bits_R2 (a:Nat) (ha:a < 4294967296) {g:Nat → Nat} {ob:Obs}:FunR Tryz.prog 376 [iv .u32 a] g ob (fun r g' ob'=>r = .one (.osl 2114 (g' 2114) 1 0 32) ∧ ob' 2114 = some (bitC (bitsN a)) ∧ ∀ i,i < 2100 → g' i = g i ∧ ob' i = ob i):=by
 refine fun_of_wp 2100 Tt_ok mixed Tryz.func376 rfl (by rfl) [2] rfl (by kernel_rfl) (by simp [Tryz.ntmps376]) ?_
 simp only [go_sem,↓reduceIte]
 refine loop_introB (fun n st=>∃ k:Nat,n + k = 32 ∧ st.f 0 = iv .u32 (a / 2 ^ k:Nat) ∧ st.f 4 = iv .i64 (k:Nat) ∧ ((k = 0 ∧ st.f 3 = .one (.d .nsl)) ∨ (0 < k ∧ st.f 3 = .one (.osl 2114 (st.gen 2114) 1 0 k) ∧ st.obj 2114 = some (bitC ((bitsN a).take k)))) ∧ ∀ i,i < 2100 → st.gen i = g i ∧ st.obj i = ob i) 32 ?_ ?_
 ·refine ⟨0,rfl,?_⟩
  simp only [go_sem,↓reduceIte,Nat.pow_zero,Nat.div_one]
  exact .inl trivial
 rintro n f g' ob' ⟨k,hk,q0,q4,q3,q⟩
 simp only at q0 q4 q3 q
 have hw:=wrap_succ (k:=k) (by omega)
 by_cases hlt:k < 32
 ·have hlti:(k:Int) < 32:=by omega
  have hvl:a / 2 ^ k < 4294967296:=Nat.lt_of_le_of_lt (Nat.div_le_self _ _) ha
  have hv2:a / 2 ^ (k + 1) = a / 2 ^ k / 2:=by rw [Nat.pow_succ,Nat.div_div_eq_div_mul]
  have htk:=take_bits (a:=a) hlt
  generalize a / 2 ^ k = v at q0 hvl hv2 htk
  have hm:(v:Int).tmod 2 = ((v % 2:Nat):Int):=rfl
  have hd:(v:Int).tdiv 2 = ((v / 2:Nat):Int):=rfl
  have hwm:IntKind.i64.wrap ((v % 2:Nat):Int) = ((v % 2:Nat):Int):=by rw [wrap_i64] <;> omega
  have hwm2:IntKind.u32.wrap ((v % 2:Nat):Int) = ((v % 2:Nat):Int):=w32_lt (by omega)
  have hwd:IntKind.u32.wrap ((v / 2:Nat):Int) = ((v / 2:Nat):Int):=w32_lt (by omega)
  rcases q3 with ⟨hk0,q3⟩ | ⟨hk0,q3,qo⟩
  ·simp only [go_sem,↓reduceIte,q0,q3,q4,hlti,hm,hd,hwm,hwm2,hwd,hw]
   refine ⟨⟨by decide,by decide⟩,?_⟩
   refine round_end (P:=Tryz.prog) (n - 1) (by omega) ⟨k + 1,by omega,?_⟩
   simp only [go_sem,↓reduceIte,hv2]
   subst hk0
   refine ⟨.inr ⟨by omega,rfl,?_⟩,fun i hi=>?_⟩
   ·rw [htk]; rfl
   ·(repeat rw [if_neg (by omega)]); exact q i hi
  ·simp only [go_sem,↓reduceIte,q0,q3,q4,qo,hlti,hm,hd,hwm,hwm2,hwd,hw]
   refine ⟨by simp [bitC,bitsN_len]; omega,⟨by decide,by omega⟩,?_⟩
   refine round_end (P:=Tryz.prog) (n - 1) (by omega) ⟨k + 1,by omega,?_⟩
   simp only [go_sem,↓reduceIte,hv2]
   refine ⟨.inr ⟨by omega,?_⟩,fun i hi=>?_⟩
   ·rw [htk,List.take_of_length_le (by simp [bitC,bitsN_len]; omega)]; simp [bitC]
   ·(repeat rw [if_neg (by omega)]); exact q i hi
 ·have hlti:¬ (k:Int) < 32:=by omega
  obtain rfl:k = 32:=by omega
  rcases q3 with ⟨hk0,q3⟩ | ⟨hk0,q3,qo⟩
  ·omega
  rw [List.take_of_length_le (by rw [bitsN_len]; decide)] at qo
  simp only [go_sem,↓reduceIte,q0,q3,q4,show ¬ ((32:Nat):Int) < 32 by decide]
  exact retF_of (.inl rfl) ⟨by simp [resAV,upd],qo,q⟩
theorem set_mid {l1 l2:List Nat} {k x:Nat} (h1:l1[k]? = some x) (h2:k < l2.length):(l1.take k ++ l2.drop k).set k x = l1.take (k + 1) ++ l2.drop (k + 1):=by
 have hk:=(List.getElem?_eq_some_iff.1 h1).1
 have hl:(l1.take k).length = k:=by rw [List.length_take]; omega
 rw [List.set_append_right _ _ (by omega),hl,Nat.sub_self,List.drop_eq_getElem_cons h2,List.set_cons_zero,List.take_add_one,h1]
 simp
theorem get_mid {l1 l2:List Nat} {k x:Nat} (h1:k ≤ l1.length) (h2:l2[k]? = some x):(l1.take k ++ l2.drop k)[k]? = some x:=by
 have hl:(l1.take k).length = k:=by rw [List.length_take]; omega
 rw [List.getElem?_append_right (by omega),hl,Nat.sub_self,List.getElem?_drop,Nat.add_zero,h2]
theorem bitC_set (l:List Nat) (k x:Nat):(bitC l).set k (.d (.int .i64 x)) = bitC (l.set k x):=by unfold bitC; rw [List.map_set]
theorem bitC_set2 (l:List Nat) (k x:Nat):((bitC l).set k (.d (.int .i64 0))).set k (.d (.int .i64 x)) = bitC (l.set k x):=by rw [List.set_set,bitC_set]
theorem bitC_len (l:List Nat):(bitC l).length = l.length:=by simp [bitC]
theorem bitsN_le {a:Nat}:∀ x ∈ bitsN a,x ≤ 1:=fun x hx=>by
 unfold bitsN at hx
 obtain ⟨i,_,rfl⟩:=List.mem_map.1 hx
 omega
set_option maxHeartbeats 8000000 in
theorem both_A (op a b:Nat) (h:op = 9 ∨ op = 10 ∨ op = 11) (ha:a < 4294967296) (hb:b < 4294967296):PureR Tryz.prog 341 [iv .i64 op,iv .u32 a,iv .u32 b] (· = iv .u32 (opN op a b:Nat)):=by
 refine pure_of_wp Tt_ok mixed Tryz.func341 rfl (by rfl) [6] rfl (by kernel_rfl) (by simp [Tryz.ntmps341]) fun g=>?_
 have hcl:=opN_lt (op:=op) ha hb
 simp only [go_sem,↓reduceIte]
 refine hook_fun rfl (by simp only [go_sem,↓reduceIte]; exact Bits_R a ha) ?_
 rintro _ g1 ob1 ⟨rfl,o1,_⟩
 simp only [go_sem,↓reduceIte]
 refine hook_fun rfl (by simp only [go_sem,↓reduceIte]; exact Bits_R2 b hb) ?_
 rintro _ g2 ob2 ⟨rfl,o2,hs2⟩
 have e1:g2 2014 = g1 2014:=(hs2 2014 (by decide)).1
 have o1':ob2 2014 = some (bitC (bitsN a)):=(hs2 2014 (by decide)).2.trans o1
 clear hs2 o1
 simp only [go_sem,↓reduceIte]
 refine loop_intro (fun n st=>∃ k:Nat,n + k = 32 ∧ st.f 0 = iv .i64 op ∧ st.f 9 = iv .i64 (k:Nat) ∧ st.f 7 = .one (.osl 2014 (st.gen 2014) 1 0 32) ∧ st.f 8 = .one (.osl 2114 (st.gen 2114) 1 0 32) ∧ st.obj 2014 = some (bitC ((bitsN (opN op a b)).take k ++ (bitsN a).drop k)) ∧ st.obj 2114 = some (bitC (bitsN b))) 32 ?_ ?_
 ·refine ⟨0,rfl,?_⟩
  simp only [go_sem,↓reduceIte,e1,o1',o2]
 rintro n f g' ob ⟨k,hk,q0,q9,q7,q8,p1,p2⟩
 simp only at q0 q9 q7 q8 p1 p2
 have hw:=wrap_succ (k:=k) (by omega)
 have hL:((bitsN (opN op a b)).take k ++ (bitsN a).drop k).length = 32:=by rw [List.length_append,List.length_take,List.length_drop,bitsN_len,bitsN_len]; omega
 by_cases hlt:k < 32
 ·have hlti:(k:Int) < 32:=by omega
  have hk0:(0:Int) ≤ (k:Int):=by omega
  have hgx:=bitC_get (get_mid (l1:=bitsN (opN op a b)) (by rw [bitsN_len]; omega) (bitsN_get (a:=a) hlt))
  have hgy:=bitC_get (bitsN_get (a:=b) hlt)
  have hbit:=bit_op h a b k
  have hx1:a / 2 ^ k % 2 ≤ 1:=by omega
  have hy1:b / 2 ^ k % 2 ≤ 1:=by omega
  have hset:=set_mid (l1:=bitsN (opN op a b)) (l2:=bitsN a) (x:=opN op a b / 2 ^ k % 2) (bitsN_get hlt) (by rw [bitsN_len]; exact hlt)
  rw [← hbit] at hset
  generalize a / 2 ^ k % 2 = x at hgx hx1 hset
  generalize b / 2 ^ k % 2 = y at hgy hy1 hset
  generalize (bitsN (opN op a b)).take k ++ (bitsN a).drop k = L at p1 hL hgx hset
  have hCL:(bitC L).length = 32:=by rw [bitC_len,hL]
  have hsum:IntKind.i64.wrap ((x:Int) + (y:Int)) = ((x + y:Nat):Int):=by rw [wrap_i64] <;> omega
  have hz:∀ v,v = bitOp op x y → bitC (L.set k v) = bitC ((bitsN (opN op a b)).take (k + 1) ++ (bitsN a).drop (k + 1)):=fun v hv=>by rw [hv,hset]
  clear hset hbit
  have h0s:=bitC_set L k 0
  have h1s:=bitC_set2 L k 1
  generalize hs:x + y = s at hsum
  have hs2:s ≤ 2:=by omega
  rcases h with rfl | rfl | rfl <;> obtain rfl | rfl | rfl:s = 0 ∨ s = 1 ∨ s = 2:=by omega
  all_goals
   simp only [go_sem,↓reduceIte,q0,q9,q7,q8,p1,p2,hlti]
   refine draw_intro (by decide +kernel) ?_
   simp only [go_sem,↓reduceIte,q0,q9,q7,q8,p1,p2,hlti,hk0,Nat.zero_add,Nat.mul_one,hgx,hgy,hsum,hCL,bitC_len]
   first
   | (refine ⟨by omega,by rw [List.length_set,hCL]; omega,?_⟩
      refine round_end (n - 1) (by omega) ⟨k + 1,by omega,?_⟩
      simp only [go_sem,↓reduceIte,q0,q7,q8,p2,hw]
      exact h1s.trans (hz 1 (by unfold bitOp; rw [hs]; rfl)))
   | (refine ⟨by omega,?_⟩
      refine round_end (n - 1) (by omega) ⟨k + 1,by omega,?_⟩
      simp only [go_sem,↓reduceIte,q0,q7,q8,p2,hw]
      exact h0s.trans (hz 0 (by unfold bitOp; rw [hs]; rfl)))
 ·have hlti:¬ (k:Int) < 32:=by omega
  obtain rfl:k = 32:=by omega
  rw [List.take_of_length_le (by rw [bitsN_len]; decide),List.drop_of_length_le (by rw [bitsN_len]; decide),List.append_nil] at p1
  simp only [go_sem,↓reduceIte,q0,q9,q7,q8,p1,p2,show ¬ ((32:Nat):Int) < 32 by decide]
  refine hook_view rfl (xs:=[.one (.d (bitD (bitsN (opN op a b))))]) ?_ (Of_A _ (bitsN_len _) bitsN_le) (by rintro _ rfl; rfl) ?_
  ·simp only [go_sem,↓reduceIte,q7]
   exact ⟨_,_,rfl,⟨_,frz_map (cells:=bitC (bitsN (opN op a b))) (off:=0) rfl (by simp [upd,p1]) (bitsN (opN op a b)) (fun x=>.int .i64 (x:Nat)) (fun _=>rfl) (bitsN_len _) (fun j a h=>by rw [Nat.zero_add]; exact bitC_get h) (by rw [bitC_len,bitsN_len]; decide),rfl⟩,rfl⟩
  rintro _ rfl
  rw [ofB_bitsN hcl]
  simp only [go_sem,↓reduceIte]
theorem w64 {n:Nat} (h:n < 18446744073709551616):IntKind.u64.wrap ((n:Nat):Int) = ((n:Nat):Int):=by rw [IntKind.wrap_u64]; omega
set_option maxHeartbeats 8000000 in
theorem ApplyR_A (op a b:Nat) (h4:4 ≤ op) (h15:op ≤ 15) (ha:a < 4294967296) (hb:b < 4294967296):PureR Tryz.prog 286 [iv .i64 op,iv .u32 a,iv .u32 b] (· = appV (applyN op a b)):=by
 refine pure_of_wp Tt_ok mixed Tryz.func286 rfl (by rfl) [6,7] rfl (by kernel_rfl) (by simp [Tryz.ntmps286]) fun g=>?_
 have h1:=both_A op a b
 have h2:=shiftR_A op a b
 have h3:=flag_A
 have hd:=Nat.div_le_self a b
 have hm:=Nat.mod_le a b
 have hml:a * b < 18446744073709551616:=Nat.lt_of_lt_of_le (Nat.mul_lt_mul'' ha hb) (by decide)
 have e1:=w64 (n:=a) (by omega)
 have e2:=w64 (n:=b) (by omega)
 have mlt:∀ n,n % 4294967296 < 4294967296:=fun n=>Nat.mod_lt _ (by decide)
 have m32:∀ n:Nat,IntKind.u32.wrap ((n % 4294967296:Nat):Int) = ((n % 4294967296:Nat):Int):=fun n=>w32_lt (mlt n)
 have m64:∀ n:Nat,IntKind.u64.wrap ((n % 4294967296:Nat):Int) = ((n % 4294967296:Nat):Int):=fun n=>w64 (by have:=mlt n; omega)
 have hmod:∀ n:Nat,((n:Nat):Int).tmod 4294967296 = ((n % 4294967296:Nat):Int):=fun _=>rfl
 unfold appV applyN
 obtain rfl | rfl | rfl | rfl | rfl | rfl | rfl | rfl | rfl | rfl | rfl | rfl:op = 4 ∨ op = 5 ∨ op = 6 ∨ op = 7 ∨ op = 8 ∨ op = 9 ∨ op = 10 ∨ op = 11 ∨ op = 12 ∨ op = 13 ∨ op = 14 ∨ op = 15:=by omega
 ·have e3:IntKind.u64.wrap ((a:Int) + (b:Int)) = ((a + b:Nat):Int):=by rw [IntKind.wrap_u64]; omega
  simp only [go_sem,↓reduceIte,e1,e2,e3,hmod,m64,m32]
 ·have e3:IntKind.u64.wrap ((a:Int) + 4294967296) = ((a + 4294967296:Nat):Int):=by rw [IntKind.wrap_u64]; omega
  have e4:IntKind.u64.wrap (((a + 4294967296:Nat):Int) - (b:Int)) = ((a + 4294967296 - b:Nat):Int):=by rw [IntKind.wrap_u64]; omega
  simp only [go_sem,↓reduceIte,e1,e2,e3,e4,hmod,m64,m32]
 ·have e3:IntKind.u64.wrap ((a:Int) * (b:Int)) = ((a * b:Nat):Int):=by rw [← Int.natCast_mul]; exact w64 hml
  simp only [go_sem,↓reduceIte,e1,e2,e3,hmod,m64,m32]
 ·by_cases hz:b = 0
  ·have hzi:(b:Int) = 0:=by omega
   simp only [go_sem,↓reduceIte,e1,e2,hz]
  ·have hzi:¬ (b:Int) = 0:=by omega
   simp only [go_sem,↓reduceIte,e1,e2,hzi,hz,tdivN,w64 (show a / b < 18446744073709551616 by omega),w32_lt (show a / b < 4294967296 by omega)]
 ·by_cases hz:b = 0
  ·have hzi:(b:Int) = 0:=by omega
   simp only [go_sem,↓reduceIte,e1,e2,hz]
  ·have hzi:¬ (b:Int) = 0:=by omega
   simp only [go_sem,↓reduceIte,e1,e2,hzi,hz,tmodN,w64 (show a % b < 18446744073709551616 by omega),w32_lt (show a % b < 4294967296 by omega)]
 iterate 3
  ·simp only [go_sem,↓reduceIte,e1,e2]
   refine hook_call rfl (by simp only [go_sem,↓reduceIte]; exact h1 (by decide) ha hb) (by simp only [go_sem,↓reduceIte]; rfl) ?_
   rintro _ rfl
   simp only [go_sem,↓reduceIte,opN]
 iterate 2
  ·simp only [go_sem,↓reduceIte,e1,e2]
   refine hook_call rfl (by simp only [go_sem,↓reduceIte]; exact h2 (by decide) ha hb) (by simp only [go_sem,↓reduceIte]; rfl) ?_
   rintro _ rfl
   simp only [go_sem,↓reduceIte]
 ·by_cases hl:a < b
  ·have hli:(a:Int) < (b:Int):=by omega
   simp only [go_sem,↓reduceIte,e1,e2,hli,hl]
   refine hook_call rfl (by simp only [go_sem,↓reduceIte]; exact h3 true) (by simp only [go_sem,↓reduceIte]; rfl) ?_
   rintro _ rfl
   simp only [go_sem,↓reduceIte,hl]
  ·have hli:¬ (a:Int) < (b:Int):=by omega
   simp only [go_sem,↓reduceIte,e1,e2,hli,hl]
   refine hook_call rfl (by simp only [go_sem,↓reduceIte]; exact h3 false) (by simp only [go_sem,↓reduceIte]; rfl) ?_
   rintro _ rfl
   simp only [go_sem,↓reduceIte,hl]
 ·by_cases hl:a = b
  ·have hli:(a:Int) = (b:Int):=by omega
   simp only [go_sem,↓reduceIte,e1,e2,hli,hl]
   refine hook_call rfl (by simp only [go_sem,↓reduceIte]; exact h3 true) (by simp only [go_sem,↓reduceIte]; rfl) ?_
   rintro _ rfl
   simp only [go_sem,↓reduceIte,hl]
  ·have hli:¬ (a:Int) = (b:Int):=by omega
   simp only [go_sem,↓reduceIte,e1,e2,hli,hl]
   refine hook_call rfl (by simp only [go_sem,↓reduceIte]; exact h3 false) (by simp only [go_sem,↓reduceIte]; rfl) ?_
   rintro _ rfl
   simp only [go_sem,↓reduceIte,hl]
end Go.Proofs.YtfcgadnbdcnnlaaGreatDoor

namespace Go.Mach
open Go.Asm (Str)
def w4 (a b c d:UInt8):Nat:=a.toNat + 256 * b.toNat + 65536 * c.toNat + 16777216 * d.toNat
def wordsL:Str → List Nat
 | a :: b :: c :: d :: r=>w4 a b c d :: wordsL r
 | _=>[]
def imgRead (s:Str):Option (List Nat × Nat) :=
 if s.length < 12 ∨ s.take 4 ≠ [83,69,69,68] ∨ 65548 < s.length then none
 else match wordsL ((s.take 12).drop 4) with
  | [n,d]=>if 32768 < d ∨ s.length ≠ 12 + 4 * n then none else some (wordsL (s.drop 12),d)
  | _=>none
theorem wordsL_len:∀ s:Str,(wordsL s).length = s.length / 4
 | []=>rfl
 | [_]=>by simp [wordsL]
 | [_,_]=>by simp [wordsL]
 | [_,_,_]=>by simp [wordsL]
 | a :: b :: c :: d :: r=>by unfold wordsL; rw [List.length_cons,wordsL_len r]; simp only [List.length_cons]; omega
theorem wordsL_lt:∀ s:Str,∀ w ∈ wordsL s,w < 4294967296
 | [],w,h=>by cases h
 | [_],w,h=>by cases h
 | [_,_],w,h=>by cases h
 | [_,_,_],w,h=>by cases h
 | a :: b :: c :: d :: r,w,h=>by
   unfold wordsL at h
   rcases List.mem_cons.1 h with rfl | h
   ·have ha:=a.toNat_lt; have hb:=b.toNat_lt; have hc:=c.toNat_lt; have hd:=d.toNat_lt
    unfold w4; omega
   ·exact wordsL_lt r w h
theorem wordsL_get:∀ (s:Str) (k:Nat) {a b c d:UInt8},s[4 * k]? = some a → s[4 * k + 1]? = some b → s[4 * k + 2]? = some c → s[4 * k + 3]? = some d → (wordsL s)[k]? = some (w4 a b c d)
 | [],k,a,b,c,d,h,_,_,_=>by simp at h
 | [_],k,a,b,c,d,_,h,_,_=>by simp at h
 | [_,_],k,a,b,c,d,_,_,h,_=>by simp at h
 | [_,_,_],k,a,b,c,d,_,_,_,h=>by simp at h
 | a' :: b' :: c' :: d' :: r,0,a,b,c,d,h1,h2,h3,h4=>by
   simp at h1 h2 h3 h4
   subst h1 h2 h3 h4
   rfl
 | a' :: b' :: c' :: d' :: r,k + 1,a,b,c,d,h1,h2,h3,h4=>by
   unfold wordsL
   rw [List.getElem?_cons_succ]
   refine wordsL_get r k ?_ ?_ ?_ ?_
   ·rw [← h1,show 4 * (k + 1) = 4 * k + 1 + 1 + 1 + 1 by omega]; simp
   ·rw [← h2,show 4 * (k + 1) + 1 = (4 * k + 1) + 1 + 1 + 1 + 1 by omega]; simp
   ·rw [← h3,show 4 * (k + 1) + 2 = (4 * k + 2) + 1 + 1 + 1 + 1 by omega]; simp
   ·rw [← h4,show 4 * (k + 1) + 3 = (4 * k + 3) + 1 + 1 + 1 + 1 by omega]; simp
theorem imgRead_right {s:Str} {m:List Nat × Nat} (h:imgRead s = some m):m.1.length ≤ 16384 ∧ m.2 ≤ 32768 ∧ ∀ w ∈ m.1,w < 4294967296:=by
 unfold imgRead at h
 split at h
 ·cases h
 rename_i hc
 split at h
 ·split at h
  ·cases h
  ·rename_i n d _ hx
   cases h
   simp only
   refine ⟨?_,by omega,wordsL_lt _⟩
   rw [wordsL_len,List.length_drop]
   omega
 ·cases h
end Go.Mach
