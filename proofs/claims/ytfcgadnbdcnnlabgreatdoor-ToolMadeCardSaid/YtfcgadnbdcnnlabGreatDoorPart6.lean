/- A part of the proof; no conditions. -/
import Derived.Test.YtfcgadnbdcnnlabGreatDoorPart5
import Derived.Laws.AppendOwn
set_option linter.unusedSimpArgs false
set_option linter.unusedVariables false
namespace Go.Mach
open Go.Asm (Str)
def applyN (op a b:Nat):Option Nat :=
 if op = 4 then some ((a + b) % 4294967296)
 else if op = 5 then some ((a + 4294967296 - b) % 4294967296)
 else if op = 6 then some (a * b % 4294967296)
 else if op = 7 then (if b = 0 then none else some (a / b))
 else if op = 8 then (if b = 0 then none else some (a % b))
 else if op = 9 then some (a &&& b)
 else if op = 10 then some (a ||| b)
 else if op = 11 then some (a ^^^ b)
 else if op = 12 then some (if 31 < b then 0 else a * 2 ^ b % 4294967296)
 else if op = 13 then some (if 31 < b then 0 else a / 2 ^ b)
 else if op = 14 then some (if a < b then 1 else 0)
 else some (if a = b then 1 else 0)
theorem iteQ {α:Type} {Q:α → Prop} {p:Prop} [Decidable p] {a b:α} (ha:p → Q a) (hb:¬ p → Q b):Q (if p then a else b):=by
 by_cases h:p
 ·rw [if_pos h]; exact ha h
 ·rw [if_neg h]; exact hb h
theorem applyN_lt {op a b x:Nat} (ha:a < 4294967296) (hb:b < 4294967296) (h:applyN op a b = some x):x < 4294967296:=by
 revert h
 unfold applyN
 have hle:∀ {y:Nat},y < 4294967296 → some y = some x → x < 4294967296:=fun h e=>by cases e; exact h
 have hm:∀ y,y % 4294967296 < 4294967296:=fun y=>Nat.mod_lt _ (by decide)
 refine iteQ (Q:=fun o=>o = some x → x < 4294967296) (fun _=>hle (hm _)) fun _=>?_
 refine iteQ (Q:=fun o=>o = some x → x < 4294967296) (fun _=>hle (hm _)) fun _=>?_
 refine iteQ (Q:=fun o=>o = some x → x < 4294967296) (fun _=>hle (hm _)) fun _=>?_
 refine iteQ (Q:=fun o=>o = some x → x < 4294967296) (fun _=>iteQ (Q:=fun o=>o = some x → x < 4294967296) (fun _ h=>by cases h) (fun _=>hle (Nat.lt_of_le_of_lt (Nat.div_le_self _ _) ha))) fun _=>?_
 refine iteQ (Q:=fun o=>o = some x → x < 4294967296) (fun _=>iteQ (Q:=fun o=>o = some x → x < 4294967296) (fun _ h=>by cases h) (fun _=>hle (Nat.lt_of_le_of_lt (Nat.mod_le _ _) ha))) fun _=>?_
 refine iteQ (Q:=fun o=>o = some x → x < 4294967296) (fun _=>hle (Nat.lt_of_le_of_lt Nat.and_le_left ha)) fun _=>?_
 refine iteQ (Q:=fun o=>o = some x → x < 4294967296) (fun _=>hle (Nat.or_lt_two_pow (n:=32) ha hb)) fun _=>?_
 refine iteQ (Q:=fun o=>o = some x → x < 4294967296) (fun _=>hle (Nat.xor_lt_two_pow (n:=32) ha hb)) fun _=>?_
 refine iteQ (Q:=fun o=>o = some x → x < 4294967296) (fun _=>hle (iteQ (Q:=(· < 4294967296)) (fun _=>by decide) (fun _=>hm _))) fun _=>?_
 refine iteQ (Q:=fun o=>o = some x → x < 4294967296) (fun _=>hle (iteQ (Q:=(· < 4294967296)) (fun _=>by decide) (fun _=>Nat.lt_of_le_of_lt (Nat.div_le_self _ _) ha))) fun _=>?_
 exact iteQ (Q:=fun o=>o = some x → x < 4294967296) (fun _=>hle (iteQ (Q:=(· < 4294967296)) (fun _=>by decide) (fun _=>by decide))) fun _=>hle (iteQ (Q:=(· < 4294967296)) (fun _=>by decide) (fun _=>by decide))
structure M where
 pc:Nat
 reg:List Nat
 mem:List Nat
 rd:Nat
 out:Str
 steps:Nat
 fin:Nat
def start (data:Nat):M:=⟨0,List.replicate 16 0,List.replicate data 0,0,[],0,0⟩
def M.set (m:M) (a x:Nat):M:={ m with reg:=m.reg.set a x,pc:=m.pc + 1 }
def M.r (m:M) (a:Nat):Nat:=m.reg.getD a 0
def doM (code:List Nat) (inp:Str) (m:M) (op a b c:Nat):M :=
 if op = 1 then m.set a c
 else if op = 2 then m.set a (m.r a % 65536 + c * 65536)
 else if op = 3 then m.set a (m.r b)
 else if op = 16 then (match m.mem[(m.r b + c) % 4294967296]? with | some x=>m.set a x | none=>{ m with fin:=8 })
 else if op = 27 then (match code[(m.r b + c) % 4294967296]? with | some x=>m.set a x | none=>{ m with fin:=8 })
 else if op = 17 then (if (m.r b + c) % 4294967296 < m.mem.length then { m with mem:=m.mem.set ((m.r b + c) % 4294967296) (m.r a),pc:=m.pc + 1 } else { m with fin:=8 })
 else if op = 18 then { m with pc:=c }
 else if op = 19 then { m with pc:=if m.r a = 0 then c else m.pc + 1 }
 else if op = 20 then { m with pc:=if m.r a = 0 then m.pc + 1 else c }
 else if op = 21 then { m with reg:=m.reg.set a ((m.pc + 1) % 4294967296),pc:=c }
 else if op = 22 then { m with pc:=m.r a }
 else if op = 23 then (match inp[m.rd]? with | some x=>{ m.set a x.toNat with rd:=m.rd + 1 } | none=>m.set a 256)
 else if op = 24 then (if 65536 ≤ m.out.length then { m with fin:=4 } else { m with out:=m.out ++ [UInt8.ofNat (m.r a)],pc:=m.pc + 1 })
 else if op = 25 then (if c ≤ m.r a then { m with fin:=3 } else { m with pc:=m.pc + 1 })
 else if op = 26 then { m with fin:=1 }
 else (match applyN op (m.r b) (m.r c) with | some x=>m.set a x | none=>{ m with fin:=2 })
def stepM (okI:Nat → Nat → Nat → Nat → Bool) (code:List Nat) (inp:Str) (m:M):M :=
 match code[m.pc]? with
 | none=>{ m with fin:=7 }
 | some w =>
   if okI (w / 16777216) (w / 1048576 % 16) (w / 65536 % 16) (w % 65536) = true then
    doM code inp { m with steps:=m.steps + 1 } (w / 16777216) (w / 1048576 % 16) (w / 65536 % 16) (w % 65536)
   else { m with steps:=m.steps + 1,fin:=6 }
def runM (okI:Nat → Nat → Nat → Nat → Bool) (code:List Nat) (inp:Str):Nat → M → M
 | 0,m=>m
 | n + 1,m=>if m.fin = 0 then runM okI code inp n (stepM okI code inp m) else m
structure Good (m:M):Prop where
 len:m.reg.length = 16
 reg:∀ x ∈ m.reg,x < 4294967296
 mem:∀ x ∈ m.mem,x < 4294967296
 pc:m.pc ≤ 4294967296 + m.steps
 out:m.out.length ≤ 65536
 fin:m.fin ≤ 8
theorem Good.r {m:M} (h:Good m) (a:Nat):m.r a < 4294967296:=by
 unfold M.r
 rw [List.getD_eq_getElem?_getD]
 cases hx:m.reg[a]? with
 | none=>decide
 | some x=>exact h.reg x (List.mem_of_getElem? hx)
theorem mem_set {l:List Nat} {i x y:Nat} (h:y ∈ l.set i x):y ∈ l ∨ y = x:=List.mem_or_eq_of_mem_set h
theorem Good.set {m:M} (h:Good m) {a x:Nat} (hx:x < 4294967296) {s':Nat} (hs:m.steps < s'):Good { m.set a x with steps:=s' }:=by
 refine ⟨by simp [M.set,h.len],fun y hy=>?_,h.mem,?_,h.out,h.fin⟩
 ·rcases mem_set hy with hy | rfl
  ·exact h.reg y hy
  ·exact hx
 ·have:=h.pc; simp only [M.set]; omega
theorem good_do {m:M} {code:List Nat} {inp:Str} (h:Good m) (hc:∀ x ∈ code,x < 4294967296) {op a b c:Nat} (hcc:c ≤ 65535):Good (doM code inp { m with steps:=m.steps + 1 } op a b c):=by
 have hr:∀ a,({ m with steps:=m.steps + 1 }:M).r a < 4294967296:=fun a=>h.r a
 have hset:∀ {a x:Nat},x < 4294967296 → Good (({ m with steps:=m.steps + 1 }:M).set a x):=fun {a x} hx=>h.set hx (Nat.lt_succ_self _)
 have hpc:=h.pc
 have hst:∀ {f pc':Nat},f ≤ 8 → pc' ≤ 4294967296 + (m.steps + 1) → Good { m with steps:=m.steps + 1,pc:=pc',fin:=f }:=fun hf hp=>⟨h.len,h.reg,h.mem,hp,h.out,hf⟩
 have hf:=h.fin
 have hlast:∀ r c,Good (match applyN op (({ m with steps:=m.steps + 1 }:M).r b) (({ m with steps:=m.steps + 1 }:M).r c) with | some x=>({ m with steps:=m.steps + 1 }:M).set r x | none=>{ m with steps:=m.steps + 1,fin:=2 }):=fun r c=>by
  split
  ·exact hset (applyN_lt (hr _) (hr _) (by assumption))
  ·exact hst (by decide) (by first | omega | (simp only; omega))
 unfold doM
 refine iteQ (fun _=>hset (by omega)) fun _=>?_
 refine iteQ (fun _=>hset (by have:=hr a; omega)) fun _=>?_
 refine iteQ (fun _=>hset (hr _)) fun _=>?_
 refine iteQ (fun _=>?_) fun _=>?_
 ·cases hx:({ m with steps:=m.steps + 1 }:M).mem[(({ m with steps:=m.steps + 1 }:M).r b + c) % 4294967296]? with
  | some x=>exact hset (h.mem _ (List.mem_of_getElem? hx))
  | none=>exact hst (by decide) (by first | omega | (simp only; omega))
 refine iteQ (fun _=>?_) fun _=>?_
 ·cases hx:code[(({ m with steps:=m.steps + 1 }:M).r b + c) % 4294967296]? with
  | some x=>exact hset (hc _ (List.mem_of_getElem? hx))
  | none=>exact hst (by decide) (by first | omega | (simp only; omega))
 refine iteQ (fun _=>?_) fun _=>?_
 ·refine iteQ (fun _=>?_) fun _=>hst (by decide) (by first | omega | (simp only; omega))
  refine ⟨h.len,h.reg,fun y hy=>?_,by simp only; omega,h.out,hf⟩
  rcases mem_set hy with hy | rfl
  ·exact h.mem y hy
  ·exact hr a
 refine iteQ (fun _=>hst hf (by first | omega | (simp only; omega))) fun _=>?_
 refine iteQ (fun _=>hst hf (by split <;> first | omega | (simp only; omega))) fun _=>?_
 refine iteQ (fun _=>hst hf (by split <;> first | omega | (simp only; omega))) fun _=>?_
 refine iteQ (fun _=>?_) fun _=>?_
 ·refine ⟨by simp [h.len],fun y hy=>?_,h.mem,by simp only; omega,h.out,hf⟩
  rcases mem_set hy with hy | rfl
  ·exact h.reg y hy
  ·exact Nat.mod_lt _ (by decide)
 refine iteQ (fun _=>hst hf (by have:=hr a; omega)) fun _=>?_
 refine iteQ (fun _=>?_) fun _=>?_
 ·cases hx:inp[({ m with steps:=m.steps + 1 }:M).rd]? with
  | some x =>
    have hx:=x.toNat_lt
    have:=hset (a:=a) (x:=x.toNat) (by omega)
    exact ⟨this.len,this.reg,this.mem,this.pc,this.out,this.fin⟩
  | none=>exact hset (by decide)
 refine iteQ (fun _=>?_) fun _=>?_
 ·refine iteQ (fun _=>hst (by decide) (by first | omega | (simp only; omega))) fun hn=>?_
  refine ⟨h.len,h.reg,h.mem,by simp only; omega,?_,hf⟩
  simp only at hn
  simp only [List.length_append,List.length_singleton]; omega
 refine iteQ (fun _=>iteQ (fun _=>hst (by decide) (by first | omega | (simp only; omega))) fun _=>hst hf (by first | omega | (simp only; omega))) fun _=>?_
 exact iteQ (fun _=>hst (by decide) (by first | omega | (simp only; omega))) fun _=>hlast a c
theorem good_step {okI:Nat → Nat → Nat → Nat → Bool} {m:M} {code:List Nat} {inp:Str} (h:Good m) (hc:∀ x ∈ code,x < 4294967296):Good (stepM okI code inp m):=by
 have hpc:=h.pc
 unfold stepM
 split
 ·exact ⟨h.len,h.reg,h.mem,hpc,h.out,by simp only; omega⟩
 ·split
  ·exact good_do h hc (by omega)
  ·exact ⟨h.len,h.reg,h.mem,by simp only; omega,h.out,by simp only; omega⟩
theorem good_start (d:Nat):Good (start d):=⟨by simp [start],fun x hx=>by rw [List.eq_of_mem_replicate hx]; decide,fun x hx=>by rw [List.eq_of_mem_replicate hx]; decide,by simp [start],by simp [start],by simp [start]⟩
theorem runM_more {okI:Nat → Nat → Nat → Nat → Bool} {code:List Nat} {inp:Str}:∀ {n:Nat} {m:M} (k:Nat),(runM okI code inp n m).fin ≠ 0 → runM okI code inp (n + k) m = runM okI code inp n m
 | 0,m,0,h=>rfl
 | 0,m,k + 1,h=>by rw [Nat.zero_add]; unfold runM at h ⊢; rw [if_neg h]
 | n + 1,m,k,h=>by
   rw [show n + 1 + k = (n + k) + 1 by omega]
   unfold runM at h ⊢
   split
   ·rename_i hf
    rw [if_pos hf] at h
    exact runM_more k h
   ·rfl
theorem runM_end {okI:Nat → Nat → Nat → Nat → Bool} {code:List Nat} {inp:Str} {m:M} (h:m.fin ≠ 0):∀ n,runM okI code inp n m = m
 | 0=>rfl
 | n + 1=>by unfold runM; rw [if_neg h]
theorem runM_next {okI:Nat → Nat → Nat → Nat → Bool} {code:List Nat} {inp:Str} {m:M} {n:Nat} (h:m.fin = 0):runM okI code inp (n + 1) m = runM okI code inp n (stepM okI code inp m):=by
 conv=>lhs; unfold runM
 rw [if_pos h]
theorem good_run {okI:Nat → Nat → Nat → Nat → Bool} {code:List Nat} {inp:Str} (hc:∀ x ∈ code,x < 4294967296):∀ {n:Nat} {m:M},Good m → Good (runM okI code inp n m)
 | 0,m,h=>h
 | n + 1,m,h=>by
   unfold runM
   split
   ·exact good_run hc (good_step h hc)
   ·exact h
def resM (okI:Nat → Nat → Nat → Nat → Bool) (code:List Nat) (data:Nat) (inp:Str) (fuel:Nat):Nat × Str × Nat :=
 let m:=runM okI code inp fuel (start data)
 (if m.fin = 0 then 5 else m.fin,m.out,m.steps)
end Go.Mach

namespace Go.Proofs.YtfcgadnbdcnnlabGreatDoor
open Go Go.Am Go.Asm Go.Mach
theorem ofInt32 {a:Nat} (h:a < 4294967296):(BitVec.ofInt 32 (a:Int)).toNat = a:=by rw [BitVec.toNat_ofInt]; omega
theorem and32 {a b:Nat} (ha:a < 4294967296) (hb:b < 4294967296):(BitVec.ofInt 32 (a:Int) &&& BitVec.ofInt 32 (b:Int)).toNat = a &&& b:=by rw [BitVec.toNat_and,ofInt32 ha,ofInt32 hb]
theorem or32' {a b:Nat} (ha:a < 4294967296) (hb:b < 4294967296):(BitVec.ofInt 32 (a:Int) ||| BitVec.ofInt 32 (b:Int)).toNat = a ||| b:=by rw [BitVec.toNat_or,ofInt32 ha,ofInt32 hb]
theorem xor32 {a b:Nat} (ha:a < 4294967296) (hb:b < 4294967296):(BitVec.ofInt 32 (a:Int) ^^^ BitVec.ofInt 32 (b:Int)).toNat = a ^^^ b:=by rw [BitVec.toNat_xor,ofInt32 ha,ofInt32 hb]
theorem w32 (n:Nat):IntKind.u32.wrap (n:Int) = ((n % 4294967296:Nat):Int):=by rw [IntKind.wrap_u32]; omega
theorem w32_lt {n:Nat} (h:n < 4294967296):IntKind.u32.wrap (n:Int) = (n:Int):=by rw [w32,Nat.mod_eq_of_lt h]
theorem w32_add (a b:Nat):IntKind.u32.wrap ((a:Int) + (b:Int)) = (((a + b) % 4294967296:Nat):Int):=by rw [IntKind.wrap_u32]; omega
theorem w32_sub {a b:Nat} (ha:a < 4294967296) (hb:b < 4294967296):IntKind.u32.wrap ((a:Int) - (b:Int)) = (((a + 4294967296 - b) % 4294967296:Nat):Int):=by rw [IntKind.wrap_u32]; omega
theorem w32_mul (a b:Nat):IntKind.u32.wrap ((a:Int) * (b:Int)) = ((a * b % 4294967296:Nat):Int):=by rw [← Int.natCast_mul,w32]
theorem tdivN (a b:Nat):(a:Int).tdiv (b:Int) = ((a / b:Nat):Int):=rfl
theorem tmodN (a b:Nat):(a:Int).tmod (b:Int) = ((a % b:Nat):Int):=rfl
set_option maxHeartbeats 4000000 in
theorem divide_A (op a b:Nat) (ha:a < 4294967296) (hb:b < 4294967296):PureR Tryz.prog 366 [iv .i64 op,iv .u32 a,iv .u32 b] (· = if b = 0 then .tup [iv .u32 0,iv .i64 14] else .tup [iv .u32 (if op = 7 then a / b else a % b:Nat),iv .i64 0]):=by
 refine pure_of_wp Tt_ok mixed Tryz.func366 rfl (by rfl) [6,7] rfl (by kernel_rfl) (by simp [Tryz.ntmps366]) fun g=>?_
 by_cases h0:b = 0
 ·have h0i:(b:Int) = 0:=by omega
  rw [if_pos h0]
  simp only [go_sem,↓reduceIte,h0i]
 have h0i:¬ (b:Int) = 0:=by omega
 rw [if_neg h0]
 have hd:=Nat.div_le_self a b
 have hm:=Nat.mod_le a b
 by_cases h7:op = 7
 ·have h7i:(op:Int) = 7:=by omega
  rw [if_pos h7]
  simp only [go_sem,↓reduceIte,h0i,h7i,tdivN,w32_lt (show a / b < 4294967296 by omega)]
 ·have h7i:¬ (op:Int) = 7:=by omega
  rw [if_neg h7]
  simp only [go_sem,↓reduceIte,h0i,h7i,tmodN]
set_option maxHeartbeats 4000000 in
theorem shift_A (op a b:Nat) (ha:a < 4294967296):PureR Tryz.prog 367 [iv .i64 op,iv .u32 a,iv .u32 b] (· = iv .u32 (if 31 < b then 0 else if op = 12 then a * 2 ^ b % 4294967296 else a / 2 ^ b:Nat)):=by
 refine pure_of_wp Tt_ok mixed Tryz.func367 rfl (by rfl) [6] rfl (by kernel_rfl) (by simp [Tryz.ntmps367]) fun g=>?_
 by_cases h0:31 < b
 ·have h0i:(31:Int) < (b:Int):=by omega
  rw [if_pos h0]
  simp only [go_sem,↓reduceIte,h0i]
 have h0i:¬ (31:Int) < (b:Int):=by omega
 rw [if_neg h0]
 have hmin:min b 32 = b:=by omega
 have hb0:(0:Int) ≤ (b:Int):=by omega
 have hs:IntKind.u32.wrap ((a:Int) * 2 ^ b) = ((a * 2 ^ b % 4294967296:Nat):Int):=by
  rw [show ((a:Int) * 2 ^ b) = ((a * 2 ^ b:Nat):Int) by push_cast; rfl,w32]
 have hr:(a:Int).fdiv (2 ^ b) = ((a / 2 ^ b:Nat):Int):=by
  rw [show ((2:Int) ^ b) = ((2 ^ b:Nat):Int) by push_cast; rfl,fdivN]
 by_cases h7:op = 12
 ·have h7i:(op:Int) = 12:=by omega
  rw [if_pos h7]
  simp only [go_sem,↓reduceIte,h0i,h7i,Int.toNat_natCast,hmin,hs,hb0]
 ·have h7i:¬ (op:Int) = 12:=by omega
  rw [if_neg h7]
  simp only [go_sem,↓reduceIte,h0i,h7i,Int.toNat_natCast,hmin,hr,hb0]
set_option maxHeartbeats 4000000 in
theorem compare_A (op a b:Nat):PureR Tryz.prog 368 [iv .i64 op,iv .u32 a,iv .u32 b] (· = iv .u32 (if (op = 14 ∧ a < b) ∨ (op = 15 ∧ a = b) then 1 else 0:Nat)):=by
 refine pure_of_wp Tt_ok mixed Tryz.func368 rfl (by rfl) [6] rfl (by kernel_rfl) (by simp [Tryz.ntmps368]) fun g=>?_
 by_cases h14:op = 14
 ·have hi:(op:Int) = 14:=by omega
  by_cases hl:a < b
  ·have hli:(a:Int) < (b:Int):=by omega
   rw [if_pos (.inl ⟨h14,hl⟩)]
   simp only [go_sem,↓reduceIte,hi,hli]
  ·have hli:¬ (a:Int) < (b:Int):=by omega
   rw [if_neg (by omega)]
   simp only [go_sem,↓reduceIte,hi,hli]
 have hi:¬ (op:Int) = 14:=by omega
 by_cases h15:op = 15
 ·have hj:(op:Int) = 15:=by omega
  by_cases hl:a = b
  ·have hli:(a:Int) = (b:Int):=by omega
   rw [if_pos (.inr ⟨h15,hl⟩)]
   simp only [go_sem,↓reduceIte,hi,hj,hli]
  ·have hli:¬ (a:Int) = (b:Int):=by omega
   rw [if_neg (by omega)]
   simp only [go_sem,↓reduceIte,hi,hj,hli]
 have hj:¬ (op:Int) = 15:=by omega
 rw [if_neg (by omega)]
 simp only [go_sem,↓reduceIte,hi,hj]
def appV:Option Nat → AV
 | some x=>.tup [iv .u32 (x:Nat),iv .i64 0]
 | none=>.tup [iv .u32 0,iv .i64 14]
set_option maxHeartbeats 4000000 in
theorem Apply_A (op a b:Nat) (h4:4 ≤ op) (h15:op ≤ 15) (ha:a < 4294967296) (hb:b < 4294967296):PureR Tryz.prog 336 [iv .i64 op,iv .u32 a,iv .u32 b] (· = appV (applyN op a b)):=by
 refine pure_of_wp Tt_ok mixed Tryz.func336 rfl (by rfl) [6,7] rfl (by kernel_rfl) (by simp [Tryz.ntmps336]) fun g=>?_
 have h1:=divide_A op a b ha hb
 have h2:=shift_A op a b ha
 have h3:=compare_A op a b
 have hd:=Nat.div_le_self a b
 have hm:=Nat.mod_le a b
 have hand:(a &&& b) < 4294967296:=Nat.lt_of_le_of_lt Nat.and_le_left ha
 have hor:(a ||| b) < 4294967296:=Nat.or_lt_two_pow (n:=32) ha hb
 have hxor:(a ^^^ b) < 4294967296:=Nat.xor_lt_two_pow (n:=32) ha hb
 unfold appV applyN
 obtain rfl | rfl | rfl | rfl | rfl | rfl | rfl | rfl | rfl | rfl | rfl | rfl:op = 4 ∨ op = 5 ∨ op = 6 ∨ op = 7 ∨ op = 8 ∨ op = 9 ∨ op = 10 ∨ op = 11 ∨ op = 12 ∨ op = 13 ∨ op = 14 ∨ op = 15:=by omega
 ·simp only [go_sem,↓reduceIte,w32_add]
 ·simp only [go_sem,↓reduceIte,w32_sub ha hb]
 ·simp only [go_sem,↓reduceIte,w32_mul]
 ·simp only [go_sem,↓reduceIte]
  refine hook_call rfl (by simp only [go_sem,↓reduceIte]; exact h1) (by simp only [go_sem,↓reduceIte]; rfl) ?_
  rintro _ rfl
  by_cases hz:b = 0 <;> simp only [go_sem,↓reduceIte,hz]
 ·simp only [go_sem,↓reduceIte]
  refine hook_call rfl (by simp only [go_sem,↓reduceIte]; exact h1) (by simp only [go_sem,↓reduceIte]; rfl) ?_
  rintro _ rfl
  by_cases hz:b = 0 <;> simp only [go_sem,↓reduceIte,hz]
 ·simp only [go_sem,↓reduceIte]
  erw [and32 ha hb]
  rw [w32_lt hand]
 ·simp only [go_sem,↓reduceIte]
  erw [or32' ha hb]
  rw [w32_lt hor]
 ·simp only [go_sem,↓reduceIte]
  erw [xor32 ha hb]
  rw [w32_lt hxor]
 ·simp only [go_sem,↓reduceIte]
  refine hook_call rfl (by simp only [go_sem,↓reduceIte]; exact h2) (by simp only [go_sem,↓reduceIte]; rfl) ?_
  rintro _ rfl
  simp only [go_sem,↓reduceIte]
 ·simp only [go_sem,↓reduceIte]
  refine hook_call rfl (by simp only [go_sem,↓reduceIte]; exact h2) (by simp only [go_sem,↓reduceIte]; rfl) ?_
  rintro _ rfl
  simp only [go_sem,↓reduceIte]
 ·simp only [go_sem,↓reduceIte]
  refine hook_call rfl (by simp only [go_sem,↓reduceIte]; exact h3) (by simp only [go_sem,↓reduceIte]; rfl) ?_
  rintro _ rfl
  simp only [go_sem,↓reduceIte,false_and,or_false,false_or,true_and]
 ·simp only [go_sem,↓reduceIte]
  refine hook_call rfl (by simp only [go_sem,↓reduceIte]; exact h3) (by simp only [go_sem,↓reduceIte]; rfl) ?_
  rintro _ rfl
  simp only [go_sem,↓reduceIte,false_and,or_false,false_or,true_and]
def decV (w:Nat):AV:=if rightI (w / 16777216:Nat) (w / 1048576 % 16:Nat) (w / 65536 % 16:Nat) (w % 65536:Nat) = true then .tup [instV (w / 16777216:Nat) (w / 1048576 % 16:Nat) (w / 65536 % 16:Nat) (w % 65536:Nat),iv .i64 0] else .tup [instV 0 0 0 0,iv .i64 7]
theorem frz_ins {s:St} {a b c d e:Int}:FrzR s [.agg [.d (.int .i64 a),.d (.int .i64 b),.d (.int .i64 c),.d (.int .i64 d)],iv .i64 e] (.tup [instV a b c d,iv .i64 e]):=by
 refine ⟨_,⟨instV a b c d,_,rfl,⟨[.int .i64 a,.int .i64 b,.int .i64 c,.int .i64 d],rfl,fun i c hc'=>?_,rfl⟩,_,_,rfl,⟨_,.d _,rfl⟩,rfl⟩,rfl⟩
 match i,hc' with
 | 0,hc'=>cases hc'; exact ⟨_,rfl,.d _⟩
 | 1,hc'=>cases hc'; exact ⟨_,rfl,.d _⟩
 | 2,hc'=>cases hc'; exact ⟨_,rfl,.d _⟩
 | 3,hc'=>cases hc'; exact ⟨_,rfl,.d _⟩
end Go.Proofs.YtfcgadnbdcnnlabGreatDoor

namespace Go.Am
open Go.RowKit
section
variable {P:Program} {b₀:Bs} {β:Loc} {w:World}
theorem Rel.newGrown {N c:Nat} {s:St} {a:Act} (hr:Rel b₀ N s β a w) (d:Nat) {w':World} {ad:Addr} (hs:w.heap.size ≤ w'.heap.size) (hold:∀ b,b < w.heap.size → w'.heap[b]? = w.heap[b]?) (had:w.heap.size ≤ ad.block) (hos:w'.os = w.os ∧ w'.output = w.output) {cs:List C}
  (hobj:Keep b₀ β s.gen s.obj w (upd β d (some ad)) (s.newC c d cs).gen (s.newC c d cs).obj w' → ObjAt b₀ (upd β d (some ad)) (s.newC c d cs).gen (s.newC c d cs).obj w' (nxC c (s.gen d)) cs (some ad)) :
  Rel b₀ N (s.newC c d cs) (upd β d (some ad)) a w' ∧ Tr b₀ β s w (upd β d (some ad)) (s.newC c d cs) w':=by
 have hlt:∀ (i:Nat) (a':Addr),(s.obj i).isSome = true → β i = some a' → a'.block < w.heap.size:=fun i a' hi ha'=>by
  obtain ⟨cells,hc⟩:=Option.isSome_iff_exists.1 hi
  have:=hr.obj i cells hc
  rw [ha'] at this
  exact this.block.2
 have hkeep:Keep b₀ β s.gen s.obj w (upd β d (some ad)) (s.newC c d cs).gen (s.newC c d cs).obj w':=by
  refine ⟨fun b hb=>⟨⟨by have:=hb.1; omega,hb.2.1,fun i a' hi hβ'=>?_⟩,hold b hb.1⟩,fun i=>?_,fun i hg hi=>?_⟩
  ·simp only [St.newC,upd] at hi hβ'
   split at hβ'
   ·cases hβ'; have:=hb.1; omega
   ·rename_i hne
    simp only [hne,if_false] at hi
    exact hb.2.2 i a' hi hβ'
  ·simp only [St.newC,upd]; split
   ·rename_i he; subst he; exact Nat.le_of_lt (nxC_lt _ _)
   ·exact Nat.le_refl _
  ·simp only [St.newC,upd] at hg hi ⊢
   by_cases hne:i = d
   ·subst hne; simp at hg; exact absurd hg (nxC_ne _ _)
   ·simp only [hne,if_false] at hi ⊢
    refine ⟨hi,trivial,fun a' ha' arr1 el1 fr1 h1=>?_⟩
    rw [hold _ (hlt i a' hi ha')] at h1
    exact ⟨arr1,el1,fr1,h1,Nat.le_refl _⟩
 refine ⟨⟨hr.defers,hr.size,fun i=>RepV.keep hkeep _ (hr.f i),fun i cells' hc'=>?_,fun i i' a1 a2 h1 h2 hb1 hb2 hb=>?_,?_⟩,hs,?_,hkeep,hos⟩
 ·simp only [St.newC,upd] at hc' ⊢
  by_cases hid:i = d
  ·subst hid
   simp only [if_true,Option.some.injEq] at hc' ⊢
   subst hc'
   exact hobj hkeep
  ·simp only [hid,if_false] at hc' ⊢
   exact (hr.obj i cells' hc').keep hkeep (fun a' ha'=>hold _ (hlt i a' (by rw [hc']; rfl) ha'))
 ·simp only [St.newC,upd] at h1 h2 hb1 hb2
  by_cases hi:i = d <;> by_cases hi':i' = d
  ·rw [hi,hi']
  ·simp only [hi,hi',if_true,if_false] at h1 h2 hb1 hb2
   cases hb1
   have:=hlt i' a2 h2 hb2
   omega
  ·simp only [hi,hi',if_true,if_false] at h1 h2 hb1 hb2
   cases hb2
   have:=hlt i a1 h1 hb1
   omega
  ·simp only [hi,hi',if_false] at h1 h2 hb1 hb2
   exact hr.inj i i' a1 a2 h1 h2 hb1 hb2 hb
 ·have:=hr.base; omega
 ·intro b hb; exact hold b (by have:=hr.base; omega)
theorem clone_of {f:FuncId} {E bytes:Nat} (hf:Fine P f) (hE:E + 1 < 1000000)
  (hcl:∀ (b off n c:Nat) (news:List Value) (w:World),news.length = n * 1 → n ≤ maxLen → n * bytes ≤ 140737488355328 → (∀ j u,news[j]? = some u → w.cell? ⟨b,off + j,none⟩ = some u) → (∀ u ∈ news,u.oneCell' = true) →
    Calls P f #[.slice (some ⟨b,off,none⟩) n c] w fun e w'=>∃ v',e = .returned v' ∧ w'.ownsRow w.heap.size E 1 v' n news ∧ v' ≠ .slice none 0 0 ∧ Below w.heap.size w w')
  (k:IntKind) (id:Nat) (l:List Int) (hne:l ≠ []) (hlen:l.length ≤ 1000000) (hby:bytes ≤ 1000) {g:Nat → Nat} {ob:Obs} :
  FunR P f [.one (.d (.sl (l.map fun n=>[.int k n])))] g ob (fun r g' ob'=>r = .one (.osl id (nxC (E + 1) (g id)) 1 0 l.length) ∧ g' = upd g id (nxC (E + 1) (g id)) ∧ ob' = upd ob id (some (l.map fun n=>.d (.int k n)))):=by
 refine ⟨hf,fun b₀ N β a fa w vs hr hv=>?_⟩
 simp only [RepVs,RepV,RepC] at hv
 obtain ⟨v,us,rfl,hx,rfl⟩:=hv
 generalize hes:(l.map fun n=>[D.int k n]) = es at hx
 cases hx with
 | sl0=>exact absurd (by simpa using hes) hne
 | sl vals hcap hJ hsz hc hrr =>
   rename_i b off cap sz
   subst hes
   have hsz1:sz = 1:=by
    cases l with
    | nil=>exact absurd rfl hne
    | cons a l=>exact (hsz [D.int k a] (by simp)).symm
   subst hsz1
   have hcells:∀ (j:Nat) (u:Value),(l.map fun n=>Value.int k n)[j]? = some u → w.cell? ⟨b,off + j,none⟩ = some u:=by
    intro j u hj
    rw [List.getElem?_map] at hj
    cases hlj:l[j]? with
    | none=>rw [hlj] at hj; cases hj
    | some n =>
      rw [hlj] at hj
      cases hj
      have he:(l.map fun n=>[D.int k n])[j]? = some [.int k n]:=by rw [List.getElem?_map,hlj]; rfl
      have h3:=hc j _ he 0 _ rfl
      have h4:=hrr j _ he 0 _ rfl
      have h5:vals j 0 = .int k n:=by
       generalize vals j 0 = y at h4
       cases h4; rfl
      rw [h5] at h3
      simpa using h3
   have hml:l.length ≤ maxLen:=Nat.le_trans hlen (by decide)
   have h:=hcl b off l.length cap (l.map fun n=>Value.int k n) w (by simp) hml (by have:=Nat.mul_le_mul hlen hby; omega) hcells (by intro u hu; obtain ⟨n,_,rfl⟩:=List.mem_map.1 hu; rfl)
   simp only [List.length_map] at h ⊢
   refine h.mono fun e w' ⟨v',he,hown,hnn,hbel⟩=>?_
   rcases hown.2 with ⟨hv',_⟩ | ⟨blk,cp,cur,hv',hblk,hheap,hncap,_,hcur,htake⟩
   ·exact absurd hv' hnn
   subst hv'
   rw [Nat.mul_one] at hcur htake
   obtain ⟨r1,t1⟩:=hr.newGrown (c:=E + 1) id (w':=w') (ad:=⟨blk,0,none⟩) (cs:=l.map fun n=>C.d (.int k n)) hbel.size hbel.block hblk ⟨hbel.os,hbel.output⟩ (fun hkeep=>.ofCells rfl ⟨by have:=hr.base; simp only; omega,cur,E,0,0,hheap,⟨.inl (Nat.le_refl _),fun _=>⟨by rw [code_nxC' _ hE],rfl⟩⟩,by simp only [List.length_map]; omega,fun j c hj=>by
    rw [List.getElem?_map] at hj
    cases hlj:l[j]? with
    | none=>rw [hlj] at hj; cases hj
    | some n =>
      rw [hlj] at hj
      cases hj
      refine ⟨.int k n,?_,by simp only [RepC]; exact .int k n⟩
      have hjl:=(List.getElem?_eq_some_iff.1 hlj).1
      have:(cur.toList.take l.length)[j]? = some (Value.int k n):=by rw [htake,List.getElem?_map,hlj]; rfl
      rw [List.getElem?_take,if_pos hjl] at this
      simpa using this⟩)
   refine ⟨_,_,_,_,_,he,⟨rfl,rfl,rfl⟩,?_,r1.obj,r1.inj,t1⟩
   simp only [RepV,RepC,St.newC,upd,if_true]
   refine ⟨rfl,Nat.le_refl _,fun _ _=>?_⟩
   refine ⟨rfl,.inl ⟨cp,rfl,hncap,fun arr el fr hh=>?_⟩⟩
   simp only at hh
   rw [hheap] at hh
   cases hh
   simp only
   omega
end
end Go.Am
