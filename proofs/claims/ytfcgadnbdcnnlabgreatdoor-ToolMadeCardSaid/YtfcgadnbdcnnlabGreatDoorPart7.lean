/- A part of the proof; no conditions. -/
import Derived.Test.YtfcgadnbdcnnlabGreatDoorPart6
set_option linter.unusedSimpArgs false
set_option linter.unusedVariables false
namespace Go.Proofs.YtfcgadnbdcnnlabGreatDoor
open Go Go.Am Go.Asm Go.Mach
structure RC (cs:List C) (code:List Nat) (inp:Str) (m:M) (mc xc:C) (own:Bool):Prop where
 len:cs.length = 26
 c0:cs[0]? = some (.d (codeD code))
 c1:cs[1]? = some (.d (.str inp))
 c2:cs[2]? = some (.d (.int .i64 (m.pc:Nat)))
 rl:m.reg.length = 16
 rg:∀ a,a < 16 → cs[3 + a]? = some (.d (.int .u32 (m.r a:Nat)))
 c19:cs[19]? = some mc
 c20:cs[20]? = some (.d (.int .i64 (m.rd:Nat)))
 c21:cs[21]? = some (.d (.str []))
 c22:cs[22]? = some (.d (.int .i64 (m.steps:Nat)))
 c23:cs[23]? = some (.d (.int .i64 (m.fin:Nat)))
 c24:cs[24]? = some (.d (.bool own))
 c25:cs[25]? = some xc
theorem set_get {α:Type} {l:List α} {i j:Nat} {x:α} (h:i ≠ j):(l.set i x)[j]? = l[j]?:=List.getElem?_set_ne h
theorem set_same {α:Type} {l:List α} {i:Nat} {x:α} (h:i < l.length):(l.set i x)[i]? = some x:=by simp [h]
section
variable {cs:List C} {code:List Nat} {inp:Str} {m:M} {mc xc:C} {own:Bool}
theorem r_set (h:m.reg.length = 16) {a:Nat} (ha:a < 16) (x k:Nat):({ m with reg:=m.reg.set a x }:M).r k = if k = a then x else m.r k:=by
 unfold M.r
 rw [List.getD_eq_getElem?_getD,List.getD_eq_getElem?_getD,List.getElem?_set]
 by_cases hk:k = a
 ·subst hk; simp [h,ha]
 ·simp [hk,Ne.symm hk]
theorem RC.setReg (h:RC cs code inp m mc xc own) {a:Nat} (ha:a < 16) (x:Nat):RC (cs.set (3 + a) (.d (.int .u32 (x:Nat)))) code inp { m with reg:=m.reg.set a x } mc xc own:=by
 have hl:=h.len
 refine ⟨by simp [hl],by rw [set_get (by omega)]; exact h.c0,by rw [set_get (by omega)]; exact h.c1,by rw [set_get (by omega)]; exact h.c2,by simp [h.rl],fun k hk=>?_,by rw [set_get (by omega)]; exact h.c19,by rw [set_get (by omega)]; exact h.c20,by rw [set_get (by omega)]; exact h.c21,by rw [set_get (by omega)]; exact h.c22,by rw [set_get (by omega)]; exact h.c23,by rw [set_get (by omega)]; exact h.c24,by rw [set_get (by omega)]; exact h.c25⟩
 rw [r_set h.rl ha]
 by_cases hk':k = a
 ·subst hk'; rw [if_pos rfl,set_same (by omega)]
 ·rw [if_neg hk',set_get (by omega)]; exact h.rg k hk
theorem RC.setPc (h:RC cs code inp m mc xc own) (n:Nat):RC (cs.set 2 (.d (.int .i64 (n:Nat)))) code inp { m with pc:=n } mc xc own :=
 ⟨by simp [h.len],by rw [set_get (by omega)]; exact h.c0,by rw [set_get (by omega)]; exact h.c1,set_same (by rw [h.len]; decide),h.rl,fun k hk=>by rw [set_get (by omega)]; exact h.rg k hk,by rw [set_get (by omega)]; exact h.c19,by rw [set_get (by omega)]; exact h.c20,by rw [set_get (by omega)]; exact h.c21,by rw [set_get (by omega)]; exact h.c22,by rw [set_get (by omega)]; exact h.c23,by rw [set_get (by omega)]; exact h.c24,by rw [set_get (by omega)]; exact h.c25⟩
theorem RC.setRd (h:RC cs code inp m mc xc own) (n:Nat):RC (cs.set 20 (.d (.int .i64 (n:Nat)))) code inp { m with rd:=n } mc xc own :=
 ⟨by simp [h.len],by rw [set_get (by omega)]; exact h.c0,by rw [set_get (by omega)]; exact h.c1,by rw [set_get (by omega)]; exact h.c2,h.rl,fun k hk=>by rw [set_get (by omega)]; exact h.rg k hk,by rw [set_get (by omega)]; exact h.c19,set_same (by rw [h.len]; decide),by rw [set_get (by omega)]; exact h.c21,by rw [set_get (by omega)]; exact h.c22,by rw [set_get (by omega)]; exact h.c23,by rw [set_get (by omega)]; exact h.c24,by rw [set_get (by omega)]; exact h.c25⟩
theorem RC.setSteps (h:RC cs code inp m mc xc own) (n:Nat):RC (cs.set 22 (.d (.int .i64 (n:Nat)))) code inp { m with steps:=n } mc xc own :=
 ⟨by simp [h.len],by rw [set_get (by omega)]; exact h.c0,by rw [set_get (by omega)]; exact h.c1,by rw [set_get (by omega)]; exact h.c2,h.rl,fun k hk=>by rw [set_get (by omega)]; exact h.rg k hk,by rw [set_get (by omega)]; exact h.c19,by rw [set_get (by omega)]; exact h.c20,by rw [set_get (by omega)]; exact h.c21,set_same (by rw [h.len]; decide),by rw [set_get (by omega)]; exact h.c23,by rw [set_get (by omega)]; exact h.c24,by rw [set_get (by omega)]; exact h.c25⟩
theorem RC.setFin (h:RC cs code inp m mc xc own) (n:Nat):RC (cs.set 23 (.d (.int .i64 (n:Nat)))) code inp { m with fin:=n } mc xc own :=
 ⟨by simp [h.len],by rw [set_get (by omega)]; exact h.c0,by rw [set_get (by omega)]; exact h.c1,by rw [set_get (by omega)]; exact h.c2,h.rl,fun k hk=>by rw [set_get (by omega)]; exact h.rg k hk,by rw [set_get (by omega)]; exact h.c19,by rw [set_get (by omega)]; exact h.c20,by rw [set_get (by omega)]; exact h.c21,by rw [set_get (by omega)]; exact h.c22,set_same (by rw [h.len]; decide),by rw [set_get (by omega)]; exact h.c24,by rw [set_get (by omega)]; exact h.c25⟩
theorem RC.setMem (h:RC cs code inp m mc xc own) (c:C) (l:List Nat):RC (cs.set 19 c) code inp { m with mem:=l } c xc own :=
 ⟨by simp [h.len],by rw [set_get (by omega)]; exact h.c0,by rw [set_get (by omega)]; exact h.c1,by rw [set_get (by omega)]; exact h.c2,h.rl,fun k hk=>by rw [set_get (by omega)]; exact h.rg k hk,set_same (by rw [h.len]; decide),by rw [set_get (by omega)]; exact h.c20,by rw [set_get (by omega)]; exact h.c21,by rw [set_get (by omega)]; exact h.c22,by rw [set_get (by omega)]; exact h.c23,by rw [set_get (by omega)]; exact h.c24,by rw [set_get (by omega)]; exact h.c25⟩
theorem RC.setOwn (h:RC cs code inp m mc xc own) (b:Bool):RC (cs.set 24 (.d (.bool b))) code inp m mc xc b :=
 ⟨by simp [h.len],by rw [set_get (by omega)]; exact h.c0,by rw [set_get (by omega)]; exact h.c1,by rw [set_get (by omega)]; exact h.c2,h.rl,fun k hk=>by rw [set_get (by omega)]; exact h.rg k hk,by rw [set_get (by omega)]; exact h.c19,by rw [set_get (by omega)]; exact h.c20,by rw [set_get (by omega)]; exact h.c21,by rw [set_get (by omega)]; exact h.c22,by rw [set_get (by omega)]; exact h.c23,set_same (by rw [h.len]; decide),by rw [set_get (by omega)]; exact h.c25⟩
theorem RC.setMore (h:RC cs code inp m mc xc own) (c:C) (o:Str):RC (cs.set 25 c) code inp { m with out:=o } mc c own :=
 ⟨by simp [h.len],by rw [set_get (by omega)]; exact h.c0,by rw [set_get (by omega)]; exact h.c1,by rw [set_get (by omega)]; exact h.c2,h.rl,fun k hk=>by rw [set_get (by omega)]; exact h.rg k hk,by rw [set_get (by omega)]; exact h.c19,by rw [set_get (by omega)]; exact h.c20,by rw [set_get (by omega)]; exact h.c21,by rw [set_get (by omega)]; exact h.c22,by rw [set_get (by omega)]; exact h.c23,by rw [set_get (by omega)]; exact h.c24,set_same (by rw [h.len]; decide)⟩
end
def wordC (l:List Nat):List C:=l.map fun x=>.d (.int .u32 (x:Nat))
def wordsD (l:List Nat):D:=.sl (l.map fun x=>[.int .u32 (x:Nat)])
def byteC (l:Str):List C:=l.map fun b=>.d (.int .u8 (b.toNat:Nat))
structure Rn (gr:Nat) (code:List Nat) (inp:Str) (m:M) (own:Bool) (g:Nat → Nat) (ob:Obs):Prop where
 gen:g 3012 = gr
 obj:∃ cs mc xc,ob 3012 = some cs ∧ RC cs code inp m mc xc own ∧
  ((own = false ∧ mc = .d (wordsD m.mem)) ∨ (own = true ∧ m.mem ≠ [] ∧ mc = .osl 3100 (g 3100) 1 0 m.mem.length ∧ ob 3100 = some (wordC m.mem))) ∧
  ((m.out = [] ∧ xc = .d .nsl) ∨ (m.out ≠ [] ∧ xc = .osl 4133 (g 4133) 1 0 m.out.length ∧ ob 4133 = some (byteC m.out)))
theorem Rn.of {gr:Nat} {code:List Nat} {inp:Str} {m:M} {own:Bool} {g g':Nat → Nat} {ob ob':Obs} (h:Rn gr code inp m own g ob) (hg:∀ i,i = 3012 ∨ i = 3100 ∨ i = 4133 → g' i = g i) (ho:∀ i,i = 3012 ∨ i = 3100 ∨ i = 4133 → ob' i = ob i):Rn gr code inp m own g' ob':=by
 obtain ⟨h1,cs,mc,xc,h2,h3,h4,h5⟩:=h
 exact ⟨by rw [hg 3012 (by decide)]; exact h1,cs,mc,xc,by rw [ho 3012 (by decide)]; exact h2,h3,by rw [hg 3100 (by decide),ho 3100 (by decide)]; exact h4,by rw [hg 4133 (by decide),ho 4133 (by decide)]; exact h5⟩
theorem Rn.cells {gr:Nat} {code:List Nat} {inp:Str} {m m':M} {own:Bool} {g g':Nat → Nat} {ob ob':Obs} (h:Rn gr code inp m own g ob) {cs':List C} (hg:∀ i,i = 3012 ∨ i = 3100 ∨ i = 4133 → g' i = g i) (ho:∀ i,i = 3100 ∨ i = 4133 → ob' i = ob i)
  (hc:ob' 3012 = some cs') (hm:m'.mem = m.mem) (hx:m'.out = m.out) (hr:∀ cs mc xc,ob 3012 = some cs → RC cs code inp m mc xc own → RC cs' code inp m' mc xc own):Rn gr code inp m' own g' ob':=by
 obtain ⟨h1,cs,mc,xc,h2,h3,h4,h5⟩:=h
 exact ⟨by rw [hg 3012 (by decide)]; exact h1,cs',mc,xc,hc,hr cs mc xc h2 h3,by rw [hg 3100 (by decide),ho 3100 (by decide),hm]; exact h4,by rw [hg 4133 (by decide),ho 4133 (by decide),hx]; exact h5⟩
def Fr (g:Nat → Nat) (ob:Obs) (g':Nat → Nat) (ob':Obs):Prop:=∀ i,i < 3000 → g' i = g i ∧ ob' i = ob i
theorem retF_of {res:List Nat} {R:AV → (Nat → Nat) → Obs → Prop} {s:St} {e:Exit} (he:e = .ret ∨ e = .normal) (h:R (resAV s.f res) s.gen s.obj):RetF res R e s:=by
 rcases he with rfl | rfl <;> exact ⟨_,SemVs.refl _,h⟩
theorem Rn.done {gr:Nat} {code:List Nat} {inp:Str} {m m':M} {own:Bool} {g g':Nat → Nat} {ob ob':Obs} {cs cs':List C} (h:Rn gr code inp m own g ob) (ho:ob 3012 = some cs) (hg':∀ i,(i < 3000 ∨ i = 3012 ∨ i = 3100 ∨ i = 4133) → g' i = g i) (ho':∀ i,(i < 3000 ∨ i = 3100 ∨ i = 4133) → ob' i = ob i)
  (hc:ob' 3012 = some cs') (hm:m'.mem = m.mem) (hx:m'.out = m.out) (hr:∀ mc xc,RC cs code inp m mc xc own → RC cs' code inp m' mc xc own):Fr g ob g' ob' ∧ Rn gr code inp m' own g' ob' :=
 ⟨fun i hi=>⟨hg' i (.inl hi),ho' i (.inl hi)⟩,h.cells (fun i hi=>hg' i (by omega)) (fun i hi=>ho' i (by omega)) hc hm hx fun cs2 mc xc e r=>by rw [ho] at e; cases e; exact hr mc xc r⟩
def getM (inp:Str) (m:M) (a:Nat):M:=match inp[m.rd]? with | some x=>{ m with reg:=m.reg.set a x.toNat,rd:=m.rd + 1 } | none=>{ m with reg:=m.reg.set a 256 }
set_option maxHeartbeats 4000000 in
theorem get_R {gr:Nat} {code:List Nat} {inp:Str} {m:M} {own:Bool} {g:Nat → Nat} {ob:Obs} (h:Rn gr code inp m own g ob) (a:Nat) (ha:a < 16) (hrd:m.rd ≤ 1000000000000) :
  FunR Tryz.prog 335 [.one (.ptr 3012 gr 0),iv .i64 a] g ob (fun _ g' ob'=>Fr g ob g' ob' ∧ Rn gr code inp (getM inp m a) own g' ob'):=by
 refine fun_of_wp 6000 Tt_ok mixed Tryz.func335 rfl (by rfl) [] rfl (by kernel_rfl) (by simp [Tryz.ntmps335]) ?_
 obtain ⟨hg,cs,mc,xc,ho,hr,-,-⟩:=id h
 have ra:=hr.rg a ha
 have hn0:¬ (m.rd:Int) < 0:=by omega
 have h00:(0:Int) ≤ (m.rd:Int):=by omega
 have hws:=wrap_succ (k:=m.rd) (by omega)
 simp only [go_sem,↓reduceIte]
 refine draw_introB (by decide +kernel) ?_
 cases hx:inp[m.rd]? with
 | none =>
   have hle:(inp.length:Int) ≤ (m.rd:Int):=by have:=List.getElem?_eq_none_iff.1 hx; omega
   have hM:getM inp m a = { m with reg:=m.reg.set a 256 }:=by unfold getM; rw [hx]
   simp only [go_sem,↓reduceIte,hg,ho,hr.c20,hn0,hr.c1,hle]
   refine ⟨by omega,by have:=hr.len; omega,retF_of (.inl rfl) (h.done ho (fun i hi=>by (try simp only [upd]); repeat (rw [if_neg (by omega)]); try rfl) (fun i hi=>by (try simp only [upd]); repeat (rw [if_neg (by omega)]); try rfl) (by simp [upd] <;> rfl) (by rw [hM]) (by rw [hM]) fun _ _ hr=>?_)⟩
   rw [hM]
   exact hr.setReg ha 256
 | some x =>
   have hlt:=(List.getElem?_eq_some_iff.1 hx).1
   have hle:¬ (inp.length:Int) ≤ (m.rd:Int):=by omega
   have hM:getM inp m a = { m with reg:=m.reg.set a x.toNat,rd:=m.rd + 1 }:=by unfold getM; rw [hx]
   have hx8:=x.toNat_lt
   simp only [go_sem,↓reduceIte,hg,ho,hr.c20,hn0,hr.c1,hle]
   refine draw_introB (by decide +kernel) ?_
   simp only [go_sem,↓reduceIte,hg,ho,hr.c20,hr.c1,hx,h00,w32_lt (show x.toNat < 4294967296 by omega)]
   refine ⟨by omega,by have:=hr.len; omega,?_⟩
   have h20:(cs.set (3 + a) (.d (.int .u32 (x.toNat:Nat))))[20]? = some (.d (.int .i64 (m.rd:Nat))):=by rw [set_get (by omega)]; exact hr.c20
   simp only [go_sem,↓reduceIte,hg,h20,hws]
   refine ⟨by simp only [List.length_set,hr.len]; decide,retF_of (.inr rfl) (h.done ho (fun i hi=>by (try simp only [upd]); repeat (rw [if_neg (by omega)]); try rfl) (fun i hi=>by (try simp only [upd]); repeat (rw [if_neg (by omega)]); try rfl) (by simp [upd] <;> rfl) (by rw [hM]) (by rw [hM]) fun _ _ hr=>?_)⟩
   rw [hM]
   exact (hr.setReg ha x.toNat).setRd (m.rd + 1)
structure InsOk (a b c:Nat):Prop where
 a:a < 16
 b:b < 16
 c:c < 65536
set_option maxHeartbeats 8000000 in
theorem jump_R {gr:Nat} {code:List Nat} {inp:Str} {m:M} {own:Bool} {g:Nat → Nat} {ob:Obs} (h:Rn gr code inp m own g ob) (op a b c:Nat) (hop:18 ≤ op ∧ op ≤ 22) (hi:InsOk a b c) (hg9:Mach.Good m) (hst:m.steps ≤ 1000000000000) :
  FunR Tryz.prog 333 [.one (.ptr 3012 gr 0),instV op a b c] g ob (fun _ g' ob'=>Fr g ob g' ob' ∧ Rn gr code inp (doM code inp m op a b c) own g' ob'):=by
 refine fun_of_wp 6000 Tt_ok mixed Tryz.func333 rfl (by rfl) [] rfl (by kernel_rfl) (by simp [Tryz.ntmps333]) ?_
 obtain ⟨hg,cs,mc,xc,ho,hr,-,-⟩:=id h
 obtain ⟨ha,hb,hc⟩:=hi
 have hpc:=hg9.pc
 have ra:=hr.rg a ha
 have rlt:=hg9.r a
 have hws:=wrap_succ (k:=m.pc) (by omega)
 have hl:=hr.len
 unfold instV
 obtain rfl | rfl | rfl | rfl | rfl:op = 18 ∨ op = 19 ∨ op = 20 ∨ op = 21 ∨ op = 22:=by omega
 ·simp only [go_sem,↓reduceIte,hg,ho,hr.c2,hws]
  refine ⟨by omega,retF_of (.inr rfl) (h.done ho (fun i hi=>by (try simp only [upd]); repeat (rw [if_neg (by omega)]); try rfl) (fun i hi=>by (try simp only [upd]); repeat (rw [if_neg (by omega)]); try rfl) (by simp [upd] <;> rfl) (by rfl) (by rfl) fun _ _ hr=>?_)⟩
  exact hr.setPc c
 ·simp only [go_sem,↓reduceIte,hg,ho,hr.c2,hws]
  refine draw_introB (by decide +kernel) ?_
  by_cases hz:m.r a = 0
  ·have hzi:((m.r a:Nat):Int) = 0:=by omega
   simp only [go_sem,↓reduceIte,hg,ho,ra,hzi]
   refine ⟨by omega,by omega,retF_of (.inr rfl) (h.done ho (fun i hi=>by (try simp only [upd]); repeat (rw [if_neg (by omega)]); try rfl) (fun i hi=>by (try simp only [upd]); repeat (rw [if_neg (by omega)]); try rfl) (by simp [upd] <;> rfl) (by rfl) (by rfl) fun _ _ hr=>?_)⟩
   rw [show doM code inp m 19 a b c = { m with pc:=c } by show ({ m with pc:=if m.r a = 0 then c else m.pc + 1 }:M) = _; rw [if_pos hz]]
   exact hr.setPc c
  ·have hzi:¬ ((m.r a:Nat):Int) = 0:=by omega
   simp only [go_sem,↓reduceIte,hg,ho,ra,hzi]
   refine ⟨by omega,by omega,retF_of (.inr rfl) (h.done ho (fun i hi=>by (try simp only [upd]); repeat (rw [if_neg (by omega)]); try rfl) (fun i hi=>by (try simp only [upd]); repeat (rw [if_neg (by omega)]); try rfl) (by simp [upd] <;> rfl) (by rfl) (by rfl) fun _ _ hr=>?_)⟩
   rw [show doM code inp m 19 a b c = { m with pc:=m.pc + 1 } by show ({ m with pc:=if m.r a = 0 then c else m.pc + 1 }:M) = _; rw [if_neg hz]]
   exact hr.setPc (m.pc + 1)
 ·simp only [go_sem,↓reduceIte,hg,ho,hr.c2,hws]
  refine draw_introB (by decide +kernel) ?_
  by_cases hz:m.r a = 0
  ·have hzi:((m.r a:Nat):Int) = 0:=by omega
   simp only [go_sem,↓reduceIte,hg,ho,ra,hzi]
   refine ⟨by omega,by omega,retF_of (.inr rfl) (h.done ho (fun i hi=>by (try simp only [upd]); repeat (rw [if_neg (by omega)]); try rfl) (fun i hi=>by (try simp only [upd]); repeat (rw [if_neg (by omega)]); try rfl) (by simp [upd] <;> rfl) (by rfl) (by rfl) fun _ _ hr=>?_)⟩
   rw [show doM code inp m 20 a b c = { m with pc:=m.pc + 1 } by show ({ m with pc:=if m.r a = 0 then m.pc + 1 else c }:M) = _; rw [if_pos hz]]
   exact hr.setPc (m.pc + 1)
  ·have hzi:¬ ((m.r a:Nat):Int) = 0:=by omega
   simp only [go_sem,↓reduceIte,hg,ho,ra,hzi]
   refine ⟨by omega,by omega,retF_of (.inr rfl) (h.done ho (fun i hi=>by (try simp only [upd]); repeat (rw [if_neg (by omega)]); try rfl) (fun i hi=>by (try simp only [upd]); repeat (rw [if_neg (by omega)]); try rfl) (by simp [upd] <;> rfl) (by rfl) (by rfl) fun _ _ hr=>?_)⟩
   rw [show doM code inp m 20 a b c = { m with pc:=c } by show ({ m with pc:=if m.r a = 0 then m.pc + 1 else c }:M) = _; rw [if_neg hz]]
   exact hr.setPc c
 ·have hwp:IntKind.u32.wrap ((m.pc + 1:Nat):Int) = (((m.pc + 1) % 4294967296:Nat):Int):=w32 _
  simp only [go_sem,↓reduceIte,hg,ho,hr.c2,hws]
  refine draw_introB (by decide +kernel) ?_
  simp only [go_sem,↓reduceIte,hg,ho,hws,hwp]
  refine ⟨by omega,by omega,?_⟩
  refine ⟨by simp only [List.length_set]; omega,retF_of (.inr rfl) (h.done ho (fun i hi=>by (try simp only [upd]); repeat (rw [if_neg (by omega)]); try rfl) (fun i hi=>by (try simp only [upd]); repeat (rw [if_neg (by omega)]); try rfl) (by simp [upd] <;> rfl) (by rfl) (by rfl) fun _ _ hr=>?_)⟩
  exact (hr.setReg ha _).setPc c
 ·have hwr:IntKind.i64.wrap ((m.r a:Nat):Int) = ((m.r a:Nat):Int):=by rw [wrap_i64] <;> omega
  simp only [go_sem,↓reduceIte,hg,ho,hr.c2,hws]
  refine draw_introB (by decide +kernel) ?_
  simp only [go_sem,↓reduceIte,hg,ho,ra,hwr]
  refine ⟨by omega,by omega,retF_of (.inr rfl) (h.done ho (fun i hi=>by (try simp only [upd]); repeat (rw [if_neg (by omega)]); try rfl) (fun i hi=>by (try simp only [upd]); repeat (rw [if_neg (by omega)]); try rfl) (by simp [upd] <;> rfl) (by rfl) (by rfl) fun _ _ hr=>?_)⟩
  exact hr.setPc _
end Go.Proofs.YtfcgadnbdcnnlabGreatDoor

namespace Go.Mach
def bitsN (a:Nat):List Nat:=(List.range 32).map fun i=>a / 2 ^ i % 2
def ofB:List Nat → Nat
 | []=>0
 | b :: r=>b + 2 * ofB r
theorem bitsN_len (a:Nat):(bitsN a).length = 32:=by simp [bitsN]
theorem bitsN_get {a i:Nat} (h:i < 32):(bitsN a)[i]? = some (a / 2 ^ i % 2):=by simp [bitsN,List.getElem?_map,List.getElem?_range h]
theorem ofB_lt:∀ {l:List Nat},(∀ x ∈ l,x ≤ 1) → ofB l < 2 ^ l.length
 | [],_=>by decide
 | b :: r,h=>by
   have:=ofB_lt (l:=r) fun x hx=>h x (List.mem_cons_of_mem _ hx)
   have hb:=h b (List.mem_cons_self ..)
   simp only [ofB,List.length_cons,Nat.pow_succ]
   omega
theorem ofB_drop {l:List Nat} {i x:Nat} (h:l[i]? = some x):ofB (l.drop i) = x + 2 * ofB (l.drop (i + 1)):=by
 have hi:=(List.getElem?_eq_some_iff.1 h).1
 have hx:=(List.getElem?_eq_some_iff.1 h).2
 rw [List.drop_eq_getElem_cons hi,hx]; rfl
theorem ofB_bits (c:Nat):∀ n k,ofB ((List.range' k n).map fun i=>c / 2 ^ i % 2) = c / 2 ^ k % 2 ^ n
 | 0,k=>by rw [Nat.pow_zero,Nat.mod_one]; rfl
 | n + 1,k=>by
   rw [List.range'_succ,List.map_cons]
   simp only [ofB]
   rw [ofB_bits c n (k + 1),Nat.pow_succ 2 k,← Nat.div_div_eq_div_mul,show (2:Nat) ^ (n + 1) = 2 * 2 ^ n by rw [Nat.pow_succ,Nat.mul_comm],Nat.mod_mul]
theorem ofB_bitsN {c:Nat} (h:c < 4294967296):ofB (bitsN c) = c:=by
 unfold bitsN
 rw [List.range_eq_range',ofB_bits,Nat.pow_zero,Nat.div_one]
 exact Nat.mod_eq_of_lt h
def opN (op a b:Nat):Nat:=if op = 9 then a &&& b else if op = 10 then a ||| b else a ^^^ b
def bitOp (op x y:Nat):Nat:=if (x + y = 2 ∧ op ≠ 11) ∨ (x + y = 1 ∧ op ≠ 9) then 1 else 0
theorem bitb (a i:Nat):a / 2 ^ i % 2 = (a.testBit i).toNat:=by
 rw [Nat.testBit_eq_decide_div_mod_eq]
 rcases Nat.mod_two_eq_zero_or_one (a / 2 ^ i) with h | h <;> simp [h]
theorem bit_op {op:Nat} (h:op = 9 ∨ op = 10 ∨ op = 11) (a b i:Nat):bitOp op (a / 2 ^ i % 2) (b / 2 ^ i % 2) = opN op a b / 2 ^ i % 2:=by
 rw [bitb,bitb,bitb]
 rcases h with rfl | rfl | rfl
 ·simp only [opN,if_true,Nat.testBit_and]
  cases a.testBit i <;> cases b.testBit i <;> rfl
 ·simp only [opN,show ¬ (10:Nat) = 9 by decide,if_false,if_true,Nat.testBit_or]
  cases a.testBit i <;> cases b.testBit i <;> rfl
 ·simp only [opN,show ¬ (11:Nat) = 9 by decide,show ¬ (11:Nat) = 10 by decide,if_false,Nat.testBit_xor]
  cases a.testBit i <;> cases b.testBit i <;> rfl
theorem opN_lt {op a b:Nat} (ha:a < 4294967296) (hb:b < 4294967296):opN op a b < 4294967296:=by
 unfold opN
 refine iteQ (Q:=(· < 4294967296)) (fun _=>Nat.lt_of_le_of_lt Nat.and_le_left ha) fun _=>?_
 exact iteQ (Q:=(· < 4294967296)) (fun _=>Nat.or_lt_two_pow (n:=32) ha hb) fun _=>Nat.xor_lt_two_pow (n:=32) ha hb
end Go.Mach
