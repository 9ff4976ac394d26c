/- A part of the proof; no conditions. -/
import Derived.Test.YtfcgadnbdcnnlabGreatDoorPart9
set_option linter.unusedSimpArgs false
set_option linter.unusedVariables false
namespace Go.Proofs.YtfcgadnbdcnnlabGreatDoor
open Go Go.Am Go.Asm Go.Mach
theorem FrW.from {g g':Nat → Nat} {ob ob1 ob':Obs} {P:Prop} (h:FrW g ob1 g' ob' ∧ P) (hfr:∀ i,i ≠ 13 → i ≠ 47 → ob1 i = ob i):FrW g ob g' ob' ∧ P :=
 ⟨fun i a b c d e f=>⟨(h.1 i a b c d e f).1,(h.1 i a b c d e f).2.trans (hfr i b e)⟩,h.2⟩
set_option maxRecDepth 20000 in
set_option maxHeartbeats 16000000 in
theorem step_W {gr:Nat} {code:List Nat} {inp:Str} {m:M} {g:Nat → Nat} {ob:Obs} (h:Wn gr code inp m g ob) (hcw:∀ x ∈ code,x < 4294967296) (hg9:Mach.Good m) (hml:m.mem.length ≤ 1000000) (hcl:code.length ≤ 1000000) (hst:m.steps < 1000000000000) (hrd:m.rd ≤ 1000000000000) (hf:m.fin = 0) :
  FunR Tryz.prog 78 [.one (.ptr 13 gr 0)] g ob (fun _ g' ob'=>FrW g ob g' ob' ∧ Wn gr code inp (stepM okI code inp m) g' ob'):=by
 refine fun_of_wp 3000 Tt_ok mixed Tryz.func78 rfl (by rfl) [] rfl (by kernel_rfl) (by simp [Tryz.ntmps78]) ?_
 obtain ⟨hg,cs,mi,xc,cnt,ho,hr,hmi,hmo,hco,hcn,hmore⟩:=id h
 have hl:=hr.len
 have hp0:¬ (m.pc:Int) < 0:=by omega
 have hp00:(0:Int) ≤ (m.pc:Int):=by omega
 have hws:=wrap_succ (k:=m.steps) (by omega)
 simp only [go_sem,↓reduceIte]
 refine draw_introB (by decide +kernel) ?_
 by_cases hlt:m.pc < code.length
 case neg =>
  have hle:(code.length:Int) ≤ (m.pc:Int):=by omega
  rw [show stepM okI code inp m = { m with fin:=7 } by unfold stepM; rw [List.getElem?_eq_none (by omega)]]
  simp only [go_sem,↓reduceIte,hg,ho,hr.c0,hr.c23,hp0,List.length_map,hle]
  exact ⟨by omega,retF_of (.inl rfl) (h.done ho (fun i hi=>by (try simp only [upd]); repeat (rw [if_neg (by omega)]); try rfl) (fun i hi=>by (try simp only [upd]); repeat (rw [if_neg (by omega)]); try rfl) (by simp [upd] <;> rfl) rfl rfl fun _ _ _ hr=>hr.setFin 7)⟩
 have hle:¬ (code.length:Int) ≤ (m.pc:Int):=by omega
 obtain ⟨w,hw⟩:=getq hlt
 have hwlt:=hcw w (List.mem_of_getElem? hw)
 simp only [go_sem,↓reduceIte,hg,ho,hr.c0,hr.c23,hr.c20,hp0,List.length_map,hle,hws]
 refine ⟨by omega,?_⟩
 refine draw_introB (by decide +kernel) ?_
 have hr1:=hr.setSteps (m.steps + 1)
 generalize hcs1:cs.set 20 (.d (.int .i64 (m.steps + 1:Nat))) = cs1 at hr1 ⊢
 have hl1:=hr1.len
 obtain ⟨n0,hn0⟩:=getq (l:=cnt) (k:=m.pc) (by omega)
 have hcg:(cntC cnt)[m.pc]? = some (.d (.int .i64 n0)):=by unfold cntC; rw [List.getElem?_map,hn0]; rfl
 have hcl2:(cntC cnt).length = code.length:=by unfold cntC; rw [List.length_map,hcn]
 have hc0:=hr1.c0
 have hc27:=hr1.c27
 simp only [go_sem,↓reduceIte,hg,hc0,hc27,hco,hp00,Nat.zero_add,Nat.mul_one,hcg]
 refine ⟨hlt,hlt,by omega,?_⟩
 have h1:Wn gr code inp { m with steps:=m.steps + 1 } g (upd (upd ob 13 (some cs1)) 47 (some ((cntC cnt).set m.pc (.d (.int .i64 (IntKind.i64.wrap (n0 + 1))))))) :=
  ⟨hg,cs1,mi,xc,cnt.set m.pc (IntKind.i64.wrap (n0 + 1)),by simp [upd],hr1,hmi,by rcases hmi with rfl | rfl <;> simpa [upd] using hmo,by simp [upd,cntC,List.map_set],by rw [List.length_set,hcn],by simpa [upd] using hmore⟩
 have hfr:∀ i,i ≠ 13 → i ≠ 47 → (upd (upd ob 13 (some cs1)) 47 (some ((cntC cnt).set m.pc (.d (.int .i64 (IntKind.i64.wrap (n0 + 1))))))) i = ob i:=fun i a b=>by simp only [upd]; rw [if_neg b,if_neg a]
 have ho1:(upd (upd ob 13 (some cs1)) 47 (some ((cntC cnt).set m.pc (.d (.int .i64 (IntKind.i64.wrap (n0 + 1))))))) 13 = some cs1:=by simp [upd]
 have hmo1:(upd (upd ob 13 (some cs1)) 47 (some ((cntC cnt).set m.pc (.d (.int .i64 (IntKind.i64.wrap (n0 + 1))))))) mi = some (wordC m.mem):=by rcases hmi with rfl | rfl <;> simpa [upd] using hmo
 have hmore1:xc = .osl 38 (g 38) 1 0 m.out.length ∧ (upd (upd ob 13 (some cs1)) 47 (some ((cntC cnt).set m.pc (.d (.int .i64 (IntKind.i64.wrap (n0 + 1))))))) 38 = some (byteC m.out):=by simpa [upd] using hmore
 obtain ⟨cnt1,hco1,hcn1⟩:∃ cnt1,(upd (upd ob 13 (some cs1)) 47 (some ((cntC cnt).set m.pc (.d (.int .i64 (IntKind.i64.wrap (n0 + 1))))))) 47 = some (cntC cnt1) ∧ cnt1.length = code.length:=⟨cnt.set m.pc (IntKind.i64.wrap (n0 + 1)),by simp [upd,cntC,List.map_set],by rw [List.length_set,hcn]⟩
 generalize upd (upd ob 13 (some cs1)) 47 (some ((cntC cnt).set m.pc (.d (.int .i64 (IntKind.i64.wrap (n0 + 1)))))) = ob1 at h1 hfr ho1 hmo1 hmore1 hco1 ⊢
 have hg1:Mach.Good { m with steps:=m.steps + 1 }:=⟨hg9.len,hg9.reg,hg9.mem,by have:=hg9.pc; show m.pc ≤ 4294967296 + (m.steps + 1); omega,hg9.out,hg9.fin⟩
 have hs:stepM okI code inp m = if okW w = true then doM code inp { m with steps:=m.steps + 1 } (w / 16777216) (w / 1048576 % 16) (w / 65536 % 16) (w % 65536) else { m with steps:=m.steps + 1,fin:=6 }:=by
  unfold stepM okW; rw [hw]
 rw [hs]
 have hci:insW w = insW w:=rfl
 conv at hci=>rhs; unfold insW
 have hc23:=hr1.c23
 have hc24:=hr1.c24
 clear hcs1 hs hcg hco hcn hn0 hcl2 hr hmore hmo ho
 refine draw_det Tt_ok mixed [3002] [([0],[0],[],false),([56],[0],[],false),([57],[0],[],false),([58],[0],[],false),([0],[0],[],false),([60],[0],[],false),([61],[0],[],false),([62],[0],[],false),([63],[0],[],false),([59,64],[0],[],false),([65],[0],[],false),([],[],[0],false),([2,66],[],[],true)] 1 (by decide +kernel) rfl (by decide) ?_
 simp only [go_sem,↓reduceIte]
 cases hR:okW w
 ·rw [hR,if_neg (by simp)] at hci
  rw [if_neg (by simp)]
  iterate 9 (apply det_pure; · (intro fa ga oa K' hK; simp only [go_sem,↓reduceIte,hg,ho1,hc0,hc23] at hK ⊢; exact hK))
  iterate 2 (apply det_pure; · (intro fa ga oa K' hK; simp only [go_sem,↓reduceIte,hp00,hw,Option.map_some,hci] at hK ⊢; exact hK))
  (apply det_new; · (intro fa ga oa K' hK; simp only [go_sem,↓reduceIte] at hK ⊢; exact hK))
  apply det_last
  intro K' hK'
  simp only [go_sem,↓reduceIte]
  refine hK' _ ?_
  clear hK' K'
  simp only [go_sem,↓reduceIte]
  refine draw_introB (by decide +kernel) ?_
  simp only [go_sem,↓reduceIte,hg,ho1,hc0,hc24,hp00,hw,Option.map_some,hR]
  exact ⟨by omega,retF_of (.inl rfl) (FrW.from (h1.done (m':={ m with steps:=m.steps + 1,fin:=6 }) ho1 (fun i hi=>by (try simp only [upd]); repeat (rw [if_neg (by omega)]); try rfl) (fun i hi=>by (try simp only [upd]); repeat (rw [if_neg (by omega)]); try rfl) (by simp [upd] <;> rfl) rfl rfl fun _ _ _ hr=>hr.setFin 6) hfr)⟩
 ·rw [hR,if_pos rfl] at hci
  rw [if_pos rfl]
  obtain ⟨p1,p2,p3⟩:=okI_parts (show okI (w / 16777216) (w / 1048576 % 16) (w / 65536 % 16) (w % 65536) = true from hR)
  have ha:w / 1048576 % 16 < 16:=by omega
  have hb:w / 65536 % 16 < 16:=by omega
  have hc:w % 65536 < 65536:=by omega
  generalize w / 16777216 = op at hci p1 p2 p3 ⊢
  generalize w / 1048576 % 16 = a at hci p3 ha ⊢
  generalize w / 65536 % 16 = b at hci p3 hb ⊢
  generalize w % 65536 = c at hci p3 hc ⊢
  iterate 9 (apply det_pure; · (intro fa ga oa K' hK; simp only [go_sem,↓reduceIte,hg,ho1,hc0,hc23] at hK ⊢; exact hK))
  iterate 2 (apply det_pure; · (intro fa ga oa K' hK; simp only [go_sem,↓reduceIte,hp00,hw,Option.map_some,hci] at hK ⊢; exact hK))
  (apply det_new; · (intro fa ga oa K' hK; simp only [go_sem,↓reduceIte] at hK ⊢; exact hK))
  apply det_last
  intro K' hK'
  simp only [go_sem,↓reduceIte]
  refine hK' _ ?_
  clear hK' K'
  simp only [go_sem,↓reduceIte]
  refine draw_introB (by decide +kernel) ?_
  simp only [go_sem,↓reduceIte,hg,ho1,hc0,hc24,hp00,hw,Option.map_some,hR]
  refine draw_introB (by decide +kernel) ?_
  have ra:=hr1.rg a ha
  have ha0:(0:Int) ≤ (a:Int):=by omega
  have rb:=hr1.rg b hb
  have hb0:(0:Int) ≤ (b:Int):=by omega
  have hpc:m.pc ≤ 4294967296000000:=by have:=hg9.pc; omega
  have rlt:=hg9.r a
  have rblt:=hg9.r b
  have hset:=fun g2 ob2 (h2:Wn gr code inp { m with steps:=m.steps + 1 } g2 ob2) (x:Nat)=>set_W h2 a x ha hpc
  have hjump:=fun g2 ob2 (h2:Wn gr code inp { m with steps:=m.steps + 1 } g2 ob2) (y:Bool)=>jump_W h2 y c hpc
  have hwc:IntKind.u32.wrap ((c:Nat):Int) = ((c:Nat):Int):=w32_lt (by omega)
  change cs1[1 + a]? = some (.d (.int .u32 (m.r a:Nat))) at ra
  change cs1[1 + b]? = some (.d (.int .u32 (m.r b:Nat))) at rb
  have fin:∀ {g2:Nat → Nat} {ob2:Obs} {m':M} {g':Nat → Nat} {ob':Obs},(∀ i,i < 3000 → g2 i = g i) → (∀ i,i < 3000 → ob2 i = ob1 i) → FrW g2 ob2 g' ob' → Wn gr code inp m' g' ob' → FrW g ob g' ob' ∧ Wn gr code inp m' g' ob':=fun e1 e2 f1 f2 =>
   FrW.from (ob1:=ob1) ⟨fun i hi h13 h24 h27 h47 h38=>by have:=f1 i hi h13 h24 h27 h47 h38; rw [e1 i hi,e2 i hi] at this; exact this,f2⟩ hfr
  by_cases o1:op = 1
  ·subst o1
   rw [show doM code inp { m with steps:=m.steps + 1 } 1 a b c = ({ m with steps:=m.steps + 1 }:M).set a c from rfl]
   simp only [go_sem,↓reduceIte,hg,ho1,ra,ha0,hwc]
   refine ⟨by omega,?_⟩
   refine hook_fun rfl (by simp only [go_sem,↓reduceIte]; exact hset _ _ (h1.same (fun i hi=>by (try simp only [upd]); repeat (rw [if_neg (by omega)]); try rfl) (fun i hi=>by (try simp only [upd]); repeat (rw [if_neg (by omega)]); try rfl)) c) ?_
   rintro r g' ob' ⟨f1,f2⟩
   simp only [go_sem,↓reduceIte]
   exact retF_of (.inr rfl) (fin (fun i hi=>by (try simp only [upd]); repeat (rw [if_neg (by omega)]); try rfl) (fun i hi=>by (try simp only [upd]); repeat (rw [if_neg (by omega)]); try rfl) f1 f2)
  by_cases o2:op = 2
  ·subst o2
   rw [show doM code inp { m with steps:=m.steps + 1 } 2 a b c = ({ m with steps:=m.steps + 1 }:M).set a (m.r a % 65536 + c * 65536) from rfl]
   have e1:((m.r a:Nat):Int).tmod 65536 = ((m.r a % 65536:Nat):Int):=rfl
   have e2:IntKind.u32.wrap ((c:Int) * 65536) = ((c * 65536:Nat):Int):=by rw [IntKind.wrap_u32]; omega
   have e3:IntKind.u32.wrap (((m.r a % 65536:Nat):Int) + ((c * 65536:Nat):Int)) = ((m.r a % 65536 + c * 65536:Nat):Int):=by rw [IntKind.wrap_u32]; omega
   have e4:IntKind.u32.wrap ((m.r a % 65536:Nat):Int) = ((m.r a % 65536:Nat):Int):=w32_lt (by omega)
   simp only [go_sem,↓reduceIte,hg,ho1,ra,ha0,hwc,e1,e2,e3,e4]
   refine ⟨by omega,?_⟩
   refine hook_fun rfl (by simp only [go_sem,↓reduceIte]; exact hset _ _ (h1.same (fun i hi=>by (try simp only [upd]); repeat (rw [if_neg (by omega)]); try rfl) (fun i hi=>by (try simp only [upd]); repeat (rw [if_neg (by omega)]); try rfl)) (m.r a % 65536 + c * 65536)) ?_
   rintro r g' ob' ⟨f1,f2⟩
   simp only [go_sem,↓reduceIte]
   exact retF_of (.inr rfl) (fin (fun i hi=>by (try simp only [upd]); repeat (rw [if_neg (by omega)]); try rfl) (fun i hi=>by (try simp only [upd]); repeat (rw [if_neg (by omega)]); try rfl) f1 f2)
  by_cases o3:op = 3
  ·subst o3
   rw [show doM code inp { m with steps:=m.steps + 1 } 3 a b c = ({ m with steps:=m.steps + 1 }:M).set a (m.r b) from rfl]
   simp only [go_sem,↓reduceIte,hg,ho1,ra,ha0]
   refine ⟨by omega,?_⟩
   refine draw_introB (by decide +kernel) ?_
   simp only [go_sem,↓reduceIte,hg,ho1,rb,hb0]
   refine ⟨by omega,?_⟩
   refine hook_fun rfl (by simp only [go_sem,↓reduceIte]; exact hset _ _ (h1.same (fun i hi=>by (try simp only [upd]); repeat (rw [if_neg (by omega)]); try rfl) (fun i hi=>by (try simp only [upd]); repeat (rw [if_neg (by omega)]); try rfl)) (m.r b)) ?_
   rintro r g' ob' ⟨f1,f2⟩
   simp only [go_sem,↓reduceIte]
   exact retF_of (.inr rfl) (fin (fun i hi=>by (try simp only [upd]); repeat (rw [if_neg (by omega)]); try rfl) (fun i hi=>by (try simp only [upd]); repeat (rw [if_neg (by omega)]); try rfl) f1 f2)
  by_cases o18:op = 18
  ·subst o18
   rw [show doM code inp { m with steps:=m.steps + 1 } 18 a b c = { m with steps:=m.steps + 1,pc:=c } from rfl]
   simp only [go_sem,↓reduceIte,hg,ho1,ra,ha0]
   exact ⟨by omega,by omega,retF_of (.inr rfl) (FrW.from (h1.done (m':={ m with steps:=m.steps + 1,pc:=c }) ho1 (fun i hi=>by (try simp only [upd]); repeat (rw [if_neg (by omega)]); try rfl) (fun i hi=>by (try simp only [upd]); repeat (rw [if_neg (by omega)]); try rfl) (by simp [upd] <;> rfl) rfl rfl fun _ _ _ hr=>hr.setPc c) hfr)⟩
  by_cases o19:op = 19
  ·subst o19
   rw [show doM code inp { m with steps:=m.steps + 1 } 19 a b c = { m with steps:=m.steps + 1,pc:=if m.r a = 0 then c else m.pc + 1 } from rfl]
   by_cases hz:m.r a = 0
   ·have hzi:((m.r a:Nat):Int) = 0:=by omega
    rw [if_pos hz]
    simp only [go_sem,↓reduceIte,hg,ho1,ra,ha0,hzi]
    refine ⟨by omega,?_⟩
    refine hook_fun rfl (by simp only [go_sem,↓reduceIte]; exact hjump _ _ (h1.same (fun i hi=>by (try simp only [upd]); repeat (rw [if_neg (by omega)]); try rfl) (fun i hi=>by (try simp only [upd]); repeat (rw [if_neg (by omega)]); try rfl)) true) ?_
    rintro r g' ob' ⟨f1,f2⟩
    simp only [go_sem,↓reduceIte]
    exact retF_of (.inr rfl) (fin (fun i hi=>by (try simp only [upd]); repeat (rw [if_neg (by omega)]); try rfl) (fun i hi=>by (try simp only [upd]); repeat (rw [if_neg (by omega)]); try rfl) f1 f2)
   ·have hzi:¬ ((m.r a:Nat):Int) = 0:=by omega
    rw [if_neg hz]
    simp only [go_sem,↓reduceIte,hg,ho1,ra,ha0,hzi]
    refine ⟨by omega,?_⟩
    refine hook_fun rfl (by simp only [go_sem,↓reduceIte]; exact hjump _ _ (h1.same (fun i hi=>by (try simp only [upd]); repeat (rw [if_neg (by omega)]); try rfl) (fun i hi=>by (try simp only [upd]); repeat (rw [if_neg (by omega)]); try rfl)) false) ?_
    rintro r g' ob' ⟨f1,f2⟩
    simp only [go_sem,↓reduceIte]
    exact retF_of (.inr rfl) (fin (fun i hi=>by (try simp only [upd]); repeat (rw [if_neg (by omega)]); try rfl) (fun i hi=>by (try simp only [upd]); repeat (rw [if_neg (by omega)]); try rfl) f1 f2)
  by_cases o20:op = 20
  ·subst o20
   rw [show doM code inp { m with steps:=m.steps + 1 } 20 a b c = { m with steps:=m.steps + 1,pc:=if m.r a = 0 then m.pc + 1 else c } from rfl]
   by_cases hz:m.r a = 0
   ·have hzi:((m.r a:Nat):Int) = 0:=by omega
    rw [if_pos hz]
    simp only [go_sem,↓reduceIte,hg,ho1,ra,ha0,hzi]
    refine ⟨by omega,?_⟩
    refine hook_fun rfl (by simp only [go_sem,↓reduceIte]; exact hjump _ _ (h1.same (fun i hi=>by (try simp only [upd]); repeat (rw [if_neg (by omega)]); try rfl) (fun i hi=>by (try simp only [upd]); repeat (rw [if_neg (by omega)]); try rfl)) false) ?_
    rintro r g' ob' ⟨f1,f2⟩
    simp only [go_sem,↓reduceIte]
    exact retF_of (.inr rfl) (fin (fun i hi=>by (try simp only [upd]); repeat (rw [if_neg (by omega)]); try rfl) (fun i hi=>by (try simp only [upd]); repeat (rw [if_neg (by omega)]); try rfl) f1 f2)
   ·have hzi:¬ ((m.r a:Nat):Int) = 0:=by omega
    rw [if_neg hz]
    simp only [go_sem,↓reduceIte,hg,ho1,ra,ha0,hzi]
    refine ⟨by omega,?_⟩
    refine hook_fun rfl (by simp only [go_sem,↓reduceIte]; exact hjump _ _ (h1.same (fun i hi=>by (try simp only [upd]); repeat (rw [if_neg (by omega)]); try rfl) (fun i hi=>by (try simp only [upd]); repeat (rw [if_neg (by omega)]); try rfl)) true) ?_
    rintro r g' ob' ⟨f1,f2⟩
    simp only [go_sem,↓reduceIte]
    exact retF_of (.inr rfl) (fin (fun i hi=>by (try simp only [upd]); repeat (rw [if_neg (by omega)]); try rfl) (fun i hi=>by (try simp only [upd]); repeat (rw [if_neg (by omega)]); try rfl) f1 f2)
  by_cases o22:op = 22
  ·subst o22
   rw [show doM code inp { m with steps:=m.steps + 1 } 22 a b c = { m with steps:=m.steps + 1,pc:=m.r a } from rfl]
   have hwr:IntKind.i64.wrap ((m.r a:Nat):Int) = ((m.r a:Nat):Int):=by rw [wrap_i64] <;> omega
   simp only [go_sem,↓reduceIte,hg,ho1,ra,ha0,hwr]
   exact ⟨by omega,by omega,retF_of (.inr rfl) (FrW.from (h1.done (m':={ m with steps:=m.steps + 1,pc:=m.r a }) ho1 (fun i hi=>by (try simp only [upd]); repeat (rw [if_neg (by omega)]); try rfl) (fun i hi=>by (try simp only [upd]); repeat (rw [if_neg (by omega)]); try rfl) (by simp [upd] <;> rfl) rfl rfl fun _ _ _ hr=>hr.setPc (m.r a)) hfr)⟩
  by_cases o26:op = 26
  ·subst o26
   rw [show doM code inp { m with steps:=m.steps + 1 } 26 a b c = { m with steps:=m.steps + 1,fin:=1 } from rfl]
   simp only [go_sem,↓reduceIte,hg,ho1,ra,ha0]
   exact ⟨by omega,by omega,retF_of (.inr rfl) (FrW.from (h1.done (m':={ m with steps:=m.steps + 1,fin:=1 }) ho1 (fun i hi=>by (try simp only [upd]); repeat (rw [if_neg (by omega)]); try rfl) (fun i hi=>by (try simp only [upd]); repeat (rw [if_neg (by omega)]); try rfl) (by simp [upd] <;> rfl) rfl rfl fun _ _ _ hr=>hr.setFin 1) hfr)⟩
  by_cases o25:op = 25
  ·subst o25
   rw [show doM code inp { m with steps:=m.steps + 1 } 25 a b c = (if c ≤ m.r a then ({ m with steps:=m.steps + 1,fin:=3 }:M) else { m with steps:=m.steps + 1,pc:=m.pc + 1 }) from rfl]
   have hwp:=wrap_succ (k:=m.pc) (by omega)
   by_cases hz:c ≤ m.r a
   ·have hzi:((c:Nat):Int) ≤ ((m.r a:Nat):Int):=by omega
    rw [if_pos hz]
    simp only [go_sem,↓reduceIte,hg,ho1,ra,ha0,hwc,hzi]
    exact ⟨by omega,by omega,retF_of (.inl rfl) (FrW.from (h1.done (m':={ m with steps:=m.steps + 1,fin:=3 }) ho1 (fun i hi=>by (try simp only [upd]); repeat (rw [if_neg (by omega)]); try rfl) (fun i hi=>by (try simp only [upd]); repeat (rw [if_neg (by omega)]); try rfl) (by simp [upd] <;> rfl) rfl rfl fun _ _ _ hr=>hr.setFin 3) hfr)⟩
   ·have hzi:¬ ((c:Nat):Int) ≤ ((m.r a:Nat):Int):=by omega
    rw [if_neg hz]
    simp only [go_sem,↓reduceIte,hg,ho1,ra,ha0,hwc,hzi,hc0,hwp]
    exact ⟨by omega,by omega,retF_of (.inr rfl) (FrW.from (h1.done (m':={ m with steps:=m.steps + 1,pc:=m.pc + 1 }) ho1 (fun i hi=>by (try simp only [upd]); repeat (rw [if_neg (by omega)]); try rfl) (fun i hi=>by (try simp only [upd]); repeat (rw [if_neg (by omega)]); try rfl) (by simp [upd] <;> rfl) rfl rfl fun _ _ _ hr=>hr.setPc (m.pc + 1)) hfr)⟩
  by_cases o21:op = 21
  ·subst o21
   rw [show doM code inp { m with steps:=m.steps + 1 } 21 a b c = { m with steps:=m.steps + 1,reg:=m.reg.set a ((m.pc + 1) % 4294967296),pc:=c } from rfl]
   have e1:IntKind.u32.wrap ((m.pc:Nat):Int) = ((m.pc % 4294967296:Nat):Int):=w32 _
   have e2:IntKind.u32.wrap (((m.pc % 4294967296:Nat):Int) + 1) = (((m.pc + 1) % 4294967296:Nat):Int):=by rw [IntKind.wrap_u32]; omega
   simp only [go_sem,↓reduceIte,hg,ho1,ra,ha0]
   refine ⟨by omega,?_⟩
   refine draw_introB (by decide +kernel) ?_
   simp only [go_sem,↓reduceIte,hg,ho1,hc0,ha0,e1,e2]
   refine ⟨by omega,by omega,?_⟩
   exact ⟨by simp only [List.length_set]; omega,retF_of (.inr rfl) (FrW.from (h1.done (m':={ m with steps:=m.steps + 1,reg:=m.reg.set a ((m.pc + 1) % 4294967296),pc:=c }) ho1 (fun i hi=>by (try simp only [upd]); repeat (rw [if_neg (by omega)]); try rfl) (fun i hi=>by (try simp only [upd]); repeat (rw [if_neg (by omega)]); try rfl) (by simp [upd] <;> rfl) rfl rfl fun _ _ _ hr=>(hr.setReg ha _).setPc c) hfr)⟩
  by_cases o23:op = 23
  ·subst o23
   have hrd0:¬ (m.rd:Int) < 0:=by omega
   have hrd00:(0:Int) ≤ (m.rd:Int):=by omega
   have hwrd:=wrap_succ (k:=m.rd) (by omega)
   have hc18:=hr1.c18
   have hc26:=hr1.c26
   cases hx:inp[m.rd]? with
   | none =>
     have hle':(inp.length:Int) ≤ (m.rd:Int):=by have:=List.getElem?_eq_none_iff.1 hx; omega
     rw [show doM code inp { m with steps:=m.steps + 1 } 23 a b c = ({ m with steps:=m.steps + 1 }:M).set a 256 by show (match inp[m.rd]? with | some x=>_ | none=>_) = _; rw [hx]]
     simp only [go_sem,↓reduceIte,hg,ho1,ra,ha0]
     refine ⟨by omega,?_⟩
     refine draw_introB (by decide +kernel) ?_
     simp only [go_sem,↓reduceIte,hg,ho1,hc18,hc26,hrd0,hle']
     refine hook_fun rfl (by simp only [go_sem,↓reduceIte]; exact hset _ _ (h1.same (fun i hi=>by (try simp only [upd]); repeat (rw [if_neg (by omega)]); try rfl) (fun i hi=>by (try simp only [upd]); repeat (rw [if_neg (by omega)]); try rfl)) 256) ?_
     rintro r g' ob' ⟨f1,f2⟩
     simp only [go_sem,↓reduceIte]
     exact retF_of (.inl rfl) (fin (fun i hi=>by (try simp only [upd]); repeat (rw [if_neg (by omega)]); try rfl) (fun i hi=>by (try simp only [upd]); repeat (rw [if_neg (by omega)]); try rfl) f1 f2)
   | some x =>
     have hltx:=(List.getElem?_eq_some_iff.1 hx).1
     have hle':¬ (inp.length:Int) ≤ (m.rd:Int):=by omega
     have hx8:=x.toNat_lt
     rw [show doM code inp { m with steps:=m.steps + 1 } 23 a b c = ({ m with steps:=m.steps + 1,rd:=m.rd + 1 }:M).set a x.toNat by show (match inp[m.rd]? with | some x=>_ | none=>_) = _; rw [hx]; rfl]
     simp only [go_sem,↓reduceIte,hg,ho1,ra,ha0]
     refine ⟨by omega,?_⟩
     refine draw_introB (by decide +kernel) ?_
     simp only [go_sem,↓reduceIte,hg,ho1,hc18,hc26,hrd0,hle']
     refine draw_introB (by decide +kernel) ?_
     simp only [go_sem,↓reduceIte,hg,ho1,hc18,hc26,hrd00,hx,hwrd,w32_lt (show x.toNat < 4294967296 by omega)]
     refine ⟨by omega,?_⟩
     refine hook_fun rfl (by simp only [go_sem,↓reduceIte]; exact set_W (m:={ m with steps:=m.steps + 1,rd:=m.rd + 1 }) ((h1.done (m':={ m with steps:=m.steps + 1,rd:=m.rd + 1 }) ho1 (fun i hi=>by (try simp only [upd]); repeat (rw [if_neg (by omega)]); try rfl) (fun i hi=>by (try simp only [upd]); repeat (rw [if_neg (by omega)]); try rfl) (by simp [upd] <;> rfl) rfl rfl fun _ _ _ hr=>hr.setRd (m.rd + 1)).2) a x.toNat ha hpc) ?_
     rintro r g' ob' ⟨f1,f2⟩
     simp only [go_sem,↓reduceIte]
     refine retF_of (.inr rfl) (FrW.from (ob1:=ob1) ⟨fun i hi h13 h24 h27 h47 h38=>?_,f2⟩ hfr)
     have:=f1 i hi h13 h24 h27 h47 h38
     simp only [upd] at this
     repeat rw [if_neg (by omega)] at this
     exact this
  by_cases o16:op = 16
  ·subst o16
   have hc17:=hr1.c17
   have hF:=fetch_A m.mem (m.r b) c hml hc
   have hmi2:mi ≠ 13 ∧ mi ≠ 3002:=by omega
   simp only [go_sem,↓reduceIte,hg,ho1,ra,ha0]
   refine ⟨by omega,?_⟩
   simp only [go_sem,↓reduceIte,hg,ho1,hc17]
   refine draw_calls Tt_ok mixed (by decide +kernel) ?_
   simp only [go_sem,↓reduceIte,hg,ho1,rb,hb0]
   refine ⟨by omega,?_⟩
   have hfz:∀ {s:St} (x y:D),s.gen mi = g mi → s.obj mi = some (wordC m.mem) → FrzVs s [.one (.osl mi (g mi) 1 0 m.mem.length),.one (.d x),.one (.d y)] [.one (.d (wordsD m.mem)),.one (.d (normD x)),.one (.d (normD y))]:=fun x y e1 e2 =>
    frzVs3 (frzOne (frz_map (cells:=wordC m.mem) (off:=0) e1 e2 m.mem (fun n=>.int .u32 (n:Nat)) (fun _=>rfl) rfl (fun j a h=>by rw [Nat.zero_add]; unfold wordC; rw [List.getElem?_map,h]; rfl) (by unfold wordC; rw [List.length_map]; omega))) (frz1 _) (frz1 _)
   have e1:∀ (x:Nat),(upd g 3002 x) mi = g mi:=fun x=>by simp only [upd]; rw [if_neg hmi2.2]
   cases hx:m.mem[(m.r b + c) % 4294967296]? with
   | none =>
     rw [hx] at hF
     unfold fetV at hF
     rw [show doM code inp { m with steps:=m.steps + 1 } 16 a b c = { m with steps:=m.steps + 1,fin:=8 } by show (match m.mem[(m.r b + c) % 4294967296]? with | some x=>_ | none=>_) = _; rw [hx]]
     refine quiet_call rfl hF (by simp only [go_sem,↓reduceIte]; exact hfz _ _ (e1 _) (by simp only [upd]; (repeat rw [if_neg hmi2.2]); exact hmo1)) rfl ?_
     simp only [go_sem,↓reduceIte,hg,ho1]
     exact ⟨by omega,retF_of (.inl rfl) (FrW.from (h1.done (m':={ m with steps:=m.steps + 1,fin:=8 }) ho1 (fun i hi=>by (try simp only [upd]); repeat (rw [if_neg (by omega)]); try rfl) (fun i hi=>by (try simp only [upd]); repeat (rw [if_neg (by omega)]); try rfl) (by simp [upd] <;> rfl) rfl rfl fun _ _ _ hr=>hr.setFin 8) hfr)⟩
   | some x =>
     rw [hx] at hF
     unfold fetV at hF
     rw [show doM code inp { m with steps:=m.steps + 1 } 16 a b c = ({ m with steps:=m.steps + 1 }:M).set a x by show (match m.mem[(m.r b + c) % 4294967296]? with | some x=>_ | none=>_) = _; rw [hx]]
     refine quiet_call rfl hF (by simp only [go_sem,↓reduceIte]; exact hfz _ _ (e1 _) (by simp only [upd]; (repeat rw [if_neg hmi2.2]); exact hmo1)) rfl ?_
     simp only [go_sem,↓reduceIte,hg,ho1]
     refine hook_fun rfl (by simp only [go_sem,↓reduceIte]; exact hset _ _ (h1.same (fun i hi=>by (try simp only [upd]); repeat (rw [if_neg (by omega)]); try rfl) (fun i hi=>by (try simp only [upd]); repeat (rw [if_neg (by omega)]); try rfl)) x) ?_
     rintro r g' ob' ⟨f1,f2⟩
     simp only [go_sem,↓reduceIte]
     exact retF_of (.inr rfl) (fin (fun i hi=>by (try simp only [upd]); repeat (rw [if_neg (by omega)]); try rfl) (fun i hi=>by (try simp only [upd]); repeat (rw [if_neg (by omega)]); try rfl) f1 f2)
  by_cases o27:op = 27
  ·subst o27
   have hc17:=hr1.c17
   have hc25:=hr1.c25
   have hF:=fetch_A code (m.r b) c hcl hc
   unfold codeD at hc25
   unfold wordsD at hF
   simp only [go_sem,↓reduceIte,hg,ho1,ra,ha0]
   refine ⟨by omega,?_⟩
   simp only [go_sem,↓reduceIte,hg,ho1,hc17,hc25]
   refine draw_calls Tt_ok mixed (by decide +kernel) ?_
   simp only [go_sem,↓reduceIte,hg,ho1,rb,hb0]
   refine ⟨by omega,?_⟩
   cases hx:code[(m.r b + c) % 4294967296]? with
   | none =>
     rw [hx] at hF
     unfold fetV at hF
     rw [show doM code inp { m with steps:=m.steps + 1 } 27 a b c = { m with steps:=m.steps + 1,fin:=8 } by show (match code[(m.r b + c) % 4294967296]? with | some x=>_ | none=>_) = _; rw [hx]]
     refine quiet_call rfl hF (frzVs_data rfl) rfl ?_
     simp only [go_sem,↓reduceIte,hg,ho1]
     exact ⟨by omega,retF_of (.inl rfl) (FrW.from (h1.done (m':={ m with steps:=m.steps + 1,fin:=8 }) ho1 (fun i hi=>by (try simp only [upd]); repeat (rw [if_neg (by omega)]); try rfl) (fun i hi=>by (try simp only [upd]); repeat (rw [if_neg (by omega)]); try rfl) (by simp [upd] <;> rfl) rfl rfl fun _ _ _ hr=>hr.setFin 8) hfr)⟩
   | some x =>
     rw [hx] at hF
     unfold fetV at hF
     rw [show doM code inp { m with steps:=m.steps + 1 } 27 a b c = ({ m with steps:=m.steps + 1 }:M).set a x by show (match code[(m.r b + c) % 4294967296]? with | some x=>_ | none=>_) = _; rw [hx]]
     refine quiet_call rfl hF (frzVs_data rfl) rfl ?_
     simp only [go_sem,↓reduceIte,hg,ho1]
     refine hook_fun rfl (by simp only [go_sem,↓reduceIte]; exact hset _ _ (h1.same (fun i hi=>by (try simp only [upd]); repeat (rw [if_neg (by omega)]); try rfl) (fun i hi=>by (try simp only [upd]); repeat (rw [if_neg (by omega)]); try rfl)) x) ?_
     rintro r g' ob' ⟨f1,f2⟩
     simp only [go_sem,↓reduceIte]
     exact retF_of (.inr rfl) (fin (fun i hi=>by (try simp only [upd]); repeat (rw [if_neg (by omega)]); try rfl) (fun i hi=>by (try simp only [upd]); repeat (rw [if_neg (by omega)]); try rfl) f1 f2)
  have hwpc:=wrap_succ (k:=m.pc) (by omega)
  by_cases h415:4 ≤ op ∧ op ≤ 15
  ·have hc16:=p3 h415
   have rc:=hr1.rg c hc16
   change cs1[1 + c]? = some (.d (.int .u32 (m.r c:Nat))) at rc
   have hcz:(0:Int) ≤ (c:Int):=by omega
   have hA:=ApplyR_A op (m.r b) (m.r c) h415.1 h415.2 (hg9.r b) (hg9.r c)
   have hD:doM code inp { m with steps:=m.steps + 1 } op a b c = match applyN op (m.r b) (m.r c) with | some x=>({ m with steps:=m.steps + 1 }:M).set a x | none=>{ m with steps:=m.steps + 1,fin:=2 }:=by
    obtain rfl | rfl | rfl | rfl | rfl | rfl | rfl | rfl | rfl | rfl | rfl | rfl:op = 4 ∨ op = 5 ∨ op = 6 ∨ op = 7 ∨ op = 8 ∨ op = 9 ∨ op = 10 ∨ op = 11 ∨ op = 12 ∨ op = 13 ∨ op = 14 ∨ op = 15:=by omega
    all_goals rfl
   rw [hD]
   clear hD
   generalize applyN op (m.r b) (m.r c) = res at hA ⊢
   unfold appV at hA
   have k1:¬ (op:Int) = 1:=by omega
   have k2:¬ (op:Int) = 2:=by omega
   have k3:¬ (op:Int) = 3:=by omega
   have k16:¬ (op:Int) = 16:=by omega
   have k17:¬ (op:Int) = 17:=by omega
   have k18:¬ (op:Int) = 18:=by omega
   have k19:¬ (op:Int) = 19:=by omega
   have k20:¬ (op:Int) = 20:=by omega
   have k21:¬ (op:Int) = 21:=by omega
   have k22:¬ (op:Int) = 22:=by omega
   have k23:¬ (op:Int) = 23:=by omega
   have k24:¬ (op:Int) = 24:=by omega
   have k25:¬ (op:Int) = 25:=by omega
   have k26:¬ (op:Int) = 26:=by omega
   have k27:¬ (op:Int) = 27:=by omega
   simp only [go_sem,↓reduceIte,hg,ho1,ra,ha0,k1,k2,k3,k16,k17,k18,k19,k20,k21,k22,k23,k24,k25,k26,k27]
   refine ⟨by omega,?_⟩
   refine draw_calls Tt_ok mixed (by decide +kernel) ?_
   simp only [go_sem,↓reduceIte,hg,ho1,rb,rc,hb0,hcz]
   refine ⟨by omega,by omega,?_⟩
   cases res with
   | none =>
     refine quiet_call rfl hA (frzVs_data rfl) rfl ?_
     simp only [go_sem,↓reduceIte,hg,ho1]
     exact ⟨by omega,retF_of (.inl rfl) (FrW.from (h1.done (m':={ m with steps:=m.steps + 1,fin:=2 }) ho1 (fun i hi=>by (try simp only [upd]); repeat (rw [if_neg (by omega)]); try rfl) (fun i hi=>by (try simp only [upd]); repeat (rw [if_neg (by omega)]); try rfl) (by simp [upd] <;> rfl) rfl rfl fun _ _ _ hr=>hr.setFin 2) hfr)⟩
   | some x =>
     refine quiet_call rfl hA (frzVs_data rfl) rfl ?_
     simp only [go_sem,↓reduceIte,hg,ho1]
     refine hook_fun rfl (by simp only [go_sem,↓reduceIte]; exact hset _ _ (h1.same (fun i hi=>by (try simp only [upd]); repeat (rw [if_neg (by omega)]); try rfl) (fun i hi=>by (try simp only [upd]); repeat (rw [if_neg (by omega)]); try rfl)) x) ?_
     rintro r g' ob' ⟨f1,f2⟩
     simp only [go_sem,↓reduceIte]
     exact retF_of (.inr rfl) (fin (fun i hi=>by (try simp only [upd]); repeat (rw [if_neg (by omega)]); try rfl) (fun i hi=>by (try simp only [upd]); repeat (rw [if_neg (by omega)]); try rfl) f1 f2)
  by_cases o17:op = 17
  ·subst o17
   have hc17:=hr1.c17
   have hmi2:mi ≠ 13 ∧ mi ≠ 3002 ∧ mi ≠ 47 ∧ mi ≠ 38:=by omega
   have e2:=w32_add (m.r b) c
   have hat:(m.r b + c) % 4294967296 < 4294967296:=Nat.mod_lt _ (by decide)
   rw [show doM code inp { m with steps:=m.steps + 1 } 17 a b c = (if (m.r b + c) % 4294967296 < m.mem.length then ({ m with steps:=m.steps + 1,mem:=m.mem.set ((m.r b + c) % 4294967296) (m.r a),pc:=m.pc + 1 }:M) else { m with steps:=m.steps + 1,fin:=8 }) from rfl]
   generalize (m.r b + c) % 4294967296 = at' at e2 hat ⊢
   have e3:=w64 (n:=at') (by omega)
   have e4:=w64 (n:=m.mem.length) (by omega)
   have hat0:(0:Int) ≤ (at':Int):=by omega
   simp only [go_sem,↓reduceIte,hg,ho1,ra,ha0]
   refine ⟨by omega,?_⟩
   refine draw_introB (by decide +kernel) ?_
   by_cases hz:at' < m.mem.length
   ·have hzi:¬ (m.mem.length:Int) ≤ (at':Int):=by omega
    have hwl:(wordC m.mem).length = m.mem.length:=by unfold wordC; rw [List.length_map]
    rw [if_pos hz]
    simp only [go_sem,↓reduceIte,hg,ho1,rb,hb0,hwc,e2,hc17,e3,e4,hzi,hat0,hmo1,hmi2.2.1,Ne.symm hmi2.1,Nat.zero_add,Nat.mul_one,hc0,hwpc]
    refine ⟨by omega,hz,by omega,?_⟩
    refine ⟨by omega,retF_of (.inr rfl) (FrW.from (ob1:=ob1) ⟨fun i hi h13 h24 h27 h47 h38=>⟨(fun i hi=>by (try simp only [upd]); repeat (rw [if_neg (by omega)]); try rfl) i hi,by simp only [upd]; (repeat rw [if_neg (by omega)])⟩,⟨by simp [upd,hg],cs1.set 0 (.d (.int .i64 (m.pc + 1:Nat))),mi,xc,cnt1,by simp [upd],?_,hmi,?_,?_,hcn1,?_⟩⟩ hfr)⟩
    ·have hp:=hr1.setPc (m.pc + 1)
     simp only [upd,List.length_set]
     (repeat rw [if_neg (by omega)])
     exact ⟨hp.len,hp.c0,hp.rl,hp.rg,hp.c17,hp.c18,hp.c19,hp.c20,hp.c21,hp.c22,hp.c23,hp.c24,hp.c25,hp.c26,hp.c27⟩
    ·simp only [upd]; (repeat rw [if_neg (by omega)]); simp [wordC,List.map_set]
    ·simp only [upd]; (repeat rw [if_neg (by omega)]); exact hco1
    ·simp only [upd]; (repeat rw [if_neg (by omega)]); exact hmore1
   ·have hzi:(m.mem.length:Int) ≤ (at':Int):=by omega
    rw [if_neg hz]
    simp only [go_sem,↓reduceIte,hg,ho1,rb,hb0,hwc,e2,hc17,e3,e4,hzi,hmi2.2.1,hmo1]
    exact ⟨by omega,by omega,retF_of (.inl rfl) (FrW.from (h1.done (m':={ m with steps:=m.steps + 1,fin:=8 }) ho1 (fun i hi=>by (try simp only [upd]); repeat (rw [if_neg (by omega)]); try rfl) (fun i hi=>by (try simp only [upd]); repeat (rw [if_neg (by omega)]); try rfl) (by simp [upd] <;> rfl) rfl rfl fun _ _ _ hr=>hr.setFin 8) hfr)⟩
  by_cases o24:op = 24
  ·subst o24
   have hc22:=hr1.c22
   have hol:=hg9.out
   rw [show doM code inp { m with steps:=m.steps + 1 } 24 a b c = (if 65536 ≤ m.out.length then ({ m with steps:=m.steps + 1,fin:=4 }:M) else { m with steps:=m.steps + 1,out:=m.out ++ [UInt8.ofNat (m.r a)],pc:=m.pc + 1 }) from rfl]
   have e1:((m.r a:Nat):Int).tmod 256 = ((m.r a % 256:Nat):Int):=rfl
   have e2:IntKind.u32.wrap ((m.r a % 256:Nat):Int) = ((m.r a % 256:Nat):Int):=w32_lt (by omega)
   have e3:IntKind.u8.wrap ((m.r a % 256:Nat):Int) = ((m.r a % 256:Nat):Int):=by rw [IntKind.wrap_u8]; omega
   have hb8:(UInt8.ofNat (m.r a)).toNat = m.r a % 256:=by rw [UInt8.toNat_ofNat']
   obtain ⟨rfl,x3⟩:=hmore1
   have hbl:(byteC m.out).length = m.out.length:=by unfold byteC; rw [List.length_map]
   by_cases hfull:65536 ≤ m.out.length
   ·have hfi:(65536:Int) ≤ (m.out.length:Int):=by omega
    rw [if_pos hfull]
    simp only [go_sem,↓reduceIte,hg,ho1,ra,ha0,hc22,x3,hfi]
    exact ⟨by omega,by omega,retF_of (.inl rfl) (FrW.from (h1.done (m':={ m with steps:=m.steps + 1,fin:=4 }) ho1 (fun i hi=>by (try simp only [upd]); repeat (rw [if_neg (by omega)]); try rfl) (fun i hi=>by (try simp only [upd]); repeat (rw [if_neg (by omega)]); try rfl) (by simp [upd] <;> rfl) rfl rfl fun _ _ _ hr=>hr.setFin 4) hfr)⟩
   ·have hfi:¬ (65536:Int) ≤ (m.out.length:Int):=by omega
    rw [if_neg hfull]
    have h220:∀ x,(cs1.set 22 x)[0]? = some (.d (.int .i64 (m.pc:Nat))):=fun x=>by rw [set_get (by omega)]; exact hc0
    simp only [go_sem,↓reduceIte,hg,ho1,ra,ha0,hc22,x3,hfi,e1,e2,e3,elemTy,h220,hwpc]
    have hmi2:mi ≠ 13 ∧ mi ≠ 3002 ∧ mi ≠ 47 ∧ mi ≠ 38:=by omega
    refine ⟨by omega,by omega,⟨by decide,by omega⟩,by omega,by simp only [List.length_set]; omega,retF_of (.inr rfl) (FrW.from (ob1:=ob1) ⟨fun i hi h13 h24 h27 h47 h38=>⟨by simp only [upd]; (repeat rw [if_neg (by omega)]),by simp only [upd]; (repeat rw [if_neg (by omega)])⟩,⟨by simp [upd,hg],(cs1.set 22 (.osl 38 (nxC (apC 5 (g 38) 0) (g 38)) 1 0 (m.out.length + 1))).set 0 (.d (.int .i64 (m.pc + 1:Nat))),mi,(.osl 38 (nxC (apC 5 (g 38) 0) (g 38)) 1 0 (m.out.length + 1)),cnt1,by simp [upd],?_,hmi,?_,?_,hcn1,?_,?_⟩⟩ hfr)⟩
    ·have hp:=(hr1.setOut (.osl 38 (nxC (apC 5 (g 38) 0) (g 38)) 1 0 (m.out.length + 1)) (m.out ++ [UInt8.ofNat (m.r a)])).setPc (m.pc + 1)
     simp only [upd]
     (repeat rw [if_neg (by omega)])
     exact hp
    ·simp only [upd]; (repeat rw [if_neg (by omega)]); exact hmo1
    ·simp only [upd]; (repeat rw [if_neg (by omega)]); exact hco1
    ·simp [upd]
    ·simp only [upd,if_true]
     rw [if_neg (by decide)]
     simp [byteC,hb8]
     exact List.take_of_length_le (by simp)
  exfalso
  omega
end Go.Proofs.YtfcgadnbdcnnlabGreatDoor

namespace Go.Proofs.YtfcgadnbdcnnlabGreatDoor
open Go Go.Am Go.Asm Go.Mach
def cntD (l:List Int):D:=.sl (l.map fun n=>[.int .i64 n])
theorem WC.state {cs cs':List C} {code:List Nat} {inp:Str} {m:M} {mc xc cc:C} (h:WC cs code inp m mc xc cc) (hl:cs'.length = 28) (he:∀ i,i < 22 → i ≠ 19 → cs'[i]? = cs[i]?) {o:Str} (ho:cs'[19]? = some (.d (.str o))):cs'.take 22 = stC { m with out:=o } mc:=by
 have hS:=stC_len (m:={ m with out:=o }) h.rl mc
 refine List.ext_getElem? fun i=>?_
 rw [List.getElem?_take]
 by_cases hi:i < 22
 ·rw [if_pos hi]
  unfold stC
  by_cases h0:i = 0
  ·subst h0; exact (he 0 (by omega) (by omega)).trans h.c0
  by_cases h1:i ≤ 16
  ·obtain ⟨a,rfl⟩:∃ a,i = a + 1:=⟨i - 1,by omega⟩
   rw [he (a + 1) (by omega) (by omega),show a + 1 = 1 + a by omega,h.rg a (by omega)]
   rw [show 1 + a = a + 1 by omega,List.getElem?_append_left (by simp [h.rl]; omega),List.map_cons,List.getElem?_cons_succ,List.map_map,List.getElem?_map]
   have:a < m.reg.length:=by rw [h.rl]; omega
   rw [List.getElem?_eq_getElem this]
   unfold M.r
   rw [List.getD_eq_getElem?_getD,List.getElem?_eq_getElem this]
   rfl
  ·obtain ⟨k,rfl⟩:∃ k,i = 17 + k:=⟨i - 17,by omega⟩
   rw [List.getElem?_append_right (by simp [h.rl])]
   simp only [List.length_map,List.length_cons,h.rl]
   rw [show 17 + k - (16 + 1) = k by omega]
   obtain rfl | rfl | rfl | rfl | rfl:k = 0 ∨ k = 1 ∨ k = 2 ∨ k = 3 ∨ k = 4:=by omega
   ·exact (he 17 (by omega) (by omega)).trans h.c17
   ·exact (he 18 (by omega) (by omega)).trans h.c18
   ·exact ho
   ·exact (he 20 (by omega) (by omega)).trans h.c20
   ·exact (he 21 (by omega) (by omega)).trans h.c21
 ·rw [if_neg hi,List.getElem?_eq_none (by omega)]
theorem words_flat (l:List Nat):List.map C.d (l.map fun x=>[D.int .u32 (x:Nat)]).flatten = wordC l:=by
 unfold wordC
 induction l with
 | nil=>rfl
 | cons a l ih=>simp only [List.map_cons,List.flatten_cons,List.cons_append,List.nil_append,ih]
theorem cnt_flat (n:Nat):(List.replicate n [C.d (.int .i64 0)]).flatten = cntC (List.replicate n 0):=by
 unfold cntC
 induction n with
 | zero=>rfl
 | succ n ih=>simp only [List.replicate_succ,List.flatten_cons,List.map_cons,List.cons_append,List.nil_append,ih]
set_option maxRecDepth 20000 in
set_option maxHeartbeats 16000000 in
theorem runR_A (code:List Nat) (d:Nat) (inp:Str) (fuel:Nat) (hl:code.length ≤ 1000000) (hcw:∀ x ∈ code,x < 4294967296) (hd:d ≤ 32768) (hfu:fuel ≤ 500000000000) :
  PureR Tryz.prog 48 [imgV (code,d),sv inp,stV (Mach.start d),iv .i64 fuel] (fun r=>∃ cnt:List Int,r = .tup [stV (runM okI code inp fuel (Mach.start d)),.one (.d (cntD cnt))]):=by
 refine pure_of_wpR Tt_ok mixed Tryz.func48 rfl (by rfl) [.cell 8 69,.tmp 9] rfl (by kernel_rfl) (by simp [Tryz.ntmps48]) fun g=>?_
 have hC:=Code_A code d hl hcw
 have hSl:stV (Mach.start d) = .agg [.d (.int .i64 0),.d (.int .u32 0),.d (.int .u32 0),.d (.int .u32 0),.d (.int .u32 0),.d (.int .u32 0),.d (.int .u32 0),.d (.int .u32 0),.d (.int .u32 0),.d (.int .u32 0),.d (.int .u32 0),.d (.int .u32 0),.d (.int .u32 0),.d (.int .u32 0),.d (.int .u32 0),.d (.int .u32 0),.d (.int .u32 0),.d (wordsD (List.replicate d 0)),.d (.int .i64 0),.d (.str []),.d (.int .i64 0),.d (.int .i64 0)]:=rfl
 rw [hSl]
 have hWf:=words_flat (List.replicate d 0)
 have hW1:∀ e ∈ ((List.replicate d 0).map fun x=>[D.int .u32 ((x:Nat):Int)]),e.length = 1:=fun e he=>by obtain ⟨x,_,rfl⟩:=List.mem_map.1 he; rfl
 have hWl:((List.replicate d 0).map fun x=>[D.int .u32 ((x:Nat):Int)]).length = d:=by simp
 have hmem:(Mach.start d).mem = List.replicate d 0:=rfl
 have hml:(List.replicate d 0).length = d:=List.length_replicate
 unfold wordsD
 generalize ((List.replicate d 0).map fun x=>[D.int .u32 ((x:Nat):Int)]) = W at hWf hW1 hWl ⊢
 have hc0:(0:Int) ≤ (code.length:Int):=by omega
 unfold imgV at hC ⊢
 simp only at hC ⊢
 generalize hI:code.map insW = I at hC
 generalize hO:(code.map fun w=>[D.bool (okW w)]) = O at hC
 unfold codeD at hC ⊢
 simp only [go_sem,↓reduceIte]
 refine hook_call rfl (by simp only [go_sem,↓reduceIte]; exact hC) (by simp only [go_sem,↓reduceIte]; rfl) ?_
 rintro _ rfl
 simp only [go_sem,↓reduceIte]
 refine draw_det Tt_ok mixed [24,12] [([6],[0,1],[],false),([20],[0,1],[],false),([6],[0,1],[],false),([22],[0,1],[],false),([],[1],[0],false),([6],[0,1],[],false),([25],[0,1],[],false),([24,26],[1],[0],false),([6],[0,1],[],false),([28],[0,1],[],false),([6],[0,1],[],false),([30],[0,1],[],false),([6],[0,1],[],false),([32],[0,1],[],false),([21,23,27,29,31,33],[1],[],false),([],[0],[1],false),([12,34],[],[],true)] 2 (by decide +kernel) rfl (by decide) ?_
 simp only [go_sem,↓reduceIte]
 iterate 4 (apply det_pure; · (intro fa ga oa K' hK; simp only [go_sem,↓reduceIte] at hK ⊢; exact hK))
 (apply det_new; · (intro fa ga oa K' hK; simp only [go_sem,↓reduceIte,elemTy] at hK ⊢; exact hK))
 iterate 2 (apply det_pure; · (intro fa ga oa K' hK; simp only [go_sem,↓reduceIte] at hK ⊢; exact hK))
 (apply det_new; · (intro fa ga oa K' hK; simp only [go_sem,↓reduceIte,elemTy] at hK ⊢; exact ⟨hW1,⟨by decide,by omega⟩,hK⟩))
 iterate 7 (apply det_pure; · (intro fa ga oa K' hK; simp only [go_sem,↓reduceIte] at hK ⊢; exact hK))
 (apply det_new; · (intro fa ga oa K' hK; simp only [go_sem,↓reduceIte] at hK ⊢; exact hK))
 apply det_last
 intro K' hK'
 simp only [go_sem,↓reduceIte]
 refine hK' _ ?_
 clear hK' K'
 simp only [go_sem,↓reduceIte]
 refine draw_det Tt_ok mixed [38,47,13] [([12],[0,1,2],[],false),([6],[1,2],[],false),([36],[1,2],[],false),([37],[1,2],[0],false),([10],[0,1,2],[],false),([11],[0,1,2],[],false),([4],[0,1,2],[],false),([41],[0,1,2],[],false),([1],[0,1,2],[],false),([4],[0,2],[],false),([44],[0,2],[],false),([45],[0,2],[],false),([46],[0,2],[1],false),([35,38,39,40,42,43,47],[2],[],false),([],[0,1],[2],false),([13,48],[],[],true)] 3 (by decide +kernel) rfl (by decide) ?_
 simp only [go_sem,↓reduceIte]
 iterate 3 (apply det_pure; · (intro fa ga oa K' hK; simp only [go_sem,↓reduceIte] at hK ⊢; exact hK))
 (apply det_new; · (intro fa ga oa K' hK; simp only [go_sem,↓reduceIte,elemTy] at hK ⊢; exact hK))
 iterate 8 (apply det_pure; · (intro fa ga oa K' hK; simp only [go_sem,↓reduceIte,List.length_map] at hK ⊢; exact hK))
 (apply det_new; · (intro fa ga oa K' hK; simp only [go_sem,↓reduceIte,hc0] at hK ⊢; exact ⟨Nat.le_refl _,by omega,by omega,hK⟩))
 (apply det_pure; · (intro fa ga oa K' hK; simp only [go_sem,↓reduceIte] at hK ⊢; exact hK))
 (apply det_new; · (intro fa ga oa K' hK; simp only [go_sem,↓reduceIte] at hK ⊢; exact hK))
 apply det_last
 intro K' hK'
 simp only [go_sem,↓reduceIte]
 refine hK' _ ?_
 clear hK' K'
 simp only [go_sem,↓reduceIte]
 refine loop_intro (fun n st=>∃ (k:Nat) (m:M),n + k = fuel ∧ runM okI code inp fuel (Mach.start d) = runM okI code inp n m ∧ Mach.Good m ∧ m.mem.length = d ∧ m.steps ≤ k ∧ m.rd ≤ k ∧ Wn (nxC 161 (g 13)) code inp m st.gen st.obj ∧ st.f 3 = iv .i64 fuel ∧ st.f 14 = iv .i64 k ∧ st.f 13 = .one (.ptr 13 (nxC 161 (g 13)) 0) ∧ st.f 8 = .one (.ptr 8 (nxC 70 (g 8)) 0) ∧ st.gen 8 = nxC 70 (g 8) ∧ ∃ Z,st.obj 8 = some Z ∧ Z.length = 22) fuel ?_ ?_
 ·refine ⟨0,Mach.start d,rfl,rfl,good_start d,hml,Nat.zero_le _,Nat.zero_le _,⟨?_,_,24,_,List.replicate code.length 0,by simp only [upd,if_true] <;> rfl,⟨rfl,rfl,rfl,fun a ha=>?_,?_,rfl,rfl,rfl,rfl,rfl,?_,?_,rfl,rfl,?_⟩,.inl rfl,?_,?_,List.length_replicate,?_,?_⟩,?_⟩
  ·simp only [upd,if_true]
  ·obtain rfl | rfl | rfl | rfl | rfl | rfl | rfl | rfl | rfl | rfl | rfl | rfl | rfl | rfl | rfl | rfl:a = 0 ∨ a = 1 ∨ a = 2 ∨ a = 3 ∨ a = 4 ∨ a = 5 ∨ a = 6 ∨ a = 7 ∨ a = 8 ∨ a = 9 ∨ a = 10 ∨ a = 11 ∨ a = 12 ∨ a = 13 ∨ a = 14 ∨ a = 15:=by omega
   all_goals rfl
  ·rw [show (Mach.start d).mem.length = W.length by rw [hmem,hml,hWl]]; rfl
  ·rw [hI]; rfl
  ·rw [hO]; rfl
  ·rfl
  ·rw [hmem,← hWf]; rfl
  ·rw [← cnt_flat]; rfl
  ·rfl
  ·rfl
  ·simp only [go_sem,↓reduceIte]
   exact ⟨_,rfl,rfl⟩
 rintro n f g' ob ⟨k,m,hn,hrun,hg9,hmm,hst,hrd,hW,q3,q14,q13,q8,g8,Z,o8,hZ⟩
 simp only at hW q3 q14 q13 q8 g8 o8
 obtain ⟨hg13,cs,mi,xc,cnt,ho,hr,hmi,hmo,hco,hcn,rfl,hxo⟩:=id hW
 have hws:=wrap_succ (k:=k) (by omega)
 by_cases hgo:k < fuel ∧ m.fin = 0
 ·obtain ⟨hlt,hf⟩:=hgo
  have hlti:(k:Int) < (fuel:Int):=by omega
  have hfi:(m.fin:Int) = 0:=by omega
  simp only [go_sem,↓reduceIte,q3,q14,q13,hlti,hg13,ho,hr.c21,hfi]
  refine hook_fun rfl (by simp only [go_sem,↓reduceIte,q13]; exact step_W hW hcw hg9 (by omega) hl (by omega) (by omega) hf) ?_
  rintro r g2 ob2 ⟨f1,f2⟩
  obtain ⟨n1,n2,n3⟩:=near_step (okI:=okI) (code:=code) (inp:=inp) m
  simp only [go_sem,↓reduceIte,q14,hws]
  refine round_end (n - 1) (by omega) ⟨k + 1,stepM okI code inp m,by omega,?_,good_step hg9 hcw,by omega,by omega,by omega,f2,?_⟩
  ·rw [hrun,show n = (n - 1) + 1 by omega,runM_next hf]; rfl
  simp only [go_sem,↓reduceIte,q3,q13,q8]
  have h8:=f1 8 (by decide) (by decide) (by decide) (by decide) (by decide) (by decide)
  exact ⟨h8.1.trans g8,Z,h8.2.trans o8,hZ⟩
 ·have hend:runM okI code inp fuel (Mach.start d) = m:=by
   rw [hrun]
   by_cases hf:m.fin = 0
   ·rw [show n = 0 by omega]; rfl
   ·exact runM_end hf n
  rw [hend]
  have hfin:(¬ (k:Int) < (fuel:Int)) ∨ ((k:Int) < (fuel:Int) ∧ ¬ (m.fin:Int) = 0):=by omega
  have hu:u8s (List.take m.out.length (byteC m.out)) = some (m.out.map fun b=>((b.toNat:Nat):Int)):=by rw [List.take_of_length_le (by simp [byteC])]; exact u8s_pairs _
  have hcl:=hr.len
  have hbl:(byteC m.out).length = m.out.length:=by simp [byteC]
  have hb:(List.map (fun n:Int=>UInt8.ofNat n.toNat) (List.map (fun b:UInt8=>((b.toNat:Nat):Int)) m.out)) = m.out:=by
   rw [List.map_map]
   conv=>rhs; rw [← List.map_id m.out]
   exact List.map_congr_left fun b _=>by simp
  have hL:=hr.state (cs':=cs.set 19 (C.d (D.str m.out))) (o:=m.out) (by rw [List.length_set]; exact hcl) (fun i hi h19=>set_get (by omega)) (set_same (by omega))
  have hc27:(cs.set 19 (C.d (D.str m.out)))[27]? = some (.osl 47 (g' 47) 1 0 code.length):=(set_get (by omega)).trans hr.c27
  have hSL:=stC_len (m:={ m with out:=m.out }) hr.rl (.osl mi (g' mi) 1 0 m.mem.length)
  have hT:(stC { m with out:=m.out } (.osl mi (g' mi) 1 0 m.mem.length)).take 22 = stC { m with out:=m.out } (.osl mi (g' mi) 1 0 m.mem.length):=List.take_of_length_le (by omega)
  rcases hfin with hlti | ⟨hlti,hfi⟩
  case' inl=>simp only [go_sem,↓reduceIte,q3,q14,q13,hlti,hg13,ho,hr.c22,hxo,Nat.mul_one,List.drop_zero,hu,hb]
  case' inr=>simp only [go_sem,↓reduceIte,q3,q14,q13,hlti,hg13,ho,hr.c21,hfi,hr.c22,hxo,Nat.mul_one,List.drop_zero,hu,hb]
  all_goals
   refine ⟨by omega,by omega,?_⟩
   refine draw_det Tt_ok mixed [8] [([13],[],[],false),([66],[],[],false),([13],[0],[],false),([68],[0],[],false),([8,67],[],[0],false),([69],[],[],true)] 1 (by decide +kernel) rfl (by decide) ?_
   simp only [go_sem,↓reduceIte]
   (apply det_pure; · (intro fa ga oa K' hK; simp only [go_sem,↓reduceIte,q13,hg13] at hK ⊢; exact hK))
   (apply det_pure; · (intro fa ga oa K' hK; simp only [go_sem,↓reduceIte,hg13,List.drop_zero,hL] at hK ⊢; exact ⟨by rw [List.length_set]; omega,hK⟩))
   (apply det_pure; · (intro fa ga oa K' hK; simp only [go_sem,↓reduceIte,q13,hg13] at hK ⊢; exact hK))
   (apply det_pure; · (intro fa ga oa K' hK; simp only [go_sem,↓reduceIte,hg13,hc27] at hK ⊢; exact hK))
   (apply det_store; (focus simp); (focus (intro fa ga oa K' hK; simp only [go_sem,↓reduceIte,q8,g8,o8,hSL] at hK ⊢; exact ⟨by omega,hK⟩)))
   apply det_last
   intro K' hK'
   simp only [go_sem,↓reduceIte]
   refine hK' _ ?_
   clear hK' K'
   rw [setAt_all (by rw [hSL]; exact hZ)]
   simp only [go_sem,↓reduceIte,q8,g8,hT,hSL]
   refine ⟨_,⟨_,⟨_,_,rfl,frz_state (m:=m) ?_ rfl,_,_,rfl,frzOne ?_,rfl⟩,rfl⟩,cnt,rfl⟩
   ·refine frz_code rfl ?_ rfl
    rcases hmi with rfl | rfl <;> (simp only [upd]; (repeat rw [if_neg (by decide)]); exact hmo)
   ·refine frz_map (cells:=cntC cnt) (off:=0) rfl ?_ cnt (fun n=>.int .i64 n) (fun _=>rfl) hcn (fun j a h=>by rw [Nat.zero_add]; unfold cntC; rw [List.getElem?_map,h]; rfl) (by unfold cntC; rw [List.length_map]; omega)
    simp only [upd]; (repeat rw [if_neg (by decide)]); exact hco
end Go.Proofs.YtfcgadnbdcnnlabGreatDoor

namespace Go.Proofs.YtfcgadnbdcnnlabGreatDoor
open Go Go.Am Go.Asm Go.Mach
set_option maxHeartbeats 16000000 in
theorem GoR_A (code:List Nat) (d:Nat) (inp:Str) (fuel:Nat) (hl:code.length ≤ 1000000) (hcw:∀ x ∈ code,x < 4294967296) (hd:d ≤ 32768) (hfu:fuel ≤ 500000000000) :
  PureR Tryz.prog 23 [imgV (code,d),sv inp,stV (Mach.start d),iv .i64 fuel] (· = stV (runM okI code inp fuel (Mach.start d))):=by
 refine pure_of_wpR Tt_ok mixed Tryz.func23 rfl (by rfl) [.cell 8 69] rfl (by kernel_rfl) (by simp [Tryz.ntmps23]) fun g=>?_
 have h2:=runR_A code d inp fuel hl hcw hd hfu
 have hgood:=good_run (okI:=okI) (inp:=inp) hcw (n:=fuel) (good_start d)
 generalize runM okI code inp fuel (Mach.start d) = M at h2 hgood ⊢
 unfold imgV at h2 ⊢
 have hSl:stV (Mach.start d) = .agg ((stD (Mach.start d)).map .d):=rfl
 have hT22:List.take 22 (List.map C.d (stD (Mach.start d))) = List.map C.d (stD (Mach.start d)):=List.take_of_length_le (by simp [stD,Mach.start])
 rw [hSl] at h2 ⊢
 have hl22:((stD M).map C.d).length = 22:=by simp [stD,hgood.len]
 have hT:((stD M).map C.d).take 22 = (stD M).map C.d:=List.take_of_length_le (by omega)
 simp only [go_sem,↓reduceIte,hT22]
 refine ⟨by simp [stD,Mach.start],?_⟩
 refine hook_call rfl (by simp only [go_sem,↓reduceIte,hT22]; exact h2) (by simp only [go_sem,↓reduceIte,hT22]; rfl) ?_
 rintro _ ⟨cnt,rfl⟩
 unfold stV
 simp only [go_sem,↓reduceIte,hl22]
 rw [setAt_all (by rw [hl22]; rfl)]
 refine ⟨by omega,?_⟩
 simp only [go_sem,↓reduceIte,hT,hl22]
 rw [setAt_all (by rw [hl22]; rfl)]
 refine ⟨by omega,?_⟩
 rw [hT]
 exact ⟨_,frz_state (m:=M) (mc:=.d (wordsD M.mem)) (.d _) (by unfold stD; rw [List.map_append]; rfl),rfl⟩
set_option maxHeartbeats 16000000 in
theorem ExecR_A (code:List Nat) (d:Nat) (inp:Str) (fuel:Nat) (hl:code.length ≤ 1000000) (hcw:∀ x ∈ code,x < 4294967296) (hd:d ≤ 32768) (hfu:fuel ≤ 500000000000) :
  PureR Tryz.prog 9 [imgV (code,d),sv inp,iv .i64 fuel] (· = resR (resM okI code d inp fuel)):=by
 refine pure_of_wpR Tt_ok mixed Tryz.func9 rfl (by rfl) [.cell 6 43] rfl (by kernel_rfl) (by simp [Tryz.ntmps9]) fun g=>?_
 have h1:=StartR_A code d hd
 have h2:=GoR_A code d inp fuel hl hcw hd hfu
 have hgood:=good_run (okI:=okI) (inp:=inp) hcw (n:=fuel) (good_start d)
 unfold resM
 generalize runM okI code inp fuel (Mach.start d) = M at h2 hgood ⊢
 unfold imgV at h1 h2 ⊢
 have hl22:((stD M).map C.d).length = 22:=by simp [stD,hgood.len]
 have hg:∀ k,k < 5 → ((stD M).map C.d)[17 + k]? = ([.d (wordsD M.mem),.d (.int .i64 (M.rd:Nat)),.d (.str M.out),.d (.int .i64 (M.steps:Nat)),.d (.int .i64 (M.fin:Nat))]:List C)[k]?:=fun k hk=>by
  have hA:(stD M).map C.d = ((.int .i64 (M.pc:Nat) :: M.reg.map fun x=>D.int .u32 (x:Nat)):List D).map C.d ++ [.d (wordsD M.mem),.d (.int .i64 (M.rd:Nat)),.d (.str M.out),.d (.int .i64 (M.steps:Nat)),.d (.int .i64 (M.fin:Nat))]:=by
   unfold stD
   rw [List.map_append]
   rfl
  rw [hA,List.getElem?_append_right (by simp [hgood.len])]
  simp only [List.length_map,List.length_cons,hgood.len]
  rw [show 17 + k - (16 + 1) = k by omega]
 have g19:((stD M).map C.d)[19]? = some (.d (.str M.out)):=hg 2 (by decide)
 have g20:((stD M).map C.d)[20]? = some (.d (.int .i64 (M.steps:Nat))):=hg 3 (by decide)
 have g21:((stD M).map C.d)[21]? = some (.d (.int .i64 (M.fin:Nat))):=hg 4 (by decide)
 clear hg
 unfold stV at h2
 generalize (stD M).map C.d = L at h2 hl22 g19 g20 g21
 have hT:L.take 22 = L:=List.take_of_length_le (by omega)
 have hSt:stV (Mach.start d) = .agg ((stD (Mach.start d)).map .d):=rfl
 rw [hSt] at h1
 simp only [go_sem,↓reduceIte]
 refine draw_det Tt_ok mixed [7] [([3],[0],[],false),([1],[0],[],false),([3],[0],[],false),([10],[0],[],false),([2],[0],[],false),([8,9,11,12],[0],[],false),([],[],[0],false),([7,13],[],[],true)] 1 (by decide +kernel) rfl (by decide) ?_
 simp only [go_sem,↓reduceIte]
 iterate 3 (apply det_pure; · (intro fa ga oa K' hK; simp only [go_sem,↓reduceIte] at hK ⊢; exact hK))
 refine det_pure (v:=.agg ((stD (Mach.start d)).map .d)) (fun fa ga oa K' hK=>?_) ?_
 ·simp only [go_sem,↓reduceIte] at hK ⊢
  refine hook_call (k:=bx K') rfl (by simp only [go_sem,↓reduceIte]; exact h1) (by simp only [go_sem,↓reduceIte]; rfl) ?_
  rintro _ rfl
  simp only [go_sem,↓reduceIte]
  exact hK
 (apply det_pure; · (intro fa ga oa K' hK; simp only [go_sem,↓reduceIte] at hK ⊢; exact hK))
 refine det_pure (v:=.agg L) (fun fa ga oa K' hK=>?_) ?_
 ·simp only [go_sem,↓reduceIte] at hK ⊢
  refine hook_call (k:=bx K') rfl (by simp only [go_sem,↓reduceIte]; exact h2) (by simp only [go_sem,↓reduceIte]; rfl) ?_
  rintro _ rfl
  simp only [go_sem,↓reduceIte]
  exact hK
 (apply det_new; · (intro fa ga oa K' hK; simp only [go_sem,↓reduceIte] at hK ⊢; exact hK))
 apply det_last
 intro K' hK'
 simp only [go_sem,↓reduceIte,hl22]
 refine hK' _ ?_
 clear hK' K'
 rw [setAt_all (by rw [hl22]; rfl)]
 have hl22':=hl22
 by_cases h0:M.fin = 0
 ·have h0i:(M.fin:Int) = 0:=by omega
  rw [if_pos h0]
  have s21:(L.set 21 (C.d (D.int .i64 5)))[21]? = some (C.d (D.int .i64 5)):=set_same (by omega)
  have s20:(L.set 21 (C.d (D.int .i64 5)))[20]? = some (.d (.int .i64 (M.steps:Nat))):=by rw [set_get (by decide)]; exact g20
  have s19:(L.set 21 (C.d (D.int .i64 5)))[19]? = some (.d (.str M.out)):=by rw [set_get (by decide)]; exact g19
  simp only [go_sem,↓reduceIte,g21,h0i,s21,s20,s19]
  exact ⟨by omega,_,frz_r3,rfl⟩
 ·have h0i:¬ (M.fin:Int) = 0:=by omega
  rw [if_neg h0]
  simp only [go_sem,↓reduceIte,g19,g20,g21,h0i]
  exact ⟨_,frz_r3,rfl⟩
end Go.Proofs.YtfcgadnbdcnnlabGreatDoor

namespace Go.Proofs.YtfcgadnbdcnnlabGreatDoor
open Go Go.Am Go.Asm
def greatGo:Nat → Int → List Str → Bool
 | 0,_,_=>false
 | _ + 1,_,[]=>false
 | n + 1,b,s :: l=>if b - s.length < 0 then true else greatGo n (b - s.length) l
def greatL (l:List Str) (b:Int):Bool:=greatGo 31 b l || decide (30 < l.length)
theorem greatGo_sum:∀ {n:Nat} {b:Int} {l:List Str},l.length ≤ n → greatGo n b l = false → 0 ≤ b → (l.flatten.length:Int) ≤ b
 | n,b,[],_,_,hb=>by simpa using hb
 | n + 1,b,s :: l,hl,h,hb=>by
   unfold greatGo at h
   split at h
   ·cases h
   ·have:=greatGo_sum (by simpa using hl) h (by omega)
    rw [List.flatten_cons,List.length_append]; omega
theorem greatL_small {l:List Str} {b:Nat} (h:greatL l b = false):l.length ≤ 30 ∧ l.flatten.length ≤ b:=by
 unfold greatL at h
 rw [Bool.or_eq_false_iff,decide_eq_false_iff_not] at h
 refine ⟨by omega,?_⟩
 have:=greatGo_sum (by omega) h.1 (by omega)
 omega
set_option maxHeartbeats 4000000 in
theorem Great_A (l:List Str) (b:Int) (hb:0 ≤ b) (hb2:b ≤ 1000000) (hs:∀ s ∈ l,s.length ≤ 140737488351232):PureR Tryz.prog 4 [.one (.d (strs l)),iv .i64 b] (· = bv (greatL l b)):=by
 refine pure_of_wp Tt_ok mixed Tryz.func4 rfl (by rfl) [4] rfl (by kernel_rfl) (by simp [Tryz.ntmps4]) fun g=>?_
 unfold strs
 simp only [go_sem,↓reduceIte]
 refine loop_intro (fun n st=>∃ (k:Nat) (c:Int),n + k = 31 ∧ k ≤ 31 ∧ k ≤ l.length ∧ 0 ≤ c ∧ c ≤ b ∧ greatGo 31 b l = greatGo n c (l.drop k) ∧ st.f 0 = .one (.d (.sl (l.map fun w=>[.str w]))) ∧ st.f 1 = iv .i64 c ∧ st.f 5 = iv .i64 k) 31 ?_ ?_
 ·refine ⟨0,b,rfl,by omega,by omega,hb,Int.le_refl _,rfl,?_⟩
  simp only [go_sem,↓reduceIte]
 rintro n f g' ob ⟨k,c,hn,hk,hkl,hc,hcb,hG,q0,q1,q5⟩
 simp only at q0 q1 q5
 have hws:=wrap_succ (k:=k) (by omega)
 have hk0:(0:Int) ≤ (k:Int):=by omega
 by_cases hlt:k < l.length
 ·have hlti:(k:Int) < (l.length:Int):=by omega
  by_cases h30:k ≤ 30
  ·have h30i:(k:Int) ≤ 30:=by omega
   obtain ⟨s,hsk⟩:=getq hlt
   have hg:=strs_get hsk
   have hsl:=hs s (List.mem_of_getElem? hsk)
   have hdr:l.drop k = s :: l.drop (k + 1):=by rw [List.drop_eq_getElem_cons hlt]; congr 1; exact (List.getElem?_eq_some_iff.1 hsk).2
   obtain ⟨m,rfl⟩:∃ m,n = m + 1:=⟨n - 1,by omega⟩
   rw [hdr,show greatGo (m + 1) c (s :: l.drop (k + 1)) = if c - s.length < 0 then true else greatGo m (c - s.length) (l.drop (k + 1)) from rfl] at hG
   have hw:IntKind.i64.wrap (c - (s.length:Int)) = c - s.length:=by rw [wrap_i64] <;> omega
   by_cases hneg:c - (s.length:Int) < 0
   ·rw [if_pos hneg] at hG
    unfold greatL
    rw [hG,Bool.true_or]
    simp only [go_sem,↓reduceIte,q0,q1,q5,List.length_map,hlti,h30i,hk0,hg,hw,hneg]
   ·rw [if_neg hneg] at hG
    simp only [go_sem,↓reduceIte,q0,q1,q5,List.length_map,hlti,h30i,hk0,hg,hw,hneg,hws]
    refine round_end m (by omega) ⟨k + 1,c - s.length,by omega,by omega,by omega,by omega,by omega,hG,?_⟩
    simp only [go_sem,↓reduceIte,q0]
  ·have h30i:¬ (k:Int) ≤ 30:=by omega
   have hd:(30:Int) < (l.length:Int):=by omega
   unfold greatL
   rw [decide_eq_true (show 30 < l.length by omega),Bool.or_true]
   simp only [go_sem,↓reduceIte,q0,q1,q5,List.length_map,hlti,h30i,hd]
 ·have hlti:¬ (k:Int) < (l.length:Int):=by omega
  have hd:decide ((30:Int) < (l.length:Int)) = decide (30 < l.length):=by by_cases h:30 < l.length <;> simp [h] <;> omega
  have hG0:greatGo 31 b l = false:=by rw [hG,List.drop_eq_nil_of_le (by omega)]; cases n <;> rfl
  unfold greatL
  rw [hG0,Bool.false_or]
  simp only [go_sem,↓reduceIte,q0,q1,q5,List.length_map,hlti,hd]
end Go.Proofs.YtfcgadnbdcnnlabGreatDoor

namespace Go.Proofs.YtfcgadnbdcnnlabGreatDoor
open Go Go.Am Go.Asm
set_option maxHeartbeats 4000000 in
theorem JoinR_A (l:List Str) (hN:l.length ≤ 1000000) (hl:l.flatten.length ≤ 1000000000):PureR Tryz.prog 10 [.one (.d (strs l))] (· = sv l.flatten):=by
 refine pure_of_wp Tt_ok mixed Tryz.func10 rfl (by rfl) [2] rfl (by kernel_rfl) (by simp [Tryz.ntmps10]) fun g=>?_
 unfold strs
 simp only [go_sem,↓reduceIte]
 refine loop_intro (fun n st=>∃ k:Nat,n + k = l.length ∧ st.f 0 = .one (.d (.sl (l.map fun w=>[.str w]))) ∧ st.f 3 = sv (l.take k).flatten ∧ st.f 4 = iv .i64 (k:Nat)) l.length ?_ ?_
 ·refine ⟨0,rfl,?_⟩
  simp only [go_sem,↓reduceIte]
  rfl
 rintro n f g' ob ⟨k,hk,q0,q3,q4⟩
 simp only at q0 q3 q4
 have hw:=wrap_succ (k:=k) (by omega)
 by_cases hlt:k < l.length
 ·have hlti:(k:Int) < (l.length:Int):=by omega
  have hk0:(0:Int) ≤ (k:Int):=by omega
  obtain ⟨p,hp⟩:=getq hlt
  have hg:(l.map fun w=>[D.str w])[k]? = some [.str p]:=by rw [List.getElem?_map,hp]; rfl
  have hfl:(l.take (k + 1)).flatten = (l.take k).flatten ++ p:=by rw [List.take_add_one,hp]; simp
  have hlen:(l.take (k + 1)).flatten.length ≤ l.flatten.length:=by
   have:l.flatten = (l.take (k + 1)).flatten ++ (l.drop (k + 1)).flatten:=by rw [← List.flatten_append,List.take_append_drop]
   rw [this]; simp
  rw [hfl,List.length_append] at hlen
  simp only [go_sem,↓reduceIte,q0,q3,q4,hlti,hk0,hg,hw,List.length_map]
  try refine ⟨by omega,?_⟩
  refine round_end (n - 1) (by omega) ⟨k + 1,by omega,?_⟩
  simp only [go_sem,↓reduceIte,q0,hfl]
 ·have hlti:¬ (k:Int) < (l.length:Int):=by omega
  rw [List.take_of_length_le (by omega)] at q3
  simp only [go_sem,↓reduceIte,q0,q3,q4,hlti,List.length_map]
end Go.Proofs.YtfcgadnbdcnnlabGreatDoor

namespace Go.Proofs.YtfcgadnbdcnnlabGreatDoor
open Go Go.Am Go.Asm Go.Mach
def runT2 (r:Rec) (img:Str) (ins:List Str):Str × Nat :=
 if rightR r = false ∨ ins.length ≠ r.ds.length then ([],1)
 else if r.tool = 1 then playT img ins.flatten r.fuel.toNat
 else if r.tool = 4 then (loadA (ins.headD []),0)
 else if r.tool = 5 then asmT (ins.headD [])
 else (ins.flatten,0)
set_option maxRecDepth 20000 in
set_option maxHeartbeats 8000000 in
theorem Run_G2 {o:Hold} (ho:SmallO o) (r:Rec) (img:Str) (ins:List Str) (hp:r.ps.length ≤ 1000000000) (hds:r.ds.length ≤ 1000000000) (hi:ins.length ≤ 1000000) (hf:ins.flatten.length ≤ 1000000000) (ht:r.tool ≠ 2 ∧ r.tool ≠ 3) (him:img.length ≤ 1000000000) :
  PureG Tryz.prog 0 o 6 [recV r,sv img,.one (.d (strs ins))] (· = tw (runT2 r img ins)):=by
 refine pure_of_wpG2 0 0 o Tt_ok mixed Tryz.func6 rfl (by rfl) [.tmp 6,.tmp 7] rfl (by kernel_rfl) (by kernel_rfl) (by simp [Tryz.ntmps6]) fun b₀ β0 s0 w0 g=>?_
 have hR:=RightRec_A r hp
 have hlen:∀ l:List Str,((l.map fun w=>[D.str w]).length:Int) = l.length:=fun l=>by rw [List.length_map]
 unfold recV recCs at hR ⊢
 simp only [List.map_cons,List.map_nil] at hR ⊢
 unfold strs
 simp only [go_sem,↓reduceIte]
 refine hook_callF kept_phiG rfl (by simp only [go_sem,↓reduceIte]; exact hR) (by simp only [go_sem,↓reduceIte]; rfl) ?_
 rintro _ rfl
 cases hr:rightR r
 ·have hT:runT2 r img ins = ([],1):=by unfold runT2; rw [if_pos (.inl hr)]
  rw [hT]
  simp only [go_sem,↓reduceIte]
  exact ⟨_,frz_tw,rfl⟩
 by_cases hl:ins.length = r.ds.length
 case neg =>
  have hli:¬ ((ins.length:Nat):Int) = (r.ds.length:Nat):=by omega
  have hT:runT2 r img ins = ([],1):=by unfold runT2; rw [if_pos (.inr hl)]
  rw [hT]
  simp only [go_sem,↓reduceIte,digD,List.length_map,hli]
  exact ⟨_,frz_tw,rfl⟩
 have hli:((ins.length:Nat):Int) = (r.ds.length:Nat):=by omega
 have hT0:¬ (rightR r = false ∨ ins.length ≠ r.ds.length):=by rw [hr]; simp [hl]
 have htr:1 ≤ r.tool ∧ r.tool ≤ 6:=by
  unfold rightR at hr
  simp only [Bool.and_eq_true,decide_eq_true_eq] at hr
  exact hr.1
 have hone:r.tool = 4 ∨ r.tool = 5 → r.ds.length = 1:=fun h=>by
  unfold rightR at hr
  simp only [Bool.and_eq_true,decide_eq_true_eq] at hr
  have h6:=hr.2.2.2.2.2
  rw [if_pos (by omega)] at h6
  exact of_decide_eq_true h6
 have hT:runT2 r img ins = if r.tool = 1 then playT img ins.flatten r.fuel.toNat else if r.tool = 4 then (loadA (ins.headD []),0) else if r.tool = 5 then asmT (ins.headD []) else (ins.flatten,0):=by
  unfold runT2; rw [if_neg hT0]
 rw [hT]
 clear hT
 have hj:=Join_A ins hi hf
 unfold strs at hj
 simp only [go_sem,↓reduceIte,digD,List.length_map,hli]
 have hfu:0 ≤ r.fuel ∧ r.fuel ≤ 100000000:=by
  unfold rightR at hr
  simp only [Bool.and_eq_true,decide_eq_true_eq] at hr
  exact hr.2.2.1
 have hpl:=play_A img ins.flatten r.fuel.toNat him (by omega)
 rw [show ((r.fuel.toNat:Nat):Int) = r.fuel by omega] at hpl
 by_cases h1:r.tool = 1
 ·rw [if_pos h1]
  have h1:=eq_true h1
  simp only [go_sem,↓reduceIte,h1]
  refine draw_detG (B:=0) Tt_ok mixed kept_phiG [] [([1],[],[],false),([2],[],[],false),([30],[],[],false),([3],[],[],false),([32],[],[],false),([29,31,33],[],[],false),([34],[],[],false),([34],[],[],false),([35],[],[],false),([36],[],[],false)] 0 rfl (by decide +kernel) rfl (by decide) ?_
  simp only [go_sem,↓reduceIte]
  iterate 2 (apply detG_pure; (case hg=>first | exact True.intro | exact ⟨_,rfl,by decide,rfl⟩); (case h1=>intro fa ga oa K' hK; simp only [go_sem,↓reduceIte] at hK ⊢; exact hK))
  (apply detG_pure; (case hg=>exact True.intro); (case h1=>intro fa ga oa K' hK; simp only [go_sem,↓reduceIte] at hK ⊢; refine hook_callF kept_phiG rfl (by simp only [go_sem,↓reduceIte]; exact hj) (by simp only [go_sem,↓reduceIte]; rfl) ?_; rintro _ rfl; simp only [go_sem,↓reduceIte]; exact hK))
  iterate 2 (apply detG_pure; (case hg=>first | exact True.intro | exact ⟨_,rfl,by decide,rfl⟩); (case h1=>intro fa ga oa K' hK; simp only [go_sem,↓reduceIte] at hK ⊢; exact hK))
  (apply detG_pure; (case hg=>exact True.intro); (case h1=>intro fa ga oa K' hK; simp only [go_sem,↓reduceIte] at hK ⊢; refine hook_callF kept_phiG rfl (by simp only [go_sem,↓reduceIte]; exact hpl) (by simp only [go_sem,↓reduceIte]; rfl) ?_; rintro _ rfl; simp only [go_sem,↓reduceIte]; exact hK))
  iterate 4 (apply detG_pure; (case hg=>first | exact True.intro | exact ⟨_,rfl,by decide,rfl⟩); (case h1=>intro fa ga oa K' hK; simp only [go_sem,↓reduceIte,tw] at hK ⊢; exact hK))
  apply detG_nil
  simp only [go_sem,↓reduceIte]
  exact ⟨_,frz_tw,rfl⟩
 have n2:¬ r.tool = 2:=ht.1
 have n3:¬ r.tool = 3:=ht.2
 rw [if_neg h1]
 by_cases h4:r.tool = 4
 ·rw [if_pos h4]
  obtain ⟨x,rfl⟩:∃ x,ins = [x]:=List.length_eq_one_iff.1 (hl.trans (hone (.inl h4)))
  have h4:=eq_true h4
  simp only [go_sem,↓reduceIte,h1,n2,n3,h4]
  refine hook_callG kept_phiG (fun s β ds w h=>h.1.2) rfl (by simp only [go_sem,↓reduceIte]; exact Load_G ho x (by simpa using hf)) (by simp only [go_sem,↓reduceIte]; rfl) ?_
  rintro _ rfl
  simp only [go_sem,↓reduceIte]
  exact ⟨_,frz_tw,rfl⟩
 rw [if_neg h4]
 by_cases h5:r.tool = 5
 ·rw [if_pos h5]
  obtain ⟨x,rfl⟩:∃ x,ins = [x]:=List.length_eq_one_iff.1 (hl.trans (hone (.inr h5)))
  have h5:=eq_true h5
  simp only [go_sem,↓reduceIte,h1,n2,n3,h4,h5]
  refine hook_callG kept_phiG (fun s β ds w h=>h.1.2) rfl (by simp only [go_sem,↓reduceIte]; exact assemble_G ho x) (by simp only [go_sem,↓reduceIte]; rfl) ?_
  rintro _ rfl
  simp only [go_sem,↓reduceIte,tw]
  exact ⟨_,frz_tw,rfl⟩
 rw [if_neg h5]
 have h6:r.tool = 6:=by omega
 have h6:=eq_true h6
 simp only [go_sem,↓reduceIte,h1,n2,n3,h4,h5,h6]
 refine hook_callF kept_phiG rfl (by simp only [go_sem,↓reduceIte]; exact hj) (by simp only [go_sem,↓reduceIte]; rfl) ?_
 rintro _ rfl
 simp only [go_sem,↓reduceIte]
 exact ⟨_,frz_tw,rfl⟩
end Go.Proofs.YtfcgadnbdcnnlabGreatDoor

namespace Go.Proofs.YtfcgadnbdcnnlabGreatDoor
open Go Go.Am Go.Asm Go.Mach
end Go.Proofs.YtfcgadnbdcnnlabGreatDoor

namespace Go.Proofs.YtfcgadnbdcnnlabGreatDoor
open Go Go.Am Go.Asm
end Go.Proofs.YtfcgadnbdcnnlabGreatDoor

namespace Go.Proofs.YtfcgadnbdcnnlabGreatDoor
open Go Go.Am Go.Asm
theorem r1:readA [115,116,97,114,116,58,32,103,101,116,32,114,49,32,35,32,97,32,110,111,116,101,10,32,106,109,112,32,115,116,97,114,116] = (([386924544,301989888],0),0,0):=by decide +kernel
theorem r2:readA [108,105,32,114,49,44,32,48,120,49,48] = (([17825808],0),0,0):=by decide +kernel
theorem r3:readA [108,105,32,114,49,44,49,54] = (([17825808],0),0,0):=by decide +kernel
theorem r4:readA [104,97,108,116,10,10,106,109,112,32,110,111,119,104,101,114,101,10] = (([],0),3,4):=by decide +kernel
theorem r6:readA [104,97,108,116,32,114,49] = (([],0),1,1):=by decide +kernel
end Go.Proofs.YtfcgadnbdcnnlabGreatDoor

namespace Go.Proofs.YtfcgadnbdcnnlabGreatDoor
open Go Go.Am Go.Asm
set_option maxHeartbeats 2000000 in
theorem ParseR_A (s:Str) (hl:s.length ≤ 1000000000):PureR Tryz.prog 73 [sv s] (· = prV (parseN s)):=by
 refine pure_of_wp Tt_ok mixed Tryz.func73 rfl (by rfl) [2,3] rfl (by kernel_rfl) (by simp [Tryz.ntmps73]) fun g=>?_
 cases s with
 | nil =>
   simp only [go_sem,↓reduceIte]
   rfl
 | cons a r =>
 by_cases h48:1 < (a :: r).length ∧ a = 48
 ·have hp:parseN (a :: r) = .syn:=by rw [parseN,if_pos (.inr ⟨h48.1,by rw [h48.2]; rfl⟩)]
  rw [hp]
  have e3:(1:Int) < ((r.length + 1:Nat):Int):=by have:=h48.1; simp only [List.length_cons] at this; omega
  have e2:(a.toNat:Int) = 48:=by rw [h48.2]; rfl
  have e4:¬ ((r.length + 1:Nat):Int) = 0:=by omega
  simp only [go_sem,↓reduceIte,e2,e3,e4]
  try rfl
 have hpn:parseN (a :: r) = if (a :: r).all digit = true then (if 4294967295 < decN (a :: r) then .rng else .ok (decN (a :: r))) else .syn:=by
  rw [parseN,if_neg]
  rintro (h | ⟨h1,h2⟩)
  ·cases h
  ·exact h48 ⟨h1,by simpa using h2⟩
 rw [hpn]
 have e4:¬ ((r.length + 1:Nat):Int) = 0:=by omega
 simp only [go_sem,↓reduceIte,e4]
 refine ⟨fun h1=>⟨fun h2=>absurd (show 1 < (a :: r).length ∧ a = 48 from ⟨by simp only [List.length_cons]; omega,u8_eq (d:=48) h2⟩) h48,fun h2=>?_⟩,fun h1=>?_⟩
 all_goals
  refine loop_intro (fun n st=>∃ k:Nat,n + k = (a :: r).length ∧ st.f 0 = sv (a :: r) ∧ st.f 5 = iv .i64 k ∧ st.f 4 = iv .u64 (min (decN ((a :: r).take k)) 4294967296:Nat) ∧ ((a :: r).take k).all digit = true) (a :: r).length ?_ ?_
  ·refine ⟨0,rfl,?_⟩
   simp only [go_sem,↓reduceIte]
   exact ⟨rfl,rfl⟩
  generalize a :: r = s at hl ⊢
  rintro n f g ob ⟨k,hk,q0,q5,q4,hall⟩
  simp only at q0 q5 q4
  have hw:=wrap_succ (k:=k) (by omega)
  by_cases hlt:k < s.length
  ·obtain ⟨c,hc⟩:=getq hlt
   have hcm:=List.mem_of_getElem? hc
   cases hd:digit c
   ·have hno:s.all digit = false:=by rw [List.all_eq_false]; exact ⟨c,hcm,by simp [hd]⟩
    rw [if_neg (by rw [hno]; simp)]
    have h3:=digit_not hd
    simp only [go_sem,↓reduceIte,q0,q5,q4,hc,hlt]
    refine ⟨fun _=>rfl,fun h4=>⟨fun _=>rfl,fun h5=>?_⟩⟩
    exfalso; omega
   ·have h3:=digit_dom hd
    have h4:¬ (c.toNat:Int) < 48:=by omega
    have h5:¬ (57:Int) < (c.toNat:Int):=by omega
    have hnx:=decN_take hc
    generalize decN (s.take k) = m at q4 hnx
    have w1:IntKind.u64.wrap (((min m 4294967296:Nat):Int) * 10) = ((min m 4294967296 * 10:Nat):Int):=by rw [IntKind.wrap_u64]; omega
    have w2:IntKind.u8.wrap ((c.toNat:Int) - 48) = ((c.toNat - 48:Nat):Int):=by rw [IntKind.wrap_u8]; omega
    have w3:IntKind.u64.wrap ((c.toNat - 48:Nat):Int) = ((c.toNat - 48:Nat):Int):=by rw [IntKind.wrap_u64]; omega
    have w4:IntKind.u64.wrap (((min m 4294967296 * 10:Nat):Int) + ((c.toNat - 48:Nat):Int)) = ((min m 4294967296 * 10 + (c.toNat - 48):Nat):Int):=by rw [IntKind.wrap_u64]; omega
    simp only [go_sem,↓reduceIte,q0,q5,q4,hc,hlt,h4,h5,w1,w2,w3,w4]
    refine ⟨fun hg=>?_,fun hg=>?_⟩
    ·simp only [go_sem,↓reduceIte,q5,hw]
     refine round_end (n - 1) (by omega) ⟨k + 1,by omega,?_⟩
     simp only [go_sem,↓reduceIte,q0]
     refine ⟨?_,all_take hc hall hd⟩
     rw [hnx]; omega
    ·simp only [go_sem,↓reduceIte,q5,hw]
     refine round_end (n - 1) (by omega) ⟨k + 1,by omega,?_⟩
     simp only [go_sem,↓reduceIte,q0]
     refine ⟨?_,all_take hc hall hd⟩
     rw [hnx]; omega
  ·rw [List.take_of_length_le (by omega)] at hall q4
   rw [if_pos hall]
   simp only [go_sem,↓reduceIte,q0,q5,q4,hlt]
   refine ⟨fun hg=>?_,fun hg=>?_⟩
   ·rw [if_pos (by omega)]; rfl
   ·have w5:IntKind.u32.wrap ((min (decN s) 4294967296:Nat):Int) = (decN s:Int):=by rw [IntKind.wrap_u32]; omega
    rw [if_neg (by omega),w5]; rfl
end Go.Proofs.YtfcgadnbdcnnlabGreatDoor

namespace Go.Proofs.YtfcgadnbdcnnlabGreatDoor
open Go Go.Am Go.Asm
def hexU (c:UInt8):Nat:=match hexV c with | some v=>v | none=>16
theorem hexV_le {c:UInt8} {v:Nat} (h:hexV c = some v):v ≤ 15:=by
 unfold hexV at h
 repeat' split at h
 ·rename_i hd
  unfold digit at hd
  simp only [Bool.and_eq_true,decide_eq_true_eq] at hd
  cases h; omega
 ·cases h; omega
 ·cases h; omega
 ·cases h
theorem hexU_digit {c:UInt8} (h:48 ≤ c.toNat ∧ c.toNat ≤ 57):hexU c = c.toNat - 48:=by
 have:digit c = true:=by unfold digit; simp [h.1,h.2]
 simp [hexU,hexV,this]
theorem hexU_low {c:UInt8} (h:97 ≤ c.toNat ∧ c.toNat ≤ 102):hexU c = c.toNat - 87:=by
 have:digit c = false:=by unfold digit; simp; omega
 simp [hexU,hexV,this,h.1,h.2]
theorem hexU_up {c:UInt8} (h:65 ≤ c.toNat ∧ c.toNat ≤ 70):hexU c = c.toNat - 55:=by
 have:digit c = false:=by unfold digit; simp; omega
 have h2:¬ (97 ≤ c.toNat ∧ c.toNat ≤ 102):=by omega
 simp [hexU,hexV,this,h2,h.1,h.2]
theorem hexU_no {c:UInt8} (h1:¬ (48 ≤ c.toNat ∧ c.toNat ≤ 57)) (h2:¬ (97 ≤ c.toNat ∧ c.toNat ≤ 102)) (h3:¬ (65 ≤ c.toNat ∧ c.toNat ≤ 70)):hexU c = 16:=by
 have:digit c = false:=by unfold digit; simp; omega
 simp [hexU,hexV,this,h2,h3]
theorem hexdigitR_A (c:UInt8):PureR Tryz.prog 74 [iv .u8 c.toNat] (· = iv .u32 (hexU c:Nat)):=by
 refine pure_of_wp Tt_ok mixed Tryz.func74 rfl (by rfl) [2] rfl (by kernel_rfl) (by simp [Tryz.ntmps74]) fun g=>?_
 have hlt:=c.toNat_lt
 have wb:∀ n:Nat,n < 256 → IntKind.u8.wrap (n:Int) = n:=fun n h=>by rw [IntKind.wrap_u8]; omega
 have ww:∀ n:Nat,n < 4294967296 → IntKind.u32.wrap (n:Int) = n:=fun n h=>by rw [IntKind.wrap_u32]; omega
 simp only [go_sem,↓reduceIte]
 refine hook_call rfl (by simp only [go_sem,↓reduceIte]; exact digit_A c) (by simp only [go_sem,↓reduceIte]; rfl) ?_
 rintro _ rfl
 by_cases hd:48 ≤ c.toNat ∧ c.toNat ≤ 57
 ·have hdd:digit c = true:=by unfold digit; simp [hd.1,hd.2]
  have w1:IntKind.u8.wrap ((c.toNat:Int) - 48) = ((c.toNat - 48:Nat):Int):=by rw [IntKind.wrap_u8]; omega
  rw [hdd,hexU_digit hd]
  simp only [go_sem,↓reduceIte,w1,ww (c.toNat - 48) (by omega)]
 have hdd:digit c = false:=by unfold digit; simp; omega
 rw [hdd]
 by_cases hl:97 ≤ c.toNat ∧ c.toNat ≤ 102
 ·have e1:(97:Int) ≤ (c.toNat:Int):=by omega
  have e2:(c.toNat:Int) ≤ 102:=by omega
  have w1:IntKind.u8.wrap ((c.toNat:Int) - 97) = ((c.toNat - 97:Nat):Int):=by rw [IntKind.wrap_u8]; omega
  have w2:IntKind.u32.wrap (((c.toNat - 97:Nat):Int) + 10) = ((c.toNat - 87:Nat):Int):=by rw [IntKind.wrap_u32]; omega
  rw [hexU_low hl]
  simp only [go_sem,↓reduceIte,e1,e2,w1,ww (c.toNat - 97) (by omega),w2]
 by_cases hu:65 ≤ c.toNat ∧ c.toNat ≤ 70
 ·have e1:¬ (97:Int) ≤ (c.toNat:Int):=by omega
  have e3:(65:Int) ≤ (c.toNat:Int):=by omega
  have e4:(c.toNat:Int) ≤ 70:=by omega
  have w1:IntKind.u8.wrap ((c.toNat:Int) - 65) = ((c.toNat - 65:Nat):Int):=by rw [IntKind.wrap_u8]; omega
  have w2:IntKind.u32.wrap (((c.toNat - 65:Nat):Int) + 10) = ((c.toNat - 55:Nat):Int):=by rw [IntKind.wrap_u32]; omega
  rw [hexU_up hu]
  simp only [go_sem,↓reduceIte,e1,e3,e4,w1,ww (c.toNat - 65) (by omega),w2]
 rw [hexU_no hd hl hu]
 by_cases e1:(97:Int) ≤ (c.toNat:Int)
 ·have e2:¬ (c.toNat:Int) ≤ 102:=by omega
  have e3:(65:Int) ≤ (c.toNat:Int):=by omega
  have e4:¬ (c.toNat:Int) ≤ 70:=by omega
  simp only [go_sem,↓reduceIte,e1,e2,e3,e4]
 ·by_cases e3:(65:Int) ≤ (c.toNat:Int)
  ·have e4:¬ (c.toNat:Int) ≤ 70:=by omega
   simp only [go_sem,↓reduceIte,e1,e3,e4]
  ·simp only [go_sem,↓reduceIte,e1,e3]
def numV:Opd → AV
 | .num n=>.tup [iv .u32 (n:Nat),iv .i64 0]
 | .great=>.tup [iv .u32 0,iv .i64 2]
 | _=>.tup [iv .u32 0,iv .i64 1]
def numO (s:Str):Opd :=
 match charOf s with
 | some n=>.num n
 | none=>match s with
   | 48 :: 120 :: c :: d=>(match hexN (c :: d) with | some n=>.num n | none=>.other)
   | s=>(match parseN s with | .ok n=>.num n | .rng=>.great | .syn=>.other)
theorem num_same (s:Str):numV (numO s) = numV (operandA s):=by
 unfold numO operandA
 cases hc:charOf s with
 | some n =>
   unfold charOf at hc
   split at hc
   ·rename_i a c b
    split at hc
    ·rename_i h
     obtain ⟨rfl,rfl,hok⟩:=h
     cases hc
     have hr:regOf [39,c,39] = none:=rfl
     have hp:parseN [39,c,39] = .syn:=by
      unfold parseN
      rw [if_neg (by simp),if_neg (by simp [digit])]
     rw [hr,hp]
     have h2:charOf [39,c,39] = some c.toNat:=if_pos ⟨rfl,rfl,hok⟩
     have h3:restOpd [39,c,39] = (match charOf [39,c,39] with | some n=>.num n | none=>if isLabel [39,c,39] = true then .lab else .other):=rfl
     simp only [h3,h2]
    ·cases hc
   ·cases hc
 | none =>
   simp only []
   split
   ·rename_i c d
    have hr:regOf (48 :: 120 :: c :: d) = none:=rfl
    have hp:parseN (48 :: 120 :: c :: d) = .syn:=by
     unfold parseN
     rw [if_pos (.inr ⟨by simp,rfl⟩)]
    rw [hr,hp]
    have h3:restOpd (48 :: 120 :: c :: d) = (match hexN (c :: d) with | some n=>.num n | none=>.other):=rfl
    simp only [h3]
   ·rename_i hne
    cases hr:regOf s with
    | some n =>
      have hp:parseN s = .syn:=by
       unfold regOf at hr
       split at hr
       ·rename_i d
        unfold parseN
        rw [if_neg (by simp),if_neg (by simp [digit])]
       ·cases hr
      rw [hp]
      rfl
    | none =>
      cases hp:parseN s with
      | ok n=>rfl
      | rng=>rfl
      | syn =>
        simp only []
        unfold restOpd
        split
        ·rename_i d
         cases d with
         | nil=>rfl
         | cons c d=>exact absurd rfl (hne c d)
        ·rw [hc]
         simp only []
         split <;> rfl
theorem hexGo_snoc (a:Nat) (s:Str) (c:UInt8):hexGo a (s ++ [c]) = (hexGo a s).bind fun m=>(hexV c).map fun v=>16 * m + v:=by
 induction s generalizing a with
 | nil=>cases h:hexV c <;> simp [hexGo,h]
 | cons b s ih =>
   simp only [List.cons_append,hexGo]
   cases h:hexV b with
   | none=>rfl
   | some v=>exact ih _
theorem hexGo_none {a:Nat} {c:UInt8} (h:hexV c = none):∀ {s:Str},c ∈ s → hexGo a s = none
 | [],hm=>by simp at hm
 | b :: s,hm=>by
   unfold hexGo
   rcases List.mem_cons.1 hm with rfl | hm
   ·rw [h]; rfl
   ·cases hb:hexV b with
    | none=>rfl
    | some v=>exact hexGo_none h hm
theorem hexGo_lt:∀ {s:Str} {a n:Nat},hexGo a s = some n → n < (a + 1) * 16 ^ s.length
 | [],a,n,h=>by cases h; simp
 | c :: s,a,n,h=>by
   unfold hexGo at h
   cases hc:hexV c with
   | none=>rw [hc] at h; cases h
   | some v =>
     rw [hc] at h
     have:=hexGo_lt (s:=s) (a:=16 * a + v) h
     have hv:=hexV_le hc
     rw [List.length_cons,Nat.pow_succ]
     refine Nat.lt_of_lt_of_le this ?_
     rw [Nat.mul_comm (16 ^ s.length) 16,← Nat.mul_assoc]
     exact Nat.mul_le_mul_right _ (by omega)
theorem numO_hex {c:UInt8} {d:Str}:numO (48 :: 120 :: c :: d) = (match hexN (c :: d) with | some n=>.num n | none=>.other):=by
 have hc:charOf (48 :: 120 :: c :: d) = none:=by
  unfold charOf
  split
  ·rename_i a x b e
   have:=((List.cons.injEq _ _ _ _).mp e).1
   rw [if_neg (by rw [← this]; simp)]
  ·rfl
 unfold numO
 simp only [hc]
theorem numO_dec {s:Str} (hc:charOf s = none) (h:∀ c d,s ≠ 48 :: 120 :: c :: d):numO s = (match parseN s with | .ok n=>.num n | .rng=>.great | .syn=>.other):=by
 unfold numO
 rw [hc]
 split
 ·rename_i e; cases e
 ·split
  ·exact absurd rfl (h _ _)
  ·rfl
set_option maxHeartbeats 16000000 in
set_option maxRecDepth 100000 in
theorem number_A (s:Str) (hl:s.length ≤ 1000000):PureR Tryz.prog 45 [sv s] (· = numV (numO s)):=by
 refine pure_of_wp Tt_ok mixed Tryz.func45 rfl (by rfl) [2,3] rfl (by kernel_rfl) (by simp [Tryz.ntmps45]) fun g=>?_
 by_cases hpre:∃ c d,s = 48 :: 120 :: c :: d
 ·obtain ⟨c,d,rfl⟩:=hpre
  rw [numO_hex]
  have z48:((48:UInt8).toNat:Int) = 48:=rfl
  have z120:((120:UInt8).toNat:Int) = 120:=rfl
  have hgt:(2:Int) < ((d.length + 1 + 1 + 1:Nat):Int):=by omega
  by_cases h10:8 < (c :: d).length
  ·have h10i:(10:Int) < ((d.length + 1 + 1 + 1:Nat):Int):=by simp only [List.length_cons] at h10; omega
   rw [show hexN (c :: d) = none by unfold hexN; rw [if_neg (by omega)]]
   by_cases h3:((d.length + 1 + 1 + 1:Nat):Int) = 3
   ·omega
   ·simp only [go_sem,↓reduceIte,h3,hgt,z48,z120,h10i]
    rfl
  have h10i:¬ (10:Int) < ((d.length + 1 + 1 + 1:Nat):Int):=by simp only [List.length_cons] at h10; omega
  rw [show hexN (c :: d) = hexGo 0 (c :: d) by unfold hexN; rw [if_pos (by simp only [List.length_cons] at h10 ⊢; omega)]]
  refine (Classical.em (((d.length + 1 + 1 + 1:Nat):Int) = 3)).elim (fun h3=>?_) (fun h3=>?_)
  all_goals
   simp only [go_sem,↓reduceIte,h3,hgt,z48,z120,h10i]
   have hSl:(48 :: 120 :: c :: d:Str).length = (c :: d).length + 2:=rfl
   have hSg:∀ k,(48 :: 120 :: c :: d:Str)[k + 2]? = (c :: d)[k]?:=fun k=>rfl
   generalize (48 :: 120 :: c :: d:Str) = S at hSl hSg ⊢
   clear h3 hgt h10i
   generalize c :: d = D at hSl hSg h10 ⊢
   refine loop_intro (fun nn st=>∃ k n:Nat,nn + k = D.length ∧ st.f 0 = sv S ∧ st.f 5 = iv .i64 ((k + 2:Nat):Int) ∧ st.f 4 = iv .u32 (n:Nat) ∧ hexGo 0 (D.take k) = some n) D.length ?_ ?_
   ·refine ⟨0,0,by omega,?_⟩
    simp only [go_sem,↓reduceIte,List.take_zero]
    rfl
   rintro nn f g ob ⟨k,n,hk,q0,q5,q4,hn⟩
   simp only at q0 q5 q4
   by_cases hlt:k < D.length
   ·obtain ⟨x,hx⟩:=getq hlt
    have hgx:S[k + 2]? = some x:=by rw [hSg]; exact hx
    have hkl:((k + 2:Nat):Int) < (S.length:Int):=by omega
    have hk0:(0:Int) ≤ ((k + 2:Nat):Int):=by omega
    have hkw:IntKind.i64.wrap (((k + 2:Nat):Int) + 1) = ((k + 1 + 2:Nat):Int):=wrap_succ (by omega)
    have htk:D.take (k + 1) = D.take k ++ [x]:=by rw [List.take_add_one,hx]; rfl
    simp only [go_sem,↓reduceIte,q0,q5,q4,hgx,hkl,hk0,Int.toNat_natCast]
    refine hook_call rfl (by simp only [go_sem,↓reduceIte]; exact hexdigitR_A x) (by simp only [go_sem,↓reduceIte]; rfl) ?_
    rintro _ rfl
    cases hv:hexV x with
    | none =>
      have hu:hexU x = 16:=by unfold hexU; rw [hv]
      rw [hu,hexGo_none hv (List.mem_of_getElem? hx)]
      simp only [go_sem,↓reduceIte]
      rfl
    | some v =>
      have hu:hexU x = v:=by unfold hexU; rw [hv]
      have hvl:=hexV_le hv
      have hgo:hexGo 0 (D.take (k + 1)) = some (16 * n + v):=by rw [htk,hexGo_snoc,hn,hv]; rfl
      have hlt2:=hexGo_lt hgo
      have hpw:16 ^ (D.take (k + 1)).length ≤ 16 ^ 8:=Nat.pow_le_pow_right (by decide) (by rw [List.length_take]; omega)
      have hpe:16 ^ 8 = 4294967296:=by decide
      have hvi:¬ (15:Int) < (v:Int):=by omega
      have w1:IntKind.u32.wrap ((n:Int) * 16) = ((n * 16:Nat):Int):=by rw [IntKind.wrap_u32]; omega
      have w2:IntKind.u32.wrap (((n * 16:Nat):Int) + (v:Int)) = ((16 * n + v:Nat):Int):=by rw [IntKind.wrap_u32]; omega
      rw [hu]
      simp only [go_sem,↓reduceIte,hvi,q0,q5,q4,hgx,hk0,Int.toNat_natCast]
      refine hook_call rfl (by simp only [go_sem,↓reduceIte]; exact hexdigitR_A x) (by simp only [go_sem,↓reduceIte]; rfl) ?_
      rintro _ rfl
      rw [hu]
      simp only [go_sem,↓reduceIte,q0,q5,q4,hkw,w1,w2]
      refine round_end (nn - 1) (by omega) ⟨k + 1,16 * n + v,by omega,?_⟩
      simp only [go_sem,↓reduceIte,q0]
      exact hgo
   ·have hkl:¬ ((k + 2:Nat):Int) < (S.length:Int):=by omega
    rw [List.take_of_length_le (by omega)] at hn
    rw [hn]
    simp only [go_sem,↓reduceIte,q0,q5,q4,hkl]
    rfl
 have hnp:∀ c d,s ≠ 48 :: 120 :: c :: d:=fun c d e=>hpre ⟨c,d,e⟩
 clear hpre
 refine (Classical.em (s.length = 3)).elim (fun h3=>?len3) (fun h3=>?other)
 case' len3 =>
  have h3i:((s.length:Nat):Int) = 3:=by omega
  obtain ⟨a,c,b,hs3⟩:=three h3
  have g0:s[0]? = some a:=by rw [hs3]; rfl
  have g1:s[1]? = some c:=by rw [hs3]; rfl
  have g2:s[2]? = some b:=by rw [hs3]; rfl
  by_cases ha:a = 39
  case' neg =>
   have hcn:charOf s = none:=by rw [hs3]; simp [charOf,ha]
   have ha2:¬ (a.toNat:Int) = 39:=u8_ne (d:=39) ha
   by_cases hz:a = 48
   case' neg =>
    have hz2:¬ (a.toNat:Int) = 48:=u8_ne (d:=48) hz
    simp only [go_sem,↓reduceIte,h3i,g0,ha2,hz2]
   case' pos =>
    have hz2:(a.toNat:Int) = 48:=by rw [hz]; rfl
    have hc2:¬ (c.toNat:Int) = 120:=u8_ne (d:=120) (fun e=>hnp b [] (by rw [hs3,hz,e]))
    simp only [go_sem,↓reduceIte,h3i,g0,g1,hz2,hc2]
  rotate_left 2
  have ha2:(a.toNat:Int) = 39:=by rw [ha]; rfl
  by_cases hb:b = 39
  case' neg =>
   have hcn:charOf s = none:=by rw [hs3]; simp [charOf,hb]
   have hb2:¬ (b.toNat:Int) = 39:=u8_ne (d:=39) hb
   simp only [go_sem,↓reduceIte,h3i,g0,g2,ha2,hb2]
  rotate_left
  have hb2:(b.toNat:Int) = 39:=by rw [hb]; rfl
  by_cases hc1:33 ≤ c.toNat
  case' neg =>
   have hcn:charOf s = none:=by rw [hs3]; simp [charOf,charOk,hc1]
   have hc1i:¬ (33:Int) ≤ (c.toNat:Int):=by omega
   simp only [go_sem,↓reduceIte,h3i,g0,g1,g2,ha2,hb2,hc1i]
  rotate_left
  have hc1i:(33:Int) ≤ (c.toNat:Int):=by omega
  by_cases hc2:c.toNat ≤ 126
  case' neg =>
   have hcn:charOf s = none:=by rw [hs3]; simp [charOf,charOk,hc2]
   have hc2i:¬ (c.toNat:Int) ≤ 126:=by omega
   simp only [go_sem,↓reduceIte,h3i,g0,g1,g2,ha2,hb2,hc1i,hc2i]
  rotate_left
  have hc2i:(c.toNat:Int) ≤ 126:=by omega
  by_cases hc3:c = 39
  case' pos =>
   have hcn:charOf s = none:=by rw [hs3]; simp [charOf,charOk,hc3]
   have hc3i:(c.toNat:Int) = 39:=by rw [hc3]; rfl
   simp only [go_sem,↓reduceIte,h3i,g0,g1,g2,ha2,hb2,hc1i,hc2i,hc3i]
  rotate_left
  have hc3i:¬ (c.toNat:Int) = 39:=u8_ne (d:=39) hc3
  by_cases hc4:c = 35
  case' pos =>
   have hcn:charOf s = none:=by rw [hs3]; simp [charOf,charOk,hc4]
   have hc4i:(c.toNat:Int) = 35:=by rw [hc4]; rfl
   simp only [go_sem,↓reduceIte,h3i,g0,g1,g2,ha2,hb2,hc1i,hc2i,hc3i,hc4i]
  rotate_left
  have hc4i:¬ (c.toNat:Int) = 35:=u8_ne (d:=35) hc4
  by_cases hc5:c = 44
  case' pos =>
   have hcn:charOf s = none:=by rw [hs3]; simp [charOf,charOk,hc5]
   have hc5i:(c.toNat:Int) = 44:=by rw [hc5]; rfl
   simp only [go_sem,↓reduceIte,h3i,g0,g1,g2,ha2,hb2,hc1i,hc2i,hc3i,hc4i,hc5i]
  rotate_left
  have hc5i:¬ (c.toNat:Int) = 44:=u8_ne (d:=44) hc5
  by_cases hc6:c = 58
  case' pos =>
   have hcn:charOf s = none:=by rw [hs3]; simp [charOf,charOk,hc6]
   have hc6i:(c.toNat:Int) = 58:=by rw [hc6]; rfl
   simp only [go_sem,↓reduceIte,h3i,g0,g1,g2,ha2,hb2,hc1i,hc2i,hc3i,hc4i,hc5i,hc6i]
  case neg =>
   have hc6i:¬ (c.toNat:Int) = 58:=u8_ne (d:=58) hc6
   have hok:charOf s = some c.toNat:=by
    rw [hs3]
    exact charOf_ok ha hb hc1 hc2 (by simp [badC,hc3,hc4,hc5,hc6])
   have hw:IntKind.u32.wrap (c.toNat:Int) = (c.toNat:Int):=by rw [IntKind.wrap_u32]; omega
   simp only [go_sem,↓reduceIte,h3i,g0,g1,g2,ha2,hb2,hc1i,hc2i,hc3i,hc4i,hc5i,hc6i,hw]
   rw [show numO s = .num c.toNat by unfold numO; rw [hok]]
   rfl
 case' other =>
  have hcn:charOf s = none:=charOf_len h3
  have h3i:¬ ((s.length:Nat):Int) = 3:=by omega
  by_cases h4:s.length ≤ 2
  case' pos =>
   have h4i:¬ (2:Int) < ((s.length:Nat):Int):=by omega
   simp only [go_sem,↓reduceIte,h3i,h4i]
  case' neg =>
   have h4i:(2:Int) < ((s.length:Nat):Int):=by omega
   obtain ⟨a,c,b,r,hs⟩:∃ a c b r,s = a :: c :: b :: r:=by
    match s,h4 with
    | a :: c :: b :: r,_=>exact ⟨a,c,b,r,rfl⟩
    | [],h=>simp at h
    | [_],h=>simp at h
    | [_,_],h=>simp at h
   have g0:s[0]? = some a:=by rw [hs]; rfl
   have g1:s[1]? = some c:=by rw [hs]; rfl
   by_cases ha:a = 48
   case' neg =>
    have ha2:¬ (a.toNat:Int) = 48:=u8_ne (d:=48) ha
    simp only [go_sem,↓reduceIte,h3i,h4i,g0,ha2]
   case' pos =>
    have ha2:(a.toNat:Int) = 48:=by rw [ha]; rfl
    have hc2:¬ (c.toNat:Int) = 120:=u8_ne (d:=120) (fun e=>hnp b r (by rw [hs,ha,e]))
    simp only [go_sem,↓reduceIte,h3i,h4i,g0,g1,ha2,hc2]
 all_goals
  refine hook_call rfl (by simp only [go_sem,↓reduceIte]; exact ParseR_A s (by omega)) (by simp only [go_sem,↓reduceIte]; rfl) ?_
  rintro _ rfl
  rw [numO_dec hcn hnp]
  cases parseN s with
  | ok n =>
    unfold prV
    simp only [go_sem,↓reduceIte]
    rfl
  | rng =>
    unfold prV
    simp only [go_sem,↓reduceIte]
    rfl
  | syn =>
    unfold prV
    simp only [go_sem,↓reduceIte]
    rfl
end Go.Proofs.YtfcgadnbdcnnlabGreatDoor

namespace Go.Proofs.YtfcgadnbdcnnlabGreatDoor
open Go Go.Am Go.Asm
set_option maxHeartbeats 8000000 in
theorem EncodeR_A (op a b c:Int):PureR Tryz.prog 47 [instV op a b c] (· = if rightI op a b c = true then .tup [iv .u32 (word op.toNat a.toNat b.toNat c.toNat:Nat),iv .i64 0] else .tup [iv .u32 0,iv .i64 1]):=by
 refine pure_of_wp Tt_ok mixed Tryz.func47 rfl (by rfl) [2,3] rfl (by kernel_rfl) (by simp [Tryz.ntmps47]) fun g=>?_
 unfold instV
 simp only [go_sem,↓reduceIte]
 refine hook_call rfl (by simp only [go_sem,↓reduceIte]; exact RightR_A op a b c) (by simp only [go_sem,↓reduceIte]; rfl) ?_
 rintro _ rfl
 cases hk:rightI op a b c
 ·simp only [go_sem,↓reduceIte]
  try rfl
 obtain ⟨b1,b2,b3,b4,b5,b6,b7,b8⟩:=encode_bounds hk
 obtain ⟨o,rfl⟩:∃ n:Nat,op = n:=⟨op.toNat,by omega⟩
 obtain ⟨a,rfl⟩:∃ n:Nat,a = n:=⟨a.toNat,by omega⟩
 obtain ⟨b,rfl⟩:∃ n:Nat,b = n:=⟨b.toNat,by omega⟩
 obtain ⟨c,rfl⟩:∃ n:Nat,c = n:=⟨c.toNat,by omega⟩
 have w1:IntKind.i64.wrap ((o:Int) * 16777216) = ((o * 16777216:Nat):Int):=by rw [IntKind.wrap_i64] <;> omega
 have w2:IntKind.i64.wrap ((a:Int) * 1048576) = ((a * 1048576:Nat):Int):=by rw [IntKind.wrap_i64] <;> omega
 have w3:IntKind.i64.wrap ((b:Int) * 65536) = ((b * 65536:Nat):Int):=by rw [IntKind.wrap_i64] <;> omega
 have w4:IntKind.i64.wrap (((o * 16777216:Nat):Int) + ((a * 1048576:Nat):Int)) = ((o * 16777216 + a * 1048576:Nat):Int):=by rw [IntKind.wrap_i64] <;> omega
 have w5:IntKind.i64.wrap (((o * 16777216 + a * 1048576:Nat):Int) + ((b * 65536:Nat):Int)) = ((o * 16777216 + a * 1048576 + b * 65536:Nat):Int):=by rw [IntKind.wrap_i64] <;> omega
 have w6:IntKind.i64.wrap (((o * 16777216 + a * 1048576 + b * 65536:Nat):Int) + (c:Int)) = ((word o a b c:Nat):Int):=by unfold word; rw [IntKind.wrap_i64] <;> omega
 have w7:IntKind.u32.wrap ((word o a b c:Nat):Int) = ((word o a b c:Nat):Int):=by unfold word; rw [IntKind.wrap_u32]; omega
 simp only [go_sem,↓reduceIte,w1,w2,w3,w4,w5,w6,w7,Int.toNat_natCast]
theorem nameOf_other {op:Int} (h:op.toNat = 0 ∨ 28 ≤ op.toNat):nameOf op.toNat = []:=by
 rcases h with h | h
 ·rw [h]; rfl
 ·obtain ⟨k,hk⟩:∃ k,op.toNat = k + 1:=⟨op.toNat - 1,by omega⟩
  have:names.length ≤ k:=by show 27 ≤ k; omega
  rw [hk]; simp [nameOf,this]
set_option maxHeartbeats 8000000 in
set_option maxRecDepth 100000 in
theorem NameR_A (op:Int):PureR Tryz.prog 75 [iv .i64 op] (· = sv (nameOf op.toNat)):=by
 refine pure_of_wp Tt_ok mixed Tryz.func75 rfl (by rfl) [2] rfl (by kernel_rfl) (by simp [Tryz.ntmps75]) fun g=>?_
 by_cases hr:1 ≤ op ∧ op ≤ 27
 case neg =>
  rw [nameOf_other (by omega)]
  simp only [go_sem,↓reduceIte,show ¬ op = 1 by omega,show ¬ op = 2 by omega,show ¬ op = 3 by omega,show ¬ op = 4 by omega,show ¬ op = 5 by omega,show ¬ op = 6 by omega,show ¬ op = 7 by omega,show ¬ op = 8 by omega,show ¬ op = 9 by omega,show ¬ op = 10 by omega,show ¬ op = 11 by omega,show ¬ op = 12 by omega,show ¬ op = 13 by omega,show ¬ op = 14 by omega,show ¬ op = 15 by omega,show ¬ op = 16 by omega,show ¬ op = 17 by omega,show ¬ op = 18 by omega,show ¬ op = 19 by omega,show ¬ op = 20 by omega,show ¬ op = 21 by omega,show ¬ op = 22 by omega,show ¬ op = 23 by omega,show ¬ op = 24 by omega,show ¬ op = 25 by omega,show ¬ op = 26 by omega,show ¬ op = 27 by omega]
  try rfl
 rcases (show op = 1 ∨ op = 2 ∨ op = 3 ∨ op = 4 ∨ op = 5 ∨ op = 6 ∨ op = 7 ∨ op = 8 ∨ op = 9 ∨ op = 10 ∨ op = 11 ∨ op = 12 ∨ op = 13 ∨ op = 14 ∨ op = 15 ∨ op = 16 ∨ op = 17 ∨ op = 18 ∨ op = 19 ∨ op = 20 ∨ op = 21 ∨ op = 22 ∨ op = 23 ∨ op = 24 ∨ op = 25 ∨ op = 26 ∨ op = 27 by omega) with rfl | rfl | rfl | rfl | rfl | rfl | rfl | rfl | rfl | rfl | rfl | rfl | rfl | rfl | rfl | rfl | rfl | rfl | rfl | rfl | rfl | rfl | rfl | rfl | rfl | rfl | rfl
 all_goals
  simp only [go_sem,↓reduceIte]
  rfl
end Go.Proofs.YtfcgadnbdcnnlabGreatDoor

namespace Go.Proofs.YtfcgadnbdcnnlabGreatDoor
open Go Go.Am Go.Asm
theorem OpR_A (s:Str):PureR Tryz.prog 46 [sv s] (· = iv .i64 (opNum s)):=by
 refine pure_of_wp Tt_ok mixed Tryz.func46 rfl (by rfl) [2] rfl (by kernel_rfl) (by simp [Tryz.ntmps46]) fun g=>?_
 simp only [go_sem,↓reduceIte]
 refine loop_intro (fun n st=>∃ k:Nat,n + k = 27 ∧ st.f 0 = sv s ∧ st.f 3 = iv .i64 ((k + 1:Nat):Int) ∧ ∀ j,j < k → names.getD j [] ≠ s) 27 ?_ ?_
 ·refine ⟨0,by omega,?_⟩
  simp only [go_sem,↓reduceIte]
  exact fun j hj=>absurd hj (by omega)
 rintro n f g ob ⟨k,hk,q0,q3,hno⟩
 simp only at q0 q3
 have hw:=wrap_succ (k:=k + 1) (by omega)
 by_cases hlt:k < 27
 ·have hle:((k + 1:Nat):Int) ≤ 27:=by omega
  simp only [go_sem,↓reduceIte,q0,q3,hle]
  refine hook_call rfl (by simp only [go_sem,↓reduceIte]; exact NameR_A ((k + 1:Nat):Int)) (by simp only [go_sem,↓reduceIte]; rfl) ?_
  rintro _ rfl
  rw [Int.toNat_natCast,show nameOf (k + 1) = names.getD k [] from rfl]
  simp only [go_sem,↓reduceIte,q0,q3]
  refine ⟨fun e=>?_,fun e=>?_⟩
  ·rw [opNum_hit hlt e hno]
  ·simp only [go_sem,↓reduceIte,q3,hw]
   refine round_end (n - 1) (by omega) ⟨k + 1,by omega,?_⟩
   simp only [go_sem,↓reduceIte,q0]
   intro j hj
   by_cases hjk:j = k
   ·rw [hjk]; exact e
   ·exact hno j (by omega)
 ·have hle:¬ ((k + 1:Nat):Int) ≤ 27:=by omega
  simp only [go_sem,↓reduceIte,q0,q3,hle]
  rw [opNum_none (fun j hj=>hno j (by omega))]; rfl
def regI (s:Str):Int:=match regOf s with | some n=>(n:Int) | none=>-1
set_option maxHeartbeats 2000000 in
theorem register_A (s:Str) (hl:s.length ≤ 1000000):PureR Tryz.prog 44 [sv s] (· = iv .i64 (regI s)):=by
 refine pure_of_wp Tt_ok mixed Tryz.func44 rfl (by rfl) [2] rfl (by kernel_rfl) (by simp [Tryz.ntmps44]) fun g=>?_
 match s,hl with
 | [],_ =>
   simp only [go_sem,↓reduceIte]
   rfl
 | [a],_ =>
   have:regI [a] = -1:=by
    unfold regI regOf
    split
    ·rename_i n h; split at h
     ·rename_i d e; cases e; rw [show parseN [] = .syn from rfl] at h; cases h
     ·cases h
    ·rfl
   rw [this]
   simp only [go_sem,↓reduceIte]
 | a :: b :: d,hl =>
   have hli:¬ ((d.length + 1 + 1:Nat):Int) < 2:=by omega
   by_cases ha:a = 114
   ·subst ha
    have z:((114:UInt8).toNat:Int) = 114:=rfl
    simp only [go_sem,↓reduceIte,hli,z,List.length_cons]
    refine ⟨by omega,?_⟩
    refine hook_call rfl (by simp only [go_sem,↓reduceIte]; exact ParseR_A (b :: d) (by simp only [List.length_cons] at hl ⊢; omega)) (by simp only [go_sem,↓reduceIte]; rfl) ?_
    rintro _ rfl
    rw [show regI (114 :: b :: d) = (match parseN (b :: d) with | .ok n=>if n ≤ 15 then (n:Int) else -1 | _=>-1) by
     unfold regI regOf; simp only
     cases parseN (b :: d) with
     | ok n =>
       simp only
       by_cases h15:n ≤ 15
       ·rw [if_pos h15,if_pos h15]
       ·rw [if_neg h15,if_neg h15]
     | syn=>rfl
     | rng=>rfl]
    cases parseN (b :: d) with
    | ok n =>
      simp only
      unfold prV
      by_cases h15:n ≤ 15
      ·have h:¬ (15:Int) < (n:Int):=by omega
       have hw:IntKind.i64.wrap (n:Int) = (n:Int):=by rw [IntKind.wrap_i64] <;> omega
       rw [if_pos h15]
       simp only [go_sem,↓reduceIte,h,hw]
      ·have h:(15:Int) < (n:Int):=by omega
       rw [if_neg h15]
       simp only [go_sem,↓reduceIte,h]
    | syn=>unfold prV; simp only [go_sem,↓reduceIte]
    | rng=>unfold prV; simp only [go_sem,↓reduceIte]
   ·have ha2:¬ (a.toNat:Int) = 114:=u8_ne (d:=114) ha
    have:regI (a :: b :: d) = -1:=by
     unfold regI regOf
     split
     ·rename_i n h; split at h
      ·rename_i e; cases e; exact absurd rfl ha
      ·cases h
     ·rfl
    rw [this]
    simp only [go_sem,↓reduceIte,hli,ha2]
def shI (op:Nat):Str:=(if (Asm.shape op).1 = true then [114] else []) ++ (if (Asm.shape op).2.1 = true then [114] else []) ++ (if (Asm.shape op).2.2 = 2 then [114] else if (Asm.shape op).2.2 = 1 then [110] else [])
def shapeS (s:Str):Str:=if s = wordW ∨ s = dataW then [119] else if opNum s = 0 then [63] else shI (opNum s)
theorem opNum_get {s:Str} {k:Nat} (h:opNum s = k + 1):names.getD k [] = s:=by
 unfold opNum at h
 split at h
 ·rename_i i hi
  obtain rfl:i = k:=by omega
  obtain ⟨h1,h2,_⟩:=List.idxOf?_eq_some_iff.1 hi
  rw [names_get h1]; exact h2
 ·cases h
theorem opNum_mem {s:Str} (h:opNum s = 0):∀ x ∈ names,s ≠ x:=by
 rintro x hx rfl
 unfold opNum at h
 split at h
 ·cases h
 ·rename_i hi; exact List.idxOf?_eq_none_iff.1 hi hx
theorem names_inj:∀ j,j < 27 → ∀ k,k < 27 → names.getD j [] = names.getD k [] → j = k:=by decide +kernel
set_option maxHeartbeats 8000000 in
theorem Shape_A (s:Str):PureR Tryz.prog 43 [sv s] (· = sv (shapeS s)):=by
 refine pure_of_wp Tt_ok mixed Tryz.func43 rfl (by rfl) [2] rfl (by kernel_rfl) (by simp [Tryz.ntmps43]) fun g=>?_
 have hle:=opNum_le s
 by_cases h1:s = wordW
 ·have hs:s = [46,119,111,114,100]:=h1
  rw [show shapeS s = [119] by rw [hs]; rfl]
  have m0:(s = [108,105]) = False:=eq_false (by rw [hs]; decide)
  have m1:(s = [108,117,105]) = False:=eq_false (by rw [hs]; decide)
  have m2:(s = [106,122]) = False:=eq_false (by rw [hs]; decide)
  have m3:(s = [106,110,122]) = False:=eq_false (by rw [hs]; decide)
  have m4:(s = [99,97,108,108]) = False:=eq_false (by rw [hs]; decide)
  have m5:(s = [99,104,107]) = False:=eq_false (by rw [hs]; decide)
  have m6:(s = [109,111,118]) = False:=eq_false (by rw [hs]; decide)
  have m7:(s = [108,100]) = False:=eq_false (by rw [hs]; decide)
  have m8:(s = [115,116]) = False:=eq_false (by rw [hs]; decide)
  have m9:(s = [108,100,99]) = False:=eq_false (by rw [hs]; decide)
  have m10:(s = [106,109,112]) = False:=eq_false (by rw [hs]; decide)
  have m11:(s = [114,101,116]) = False:=eq_false (by rw [hs]; decide)
  have m12:(s = [103,101,116]) = False:=eq_false (by rw [hs]; decide)
  have m13:(s = [112,117,116]) = False:=eq_false (by rw [hs]; decide)
  have m14:(s = [104,97,108,116]) = False:=eq_false (by rw [hs]; decide)
  have m15:(s = [46,119,111,114,100]) = True:=eq_true hs
  have m16:(s = [46,100,97,116,97]) = False:=eq_false (by rw [hs]; decide)
  simp only [go_sem,↓reduceIte,m0,m1,m2,m3,m4,m5,m6,m7,m8,m9,m10,m11,m12,m13,m14,m15,m16]
 by_cases h2:s = dataW
 ·have hs:s = [46,100,97,116,97]:=h2
  rw [show shapeS s = [119] by rw [hs]; rfl]
  have m0:(s = [108,105]) = False:=eq_false (by rw [hs]; decide)
  have m1:(s = [108,117,105]) = False:=eq_false (by rw [hs]; decide)
  have m2:(s = [106,122]) = False:=eq_false (by rw [hs]; decide)
  have m3:(s = [106,110,122]) = False:=eq_false (by rw [hs]; decide)
  have m4:(s = [99,97,108,108]) = False:=eq_false (by rw [hs]; decide)
  have m5:(s = [99,104,107]) = False:=eq_false (by rw [hs]; decide)
  have m6:(s = [109,111,118]) = False:=eq_false (by rw [hs]; decide)
  have m7:(s = [108,100]) = False:=eq_false (by rw [hs]; decide)
  have m8:(s = [115,116]) = False:=eq_false (by rw [hs]; decide)
  have m9:(s = [108,100,99]) = False:=eq_false (by rw [hs]; decide)
  have m10:(s = [106,109,112]) = False:=eq_false (by rw [hs]; decide)
  have m11:(s = [114,101,116]) = False:=eq_false (by rw [hs]; decide)
  have m12:(s = [103,101,116]) = False:=eq_false (by rw [hs]; decide)
  have m13:(s = [112,117,116]) = False:=eq_false (by rw [hs]; decide)
  have m14:(s = [104,97,108,116]) = False:=eq_false (by rw [hs]; decide)
  have m15:(s = [46,119,111,114,100]) = False:=eq_false (by rw [hs]; decide)
  have m16:(s = [46,100,97,116,97]) = True:=eq_true hs
  simp only [go_sem,↓reduceIte,m0,m1,m2,m3,m4,m5,m6,m7,m8,m9,m10,m11,m12,m13,m14,m15,m16]
 have hsh:shapeS s = if opNum s = 0 then [63] else shI (opNum s):=by unfold shapeS; rw [if_neg (by simp [h1,h2])]
 rw [hsh]
 unfold wordW at h1
 unfold dataW at h2
 by_cases h0:opNum s = 0
 ·rw [if_pos h0]
  have hm:=opNum_mem h0
  unfold names at hm
  simp only [List.forall_mem_cons] at hm
  obtain ⟨n1,n2,n3,n4,n5,n6,n7,n8,n9,n10,n11,n12,n13,n14,n15,n16,n17,n18,n19,n20,n21,n22,n23,n24,n25,n26,n27,_⟩:=hm
  simp only [go_sem,↓reduceIte,n1,n2,n3,n16,n17,n18,n19,n20,n21,n22,n23,n24,n25,n26,n27,h1,h2]
  refine hook_call rfl (by simp only [go_sem,↓reduceIte]; exact OpR_A s) (by simp only [go_sem,↓reduceIte]; rfl) ?_
  rintro _ rfl
  rw [h0]
  simp only [go_sem,↓reduceIte]
 ·rw [if_neg h0]
  obtain ⟨k,hk⟩:∃ k,opNum s = k + 1:=⟨opNum s - 1,by omega⟩
  have hs:=opNum_get hk
  have hkl:k < 27:=by omega
  by_cases hmid:3 ≤ k ∧ k ≤ 14
  ·have hsh:shI (opNum s) = [114,114,114]:=by
    have:Asm.shape (opNum s) = (true,true,2):=by unfold Asm.shape; rw [if_neg (by omega),if_neg (by omega),if_pos (by omega)]
    unfold shI; rw [this]; rfl
   rw [hsh]
   have hne:∀ j,j < 27 → j ≠ k → s ≠ names.getD j []:=by
    intro j hj hjk e
    exact hjk (names_inj j hj k hkl (by rw [hs]; exact e.symm))
   have n1:¬ s = [108,105]:=hne 0 (by omega) (by omega)
   have n2:¬ s = [108,117,105]:=hne 1 (by omega) (by omega)
   have n3:¬ s = [109,111,118]:=hne 2 (by omega) (by omega)
   have n16:¬ s = [108,100]:=hne 15 (by omega) (by omega)
   have n17:¬ s = [115,116]:=hne 16 (by omega) (by omega)
   have n18:¬ s = [106,109,112]:=hne 17 (by omega) (by omega)
   have n19:¬ s = [106,122]:=hne 18 (by omega) (by omega)
   have n20:¬ s = [106,110,122]:=hne 19 (by omega) (by omega)
   have n21:¬ s = [99,97,108,108]:=hne 20 (by omega) (by omega)
   have n22:¬ s = [114,101,116]:=hne 21 (by omega) (by omega)
   have n23:¬ s = [103,101,116]:=hne 22 (by omega) (by omega)
   have n24:¬ s = [112,117,116]:=hne 23 (by omega) (by omega)
   have n25:¬ s = [99,104,107]:=hne 24 (by omega) (by omega)
   have n26:¬ s = [104,97,108,116]:=hne 25 (by omega) (by omega)
   have n27:¬ s = [108,100,99]:=hne 26 (by omega) (by omega)
   have i1:(4:Int) ≤ (opNum s:Int):=by omega
   have i2:(opNum s:Int) ≤ 15:=by omega
   simp only [go_sem,↓reduceIte,n1,n2,n3,n16,n17,n18,n19,n20,n21,n22,n23,n24,n25,n26,n27,h1,h2]
   refine hook_call rfl (by simp only [go_sem,↓reduceIte]; exact OpR_A s) (by simp only [go_sem,↓reduceIte]; rfl) ?_
   rintro _ rfl
   simp only [go_sem,↓reduceIte,i1,i2]
  ·rw [hk]
   clear hsh h0 hk hle h1 h2
   rcases (show k = 0 ∨ k = 1 ∨ k = 2 ∨ k = 15 ∨ k = 16 ∨ k = 17 ∨ k = 18 ∨ k = 19 ∨ k = 20 ∨ k = 21 ∨ k = 22 ∨ k = 23 ∨ k = 24 ∨ k = 25 ∨ k = 26 by omega) with rfl | rfl | rfl | rfl | rfl | rfl | rfl | rfl | rfl | rfl | rfl | rfl | rfl | rfl | rfl
   ·have hs:s = [108,105]:=hs.symm
    have m0:(s = [108,105]) = True:=eq_true hs
    have m1:(s = [108,117,105]) = False:=eq_false (by rw [hs]; decide)
    have m2:(s = [106,122]) = False:=eq_false (by rw [hs]; decide)
    have m3:(s = [106,110,122]) = False:=eq_false (by rw [hs]; decide)
    have m4:(s = [99,97,108,108]) = False:=eq_false (by rw [hs]; decide)
    have m5:(s = [99,104,107]) = False:=eq_false (by rw [hs]; decide)
    have m6:(s = [109,111,118]) = False:=eq_false (by rw [hs]; decide)
    have m7:(s = [108,100]) = False:=eq_false (by rw [hs]; decide)
    have m8:(s = [115,116]) = False:=eq_false (by rw [hs]; decide)
    have m9:(s = [108,100,99]) = False:=eq_false (by rw [hs]; decide)
    have m10:(s = [106,109,112]) = False:=eq_false (by rw [hs]; decide)
    have m11:(s = [114,101,116]) = False:=eq_false (by rw [hs]; decide)
    have m12:(s = [103,101,116]) = False:=eq_false (by rw [hs]; decide)
    have m13:(s = [112,117,116]) = False:=eq_false (by rw [hs]; decide)
    have m14:(s = [104,97,108,116]) = False:=eq_false (by rw [hs]; decide)
    have m15:(s = [46,119,111,114,100]) = False:=eq_false (by rw [hs]; decide)
    have m16:(s = [46,100,97,116,97]) = False:=eq_false (by rw [hs]; decide)
    rw [show shI (0 + 1) = shI 1 from rfl]
    simp only [go_sem,↓reduceIte,m0,m1,m2,m3,m4,m5,m6,m7,m8,m9,m10,m11,m12,m13,m14,m15,m16]
    rfl
   ·have hs:s = [108,117,105]:=hs.symm
    have m0:(s = [108,105]) = False:=eq_false (by rw [hs]; decide)
    have m1:(s = [108,117,105]) = True:=eq_true hs
    have m2:(s = [106,122]) = False:=eq_false (by rw [hs]; decide)
    have m3:(s = [106,110,122]) = False:=eq_false (by rw [hs]; decide)
    have m4:(s = [99,97,108,108]) = False:=eq_false (by rw [hs]; decide)
    have m5:(s = [99,104,107]) = False:=eq_false (by rw [hs]; decide)
    have m6:(s = [109,111,118]) = False:=eq_false (by rw [hs]; decide)
    have m7:(s = [108,100]) = False:=eq_false (by rw [hs]; decide)
    have m8:(s = [115,116]) = False:=eq_false (by rw [hs]; decide)
    have m9:(s = [108,100,99]) = False:=eq_false (by rw [hs]; decide)
    have m10:(s = [106,109,112]) = False:=eq_false (by rw [hs]; decide)
    have m11:(s = [114,101,116]) = False:=eq_false (by rw [hs]; decide)
    have m12:(s = [103,101,116]) = False:=eq_false (by rw [hs]; decide)
    have m13:(s = [112,117,116]) = False:=eq_false (by rw [hs]; decide)
    have m14:(s = [104,97,108,116]) = False:=eq_false (by rw [hs]; decide)
    have m15:(s = [46,119,111,114,100]) = False:=eq_false (by rw [hs]; decide)
    have m16:(s = [46,100,97,116,97]) = False:=eq_false (by rw [hs]; decide)
    rw [show shI (1 + 1) = shI 2 from rfl]
    simp only [go_sem,↓reduceIte,m0,m1,m2,m3,m4,m5,m6,m7,m8,m9,m10,m11,m12,m13,m14,m15,m16]
    rfl
   ·have hs:s = [109,111,118]:=hs.symm
    have m0:(s = [108,105]) = False:=eq_false (by rw [hs]; decide)
    have m1:(s = [108,117,105]) = False:=eq_false (by rw [hs]; decide)
    have m2:(s = [106,122]) = False:=eq_false (by rw [hs]; decide)
    have m3:(s = [106,110,122]) = False:=eq_false (by rw [hs]; decide)
    have m4:(s = [99,97,108,108]) = False:=eq_false (by rw [hs]; decide)
    have m5:(s = [99,104,107]) = False:=eq_false (by rw [hs]; decide)
    have m6:(s = [109,111,118]) = True:=eq_true hs
    have m7:(s = [108,100]) = False:=eq_false (by rw [hs]; decide)
    have m8:(s = [115,116]) = False:=eq_false (by rw [hs]; decide)
    have m9:(s = [108,100,99]) = False:=eq_false (by rw [hs]; decide)
    have m10:(s = [106,109,112]) = False:=eq_false (by rw [hs]; decide)
    have m11:(s = [114,101,116]) = False:=eq_false (by rw [hs]; decide)
    have m12:(s = [103,101,116]) = False:=eq_false (by rw [hs]; decide)
    have m13:(s = [112,117,116]) = False:=eq_false (by rw [hs]; decide)
    have m14:(s = [104,97,108,116]) = False:=eq_false (by rw [hs]; decide)
    have m15:(s = [46,119,111,114,100]) = False:=eq_false (by rw [hs]; decide)
    have m16:(s = [46,100,97,116,97]) = False:=eq_false (by rw [hs]; decide)
    rw [show shI (2 + 1) = shI 3 from rfl]
    simp only [go_sem,↓reduceIte,m0,m1,m2,m3,m4,m5,m6,m7,m8,m9,m10,m11,m12,m13,m14,m15,m16]
    rfl
   ·have hs:s = [108,100]:=hs.symm
    have m0:(s = [108,105]) = False:=eq_false (by rw [hs]; decide)
    have m1:(s = [108,117,105]) = False:=eq_false (by rw [hs]; decide)
    have m2:(s = [106,122]) = False:=eq_false (by rw [hs]; decide)
    have m3:(s = [106,110,122]) = False:=eq_false (by rw [hs]; decide)
    have m4:(s = [99,97,108,108]) = False:=eq_false (by rw [hs]; decide)
    have m5:(s = [99,104,107]) = False:=eq_false (by rw [hs]; decide)
    have m6:(s = [109,111,118]) = False:=eq_false (by rw [hs]; decide)
    have m7:(s = [108,100]) = True:=eq_true hs
    have m8:(s = [115,116]) = False:=eq_false (by rw [hs]; decide)
    have m9:(s = [108,100,99]) = False:=eq_false (by rw [hs]; decide)
    have m10:(s = [106,109,112]) = False:=eq_false (by rw [hs]; decide)
    have m11:(s = [114,101,116]) = False:=eq_false (by rw [hs]; decide)
    have m12:(s = [103,101,116]) = False:=eq_false (by rw [hs]; decide)
    have m13:(s = [112,117,116]) = False:=eq_false (by rw [hs]; decide)
    have m14:(s = [104,97,108,116]) = False:=eq_false (by rw [hs]; decide)
    have m15:(s = [46,119,111,114,100]) = False:=eq_false (by rw [hs]; decide)
    have m16:(s = [46,100,97,116,97]) = False:=eq_false (by rw [hs]; decide)
    rw [show shI (15 + 1) = shI 16 from rfl]
    simp only [go_sem,↓reduceIte,m0,m1,m2,m3,m4,m5,m6,m7,m8,m9,m10,m11,m12,m13,m14,m15,m16]
    rfl
   ·have hs:s = [115,116]:=hs.symm
    have m0:(s = [108,105]) = False:=eq_false (by rw [hs]; decide)
    have m1:(s = [108,117,105]) = False:=eq_false (by rw [hs]; decide)
    have m2:(s = [106,122]) = False:=eq_false (by rw [hs]; decide)
    have m3:(s = [106,110,122]) = False:=eq_false (by rw [hs]; decide)
    have m4:(s = [99,97,108,108]) = False:=eq_false (by rw [hs]; decide)
    have m5:(s = [99,104,107]) = False:=eq_false (by rw [hs]; decide)
    have m6:(s = [109,111,118]) = False:=eq_false (by rw [hs]; decide)
    have m7:(s = [108,100]) = False:=eq_false (by rw [hs]; decide)
    have m8:(s = [115,116]) = True:=eq_true hs
    have m9:(s = [108,100,99]) = False:=eq_false (by rw [hs]; decide)
    have m10:(s = [106,109,112]) = False:=eq_false (by rw [hs]; decide)
    have m11:(s = [114,101,116]) = False:=eq_false (by rw [hs]; decide)
    have m12:(s = [103,101,116]) = False:=eq_false (by rw [hs]; decide)
    have m13:(s = [112,117,116]) = False:=eq_false (by rw [hs]; decide)
    have m14:(s = [104,97,108,116]) = False:=eq_false (by rw [hs]; decide)
    have m15:(s = [46,119,111,114,100]) = False:=eq_false (by rw [hs]; decide)
    have m16:(s = [46,100,97,116,97]) = False:=eq_false (by rw [hs]; decide)
    rw [show shI (16 + 1) = shI 17 from rfl]
    simp only [go_sem,↓reduceIte,m0,m1,m2,m3,m4,m5,m6,m7,m8,m9,m10,m11,m12,m13,m14,m15,m16]
    rfl
   ·have hs:s = [106,109,112]:=hs.symm
    have m0:(s = [108,105]) = False:=eq_false (by rw [hs]; decide)
    have m1:(s = [108,117,105]) = False:=eq_false (by rw [hs]; decide)
    have m2:(s = [106,122]) = False:=eq_false (by rw [hs]; decide)
    have m3:(s = [106,110,122]) = False:=eq_false (by rw [hs]; decide)
    have m4:(s = [99,97,108,108]) = False:=eq_false (by rw [hs]; decide)
    have m5:(s = [99,104,107]) = False:=eq_false (by rw [hs]; decide)
    have m6:(s = [109,111,118]) = False:=eq_false (by rw [hs]; decide)
    have m7:(s = [108,100]) = False:=eq_false (by rw [hs]; decide)
    have m8:(s = [115,116]) = False:=eq_false (by rw [hs]; decide)
    have m9:(s = [108,100,99]) = False:=eq_false (by rw [hs]; decide)
    have m10:(s = [106,109,112]) = True:=eq_true hs
    have m11:(s = [114,101,116]) = False:=eq_false (by rw [hs]; decide)
    have m12:(s = [103,101,116]) = False:=eq_false (by rw [hs]; decide)
    have m13:(s = [112,117,116]) = False:=eq_false (by rw [hs]; decide)
    have m14:(s = [104,97,108,116]) = False:=eq_false (by rw [hs]; decide)
    have m15:(s = [46,119,111,114,100]) = False:=eq_false (by rw [hs]; decide)
    have m16:(s = [46,100,97,116,97]) = False:=eq_false (by rw [hs]; decide)
    rw [show shI (17 + 1) = shI 18 from rfl]
    simp only [go_sem,↓reduceIte,m0,m1,m2,m3,m4,m5,m6,m7,m8,m9,m10,m11,m12,m13,m14,m15,m16]
    rfl
   ·have hs:s = [106,122]:=hs.symm
    have m0:(s = [108,105]) = False:=eq_false (by rw [hs]; decide)
    have m1:(s = [108,117,105]) = False:=eq_false (by rw [hs]; decide)
    have m2:(s = [106,122]) = True:=eq_true hs
    have m3:(s = [106,110,122]) = False:=eq_false (by rw [hs]; decide)
    have m4:(s = [99,97,108,108]) = False:=eq_false (by rw [hs]; decide)
    have m5:(s = [99,104,107]) = False:=eq_false (by rw [hs]; decide)
    have m6:(s = [109,111,118]) = False:=eq_false (by rw [hs]; decide)
    have m7:(s = [108,100]) = False:=eq_false (by rw [hs]; decide)
    have m8:(s = [115,116]) = False:=eq_false (by rw [hs]; decide)
    have m9:(s = [108,100,99]) = False:=eq_false (by rw [hs]; decide)
    have m10:(s = [106,109,112]) = False:=eq_false (by rw [hs]; decide)
    have m11:(s = [114,101,116]) = False:=eq_false (by rw [hs]; decide)
    have m12:(s = [103,101,116]) = False:=eq_false (by rw [hs]; decide)
    have m13:(s = [112,117,116]) = False:=eq_false (by rw [hs]; decide)
    have m14:(s = [104,97,108,116]) = False:=eq_false (by rw [hs]; decide)
    have m15:(s = [46,119,111,114,100]) = False:=eq_false (by rw [hs]; decide)
    have m16:(s = [46,100,97,116,97]) = False:=eq_false (by rw [hs]; decide)
    rw [show shI (18 + 1) = shI 19 from rfl]
    simp only [go_sem,↓reduceIte,m0,m1,m2,m3,m4,m5,m6,m7,m8,m9,m10,m11,m12,m13,m14,m15,m16]
    rfl
   ·have hs:s = [106,110,122]:=hs.symm
    have m0:(s = [108,105]) = False:=eq_false (by rw [hs]; decide)
    have m1:(s = [108,117,105]) = False:=eq_false (by rw [hs]; decide)
    have m2:(s = [106,122]) = False:=eq_false (by rw [hs]; decide)
    have m3:(s = [106,110,122]) = True:=eq_true hs
    have m4:(s = [99,97,108,108]) = False:=eq_false (by rw [hs]; decide)
    have m5:(s = [99,104,107]) = False:=eq_false (by rw [hs]; decide)
    have m6:(s = [109,111,118]) = False:=eq_false (by rw [hs]; decide)
    have m7:(s = [108,100]) = False:=eq_false (by rw [hs]; decide)
    have m8:(s = [115,116]) = False:=eq_false (by rw [hs]; decide)
    have m9:(s = [108,100,99]) = False:=eq_false (by rw [hs]; decide)
    have m10:(s = [106,109,112]) = False:=eq_false (by rw [hs]; decide)
    have m11:(s = [114,101,116]) = False:=eq_false (by rw [hs]; decide)
    have m12:(s = [103,101,116]) = False:=eq_false (by rw [hs]; decide)
    have m13:(s = [112,117,116]) = False:=eq_false (by rw [hs]; decide)
    have m14:(s = [104,97,108,116]) = False:=eq_false (by rw [hs]; decide)
    have m15:(s = [46,119,111,114,100]) = False:=eq_false (by rw [hs]; decide)
    have m16:(s = [46,100,97,116,97]) = False:=eq_false (by rw [hs]; decide)
    rw [show shI (19 + 1) = shI 20 from rfl]
    simp only [go_sem,↓reduceIte,m0,m1,m2,m3,m4,m5,m6,m7,m8,m9,m10,m11,m12,m13,m14,m15,m16]
    rfl
   ·have hs:s = [99,97,108,108]:=hs.symm
    have m0:(s = [108,105]) = False:=eq_false (by rw [hs]; decide)
    have m1:(s = [108,117,105]) = False:=eq_false (by rw [hs]; decide)
    have m2:(s = [106,122]) = False:=eq_false (by rw [hs]; decide)
    have m3:(s = [106,110,122]) = False:=eq_false (by rw [hs]; decide)
    have m4:(s = [99,97,108,108]) = True:=eq_true hs
    have m5:(s = [99,104,107]) = False:=eq_false (by rw [hs]; decide)
    have m6:(s = [109,111,118]) = False:=eq_false (by rw [hs]; decide)
    have m7:(s = [108,100]) = False:=eq_false (by rw [hs]; decide)
    have m8:(s = [115,116]) = False:=eq_false (by rw [hs]; decide)
    have m9:(s = [108,100,99]) = False:=eq_false (by rw [hs]; decide)
    have m10:(s = [106,109,112]) = False:=eq_false (by rw [hs]; decide)
    have m11:(s = [114,101,116]) = False:=eq_false (by rw [hs]; decide)
    have m12:(s = [103,101,116]) = False:=eq_false (by rw [hs]; decide)
    have m13:(s = [112,117,116]) = False:=eq_false (by rw [hs]; decide)
    have m14:(s = [104,97,108,116]) = False:=eq_false (by rw [hs]; decide)
    have m15:(s = [46,119,111,114,100]) = False:=eq_false (by rw [hs]; decide)
    have m16:(s = [46,100,97,116,97]) = False:=eq_false (by rw [hs]; decide)
    rw [show shI (20 + 1) = shI 21 from rfl]
    simp only [go_sem,↓reduceIte,m0,m1,m2,m3,m4,m5,m6,m7,m8,m9,m10,m11,m12,m13,m14,m15,m16]
    rfl
   ·have hs:s = [114,101,116]:=hs.symm
    have m0:(s = [108,105]) = False:=eq_false (by rw [hs]; decide)
    have m1:(s = [108,117,105]) = False:=eq_false (by rw [hs]; decide)
    have m2:(s = [106,122]) = False:=eq_false (by rw [hs]; decide)
    have m3:(s = [106,110,122]) = False:=eq_false (by rw [hs]; decide)
    have m4:(s = [99,97,108,108]) = False:=eq_false (by rw [hs]; decide)
    have m5:(s = [99,104,107]) = False:=eq_false (by rw [hs]; decide)
    have m6:(s = [109,111,118]) = False:=eq_false (by rw [hs]; decide)
    have m7:(s = [108,100]) = False:=eq_false (by rw [hs]; decide)
    have m8:(s = [115,116]) = False:=eq_false (by rw [hs]; decide)
    have m9:(s = [108,100,99]) = False:=eq_false (by rw [hs]; decide)
    have m10:(s = [106,109,112]) = False:=eq_false (by rw [hs]; decide)
    have m11:(s = [114,101,116]) = True:=eq_true hs
    have m12:(s = [103,101,116]) = False:=eq_false (by rw [hs]; decide)
    have m13:(s = [112,117,116]) = False:=eq_false (by rw [hs]; decide)
    have m14:(s = [104,97,108,116]) = False:=eq_false (by rw [hs]; decide)
    have m15:(s = [46,119,111,114,100]) = False:=eq_false (by rw [hs]; decide)
    have m16:(s = [46,100,97,116,97]) = False:=eq_false (by rw [hs]; decide)
    rw [show shI (21 + 1) = shI 22 from rfl]
    simp only [go_sem,↓reduceIte,m0,m1,m2,m3,m4,m5,m6,m7,m8,m9,m10,m11,m12,m13,m14,m15,m16]
    rfl
   ·have hs:s = [103,101,116]:=hs.symm
    have m0:(s = [108,105]) = False:=eq_false (by rw [hs]; decide)
    have m1:(s = [108,117,105]) = False:=eq_false (by rw [hs]; decide)
    have m2:(s = [106,122]) = False:=eq_false (by rw [hs]; decide)
    have m3:(s = [106,110,122]) = False:=eq_false (by rw [hs]; decide)
    have m4:(s = [99,97,108,108]) = False:=eq_false (by rw [hs]; decide)
    have m5:(s = [99,104,107]) = False:=eq_false (by rw [hs]; decide)
    have m6:(s = [109,111,118]) = False:=eq_false (by rw [hs]; decide)
    have m7:(s = [108,100]) = False:=eq_false (by rw [hs]; decide)
    have m8:(s = [115,116]) = False:=eq_false (by rw [hs]; decide)
    have m9:(s = [108,100,99]) = False:=eq_false (by rw [hs]; decide)
    have m10:(s = [106,109,112]) = False:=eq_false (by rw [hs]; decide)
    have m11:(s = [114,101,116]) = False:=eq_false (by rw [hs]; decide)
    have m12:(s = [103,101,116]) = True:=eq_true hs
    have m13:(s = [112,117,116]) = False:=eq_false (by rw [hs]; decide)
    have m14:(s = [104,97,108,116]) = False:=eq_false (by rw [hs]; decide)
    have m15:(s = [46,119,111,114,100]) = False:=eq_false (by rw [hs]; decide)
    have m16:(s = [46,100,97,116,97]) = False:=eq_false (by rw [hs]; decide)
    rw [show shI (22 + 1) = shI 23 from rfl]
    simp only [go_sem,↓reduceIte,m0,m1,m2,m3,m4,m5,m6,m7,m8,m9,m10,m11,m12,m13,m14,m15,m16]
    rfl
   ·have hs:s = [112,117,116]:=hs.symm
    have m0:(s = [108,105]) = False:=eq_false (by rw [hs]; decide)
    have m1:(s = [108,117,105]) = False:=eq_false (by rw [hs]; decide)
    have m2:(s = [106,122]) = False:=eq_false (by rw [hs]; decide)
    have m3:(s = [106,110,122]) = False:=eq_false (by rw [hs]; decide)
    have m4:(s = [99,97,108,108]) = False:=eq_false (by rw [hs]; decide)
    have m5:(s = [99,104,107]) = False:=eq_false (by rw [hs]; decide)
    have m6:(s = [109,111,118]) = False:=eq_false (by rw [hs]; decide)
    have m7:(s = [108,100]) = False:=eq_false (by rw [hs]; decide)
    have m8:(s = [115,116]) = False:=eq_false (by rw [hs]; decide)
    have m9:(s = [108,100,99]) = False:=eq_false (by rw [hs]; decide)
    have m10:(s = [106,109,112]) = False:=eq_false (by rw [hs]; decide)
    have m11:(s = [114,101,116]) = False:=eq_false (by rw [hs]; decide)
    have m12:(s = [103,101,116]) = False:=eq_false (by rw [hs]; decide)
    have m13:(s = [112,117,116]) = True:=eq_true hs
    have m14:(s = [104,97,108,116]) = False:=eq_false (by rw [hs]; decide)
    have m15:(s = [46,119,111,114,100]) = False:=eq_false (by rw [hs]; decide)
    have m16:(s = [46,100,97,116,97]) = False:=eq_false (by rw [hs]; decide)
    rw [show shI (23 + 1) = shI 24 from rfl]
    simp only [go_sem,↓reduceIte,m0,m1,m2,m3,m4,m5,m6,m7,m8,m9,m10,m11,m12,m13,m14,m15,m16]
    rfl
   ·have hs:s = [99,104,107]:=hs.symm
    have m0:(s = [108,105]) = False:=eq_false (by rw [hs]; decide)
    have m1:(s = [108,117,105]) = False:=eq_false (by rw [hs]; decide)
    have m2:(s = [106,122]) = False:=eq_false (by rw [hs]; decide)
    have m3:(s = [106,110,122]) = False:=eq_false (by rw [hs]; decide)
    have m4:(s = [99,97,108,108]) = False:=eq_false (by rw [hs]; decide)
    have m5:(s = [99,104,107]) = True:=eq_true hs
    have m6:(s = [109,111,118]) = False:=eq_false (by rw [hs]; decide)
    have m7:(s = [108,100]) = False:=eq_false (by rw [hs]; decide)
    have m8:(s = [115,116]) = False:=eq_false (by rw [hs]; decide)
    have m9:(s = [108,100,99]) = False:=eq_false (by rw [hs]; decide)
    have m10:(s = [106,109,112]) = False:=eq_false (by rw [hs]; decide)
    have m11:(s = [114,101,116]) = False:=eq_false (by rw [hs]; decide)
    have m12:(s = [103,101,116]) = False:=eq_false (by rw [hs]; decide)
    have m13:(s = [112,117,116]) = False:=eq_false (by rw [hs]; decide)
    have m14:(s = [104,97,108,116]) = False:=eq_false (by rw [hs]; decide)
    have m15:(s = [46,119,111,114,100]) = False:=eq_false (by rw [hs]; decide)
    have m16:(s = [46,100,97,116,97]) = False:=eq_false (by rw [hs]; decide)
    rw [show shI (24 + 1) = shI 25 from rfl]
    simp only [go_sem,↓reduceIte,m0,m1,m2,m3,m4,m5,m6,m7,m8,m9,m10,m11,m12,m13,m14,m15,m16]
    rfl
   ·have hs:s = [104,97,108,116]:=hs.symm
    have m0:(s = [108,105]) = False:=eq_false (by rw [hs]; decide)
    have m1:(s = [108,117,105]) = False:=eq_false (by rw [hs]; decide)
    have m2:(s = [106,122]) = False:=eq_false (by rw [hs]; decide)
    have m3:(s = [106,110,122]) = False:=eq_false (by rw [hs]; decide)
    have m4:(s = [99,97,108,108]) = False:=eq_false (by rw [hs]; decide)
    have m5:(s = [99,104,107]) = False:=eq_false (by rw [hs]; decide)
    have m6:(s = [109,111,118]) = False:=eq_false (by rw [hs]; decide)
    have m7:(s = [108,100]) = False:=eq_false (by rw [hs]; decide)
    have m8:(s = [115,116]) = False:=eq_false (by rw [hs]; decide)
    have m9:(s = [108,100,99]) = False:=eq_false (by rw [hs]; decide)
    have m10:(s = [106,109,112]) = False:=eq_false (by rw [hs]; decide)
    have m11:(s = [114,101,116]) = False:=eq_false (by rw [hs]; decide)
    have m12:(s = [103,101,116]) = False:=eq_false (by rw [hs]; decide)
    have m13:(s = [112,117,116]) = False:=eq_false (by rw [hs]; decide)
    have m14:(s = [104,97,108,116]) = True:=eq_true hs
    have m15:(s = [46,119,111,114,100]) = False:=eq_false (by rw [hs]; decide)
    have m16:(s = [46,100,97,116,97]) = False:=eq_false (by rw [hs]; decide)
    rw [show shI (25 + 1) = shI 26 from rfl]
    simp only [go_sem,↓reduceIte,m0,m1,m2,m3,m4,m5,m6,m7,m8,m9,m10,m11,m12,m13,m14,m15,m16]
    rfl
   ·have hs:s = [108,100,99]:=hs.symm
    have m0:(s = [108,105]) = False:=eq_false (by rw [hs]; decide)
    have m1:(s = [108,117,105]) = False:=eq_false (by rw [hs]; decide)
    have m2:(s = [106,122]) = False:=eq_false (by rw [hs]; decide)
    have m3:(s = [106,110,122]) = False:=eq_false (by rw [hs]; decide)
    have m4:(s = [99,97,108,108]) = False:=eq_false (by rw [hs]; decide)
    have m5:(s = [99,104,107]) = False:=eq_false (by rw [hs]; decide)
    have m6:(s = [109,111,118]) = False:=eq_false (by rw [hs]; decide)
    have m7:(s = [108,100]) = False:=eq_false (by rw [hs]; decide)
    have m8:(s = [115,116]) = False:=eq_false (by rw [hs]; decide)
    have m9:(s = [108,100,99]) = True:=eq_true hs
    have m10:(s = [106,109,112]) = False:=eq_false (by rw [hs]; decide)
    have m11:(s = [114,101,116]) = False:=eq_false (by rw [hs]; decide)
    have m12:(s = [103,101,116]) = False:=eq_false (by rw [hs]; decide)
    have m13:(s = [112,117,116]) = False:=eq_false (by rw [hs]; decide)
    have m14:(s = [104,97,108,116]) = False:=eq_false (by rw [hs]; decide)
    have m15:(s = [46,119,111,114,100]) = False:=eq_false (by rw [hs]; decide)
    have m16:(s = [46,100,97,116,97]) = False:=eq_false (by rw [hs]; decide)
    rw [show shI (26 + 1) = shI 27 from rfl]
    simp only [go_sem,↓reduceIte,m0,m1,m2,m3,m4,m5,m6,m7,m8,m9,m10,m11,m12,m13,m14,m15,m16]
    rfl
end Go.Proofs.YtfcgadnbdcnnlabGreatDoor
