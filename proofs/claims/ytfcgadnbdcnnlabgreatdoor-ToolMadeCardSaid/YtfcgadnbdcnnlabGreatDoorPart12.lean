/- A part of the proof; no conditions. -/
import Derived.Test.YtfcgadnbdcnnlabGreatDoorPart11
set_option linter.unusedSimpArgs false
set_option linter.unusedVariables false
namespace Go.Proofs.YtfcgadnbdcnnlabGreatDoor
open Go Go.Am Go.Asm
theorem knownN_of {k:Nat} (h:k < 28) (h0:k ≠ 0):knownN k = true:=by unfold knownN; simp; omega
section
variable {op:Str} {line:Nat} {st:Sta}
theorem end_bad {f:List Int} {l:Str}:endA line st op (f,true,l) = .err 2:=by unfold endA; rw [if_pos (.inl rfl)]
theorem useX_code {l:Str}:(useX st line l).code = st.code:=by unfold useX; split <;> rfl
theorem end_add (h1:op ≠ wordW) (h2:op ≠ dataW) (hc:st.code.length ≤ 16384) {f:List Int} {l:Str} {w:Nat} (hw:encX (opNum op) (fieldsX (shapeS op) f) = w):endA line st op (f,false,l) = addW (useX st line l) w:=by
 unfold endA addW
 rw [useX_code]
 by_cases h:st.code.length = 16384
 ·rw [if_pos (.inr ⟨h2,h⟩),if_pos (by omega)]
 ·rw [if_neg (by simp [h]),if_neg h2,if_neg h1,if_neg (by omega)]
  simp only [hw,addX,useX_code]
theorem tail_num (h1:op ≠ wordW) (h2:op ≠ dataW) (hc:st.code.length ≤ 16384) {b:Str} {i:Nat} {f:List Int} {rs:List Nat} (hw0:encX (opNum op) (fieldsX (shapeS op) f) = wordR (opNum op) rs 0)
  (hw:∀ c:Nat,c ≤ 65535 → encX (opNum op) (fieldsX (shapeS op) (f.set i (c:Int))) = wordR (opNum op) rs c) :
  (match stepF op 110 b i (f,false,[]) with | none=>Res.err 1 | some x=>endA line st op x) =
  (match operandA b with | .lab=>addW { st with uses:=st.uses ++ [(line,st.code.length,b)] } (wordR (opNum op) rs 0) | .num v=>if 65535 < v then .err 2 else addW st (wordR (opNum op) rs v) | .great=>.err 2 | _=>.err 1):=by
 have hm:mostW op = 65535:=by unfold mostW; rw [if_neg h1,if_neg h2]
 cases kind b with
 | num n h h3 h4 =>
   rw [stepF_num (by decide) h4,h3,hm]
   simp only [Bool.false_or]
   by_cases hn:65535 < n
   ·rw [if_pos hn,decide_eq_true hn]; exact end_bad
   ·rw [if_neg hn,decide_eq_false hn]; exact end_add h1 h2 hc (hw n (by omega))
 | great h3 h4=>rw [stepF_great (by decide) h4,h3]; exact end_bad
 | lab h3 h0 h4 h5 h6 =>
   rw [stepF_no (by decide) h4,if_pos ⟨rfl,h5,h6⟩,h3]
   simp only
   rw [end_add h1 h2 hc hw0]
   unfold useX; rw [if_neg h0]
 | reg n h3 h4 h5=>rw [stepF_no (by decide) h4,if_neg (fun h=>h5 h.2.1),h3]
 | other h3 h4 h5=>rw [stepF_no (by decide) h4,if_neg (fun h=>by rw [h5] at h; simp at h),h3]
theorem regsOf_nil:regsOf [] = some []:=rfl
theorem regsOf_none {a:Str} {l:List Str} (h:regOf a = none):regsOf (a :: l) = none:=by unfold regsOf; rw [operand_regOf,h]; rfl
theorem regsOf_some {a:Str} {l:List Str} {n:Nat} (h:regOf a = some n):regsOf (a :: l) = (regsOf l).map (n :: ·):=by
 conv=>lhs; unfold regsOf
 rw [operand_regOf,h]; rfl
theorem encX_ok {k:Nat} {a b c:Nat} (hr:rightI k a b c = true):encX k ((a:Int),(b:Int),(c:Int)) = word k a b c:=by
 unfold encX; rw [if_pos hr]; rfl
theorem put_ins (h1:op ≠ wordW) (h2:op ≠ dataW) (h0:opNum op ≠ 0) (hc:st.code.length ≤ 16384) {args:List Str}:putA line st op args = insA line st (opNum op) args:=by
 have hle:=opNum_le op
 have hkn:=knownN_of (k:=opNum op) (by omega) h0
 have hsh:shapeS op = shI (opNum op):=by unfold shapeS; rw [if_neg (by simp [h1,h2]),if_neg h0]
 have hf:fieldsX (shapeS op) = fieldsX (shI (opNum op)):=by rw [hsh]
 have hend:=fun (f:List Int) (w:Nat)=>@end_add op line st h1 h2 hc f [] w
 have ht:=@tail_num op line st h1 h2 hc
 rw [hsh] at hend ht
 unfold putA
 rw [hsh]
 clear hsh hf
 generalize hk:opNum op = k at *
 rcases shape_cases k with s | s | s | s | s | s | s
 ·have e:shI k = [114,110]:=by unfold shI; rw [s]; rfl
  have hr:nRegs k = 1:=by unfold nRegs; rw [s]; rfl
  have hn:nArgs k = 2:=by unfold nArgs; rw [hr,s]; rfl
  rw [e] at hend ht ⊢
  rw [if_neg (by decide)]
  unfold insA
  rw [hr,hn]
  by_cases hl:args.length = 2
  ·rw [if_neg (by simp [hl,h2]),if_neg (by simp [hl])]
   match args,hl with
   | [a,b],_ =>
     simp only [foldF,List.take_succ_cons,List.take_zero]
     cases ha:regOf a with
     | none=>simp only [stepF_r0 ha,regsOf_none ha,Option.bind_none,Option.bind_some,Option.map_none]
     | some na =>
       have ga:=regOf_le ha
       rw [stepF_r1 ha]
       simp only [Option.bind_some,List.set_cons_zero,List.set_cons_succ,Nat.zero_add,Nat.reduceAdd]
       simp only [regsOf_some ha,regsOf_nil,Option.map_some]
       simp only [s,if_true]
       refine Eq.trans ?_ (ht (b:=b) (i:=1) (f:=[(na:Int),0,0]) (rs:=[na]) ?_ ?_)
       ·cases stepF op 110 b 1 ([(na:Int),0,0],false,[]) <;> rfl
       ·show encX k ((na:Int),((0:Nat):Int),((0:Nat):Int)) = _
        rw [encX_ok (by simp [rightI,hkn,s,inW,mostC] <;> omega)]
        simp [wordR,s]
       ·intro c hc
        show encX k ((na:Int),((0:Nat):Int),(c:Int)) = _
        rw [encX_ok (by simp [rightI,hkn,s,inW,mostC] <;> omega)]
        simp [wordR,s]
  ·rw [if_pos (.inl (by simpa using hl)),if_pos hl]
 ·have e:shI k = [114,114]:=by unfold shI; rw [s]; rfl
  have hr:nRegs k = 2:=by unfold nRegs; rw [s]; rfl
  have hn:nArgs k = 2:=by unfold nArgs; rw [hr,s]; rfl
  rw [e] at hend ht ⊢
  rw [if_neg (by decide)]
  unfold insA
  rw [hr,hn]
  by_cases hl:args.length = 2
  ·rw [if_neg (by simp [hl,h2]),if_neg (by simp [hl])]
   match args,hl with
   | [a,b],_ =>
     simp only [foldF,List.take_succ_cons,List.take_zero]
     cases ha:regOf a with
     | none=>simp only [stepF_r0 ha,regsOf_none ha,Option.bind_none,Option.bind_some,Option.map_none]
     | some na =>
       have ga:=regOf_le ha
       rw [stepF_r1 ha]
       simp only [Option.bind_some,List.set_cons_zero,List.set_cons_succ,Nat.zero_add,Nat.reduceAdd]
       cases hb:regOf b with
       | none=>simp only [stepF_r0 hb,regsOf_some ha,regsOf_none hb,Option.bind_none,Option.bind_some,Option.map_none]
       | some nb =>
         have gb:=regOf_le hb
         rw [stepF_r1 hb]
         simp only [Option.bind_some,List.set_cons_zero,List.set_cons_succ,Nat.zero_add,Nat.reduceAdd]
         simp only [regsOf_some ha,regsOf_some hb,regsOf_nil,Option.map_some]
         rw [if_neg (by rw [s]; decide)]
         refine hend [(na:Int),(nb:Int),0] (wordR k [na,nb] 0) ?_
         show encX k ((na:Int),(nb:Int),((0:Nat):Int)) = _
         rw [encX_ok (by simp [rightI,hkn,s,inW,mostC] <;> omega)]
         simp [wordR,s]
  ·rw [if_pos (.inl (by simpa using hl)),if_pos hl]
 ·have e:shI k = [114,114,114]:=by unfold shI; rw [s]; rfl
  have hr:nRegs k = 3:=by unfold nRegs; rw [s]; rfl
  have hn:nArgs k = 3:=by unfold nArgs; rw [hr,s]; rfl
  rw [e] at hend ht ⊢
  rw [if_neg (by decide)]
  unfold insA
  rw [hr,hn]
  by_cases hl:args.length = 3
  ·rw [if_neg (by simp [hl,h2]),if_neg (by simp [hl])]
   match args,hl with
   | [a,b,d],_ =>
     simp only [foldF,List.take_succ_cons,List.take_zero]
     cases ha:regOf a with
     | none=>simp only [stepF_r0 ha,regsOf_none ha,Option.bind_none,Option.bind_some,Option.map_none]
     | some na =>
       have ga:=regOf_le ha
       rw [stepF_r1 ha]
       simp only [Option.bind_some,List.set_cons_zero,List.set_cons_succ,Nat.zero_add,Nat.reduceAdd]
       cases hb:regOf b with
       | none=>simp only [stepF_r0 hb,regsOf_some ha,regsOf_none hb,Option.bind_none,Option.bind_some,Option.map_none]
       | some nb =>
         have gb:=regOf_le hb
         rw [stepF_r1 hb]
         simp only [Option.bind_some,List.set_cons_zero,List.set_cons_succ,Nat.zero_add,Nat.reduceAdd]
         cases hd:regOf d with
         | none=>simp only [stepF_r0 hd,regsOf_some ha,regsOf_some hb,regsOf_none hd,Option.bind_none,Option.bind_some,Option.map_none]
         | some nd =>
           have gd:=regOf_le hd
           rw [stepF_r1 hd]
           simp only [Option.bind_some,List.set_cons_zero,List.set_cons_succ,Nat.zero_add,Nat.reduceAdd]
           simp only [regsOf_some ha,regsOf_some hb,regsOf_some hd,regsOf_nil,Option.map_some]
           rw [if_neg (by rw [s]; decide)]
           refine hend [(na:Int),(nb:Int),(nd:Int)] (wordR k [na,nb,nd] 0) ?_
           show encX k ((na:Int),(nb:Int),(nd:Int)) = _
           rw [encX_ok (by simp [rightI,hkn,s,inW,mostC] <;> omega)]
           simp [wordR,s]
  ·rw [if_pos (.inl (by simpa using hl)),if_pos hl]
 ·have e:shI k = [114,114,110]:=by unfold shI; rw [s]; rfl
  have hr:nRegs k = 2:=by unfold nRegs; rw [s]; rfl
  have hn:nArgs k = 3:=by unfold nArgs; rw [hr,s]; rfl
  rw [e] at hend ht ⊢
  rw [if_neg (by decide)]
  unfold insA
  rw [hr,hn]
  by_cases hl:args.length = 3
  ·rw [if_neg (by simp [hl,h2]),if_neg (by simp [hl])]
   match args,hl with
   | [a,b,d],_ =>
     simp only [foldF,List.take_succ_cons,List.take_zero]
     cases ha:regOf a with
     | none=>simp only [stepF_r0 ha,regsOf_none ha,Option.bind_none,Option.bind_some,Option.map_none]
     | some na =>
       have ga:=regOf_le ha
       rw [stepF_r1 ha]
       simp only [Option.bind_some,List.set_cons_zero,List.set_cons_succ,Nat.zero_add,Nat.reduceAdd]
       cases hb:regOf b with
       | none=>simp only [stepF_r0 hb,regsOf_some ha,regsOf_none hb,Option.bind_none,Option.bind_some,Option.map_none]
       | some nb =>
         have gb:=regOf_le hb
         rw [stepF_r1 hb]
         simp only [Option.bind_some,List.set_cons_zero,List.set_cons_succ,Nat.zero_add,Nat.reduceAdd]
         simp only [regsOf_some ha,regsOf_some hb,regsOf_nil,Option.map_some]
         simp only [s,if_true]
         refine Eq.trans ?_ (ht (b:=d) (i:=2) (f:=[(na:Int),(nb:Int),0]) (rs:=[na,nb]) ?_ ?_)
         ·cases stepF op 110 d 2 ([(na:Int),(nb:Int),0],false,[]) <;> rfl
         ·show encX k ((na:Int),(nb:Int),((0:Nat):Int)) = _
          rw [encX_ok (by simp [rightI,hkn,s,inW,mostC] <;> omega)]
          simp [wordR,s]
         ·intro c hc
          show encX k ((na:Int),(nb:Int),(c:Int)) = _
          rw [encX_ok (by simp [rightI,hkn,s,inW,mostC] <;> omega)]
          simp [wordR,s]
  ·rw [if_pos (.inl (by simpa using hl)),if_pos hl]
 ·have e:shI k = [110]:=by unfold shI; rw [s]; rfl
  have hr:nRegs k = 0:=by unfold nRegs; rw [s]; rfl
  have hn:nArgs k = 1:=by unfold nArgs; rw [hr,s]; rfl
  rw [e] at hend ht ⊢
  rw [if_neg (by decide)]
  unfold insA
  rw [hr,hn]
  by_cases hl:args.length = 1
  ·rw [if_neg (by simp [hl,h2]),if_neg (by simp [hl])]
   match args,hl with
   | [a],_ =>
     simp only [foldF,List.take_succ_cons,List.take_zero]
     simp only [regsOf]
     simp only [s,if_true]
     refine Eq.trans ?_ (ht (b:=a) (i:=0) (f:=[0,0,0]) (rs:=[]) ?_ ?_)
     ·cases stepF op 110 a 0 ([0,0,0],false,[]) <;> rfl
     ·show encX k (((0:Nat):Int),((0:Nat):Int),((0:Nat):Int)) = _
      rw [encX_ok (by simp [rightI,hkn,s,inW,mostC] <;> omega)]
      simp [wordR,s]
     ·intro c hc
      show encX k (((0:Nat):Int),((0:Nat):Int),(c:Int)) = _
      rw [encX_ok (by simp [rightI,hkn,s,inW,mostC] <;> omega)]
      simp [wordR,s]
  ·rw [if_pos (.inl (by simpa using hl)),if_pos hl]
 ·have e:shI k = [114]:=by unfold shI; rw [s]; rfl
  have hr:nRegs k = 1:=by unfold nRegs; rw [s]; rfl
  have hn:nArgs k = 1:=by unfold nArgs; rw [hr,s]; rfl
  rw [e] at hend ht ⊢
  rw [if_neg (by decide)]
  unfold insA
  rw [hr,hn]
  by_cases hl:args.length = 1
  ·rw [if_neg (by simp [hl,h2]),if_neg (by simp [hl])]
   match args,hl with
   | [a],_ =>
     simp only [foldF,List.take_succ_cons,List.take_zero]
     cases ha:regOf a with
     | none=>simp only [stepF_r0 ha,regsOf_none ha,Option.bind_none,Option.bind_some,Option.map_none]
     | some na =>
       have ga:=regOf_le ha
       rw [stepF_r1 ha]
       simp only [Option.bind_some,List.set_cons_zero,List.set_cons_succ,Nat.zero_add,Nat.reduceAdd]
       simp only [regsOf_some ha,regsOf_nil,Option.map_some]
       rw [if_neg (by rw [s]; decide)]
       refine hend [(na:Int),0,0] (wordR k [na] 0) ?_
       show encX k ((na:Int),((0:Nat):Int),((0:Nat):Int)) = _
       rw [encX_ok (by simp [rightI,hkn,s,inW,mostC] <;> omega)]
       simp [wordR,s]
  ·rw [if_pos (.inl (by simpa using hl)),if_pos hl]
 ·have e:shI k = []:=by unfold shI; rw [s]; rfl
  have hr:nRegs k = 0:=by unfold nRegs; rw [s]; rfl
  have hn:nArgs k = 0:=by unfold nArgs; rw [hr,s]; rfl
  rw [e] at hend ht ⊢
  rw [if_neg (by decide)]
  unfold insA
  rw [hr,hn]
  by_cases hl:args.length = 0
  ·rw [if_neg (by simp [hl,h2]),if_neg (by simp [hl])]
   match args,hl with
   | [],_ =>
     simp only [foldF,List.take_succ_cons,List.take_zero]
     simp only [regsOf]
     rw [if_neg (by rw [s]; decide)]
     refine hend [0,0,0] (wordR k [] 0) ?_
     show encX k (((0:Nat):Int),((0:Nat):Int),((0:Nat):Int)) = _
     rw [encX_ok (by simp [rightI,hkn,s,inW,mostC] <;> omega)]
     simp [wordR,s]
  ·rw [if_pos (.inl (by simpa using hl)),if_pos hl]
theorem put_same (h:op ≠ []) (hc:st.code.length ≤ 16384) {args:List Str}:putA line st op args = Asm.opA line st op args:=by
 unfold Asm.opA
 rw [if_neg h]
 by_cases h1:op = wordW
 ·rw [if_pos h1,put_dir (.inl h1) hc,h1]; rfl
 by_cases h2:op = dataW
 ·rw [if_neg h1,if_pos h2,put_dir (.inr h2) hc,h2]; rfl
 rw [if_neg h1,if_neg h2]
 by_cases h0:opNum op = 0
 ·rw [if_pos h0]
  unfold putA
  rw [show shapeS op = [63] by unfold shapeS; rw [if_neg (by simp [h1,h2]),if_pos h0],if_pos rfl]
 ·rw [if_neg h0]; exact put_ins h1 h2 h0 hc
end
end Go.Proofs.YtfcgadnbdcnnlabGreatDoor

namespace Go.Proofs.YtfcgadnbdcnnlabGreatDoor
open Go Go.Am Go.Asm
def useR (x:Nat × Nat × Str):List C:=[.d (.str x.2.2),.d (.int .i64 x.1),.d (.int .i64 x.2.1)]
def codeC (code:List Nat):List C:=code.map fun n=>.d (.int .u32 (n:Nat))
structure Made (gr:Nat) (st:Sta) (g:Nat → Nat) (ob:Obs):Prop where
 gen:g 20 = gr
 obj:∃ cc lc pc uc,ob 20 = some [cc,.d (.int .i64 (st.data:Nat)),lc,pc,uc,.d (.bool st.hasD)] ∧
  ((st.code = [] ∧ cc = .d .nsl) ∨ (st.code ≠ [] ∧ ∃ ci,(ci = 3172 ∨ ci = 3223) ∧ cc = .osl ci (g ci) 1 0 st.code.length ∧ ob ci = some (codeC st.code))) ∧
  ((st.labs = [] ∧ lc = .d .nsl ∧ pc = .d .nsl) ∨ (st.labs ≠ [] ∧ lc = .osl 57 (g 57) 1 0 st.labs.length ∧ pc = .osl 69 (g 69) 1 0 st.labs.length ∧ ob 57 = some (st.labs.map fun p=>.d (.str p.1)) ∧ ob 69 = some (st.labs.map fun p=>.d (.int .i64 (p.2:Nat))))) ∧
  ((st.uses = [] ∧ uc = .d .nsl) ∨ (st.uses ≠ [] ∧ uc = .osl 3157 (g 3157) 3 0 st.uses.length ∧ ob 3157 = some (st.uses.flatMap useR)))
theorem Made.of {gr:Nat} {st:Sta} {g g':Nat → Nat} {ob ob':Obs} (h:Made gr st g ob) (hg:∀ i,i = 20 ∨ i = 57 ∨ i = 69 ∨ i = 3157 ∨ i = 3172 ∨ i = 3223 → g' i = g i) (ho:∀ i,i = 20 ∨ i = 57 ∨ i = 69 ∨ i = 3157 ∨ i = 3172 ∨ i = 3223 → ob' i = ob i):Made gr st g' ob':=by
 obtain ⟨h1,cc,lc,pc,uc,h2,hc,hl,hu⟩:=h
 refine ⟨by rw [hg 20 (by decide)]; exact h1,cc,lc,pc,uc,by rw [ho 20 (by decide)]; exact h2,?_,?_,?_⟩
 ·rcases hc with hc | ⟨c0,ci,c1,c2,c3⟩
  ·exact .inl hc
  ·refine .inr ⟨c0,ci,c1,?_,?_⟩
   ·rw [hg ci (by omega)]; exact c2
   ·rw [ho ci (by omega)]; exact c3
 ·rw [hg 57 (by decide),hg 69 (by decide),ho 57 (by decide),ho 69 (by decide)]; exact hl
 ·rw [hg 3157 (by decide),ho 3157 (by decide)]; exact hu
def placeI (labs:List (Str × Nat)) (s:Str):Int:=match Asm.placeOf labs s with | some p=>(p:Int) | none=>-1
theorem placeOf_cons {l:Str × Nat} {labs:List (Str × Nat)} {s:Str}:Asm.placeOf (l :: labs) s = if l.1 = s then some l.2 else Asm.placeOf labs s:=by
 unfold Asm.placeOf
 rw [List.find?_cons]
 by_cases h:l.1 = s
 ·simp [h]
 ·simp [h]
set_option maxHeartbeats 4000000 in
theorem place_A {gr:Nat} {st:Sta} {g:Nat → Nat} {ob:Obs} (h:Made gr st g ob) (s:Str) (hn:st.labs.length ≤ 1000000) :
  FunR Tryz.prog 21 [.one (.ptr 20 gr 0),sv s] g ob (fun r g' ob'=>r = iv .i64 (placeI st.labs s) ∧ g' = g ∧ ob' = ob):=by
 refine fun_of_wp 7000 Tt_ok mixed Tryz.func21 rfl (by rfl) [4] rfl (by kernel_rfl) (by simp [Tryz.ntmps21]) ?_
 obtain ⟨hg,cc,lc,pc,uc,h20,hc,hl,hu⟩:=h
 simp only [go_sem,↓reduceIte]
 refine loop_introB (fun n s'=>∃ k:Nat,n + k = st.labs.length ∧ s'.gen = g ∧ s'.obj = ob ∧ s'.f 0 = .one (.ptr 20 gr 0) ∧ s'.f 1 = sv s ∧ s'.f 5 = iv .i64 k ∧ placeI st.labs s = placeI (st.labs.drop k) s) st.labs.length ?_ ?_
 ·refine ⟨0,by omega,rfl,rfl,?_⟩
  simp only [go_sem,↓reduceIte,List.drop_zero]
  try trivial
 rintro n f g1 ob1 ⟨k,hk,e1,e2,q0,q1,q5,hp⟩
 obtain rfl:g1 = g:=e1
 obtain rfl:ob1 = ob:=e2
 simp only at q0 q1 q5
 have hw:=wrap_succ (k:=k) (by omega)
 rcases hl with ⟨l1,rfl,rfl⟩ | ⟨l1,rfl,rfl,l57,l69⟩
 ·have hk0:k = 0:=by rw [l1] at hk; simp at hk; omega
  subst hk0
  have hz:((0:Nat):Int) = 0:=rfl
  simp only [go_sem,↓reduceIte,q0,q1,q5,h20,hg,hz]
  refine retF_at ⟨?_,rfl,rfl⟩
  rw [l1]; rfl
 ·by_cases hlt:k < st.labs.length
  ·obtain ⟨x,hx⟩:=getq hlt
   have hki:(k:Int) < (st.labs.length:Int):=by omega
   have hk0:(0:Int) ≤ (k:Int):=by omega
   have g57:(st.labs.map fun p=>C.d (.str p.1))[k]? = some (.d (.str x.1)):=by rw [List.getElem?_map,hx]; rfl
   have g69:(st.labs.map fun p=>C.d (.int .i64 (p.2:Nat)))[k]? = some (.d (.int .i64 (x.2:Nat))):=by rw [List.getElem?_map,hx]; rfl
   have hdr:st.labs.drop k = x :: st.labs.drop (k + 1):=by rw [List.drop_eq_getElem_cons hlt]; congr 1; exact (List.getElem?_eq_some_iff.1 hx).2
   rw [hdr] at hp
   simp only [go_sem,↓reduceIte,q0,q1,q5,h20,hg,l57,l69,hki,hk0,g57,g69,Int.toNat_natCast,Nat.mul_one,Nat.zero_add,hw]
   have hpl:placeI (x :: st.labs.drop (k + 1)) s = if x.1 = s then (x.2:Int) else placeI (st.labs.drop (k + 1)) s:=by
    unfold placeI; rw [placeOf_cons]
    by_cases e:x.1 = s
    ·rw [if_pos e,if_pos e]
    ·rw [if_neg e,if_neg e]
   refine ⟨fun e=>?_,fun e=>?_⟩
   ·refine retF_at ⟨?_,rfl,rfl⟩
    rw [hp,hpl,if_pos e]; rfl
   ·refine round_endB (n - 1) (by omega) ⟨k + 1,by omega,?_⟩
    simp only [go_sem,↓reduceIte,q0,q1]
    rw [hp,hpl,if_neg e]
  ·have hki:¬ (k:Int) < (st.labs.length:Int):=by omega
   simp only [go_sem,↓reduceIte,q0,q1,q5,h20,hg,l57,l69,hki]
   refine retF_at ⟨?_,rfl,rfl⟩
   rw [hp,List.drop_eq_nil_of_le (by omega)]; rfl
theorem shI_len (k:Nat):(shI k).length ≤ 3:=by
 unfold shI
 rcases shape_cases k with s | s | s | s | s | s | s <;> rw [s] <;> decide
theorem shapeS_len (s:Str):(shapeS s).length ≤ 3:=by
 unfold shapeS
 split
 ·decide
 ·split
  ·decide
  ·exact shI_len _
def OutM (gr:Nat) (R:Res Sta) (g:Nat → Nat) (ob:Obs) (r:AV) (g':Nat → Nat) (ob':Obs):Prop :=
 (∀ i,i < 3000 → g' i = g i) ∧ (∀ i,i ≠ 20 → i < 3000 → ob' i = ob i) ∧ match R with | .ok st=>r = iv .i64 0 ∧ Made gr st g' ob' | .err e=>r = iv .i64 (e:Nat)
def fC (f:List Int):List C:=f.map fun v=>.d (.int .i64 v)
theorem regI_le (a:Str):regI a ≤ 15:=by
 unfold regI
 split
 ·rename_i n h; have:=regOf_le h; omega
 ·decide
theorem foldF_at {op:Str} {sh:Str} {args:List Str} {k:Nat} {c:UInt8} {a:Str} {x:FX} (hc:sh[k]? = some c) (ha:args[k]? = some a):foldF op (sh.drop k) (args.drop k) k x = (stepF op c a k x).bind (foldF op (sh.drop (k + 1)) (args.drop (k + 1)) (k + 1)):=by
 obtain ⟨h1,h2⟩:=List.getElem?_eq_some_iff.1 hc
 obtain ⟨h3,h4⟩:=List.getElem?_eq_some_iff.1 ha
 rw [List.drop_eq_getElem_cons h1,List.drop_eq_getElem_cons h3,h2,h4]
 rfl
theorem foldF_end {op:Str} {sh:Str} {args:List Str} {k:Nat} {x:FX} (hc:sh.length ≤ k):foldF op (sh.drop k) (args.drop k) k x = some x:=by
 rw [List.drop_eq_nil_of_le hc]; unfold foldF; rfl
def CodeAt (code:List Nat) (g:Nat → Nat) (ob:Obs) (cc:C):Prop:=(code = [] ∧ cc = .d .nsl) ∨ (code ≠ [] ∧ ∃ ci,(ci = 3172 ∨ ci = 3223) ∧ cc = .osl ci (g ci) 1 0 code.length ∧ ob ci = some (codeC code))
theorem CodeAt.of {code:List Nat} {g g':Nat → Nat} {ob ob':Obs} {cc:C} (h:CodeAt code g ob cc) (hg:∀ i,i = 3172 ∨ i = 3223 → g' i = g i) (ho:∀ i,i = 3172 ∨ i = 3223 → ob' i = ob i):CodeAt code g' ob' cc:=by
 rcases h with h | ⟨c0,ci,c1,c2,c3⟩
 ·exact .inl h
 ·exact .inr ⟨c0,ci,c1,by rw [hg ci c1]; exact c2,by rw [ho ci c1]; exact c3⟩
theorem flatR_len (us:List (Nat × Nat × Str)):(us.flatMap useR).length = us.length * 3:=by
 induction us with
 | nil=>rfl
 | cons u us ih=>rw [List.flatMap_cons,List.length_append,ih]; simp [useR]; omega
theorem flatR_take (us:List (Nat × Nat × Str)):(us.flatMap useR).take (us.length * 3) = us.flatMap useR:=List.take_of_length_le (Nat.le_of_eq (flatR_len us))
theorem far {i:Nat} (h:i < 3000):¬ i = 3010 ∧ ¬ i = 3017 ∧ ¬ i = 3156 ∧ ¬ i = 3157 ∧ ¬ i = 3171 ∧ ¬ i = 3172 ∧ ¬ i = 3222 ∧ ¬ i = 3223:=by omega
theorem Enc_X (k:Nat) (a b c:Int):PureR Tryz.prog 47 [instV k a b c] (fun r=>∃ e:Nat,r = .tup [iv .u32 (encX k (a,b,c):Nat),iv .i64 e]):=by
 refine (EncodeR_A k a b c).mono ?_
 rintro _ rfl
 unfold encX
 by_cases h:rightI k a b c = true
 ·rw [if_pos h,if_pos h]; exact ⟨0,rfl⟩
 ·rw [if_neg h,if_neg h]; exact ⟨1,rfl⟩
theorem endA_data {line:Nat} {st:Sta} {op xl:Str} {a b d:Nat} (h:op = dataW):endA line st op ([(a:Int),(b:Int),(d:Int)],false,xl) = .ok { st with data:=a,hasD:=true }:=by
 unfold endA; simp [h]
theorem endA_full {line:Nat} {st:Sta} {op xl:Str} {f:List Int} (h:op ≠ dataW) (hl:st.code.length = 16384):endA line st op (f,false,xl) = .err 2:=by
 unfold endA; simp [h,hl]
theorem endA_word {line:Nat} {st:Sta} {op xl:Str} {a b d:Nat} (h:op = wordW) (hl:¬ st.code.length = 16384):endA line st op ([(a:Int),(b:Int),(d:Int)],false,xl) = .ok (addX (useX st line xl) a):=by
 have:¬ wordW = dataW:=by decide
 unfold endA; simp [h,hl,this]
theorem endA_ins {line:Nat} {st:Sta} {op xl:Str} {f:List Int} (h:op ≠ wordW) (h2:op ≠ dataW) (hl:¬ st.code.length = 16384):endA line st op (f,false,xl) = .ok (addX (useX st line xl) (encX (opNum op) (fieldsX (shapeS op) f))):=by
 unfold endA; simp [h,h2,hl]
end Go.Proofs.YtfcgadnbdcnnlabGreatDoor
