/- A part of the proof; no conditions. -/
import Derived.Test.YtfcgadnbdcnnlabGreatDoorPart10
set_option linter.unusedSimpArgs false
set_option linter.unusedVariables false
namespace Go.Proofs.YtfcgadnbdcnnlabGreatDoor
open Go Go.Am Go.Asm
abbrev FX:=List Int × Bool × Str
def mostW (op:Str):Nat:=if op = wordW then 4294967295 else if op = dataW then 32768 else 65535
def stepF (op:Str) (c:UInt8) (a:Str) (i:Nat) (x:FX):Option FX :=
 if c = 114 then (if regI a < 0 then none else some (x.1.set i (regI a),x.2))
 else match numO a with
  | .num n=>some (x.1.set i n,x.2.1 || decide (mostW op < n),x.2.2)
  | .great=>some (x.1.set i 0,true,x.2.2)
  | _=>if c = 110 ∧ regI a < 0 ∧ isLabel a = true then some (x.1,x.2.1,a) else none
def foldF (op:Str):List UInt8 → List Str → Nat → FX → Option FX
 | c :: sh,a :: al,i,x=>(stepF op c a i x).bind (foldF op sh al (i + 1))
 | _,_,_,x=>some x
def fieldsX (sh:Str) (f:List Int):Int × Int × Int :=
 if sh = [114,110] then (f.getD 0 0,0,f.getD 1 0) else if sh = [114,114] then (f.getD 0 0,f.getD 1 0,0) else if sh = [110] then (0,0,f.getD 0 0) else (f.getD 0 0,f.getD 1 0,f.getD 2 0)
def encX (op:Nat) (x:Int × Int × Int):Nat:=if rightI op x.1 x.2.1 x.2.2 = true then word op x.1.toNat x.2.1.toNat x.2.2.toNat else 0
def useX (st:Sta) (line:Nat) (l:Str):Sta:=if l = [] then st else { st with uses:=st.uses ++ [(line,st.code.length,l)] }
def addX (st:Sta) (w:Nat):Sta:={ st with code:=st.code ++ [w] }
def endA (line:Nat) (st:Sta) (op:Str) (x:FX):Res Sta :=
 if x.2.1 = true ∨ (op ≠ dataW ∧ st.code.length = 16384) then .err 2
 else if op = dataW then .ok { st with data:=(x.1.getD 0 0).toNat,hasD:=true }
 else if op = wordW then .ok (addX (useX st line x.2.2) (x.1.getD 0 0).toNat)
 else .ok (addX (useX st line x.2.2) (encX (opNum op) (fieldsX (shapeS op) x.1)))
def putA (line:Nat) (st:Sta) (op:Str) (args:List Str):Res Sta :=
 if shapeS op = [63] then .err 4
 else if args.length ≠ (shapeS op).length ∨ (op = dataW ∧ st.hasD = true) then .err 1
 else match foldF op (shapeS op) args 0 ([0,0,0],false,[]) with
  | none=>.err 1
  | some x=>endA line st op x
theorem regI_some {a:Str} {n:Nat} (h:regOf a = some n):regI a = n:=by unfold regI; rw [h]
theorem regI_none {a:Str} (h:regOf a = none):regI a = -1:=by unfold regI; rw [h]
theorem operand_regOf {a:Str}:regOf? a = regOf a:=by
 unfold regOf?
 cases h:regOf a with
 | some n=>rw [show operandA a = .reg n by unfold operandA; rw [h]]
 | none =>
   have:∀ n,operandA a ≠ .reg n:=by
    intro n e
    unfold operandA at e
    rw [h] at e
    simp only at e
    split at e
    ·cases e
    ·cases e
    ·unfold restOpd at e
     split at e
     ·split at e <;> cases e
     ·split at e
      ·cases e
      ·split at e <;> cases e
   split
   ·rename_i n e; exact absurd e (this n)
   ·rfl
theorem stepF_r0 {op:Str} {a:Str} {i:Nat} {x:FX} (h:regOf a = none):stepF op 114 a i x = none:=by
 unfold stepF; rw [if_pos rfl,regI_none h,if_pos (by decide)]
theorem stepF_r1 {op:Str} {a:Str} {i n:Nat} {x:FX} (h:regOf a = some n):stepF op 114 a i x = some (x.1.set i n,x.2):=by
 unfold stepF; rw [if_pos rfl,regI_some h,if_neg (by omega)]
theorem numO_lt {s:Str} {n:Nat} (h:numO s = .num n):n < 4294967296:=by
 unfold numO at h
 split at h
 ·rename_i m hm
  cases h
  unfold charOf at hm
  split at hm
  ·rename_i a c b
   split at hm
   ·cases hm; have:=c.toNat_lt; omega
   ·cases hm
  ·cases hm
 ·split at h
  ·rename_i c d _
   split at h
   ·rename_i m hm
    cases h
    unfold hexN at hm
    split at hm
    ·rename_i hl
     have:=hexGo_lt hm
     have hp:16 ^ (c :: d).length ≤ 16 ^ 8:=Nat.pow_le_pow_right (by decide) hl.2
     omega
    ·cases hm
   ·cases h
  ·split at h
   ·rename_i m hm
    cases h
    unfold parseN at hm
    split at hm
    ·cases hm
    ·split at hm
     ·split at hm
      ·cases hm
      ·cases hm; omega
     ·cases hm
   ·cases h
   ·cases h
inductive Kind (a:Str):Prop where
 | num (n:Nat) (h:n < 4294967296) (h1:operandA a = .num n) (h2:numO a = .num n)
 | great (h1:operandA a = .great) (h2:numO a = .great)
 | lab (h1:operandA a = .lab) (h0:a ≠ []) (h2:numV (numO a) = numV .other) (h3:regI a < 0) (h4:isLabel a = true)
 | reg (n:Nat) (h1:operandA a = .reg n) (h2:numV (numO a) = numV .other) (h3:¬ regI a < 0)
 | other (h1:operandA a = .other) (h2:numV (numO a) = numV .other) (h4:isLabel a = false)
theorem numV_num {x:Opd} {n:Nat} (h:numV x = numV (.num n)):x = .num n:=by
 cases x with
 | num m=>simp [numV] at h; rw [show m = n by omega]
 | _=>simp [numV] at h
theorem numV_great {x:Opd} (h:numV x = numV .great):x = .great:=by
 cases x <;> simp [numV] at h
 rfl
theorem kind (a:Str):Kind a:=by
 have hs:=num_same a
 cases ho:operandA a with
 | num n =>
   rw [ho] at hs
   have:=numV_num hs
   exact .num n (numO_lt this) ho this
 | great =>
   rw [ho] at hs
   exact .great ho (numV_great hs)
 | lab =>
   rw [ho] at hs
   have hr:regOf a = none:=by rw [← operand_regOf]; unfold regOf?; rw [ho]
   have hl:isLabel a = true:=by
    unfold operandA at ho
    rw [hr] at ho
    simp only at ho
    split at ho
    ·cases ho
    ·cases ho
    ·unfold restOpd at ho
     split at ho
     ·split at ho <;> cases ho
     ·split at ho
      ·cases ho
      ·split at ho
       ·rename_i h; exact h
       ·cases ho
   refine .lab ho ?_ hs (by rw [regI_none hr]; decide) hl
   rintro rfl
   simp [isLabel] at hl
 | reg n =>
   rw [ho] at hs
   have hr:regOf a = some n:=by rw [← operand_regOf]; unfold regOf?; rw [ho]
   exact .reg n ho hs (by rw [regI_some hr]; omega)
 | other =>
   rw [ho] at hs
   refine .other ho hs ?_
   unfold operandA at ho
   split at ho
   ·cases ho
   ·split at ho
    ·cases ho
    ·cases ho
    ·unfold restOpd at ho
     split at ho
     ·simp [isLabel,letter,small]
     ·split at ho
      ·cases ho
      ·split at ho
       ·cases ho
       ·rename_i h; simpa using h
theorem stepF_no {op:Str} {c:UInt8} {a:Str} {i:Nat} {x:FX} (hc:c ≠ 114) (h:numV (numO a) = numV .other):stepF op c a i x = if c = 110 ∧ regI a < 0 ∧ isLabel a = true then some (x.1,x.2.1,a) else none:=by
 unfold stepF
 rw [if_neg hc]
 cases hn:numO a <;> first | rfl | (rw [hn] at h; simp [numV] at h)
theorem stepF_num {op:Str} {c:UInt8} {a:Str} {i n:Nat} {x:FX} (hc:c ≠ 114) (h:numO a = .num n):stepF op c a i x = some (x.1.set i n,x.2.1 || decide (mostW op < n),x.2.2):=by
 unfold stepF; rw [if_neg hc,h]
theorem stepF_great {op:Str} {c:UInt8} {a:Str} {i:Nat} {x:FX} (hc:c ≠ 114) (h:numO a = .great):stepF op c a i x = some (x.1.set i 0,true,x.2.2):=by
 unfold stepF; rw [if_neg hc,h]
theorem put_dir {line:Nat} {st:Sta} {op:Str} {args:List Str} (hop:op = wordW ∨ op = dataW) (hc:st.code.length ≤ 16384):putA line st op args = dirA st (decide (op = dataW)) args:=by
 have hsh:shapeS op = [119]:=by unfold shapeS; rw [if_pos hop]
 unfold putA
 rw [hsh,if_neg (by decide)]
 match args with
 | []=>rfl
 | a :: b :: r=>rw [if_pos (.inl (by simp))]; rfl
 | [a] =>
   rw [show dirA st (decide (op = dataW)) [a] = (if decide (op = dataW) = true ∧ st.hasD = true then Res.err 1 else match operandA a with | .num v=>if decide (op = dataW) = true then (if 32768 < v then .err 2 else .ok { st with data:=v,hasD:=true }) else addW st v | .great=>.err 2 | _=>.err 1) from rfl]
   by_cases hd:op = dataW ∧ st.hasD = true
   ·rw [if_pos (.inr hd),if_pos ⟨by simp [hd.1],hd.2⟩]
   rw [if_neg (by simp only [List.length_cons,List.length_nil,ne_eq,not_true_eq_false,false_or]; exact hd),if_neg (by simpa using hd)]
   have hno:∀ x:Opd,operandA a = x → numV (numO a) = numV .other → foldF op [119] [a] 0 ([0,0,0],false,[]) = none:=fun x _ h=>by
    simp only [foldF]; rw [stepF_no (by decide) h,if_neg (by simp)]; rfl
   cases kind a with
   | num n h h1 h2 =>
     have:foldF op [119] [a] 0 ([0,0,0],false,[]) = some ([(n:Int),0,0],decide (mostW op < n),[]):=by
      simp only [foldF]; rw [stepF_num (by decide) h2]; simp
     rw [this,h1]
     simp only [endA]
     rcases hop with rfl | rfl
     ·have hm:¬ mostW wordW < n:=by unfold mostW; rw [if_pos rfl]; omega
      have hwd:¬ wordW = dataW:=by decide
      simp only [hm,hwd,decide_false,Bool.false_eq_true,ne_eq,not_false_eq_true,true_and,false_or,if_false,if_true,addW,addX,useX]
      by_cases h6:st.code.length = 16384
      ·rw [if_pos h6,if_pos (by omega)]
      ·rw [if_neg h6,if_neg (by omega)]; simp
     ·have hm:mostW dataW = 32768:=rfl
      simp only [hm,ne_eq,not_true_eq_false,false_and,or_false,decide_eq_true_eq,decide_true,if_true]
      by_cases h6:32768 < n
      ·rw [if_pos h6,if_pos h6]
      ·rw [if_neg h6,if_neg h6]; simp
   | great h1 h2 =>
     have:foldF op [119] [a] 0 ([0,0,0],false,[]) = some ([0,0,0],true,[]):=by
      simp only [foldF]; rw [stepF_great (by decide) h2]; simp
     rw [this,h1]
     simp [endA]
   | lab h1 h0 h2 h3 h4=>rw [hno _ h1 h2,h1]
   | reg n h1 h2 h3=>rw [hno _ h1 h2,h1]
   | other h1 h2 h4=>rw [hno _ h1 h2,h1]
end Go.Proofs.YtfcgadnbdcnnlabGreatDoor
