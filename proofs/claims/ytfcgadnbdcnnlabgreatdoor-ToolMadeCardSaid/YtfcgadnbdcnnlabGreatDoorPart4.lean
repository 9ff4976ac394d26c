/- A part of the proof; no conditions. -/
import Derived.Test.YtfcgadnbdcnnlabGreatDoorPart3
set_option linter.unusedSimpArgs false
set_option linter.unusedVariables false
namespace Go.Asm
inductive PR where
 | ok (n:Nat)
 | syn
 | rng
 deriving DecidableEq
def decF (n:Nat) (c:UInt8):Nat:=10 * n + (c.toNat - 48)
def decN (s:Str):Nat:=s.foldl decF 0
def parseN (s:Str):PR :=
 if s = [] ∨ (1 < s.length ∧ s.head? = some 48) then .syn else if s.all digit = true then (if 4294967295 < decN s then .rng else .ok (decN s)) else .syn
def hexV (c:UInt8):Option Nat :=
 if digit c = true then some (c.toNat - 48) else if 97 ≤ c.toNat ∧ c.toNat ≤ 102 then some (c.toNat - 87) else if 65 ≤ c.toNat ∧ c.toNat ≤ 70 then some (c.toNat - 55) else none
def hexGo:Nat → Str → Option Nat
 | n,[]=>some n
 | n,c :: s=>(hexV c).bind fun v=>hexGo (16 * n + v) s
def hexN (s:Str):Option Nat:=if 1 ≤ s.length ∧ s.length ≤ 8 then hexGo 0 s else none
def charOk (c:UInt8):Bool:=decide (33 ≤ c.toNat) && decide (c.toNat ≤ 126) && decide (c ≠ 39) && decide (c ≠ 35) && decide (c ≠ 44) && decide (c ≠ 58)
def charOf:Str → Option Nat
 | [a,c,b]=>if a = 39 ∧ b = 39 ∧ charOk c = true then some c.toNat else none
 | _=>none
def regOf (s:Str):Option Nat :=
 match s with
 | 114 :: d=>match parseN d with
   | .ok n=>if n ≤ 15 then some n else none
   | _=>none
 | _=>none
inductive Opd where
 | reg (n:Nat)
 | num (n:Nat)
 | great
 | lab
 | other
 deriving DecidableEq
def restOpd (s:Str):Opd :=
 match s with
 | 48 :: 120 :: d=>match hexN d with
   | some n=>.num n
   | none=>.other
 | s=>match charOf s with
   | some n=>.num n
   | none=>if isLabel s = true then .lab else .other
def operandA (s:Str):Opd :=
 match regOf s with
 | some n=>.reg n
 | none=>match parseN s with
   | .ok n=>.num n
   | .rng=>.great
   | .syn=>restOpd s
def names:List Str:=[[108,105],[108,117,105],[109,111,118],[97,100,100],[115,117,98],[109,117,108],[100,105,118],[109,111,100],[97,110,100],[111,114],[120,111,114],[115,104,108],[115,104,114],[108,116],[101,113],[108,100],[115,116],
 [106,109,112],[106,122],[106,110,122],[99,97,108,108],[114,101,116],[103,101,116],[112,117,116],[99,104,107],[104,97,108,116],[108,100,99]]
def opNum (s:Str):Nat:=match names.idxOf? s with | some i=>i + 1 | none=>0
def shape (op:Nat):Bool × Bool × Nat :=
 if op = 1 ∨ op = 2 ∨ op = 19 ∨ op = 20 ∨ op = 21 ∨ op = 25 then (true,false,1)
 else if op = 3 then (true,true,0)
 else if 4 ≤ op ∧ op ≤ 15 then (true,true,2)
 else if op = 16 ∨ op = 17 ∨ op = 27 then (true,true,1)
 else if op = 18 then (false,false,1)
 else if op = 22 ∨ op = 23 ∨ op = 24 then (true,false,0)
 else (false,false,0)
def nRegs (op:Nat):Nat:=(if (shape op).1 then 1 else 0) + (if (shape op).2.1 then 1 else 0) + (if (shape op).2.2 = 2 then 1 else 0)
def nArgs (op:Nat):Nat:=nRegs op + (if (shape op).2.2 = 1 then 1 else 0)
def word (op a b c:Nat):Nat:=op * 16777216 + a * 1048576 + b * 65536 + c
structure Sta where
 code:List Nat
 data:Nat
 hasD:Bool
 labs:List (Str × Nat)
 uses:List (Nat × Nat × Str)
inductive Res (α:Type) where
 | ok (x:α)
 | err (e:Nat)
def regOf? (s:Str):Option Nat:=match operandA s with | .reg n=>some n | _=>none
def regsOf:List Str → Option (List Nat)
 | []=>some []
 | a :: l=>(regOf? a).bind fun n=>(regsOf l).map (n :: ·)
def addW (st:Sta) (w:Nat):Res Sta:=if 16384 ≤ st.code.length then .err 2 else .ok { st with code:=st.code ++ [w] }
def wordR (op:Nat) (rs:List Nat) (c:Nat):Nat :=
 match (shape op).1,(shape op).2.1,(shape op).2.2 with
 | true,true,2=>word op (rs.getD 0 0) (rs.getD 1 0) (rs.getD 2 0)
 | true,true,_=>word op (rs.getD 0 0) (rs.getD 1 0) c
 | true,false,_=>word op (rs.getD 0 0) 0 c
 | false,_,_=>word op 0 0 c
def insA (n:Nat) (st:Sta) (op:Nat) (args:List Str):Res Sta :=
 if args.length ≠ nArgs op then .err 1 else
 match regsOf (args.take (nRegs op)) with
 | none=>.err 1
 | some rs =>
   if (shape op).2.2 = 1 then
    match operandA (args.getD (nRegs op) []) with
    | .lab=>addW { st with uses:=st.uses ++ [(n,st.code.length,args.getD (nRegs op) [])] } (wordR op rs 0)
    | .num v=>if 65535 < v then .err 2 else addW st (wordR op rs v)
    | .great=>.err 2
    | _=>.err 1
   else addW st (wordR op rs 0)
def wordW:Str:=[46,119,111,114,100]
def dataW:Str:=[46,100,97,116,97]
def dirA (st:Sta) (isData:Bool) (args:List Str):Res Sta :=
 match args with
 | [a] =>
   if isData = true ∧ st.hasD = true then .err 1 else
   match operandA a with
   | .num v=>if isData = true then (if 32768 < v then .err 2 else .ok { st with data:=v,hasD:=true }) else addW st v
   | .great=>.err 2
   | _=>.err 1
 | _=>.err 1
def placeOf (labs:List (Str × Nat)) (s:Str):Option Nat:=(labs.find? (fun p=>p.1 = s)).map (·.2)
def opA (n:Nat) (st:Sta) (op:Str) (args:List Str):Res Sta :=
 if op = [] then .ok st else if op = wordW then dirA st false args else if op = dataW then dirA st true args
 else if opNum op = 0 then .err 4 else insA n st (opNum op) args
def stepA (n:Nat) (st:Sta) (s:Str):Res Sta :=
 match lineA s with
 | none=>.err 3
 | some (l,op,args) =>
   if l = [] then opA n st op args else
   if (placeOf st.labs l).isSome = true then .err 4 else opA n { st with labs:=st.labs ++ [(l,st.code.length)] } op args
def linesA:Nat → Sta → List Str → Sta ⊕ (Nat × Nat)
 | _,st,[]=>.inl st
 | n,st,s :: ls=>match stepA (n + 1) st s with
   | .ok st'=>linesA (n + 1) st' ls
   | .err e=>.inr (n + 1,e)
def addAt (code:List Nat) (i v:Nat):List Nat:=code.set i (code.getD i 0 + v)
def usesA (labs:List (Str × Nat)):List Nat → List (Nat × Nat × Str) → List Nat ⊕ (Nat × Nat)
 | code,[]=>.inl code
 | code,u :: us=>match placeOf labs u.2.2 with
   | none=>.inr (u.1,4)
   | some p=>usesA labs (addAt code u.2.1 p) us
def st0:Sta:=⟨[],0,false,[],[]⟩
def readA (t:Str):(List Nat × Nat) × Nat × Nat :=
 if 20000 < t.length then (([],0),0,2) else
 match linesA 0 st0 (splitC 10 t) with
 | .inr (n,e)=>(([],0),n,e)
 | .inl st=>match usesA st.labs st.code st.uses with
   | .inr (n,e)=>(([],0),n,e)
   | .inl code=>((code,st.data),0,0)
end Go.Asm

namespace Go.Asm
def argsP (rest:Str):Option (List Str):=if ((splitC 44 rest).map trimW).all (fun x=>decide (x ≠ [])) = true then some ((splitC 44 rest).map trimW) else none
theorem argsOf_P {rest:Str} (h:rest ≠ []):argsOf rest = argsP rest:=by unfold argsOf argsP; rw [if_neg h]
theorem splitC_pre {c:UInt8}:∀ (w:Str) {s:Str} {x:Str} {xs:List Str},c ∉ w → splitC c s = x :: xs → splitC c (w ++ s) = (w ++ x) :: xs
 | [],s,x,xs,_,h=>h
 | b :: w,s,x,xs,hw,h=>by
   simp only [List.mem_cons,not_or] at hw
   rw [List.cons_append,splitC_cons,if_neg (fun e=>hw.1 e.symm),splitC_pre w hw.2 h]
   rfl
theorem splitC_post {c:UInt8}:∀ (s:Str) {t:Str},c ∉ t → ∃ xs x,splitC c s = xs ++ [x] ∧ splitC c (s ++ t) = xs ++ [x ++ t]
 | [],t,h=>⟨[],[],rfl,by rw [List.nil_append,splitC_none h]; rfl⟩
 | b :: l,t,h=>by
   obtain ⟨xs,x,h1,h2⟩:=splitC_post l h
   rw [List.cons_append,splitC_cons,splitC_cons,h1,h2]
   by_cases hb:b = c
   ·exact ⟨[] :: xs,x,by simp [hb],by simp [hb]⟩
   ·simp only [hb,if_false]
    cases xs with
    | nil=>exact ⟨[],b :: x,rfl,rfl⟩
    | cons y ys=>exact ⟨(b :: y) :: ys,x,rfl,rfl⟩
theorem wht_free {s:Str} (h:s.all wht = true) {c:UInt8} (hc:wht c = false):c ∉ s:=by
 intro hm
 rw [List.all_eq_true.1 h c hm] at hc; cases hc
theorem trim_parts (s:Str):∃ a b,a.all wht = true ∧ b.all wht = true ∧ s = a ++ (trimW s ++ b):=by
 have hl:∀ s:Str,∃ a,a.all wht = true ∧ s = a ++ trimL s:=by
  intro s
  refine ⟨s.takeWhile wht,List.all_takeWhile,?_⟩
  unfold trimL; exact (List.takeWhile_append_dropWhile).symm
 have hr:∀ s:Str,∃ b,b.all wht = true ∧ s = trimR s ++ b:=by
  intro s
  obtain ⟨a,h1,h2⟩:=hl s.reverse
  refine ⟨a.reverse,by rw [List.all_reverse]; exact h1,?_⟩
  have:=congrArg List.reverse h2
  rw [List.reverse_reverse,List.reverse_append,← trimR_eq,List.reverse_reverse] at this
  exact this
 obtain ⟨b,hb1,hb2⟩:=hr s
 obtain ⟨a,ha1,ha2⟩:=hl (trimR s)
 refine ⟨a,b,ha1,hb1,?_⟩
 rw [← List.append_assoc]
 unfold trimW
 rw [← ha2]; exact hb2
theorem splitC_trim (s:Str):(splitC 44 (trimW s)).map trimW = (splitC 44 s).map trimW:=by
 obtain ⟨a,b,ha,hb,e⟩:=trim_parts s
 have h44:wht 44 = false:=by decide
 obtain ⟨xs,x,h1,h2⟩:=splitC_post (trimW s) (wht_free hb h44)
 conv=>rhs; rw [e]
 cases xs with
 | nil =>
   rw [splitC_pre a (wht_free ha h44) (x:=x ++ b) (xs:=[]) (by rw [h2]; rfl),h1]
   simp only [List.nil_append,List.map_cons,List.map_nil]
   rw [trimW_white_app ha,trimW_app_white hb]
 | cons y ys =>
   rw [splitC_pre a (wht_free ha h44) (x:=y) (xs:=ys ++ [x ++ b]) (by rw [h2]; rfl),h1]
   simp only [List.cons_append,List.map_cons,List.map_append,List.map_nil]
   rw [trimW_white_app ha,trimW_app_white hb]
theorem argsP_trim (s:Str):argsP (trimW s) = argsP s:=by unfold argsP; rw [splitC_trim]
theorem argsP_one {s:Str} (h:44 ∉ s):argsP s = if trimW s = [] then none else some [trimW s]:=by
 unfold argsP
 rw [splitC_none h]
 by_cases ht:trimW s = []
 ·simp [ht]
 ·simp [ht]
theorem argsP_cons {p q:Str} (h:44 ∉ p):argsP (p ++ 44 :: q) = if trimW p = [] then none else (argsP q).map (trimW p :: ·):=by
 unfold argsP
 rw [splitC_join,splitC_none h]
 by_cases ht:trimW p = []
 ·simp [ht]
 ·by_cases hq:((splitC 44 q).map trimW).all (fun x=>decide (x ≠ [])) = true
  ·rw [if_neg ht,if_pos hq,if_pos (by simp only [List.map_append,List.map_cons,List.map_nil,List.all_append,List.all_cons,List.all_nil,hq]; simp [ht])]
   rfl
  ·rw [if_neg ht,if_neg hq,if_neg (by
    simp only [List.map_append,List.all_append,Bool.and_eq_true]; exact fun e=>hq e.2)]
   rfl
end Go.Asm
