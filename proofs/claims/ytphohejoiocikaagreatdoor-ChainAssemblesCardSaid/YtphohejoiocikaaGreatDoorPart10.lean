/- A part of the proof; no conditions. -/
import Derived.Test.YtphohejoiocikaaGreatDoorPart9
set_option linter.unusedSimpArgs false
set_option linter.unusedVariables false
set_option maxHeartbeats 64000000
set_option maxRecDepth 100000
namespace Go.Proofs.YtphohejoiocikaaGreatDoor
section
open Go Go.Am Go.Asm
open Go.Src (PR jY Ex Stm)
def zh:Src.Prog:=⟨[],[],[]⟩
def uA (src:Str):Src.Prog×Nat×Nat:=
 match Src.Ls src with
 |(.err e,k)=>(zh,k,e)
 |(.ok p,_)=>if Src.Ab p=true then(p,0,0) else(zh,0,2)
def zi (r:Src.Prog×Nat×Nat):AV:=.tup [cz r.1,iv .i64 (r.2.1:Nat),iv .i64 (r.2.2:Nat)]
end
end Go.Proofs.YtphohejoiocikaaGreatDoor
namespace Go.Mach
section
open Go.Asm (Str)
def applyN (op a b:Nat):Option Nat:=
 if op=4 then some ((a+b)%4294967296)
 else if op=5 then some ((a+4294967296-b)%4294967296)
 else if op=6 then some (a*b%4294967296)
 else if op=7 then(if b=0 then none else some (a/b))
 else if op=8 then(if b=0 then none else some (a%b))
 else if op=9 then some (a &&& b)
 else if op=10 then some (a ||| b)
 else if op=11 then some (a ^^^ b)
 else if op=12 then some (if 31<b then 0 else a*2^b%4294967296)
 else if op=13 then some (if 31<b then 0 else a/2^b)
 else if op=14 then some (if a<b then 1 else 0)
 else some (if a=b then 1 else 0)
theorem Gl {α:Type}{Q:α→Prop}{p:Prop} [Decidable p] {a b:α} (ha:p→Q a) (hb:¬p→Q b):Q (if p then a else b):=by
 by_cases h:p
 ·rw[if_pos h];exact ha h
 ·rw[if_neg h];exact hb h
structure M where
 pc:Nat
 reg:List Nat
 mem:List Nat
 rd:Nat
 out:Str
 steps:Nat
 fin:Nat
def M.set (m:M) (a x:Nat):M:={ m with reg:=m.reg.set a x,pc:=m.pc+1 }
def M.r (m:M) (a:Nat):Nat:=m.reg.getD a 0
structure Good (m:M):Prop where
 len:m.reg.length=16
 reg:∀x∈m.reg,x<4294967296
 mem:∀x∈m.mem,x<4294967296
 pc:m.pc≤4294967296+m.steps
 out:m.out.length≤65536
 fin:m.fin≤8
theorem Good.r {m:M} (h:Good m) (a:Nat):m.r a<4294967296:=by
 unfold M.r
 rw[D7]
 cases hx:m.reg[a]? with
 |none=>decide
 |some x=>exact h.reg x (l4 hx)
theorem mem_set {l:List Nat}{i x y:Nat} (h:y∈l.set i x):y∈l∨y=x:=List.mem_or_eq_of_mem_set h
theorem Good.set {m:M} (h:Good m) {a x:Nat} (hx:x<4294967296) {s':Nat} (hs:m.steps<s'):Good { m.set a x with steps:=s' }:=by
 refine⟨by simp[M.set,h.len],fun y hy=>?_,h.mem,?_,h.out,h.fin⟩
 ·rcases mem_set hy with hy|rfl
  ·exact h.reg y hy
  ·exact hx
 ·have:=h.pc;simp only[M.set];omega
end
end Go.Mach
namespace Go.Src
section
open Go.Asm (Str)
open Go.Mach (applyN)
structure Sg where
 out:Str
 rd:Nat
 tk:Nat
def Sg.tick (σ:Sg):Sg:=⟨σ.out,σ.rd,σ.tk+1⟩
def jM (inp:Str) (k:Nat):Nat:=match inp[k]? with|some x=>x.toNat|none=>256
def fI (inp:Str) (k:Nat):Nat:=match inp[k]? with|some _=>k+1|none=>k
inductive Jg
 |e (f:Nat) (ws:List Nat) (σ:Sg) (x:Ex) (v:Nat) (σ':Sg)
 |es (f:Nat) (ws:List Nat) (σ:Sg) (l:List Ex) (vs:List Nat) (σ':Sg)
 |s (f:Nat) (ws:List Nat) (σ:Sg) (x:Stm) (ws':List Nat) (σ':Sg) (r:Option Nat)
 |ss (f:Nat) (ws:List Nat) (σ:Sg) (l:List Stm) (ws':List Nat) (σ':Sg) (r:Option Nat)
 |w (f:Nat) (ws:List Nat) (σ:Sg) (x:Ex) (l:List Stm) (ws':List Nat) (σ':Sg) (r:Option Nat)
 |b (f:Nat) (vs:List Nat) (σ:Sg) (v:Nat) (σ':Sg)
inductive Ev (p:Prog) (fd:Nat→Str→Int×Int) (inp:Str) (fu:Nat):Jg→Prop
 |num {f ws σ o nm ks}{n:Nat}:n<4294967296→Ev p fd inp fu (.e f ws σ (.mk 1 o n nm ks) n σ)
 |var {f ws σ o n nm ks i v}:fd f nm=(1,((i:Nat):Int))→ws[i]? = some v→Ev p fd inp fu (.e f ws σ (.mk 2 o n nm ks) v σ)
 |call {f ws σ o n nm ks g vs σ1 v σ2}:ks.length≤1000000→fd f nm=(4,((g:Nat):Int))→Ev p fd inp fu (.es f ws σ ks vs σ1)→σ1.tk<fu→Ev p fd inp fu (.b g vs σ1.tick v σ2)→Ev p fd inp fu (.e f ws σ (.mk 4 o n nm ks) v σ2)
 |get {f ws σ o n nm ks}:σ.rd≤inp.length→Ev p fd inp fu (.e f ws σ (.mk 5 o n nm ks) (jM inp σ.rd) ⟨σ.out,fI inp σ.rd,σ.tk⟩)
 |op {f ws σ n nm a b x y σ1 σ2 v}{o:Nat}:Ev p fd inp fu (.e f ws σ a x σ1)→Ev p fd inp fu (.e f ws σ1 b y σ2)→x<4294967296→y<4294967296→4≤o→o≤15→applyN o x y=some v→Ev p fd inp fu (.e f ws σ (.mk 6 o n nm [a,b]) v σ2)
 |and0 {f ws σ o n nm a b σ1}:Ev p fd inp fu (.e f ws σ a 0 σ1)→Ev p fd inp fu (.e f ws σ (.mk 8 o n nm [a,b]) 0 σ1)
 |and1 {f ws σ o n nm a b x y σ1 σ2}:Ev p fd inp fu (.e f ws σ a x σ1)→x≠0→Ev p fd inp fu (.e f ws σ1 b y σ2)→Ev p fd inp fu (.e f ws σ (.mk 8 o n nm [a,b]) y σ2)
 |nil {f ws σ}:Ev p fd inp fu (.es f ws σ [] [] σ)
 |cons {f ws σ a l v vs σ1 σ2}:Ev p fd inp fu (.e f ws σ a v σ1)→Ev p fd inp fu (.es f ws σ1 l vs σ2)→Ev p fd inp fu (.es f ws σ (a::l) (v::vs) σ2)
 |set {f ws σ nm a th el v σ1 i}:Ev p fd inp fu (.e f ws σ a v σ1)→fd f nm=(1,((i:Nat):Int))→i<ws.length→Ev p fd inp fu (.s f ws σ (.mk 1 nm [a] th el) (ws.set i v) σ1 none)
 |put {f ws σ nm a th el v σ1}:Ev p fd inp fu (.e f ws σ a v σ1)→σ1.out.length<65536→Ev p fd inp fu (.s f ws σ (.mk 3 nm [a] th el) ws ⟨σ1.out++[UInt8.ofNat v],σ1.rd,σ1.tk⟩ none)
 |if1 {f ws σ nm a th el v σ1 ws' σ' r}:th.length≤1000000→Ev p fd inp fu (.e f ws σ a v σ1)→v≠0→Ev p fd inp fu (.ss f ws σ1 th ws' σ' r)→Ev p fd inp fu (.s f ws σ (.mk 4 nm [a] th el) ws' σ' r)
 |if0 {f ws σ nm a th el σ1 ws' σ' r}:el.length≤1000000→Ev p fd inp fu (.e f ws σ a 0 σ1)→Ev p fd inp fu (.ss f ws σ1 el ws' σ' r)→Ev p fd inp fu (.s f ws σ (.mk 4 nm [a] th el) ws' σ' r)
 |while {f ws σ nm a th el ws' σ' r}:σ.tk<fu→Ev p fd inp fu (.w f ws σ.tick a th ws' σ' r)→Ev p fd inp fu (.s f ws σ (.mk 5 nm [a] th el) ws' σ' r)
 |run {f ws σ nm ks th el g vs σ1 v σ2}:ks.length≤1000000→fd f nm=(4,((g:Nat):Int))→Ev p fd inp fu (.es f ws σ ks vs σ1)→σ1.tk<fu→Ev p fd inp fu (.b g vs σ1.tick v σ2)→Ev p fd inp fu (.s f ws σ (.mk 6 nm ks th el) ws σ2 none)
 |ret {f ws σ nm a th el v σ1}:Ev p fd inp fu (.e f ws σ a v σ1)→Ev p fd inp fu (.s f ws σ (.mk 7 nm [a] th el) ws σ1 (some v))
 |done {f ws σ}:Ev p fd inp fu (.ss f ws σ [] ws σ none)
 |next {f ws σ a l ws1 σ1 ws' σ' r}:Ev p fd inp fu (.s f ws σ a ws1 σ1 none)→Ev p fd inp fu (.ss f ws1 σ1 l ws' σ' r)→Ev p fd inp fu (.ss f ws σ (a::l) ws' σ' r)
 |back {f ws σ a l ws1 σ1 v}:Ev p fd inp fu (.s f ws σ a ws1 σ1 (some v))→Ev p fd inp fu (.ss f ws σ (a::l) ws1 σ1 (some v))
 |out {f ws σ a l σ1}:Ev p fd inp fu (.e f ws σ a 0 σ1)→Ev p fd inp fu (.w f ws σ a l ws σ1 none)
 |round {f ws σ a l v σ1 ws1 σ2 ws' σ' r}:l.length≤1000000→Ev p fd inp fu (.e f ws σ a v σ1)→v≠0→Ev p fd inp fu (.ss f ws σ1 l ws1 σ2 none)→σ2.tk<fu→Ev p fd inp fu (.w f ws1 σ2.tick a l ws' σ' r)→Ev p fd inp fu (.w f ws σ a l ws' σ' r)
 |body {f vs σ fn ws' σ' r}:p.funcs[f]? = some fn→fn.params.length≤1000000→fn.locals.length≤1000000→vs.length≤1000000→fn.body.length≤1000000→0<vs.length+fn.locals.length→Ev p fd inp fu (.ss f (vs++List.replicate fn.locals.length 0) σ fn.body ws' σ' r)→Ev p fd inp fu (.b f vs σ (r.getD 0) σ')
end
end Go.Src
