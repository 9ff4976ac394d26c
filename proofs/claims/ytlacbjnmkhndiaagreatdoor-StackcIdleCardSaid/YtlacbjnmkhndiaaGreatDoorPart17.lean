/- A part of the proof; no conditions. -/
import Derived.Test.YtlacbjnmkhndiaaGreatDoorPart16
set_option linter.unusedSimpArgs false
set_option linter.unusedVariables false
set_option linter.defProp false
open List renaming length -> z
open Option renaming some -> S, none -> N
open Bool renaming true -> T, false -> F
set_option maxHeartbeats 64000000
set_option maxRecDepth 100000
namespace Go.Mn
section
open Go.Asm (Str)
open Go.Src (Ex Stm Fn Prog)
open Go.Mach (applyN)
section
structure Sg where
 v:List Nat
 arrs:List (List Nat)
 out:Str
 rd:Nat
 tk:Nat
inductive Rs (A:Type) where
 |ok (v:A) (G:Sg)
 |en (e:Nat) (G:Sg)
 |no
section
variable{A β:Type}
def Rs.bind(r:Rs A)(k:A->Sg->Rs β):Rs β:=match r with|.ok v G=>k v G|.en e G=>.en e G|.no=>.no
def need(o:Option A)(k:A->Rs β):Rs β:=match o with|some x=>k x|none=>.no
def tick(fu:Nat)(G:Sg)(k:Sg->Rs β):Rs β:=if G.tk<fu then k ⟨G.v,G.arrs,G.out,G.rd,G.tk+1⟩else .en 5 G
def l0(l:List A)(r:Rs β):Rs β:=match l with|[]=>r|_=>.no
def l1(l:List A)(k:A->Rs β):Rs β:=match l with|[a]=>k a|_=>.no
def l2(l:List A)(k:A->A->Rs β):Rs β:=match l with|[a,b]=>k a b|_=>.no
def l01(l:List A)(r:Rs β)(k:A->Rs β):Rs β:=match l with|[]=>r|[a]=>k a|_=>.no
end
def Ai(inp:Str)(k:Nat):Nat:=match inp[k]? with|some x=>x.toNat|none=>256
def xG(inp:Str)(k:Nat):Nat:=match inp[k]? with|some _=>k+1|none=>k
def CE(t:Option (Nat×Nat))(L:List Nat)(G:Sg):Rs Nat:=
 match t with
 |some (k,i)=>if k=1 then need L[i]? λv=>.ok v G else if k=2 then need G.v[i]? λv=>.ok v G else .no
 |none=>.no
def CF(t:Option (Nat×Nat))(G:Sg)(j:Nat):Rs Nat:=
 match t with
 |some (k,i)=>if k=3 then(if j<4294967296 then need G.arrs[i]? λl=>(match l[j]? with|some v=>.ok v G|none=>.en 3 G)else .no)else .no
 |none=>.no
def opV(op:Int)(x y:Nat)(G:Sg):Rs Nat:=
 if (4<=op/\op<=15)/\x<4294967296/\y<4294967296 then(match applyN op.toNat x y with|some v=>.ok v G|none=>.en 2 G)else .no
def lD(v:Nat)(G:Sg):Rs Nat:=if v<=1 then .ok v G else .no
def CG(t:Option (Nat×Nat))(L:List Nat)(G:Sg)(v:Nat):Rs (List Nat×Option Nat):=
 match t with
 |some (k,i)=>
   if k=1 then(if i<z L then .ok (L.set i v,N) G else .no)
   else if k=2 then(if i<z G.v then .ok (L,N) ⟨G.v.set i v,G.arrs,G.out,G.rd,G.tk⟩else .no)else .no
 |none=>.no
def qK(t:Option (Nat×Nat))(L:List Nat)(G:Sg)(j v:Nat):Rs (List Nat×Option Nat):=
 match t with
 |some (k,i)=>if k=3 then(if j<4294967296 then need G.arrs[i]? λl=>(if j<z l then .ok (L,N) ⟨G.v,G.arrs.set i (l.set j v),G.out,G.rd,G.tk⟩else .en 3 G)else .no)else .no
 |none=>.no
def HQ(L:List Nat)(G:Sg)(v:Nat):Rs (List Nat×Option Nat):=if 65536<=z G.out then .en 4 G else .ok (L,N) ⟨G.v,G.arrs,G.out++[UInt8.ofNat v],G.rd,G.tk⟩
def ea(p:Prog)(f:Nat)(t:Option (Nat×Nat))(n:Nat)(w:Bool):Option Nat:=
 match t with
 |some (k,g)=>if k=4/\g<f/\(p.f[g]?).any (λfn=>fn.word == w && z fn.p == n)=T then S g else N
 |none=>N
section
variable(p:Prog)(fd:Nat->Str->Option (Nat×Nat))(inp:Str)(fu:Nat)
mutual
def evE:Nat->Nat->List Nat->Sg->Ex->Rs Nat
 |0,_,_,_,_=>.no
 |n+1,f,ws,G,.mk kind op num name kids=>
   if kind=1 then l0 kids (if 0<=num/\num<4294967296 then .ok num.toNat G else .no)
   else if kind=2 then l0 kids (CE (fd f name) ws G)
   else if kind=3 then l1 kids λa=>(evE n f ws G a).bind λi H=>CF (fd f name) H i
   else if kind=4 then need (ea p f (fd f name) (z kids) T) λg=>(dq n f ws G kids).bind λvs H=>tick fu H λc=>evB n g vs c
   else if kind=5 then l0 kids (.ok (Ai inp G.rd) ⟨G.v,G.arrs,G.out,xG inp G.rd,G.tk⟩)
   else if kind=6 then l2 kids λa b=>(evE n f ws G a).bind λx H=>(evE n f ws H b).bind λy c=>opV op x y c
   else if kind=7 then l1 kids λa=>(evE n f ws G a).bind λx H=>.ok (if x=0 then 1 else 0) H
   else if kind=8 then l2 kids λa b=>(evE n f ws G a).bind λx H=>if x=0 then .ok 0 H else(evE n f ws H b).bind lD
   else if kind=9 then l2 kids λa b=>(evE n f ws G a).bind λx H=>if x=0 then(evE n f ws H b).bind lD else lD x H
   else .no
def dq:Nat->Nat->List Nat->Sg->List Ex->Rs (List Nat)
 |0,_,_,_,_=>.no
 |_+1,_,_,G,[]=>.ok [] G
 |n+1,f,ws,G,a::l=>(evE n f ws G a).bind λv H=>(dq n f ws H l).bind λvs b=>.ok (v::vs) b
def evS:Nat->Nat->List Nat->Sg->Stm->Rs (List Nat×Option Nat)
 |0,_,_,_,_=>.no
 |n+1,f,ws,G,.mk kind name e d el=>
   if kind=1 then l1 e λa=>(evE n f ws G a).bind λv H=>CG (fd f name) ws H v
   else if kind=2 then l2 e λa b=>(evE n f ws G a).bind λi H=>(evE n f ws H b).bind λv c=>qK (fd f name) ws c i v
   else if kind=3 then l1 e λa=>(evE n f ws G a).bind λv H=>HQ ws H v
   else if kind=4 then l1 e λa=>(evE n f ws G a).bind λv H=>if v=0 then de n f ws H el else de n f ws H d
   else if kind=5 then l1 e λa=>tick fu G λH=>evW n f ws H a d
   else if kind=6 then need (ea p f (fd f name) (z e) F) λg=>(dq n f ws G e).bind λvs H=>tick fu H λc=>(evB n g vs c).bind λ_ o=>.ok (ws,N) o
   else if kind=7 then l01 e (.ok (ws,S 0) G) λa=>if (p.f[f]?).any (·.word)=T then(evE n f ws G a).bind λv H=>.ok (ws,S v) H else .no
   else .no
def de:Nat->Nat->List Nat->Sg->List Stm->Rs (List Nat×Option Nat)
 |0,_,_,_,_=>.no
 |_+1,_,ws,G,[]=>.ok (ws,N) G
 |n+1,f,ws,G,s::l=>(evS n f ws G s).bind λr H=>match r.2 with|some v=>.ok (r.1,S v) H|none=>de n f r.1 H l
def evW:Nat->Nat->List Nat->Sg->Ex->List Stm->Rs (List Nat×Option Nat)
 |0,_,_,_,_,_=>.no
 |n+1,f,ws,G,a,l=>(evE n f ws G a).bind λv H=>if v=0 then .ok (ws,N) H else(de n f ws H l).bind λr b=>match r.2 with|some v=>.ok (r.1,S v) b|none=>tick fu b λo=>evW n f r.1 o a l
def evB:Nat->Nat->List Nat->Sg->Rs Nat
 |0,_,_,_=>.no
 |n+1,g,vs,G=>need p.f[g]? λfn=>if z vs=z fn.p then(de n g (vs++List.replicate (z fn.l) 0) G fn.body).bind λr H=>.ok (r.2.getD 0) H else .no
end
end
def start(p:Prog):Sg:=⟨List.replicate (z p.v) 0,p.a.map λa=>List.replicate a.2.toNat 0,[],0,0⟩
def aA(p:Prog)(f:Nat)(s:Str):Option (Nat×Nat):=match p.f[f]? with|some fn=>Src.aR (Src.aI p) (Src.aM fn) s|none=>N
def runN(p:Prog)(inp:Str)(fu n:Nat):Rs Nat:=evB p (aA p) inp fu n (z p.f-1) [] (start p)
end
end
end Go.Mn
