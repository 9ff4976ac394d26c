/- A part of the proof; no conditions. -/
import Derived.Test.YtgiigidgdhplfaaGreatDoorPart11
set_option linter.unusedSimpArgs false
set_option linter.unusedVariables false
set_option maxHeartbeats 64000000
set_option maxRecDepth 100000
namespace Go.Proofs.YtgiigidgdhplfaaGreatDoor
section
open Go Go.Am Go.Asm
theorem FF {s:Str}:(Src.pG s).1.length≤s.length+1:=by
 unfold Src.pG
 split
 ·simp
 ·split
  ·rename_i h
   exact(Src.mY h).1
  ·simp
theorem Ni (p:Src.Prog):szP p=Src.szP p:=by
 unfold szP Src.szP Src.xU
 show _+(p.funcs.map Src.szF).sum=_
 omega
theorem xy {src:Str} (h:src.length≤1900):szP (jV src).1≤2000:=by
 unfold jV
 split
 ·exact(by decide:szP vw≤2000)
 ·rename_i p k hr
  split
  ·rw[Ni]
   unfold Src.UH at hr
   split at hr
   ·cases hr
   ·split at hr
    ·rename_i q m hq
     split at hr
     ·cases hr
     ·cases hr
      have h1:=Src.Ge _ m hq
      have h2:m≤max 0 (Src.pG src).1.length:=Src.Gc _ m hq
      have h3:=FF (s:=src)
      simp only
      omega
    ·cases hr
  ·exact(by decide:szP vw≤2000)
end
end Go.Proofs.YtgiigidgdhplfaaGreatDoor
namespace Go.Src
section
open Go.Asm (Str)
section
abbrev Th:=Str×Nat×Nat
def aF:List Th→Str→Option (Nat×Nat)
 |[],_=>none
 |t::l,s=>if t.1=s then some t.2 else aF l s
theorem qs (l m:List Th) (s:Str):aF (l++m) s=match aF l s with|some x=>some x|none=>aF m s:=by
 induction l with
 |nil=>rfl
 |cons t l ih=>simp only[z8,aF];split <;> simp_all
theorem ei:∀{l:List Th}{s:Str}{x:Nat×Nat},aF l s=some x→(s,x)∈l
 |t::l,s,x,h=>by
   unfold aF at h
   split at h
   ·rename_i e;cases h;subst e;simp
   ·exact Q8 _ (ei h)
def bK:List Th→List Th→Bool
 |_,[]=>true
 |seen,t::l=>(aF seen t.1).isNone&&bK (seen++[t]) l
theorem oV (t:Th):∀(l seen:List Th),bK seen (l++[t])=(bK seen l&&(aF (seen++l) t.1).isNone)
 |[],seen=>by simp[bK]
 |x::l,seen=>by simp only[z8,bK,oV t l];rw[r0,H6,D3]
def thV (vs:List Str):List Th:=vs.mapIdx fun i n=>(n,2,i)
def thA (as_:List (Str×Int)):List Th:=as_.mapIdx fun i a=>(a.1,3,i)
def thF (fs:List Fn):List Th:=fs.mapIdx fun i f=>(f.name,4,i)
def bg (p:Prog):List Th:=thV p.vars++thA p.arrays++thF p.funcs
def thL (k:Nat) (ns:List Str):List Th:=ns.mapIdx fun i n=>(n,1,k+i)
def bn (f:Fn):List Th:=thL 0 f.params++thL f.params.length f.locals
def aS (o i:List Th) (s:Str):Option (Nat×Nat):=match aF i s with|some x=>some x|none=>aF o s
def bC (fnd:Str→Option (Nat×Nat)) (i:Nat) (kind:Nat) (name:Str):Bool:=
 match fnd name with
 |none=>false
 |some (k,n)=>if kind=2 then k == 1 || k == 2 else if kind=3 then k == 3 else k == 4 && decide (n<i)
def fe (fnd:Str→Option (Nat×Nat)) (fs:List Fn) (i:Nat) (kind:Nat) (name:Str) (args:Nat):Bool:=
 match fnd name with
 |none=>true
 |some (k,n)=>if kind=4∧k=4∧n<i then(match fs[n]? with|some f=>f.params.length == args|none=>true) else true
mutual
def okE (u:Nat→Str→Nat→Bool):Ex→Bool
 |.mk kind _ _ name kids=>(if kind=2 then u 2 name 0 else if kind=3 then u 3 name 0 else if kind=4 then u 4 name kids.length else true) && cZ u kids
def cZ (u:Nat→Str→Nat→Bool):List Ex→Bool
 |[]=>true
 |e::l=>okE u e&&cZ u l
end
mutual
def okS (u:Nat→Str→Nat→Bool):Stm→Bool
 |.mk kind name e th el=>(if kind=1 then u 2 name 0 else if kind=2 then u 3 name 0 else if kind=6 then u 4 name e.length else true) && cZ u e && dH u th && dH u el
def dH (u:Nat→Str→Nat→Bool):List Stm→Bool
 |[]=>true
 |s::l=>okS u s&&dH u l
end
def jZ (p:Prog) (i:Nat) (f:Fn):Bool:=bK [] (bn f)&&dH (fun k n _=>bC (aS (bg p) (bn f)) i k n) f.body
def zC (p:Prog) (i:Nat) (f:Fn):Bool:=dH (fun k n a=>fe (aS (bg p) (bn f)) p.funcs i k n a) f.body
def df {α:Type} (c:Nat→α→Bool):Nat→List α→Bool
 |_,[]=>true
 |i,a::l=>c i a&&df c (i+1) l
theorem xW {α:Type} (c:Nat→α→Bool) (x:α):∀(l:List α) (i:Nat),df c i (l++[x])=(df c i l&&c (i+l.length) x)
 |[],i=>by simp[df]
 |a::l,i=>by simp only[z8,df,xW c x l,j6,D3];rw[show i+1+l.length=i+(l.length+1) by omega]
def RP:Str:=[109,97,105,110]
def iT (p:Prog):Nat:=
 if (bK [] (bg p) && df (jZ p) 0 p.funcs)=false then 4
 else match p.funcs.getLast? with
  |none=>0
  |some f=>if df (zC p) 0 p.funcs=true∧f.name=RP∧f.params=[]∧f.word=false then 0 else 1
variable {s:Str}{k n:Nat}{fs:List Str}
theorem Gg {fs:List Fn} (h:(s,k,n)∈thF fs):k=4∧n<fs.length:=by
 simp only[thF,H9] at h
 obtain⟨i,hi,e⟩:=h
 cases e
 exact⟨rfl,hi⟩
theorem RQ (h:(s,k,n)∈thV fs):k=2:=by
 simp only[thV,H9] at h
 obtain⟨i,hi,e⟩:=h
 cases e
 rfl
theorem RR {fs:List (Str×Int)} (h:(s,k,n)∈thA fs):k=3:=by
 simp only[thA,H9] at h
 obtain⟨i,hi,e⟩:=h
 cases e
 rfl
theorem AY {j:Nat} (h:(s,k,n)∈thL j fs):k=1∧n<j+fs.length:=by
 simp only[thL,H9] at h
 obtain⟨i,hi,e⟩:=h
 cases e
 exact⟨rfl,a6⟩
theorem Ou {p:Prog}{f:Fn}{n:Nat} (h:aS (bg p) (bn f) s=some (4,n)):n<p.funcs.length:=by
 unfold aS at h
 split at h
 ·rename_i hf
  cases h
  have:=ei hf
  unfold bn at this
  rcases D1.1 this with h|h
  ·exact absurd (AY h).1 a8
  ·exact absurd (AY h).1 a8
 ·have:=ei h
  unfold bg at this
  rcases D1.1 this with h|h
  ·rcases D1.1 h with h|h
   ·exact absurd (RQ h) a8
   ·exact absurd (RR h) a8
  ·exact(Gg h).2
end
end
end Go.Src
