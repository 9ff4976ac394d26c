/- A part of the proof; no conditions. -/
import Derived.Test.YtlglgadejgdpcaaGreatDoorPart12
set_option linter.unusedSimpArgs false
set_option linter.unusedVariables false
set_option maxHeartbeats 64000000
set_option maxRecDepth 100000
namespace Go.Proofs.YtlglgadejgdpcaaGreatDoor
section
open Go Go.Am Go.Asm
theorem Dz {s:Str}:(Src.pp s).1.length≤s.length+1:=by
 unfold Src.pp
 split
 ·simp
 ·split
  ·rename_i h
   exact(Src.mD h).1
  ·simp
theorem Km (p:Src.Prog):szP p=Src.szP p:=by
 unfold szP Src.szP Src.xf
 show _+(p.funcs.map Src.szF).sum=_
 omega
theorem nY {src:Str} (h:src.length≤1900):szP (jk src).1≤2000:=by
 unfold jk
 split
 ·exact(by decide:szP uH≤2000)
 ·rename_i p k hr
  split
  ·rw[Km]
   unfold Src.Rt at hr
   split at hr
   ·cases hr
   ·split at hr
    ·rename_i q m hq
     split at hr
     ·cases hr
     ·cases hr
      have h1:=Src.DX _ m hq
      have h2:m≤max 0 (Src.pp src).1.length:=Src.DV _ m hq
      have h3:=Dz (s:=src)
      simp only
      omega
    ·cases hr
  ·exact(by decide:szP uH≤2000)
end
end Go.Proofs.YtlglgadejgdpcaaGreatDoor
namespace Go.Src
section
open Go.Asm (Str)
section
abbrev Th:=Str×Nat×Nat
def aC:List Th→Str→Option (Nat×Nat)
 |[],_=>none
 |t::l,s=>if t.1=s then some t.2 else aC l s
theorem qe (l m:List Th) (s:Str):aC (l++m) s=match aC l s with|some x=>some x|none=>aC m s:=by
 induction l with
 |nil=>rfl
 |cons t l ih=>simp only[z6,aC];split <;> simp_all
theorem dP:∀{l:List Th}{s:Str}{x:Nat×Nat},aC l s=some x→(s,x)∈l
 |t::l,s,x,h=>by
   unfold aC at h
   split at h
   ·rename_i e;cases h;subst e;simp
   ·exact List.mem_cons_of_mem _ (dP h)
def bG:List Th→List Th→Bool
 |_,[]=>true
 |seen,t::l=>(aC seen t.1).isNone&&bG (seen++[t]) l
theorem ou (t:Th):∀(l seen:List Th),bG seen (l++[t])=(bG seen l&&(aC (seen++l) t.1).isNone)
 |[],seen=>by simp[bG]
 |x::l,seen=>by simp only[z6,bG,ou t l];rw[s6,G7,C6]
def thV (vs:List Str):List Th:=vs.mapIdx fun i n=>(n,2,i)
def thA (as_:List (Str×Int)):List Th:=as_.mapIdx fun i a=>(a.1,3,i)
def thF (fs:List Fn):List Th:=fs.mapIdx fun i f=>(f.name,4,i)
def bc (p:Prog):List Th:=thV p.vars++thA p.arrays++thF p.funcs
def thL (k:Nat) (ns:List Str):List Th:=ns.mapIdx fun i n=>(n,1,k+i)
def bn (f:Fn):List Th:=thL 0 f.params++thL f.params.length f.locals
def aP (o i:List Th) (s:Str):Option (Nat×Nat):=match aC i s with|some x=>some x|none=>aC o s
def bB (fnd:Str→Option (Nat×Nat)) (i:Nat) (kind:Nat) (name:Str):Bool:=
 match fnd name with
 |none=>false
 |some (k,n)=>if kind=2 then k == 1 || k == 2 else if kind=3 then k == 3 else k == 4 && decide (n<i)
def eZ (fnd:Str→Option (Nat×Nat)) (fs:List Fn) (i:Nat) (kind:Nat) (name:Str) (args:Nat):Bool:=
 match fnd name with
 |none=>true
 |some (k,n)=>if kind=4∧k=4∧n<i then(match fs[n]? with|some f=>f.params.length == args|none=>true) else true
mutual
def okE (u:Nat→Str→Nat→Bool):Ex→Bool
 |.mk kind _ _ name kids=>(if kind=2 then u 2 name 0 else if kind=3 then u 3 name 0 else if kind=4 then u 4 name kids.length else true) && cN u kids
def cN (u:Nat→Str→Nat→Bool):List Ex→Bool
 |[]=>true
 |e::l=>okE u e&&cN u l
end
mutual
def okS (u:Nat→Str→Nat→Bool):Stm→Bool
 |.mk kind name e th el=>(if kind=1 then u 2 name 0 else if kind=2 then u 3 name 0 else if kind=6 then u 4 name e.length else true) && cN u e && dm u th && dm u el
def dm (u:Nat→Str→Nat→Bool):List Stm→Bool
 |[]=>true
 |s::l=>okS u s&&dm u l
end
def jO (p:Prog) (i:Nat) (f:Fn):Bool:=bG [] (bn f)&&dm (fun k n _=>bB (aP (bc p) (bn f)) i k n) f.body
def yw (p:Prog) (i:Nat) (f:Fn):Bool:=dm (fun k n a=>eZ (aP (bc p) (bn f)) p.funcs i k n a) f.body
def cQ {α:Type} (c:Nat→α→Bool):Nat→List α→Bool
 |_,[]=>true
 |i,a::l=>c i a&&cQ c (i+1) l
theorem xh {α:Type} (c:Nat→α→Bool) (x:α):∀(l:List α) (i:Nat),cQ c i (l++[x])=(cQ c i l&&c (i+l.length) x)
 |[],i=>by simp[cQ]
 |a::l,i=>by simp only[z6,cQ,xh c x l,j7,C6];rw[show i+1+l.length=i+(l.length+1) by omega]
def OC:Str:=[109,97,105,110]
def iG (p:Prog):Nat:=
 if (bG [] (bc p) && cQ (jO p) 0 p.funcs)=false then 4
 else match p.funcs.getLast? with
  |none=>0
  |some f=>if cQ (yw p) 0 p.funcs=true∧f.name=OC∧f.params=[]∧f.word=false then 0 else 1
variable {s:Str}{k n:Nat}{fs:List Str}
theorem DZ {fs:List Fn} (h:(s,k,n)∈thF fs):k=4∧n<fs.length:=by
 simp only[thF,H0] at h
 obtain⟨i,hi,e⟩:=h
 cases e
 exact⟨rfl,hi⟩
theorem OD (h:(s,k,n)∈thV fs):k=2:=by
 simp only[thV,H0] at h
 obtain⟨i,hi,e⟩:=h
 cases e
 rfl
theorem OE {fs:List (Str×Int)} (h:(s,k,n)∈thA fs):k=3:=by
 simp only[thA,H0] at h
 obtain⟨i,hi,e⟩:=h
 cases e
 rfl
theorem zE {j:Nat} (h:(s,k,n)∈thL j fs):k=1∧n<j+fs.length:=by
 simp only[thL,H0] at h
 obtain⟨i,hi,e⟩:=h
 cases e
 exact⟨rfl,a7⟩
theorem Lu {p:Prog}{f:Fn}{n:Nat} (h:aP (bc p) (bn f) s=some (4,n)):n<p.funcs.length:=by
 unfold aP at h
 split at h
 ·rename_i hf
  cases h
  have:=dP hf
  unfold bn at this
  rcases C8.1 this with h|h
  ·exact absurd (zE h).1 c8
  ·exact absurd (zE h).1 c8
 ·have:=dP h
  unfold bc at this
  rcases C8.1 this with h|h
  ·rcases C8.1 h with h|h
   ·exact absurd (OD h) c8
   ·exact absurd (OE h) c8
  ·exact(DZ h).2
end
end
end Go.Src
