/- A part of the proof; no conditions. -/
import Derived.Test.YtphohejoiocikaaGreatDoorPart13
set_option linter.unusedSimpArgs false
set_option linter.unusedVariables false
set_option maxHeartbeats 64000000
set_option maxRecDepth 100000
namespace Go.Src
section
open Go.Asm (Str)
def eB:List Fn→Str→Option Fn
 |[],_=>none
 |f::l,s=>if f.name=s then some f else eB l s
theorem Gp (l m:List Fn) (s:Str):eB (l++m) s=match eB l s with|some x=>some x|none=>eB m s:=by
 induction l with
 |nil=>rfl
 |cons t l ih=>simp only[A5,eB];split <;> simp_all
def kz (fs:List Fn) (s:Str):Bool:=match eB fs s with|some f=>f.word|none=>false
mutual
def kA (fs:List Fn):Ex→Int
 |.mk kind op _ name kids=>
   if kind<1∨9<kind then 0
   else if kind=1∨kind=2∨kind=5 then 1
   else if kind=3 then(if fe fs 1 kids then 1 else 0)
   else if kind=4 then(if kz fs name && fe fs 1 kids then 1 else 0)
   else if kind=6 then(if fe fs 1 kids then(if op=14∨op=15 then 2 else 1) else 0)
   else(if fe fs 2 kids then 2 else 0)
def fe (fs:List Fn) (t:Int):List Ex→Bool
 |[]=>true
 |e::l=>decide (kA fs e=t)&&fe fs t l
end
mutual
def mV (fs:List Fn):Ex→Bool
 |.mk kind _ _ name kids=>(if kind=4 then(eB fs name).isSome else true) && eh fs kids
def eh (fs:List Fn):List Ex→Bool
 |[]=>true
 |e::l=>mV fs e&&eh fs l
end
mutual
def kY (fs:List Fn):Stm→Bool
 |.mk kind name e th el=>(if kind=6 then(eB fs name).isSome else true) && eh fs e && (cM fs th && cM fs el)
def cM (fs:List Fn):List Stm→Bool
 |[]=>true
 |s::l=>kY fs s&&cM fs l
end
mutual
def mW (fs:List Fn) (w:Bool):Stm→Bool
 |.mk kind name e th el=>!(kind == 6 && kz fs name) && !(kind == 7 && decide (0<e.length) && !w) && fe fs (if kind=4∨kind=5 then 2 else 1) e && (bW fs w th && bW fs w el)
def bW (fs:List Fn) (w:Bool):List Stm→Bool
 |[]=>true
 |s::l=>mW fs w s&&bW fs w l
end
def Gq (p:Prog):Nat:=
 if (p.funcs.all fun f=>cM p.funcs f.body)=false then 4
 else if (p.funcs.all fun f=>bW p.funcs f.word f.body)=false then 5 else 0
def KV (p:Prog):Nat:=if Ab p=false then 7 else if rK p≠0 then rK p else Gq p
theorem kT:∀(a b:List Str) (k:Nat) (s:Str),aw k (a++b) s=if aw k a s<0 then aw (k+a.length) b s else aw k a s
 |[],b,k,s=>by simp[aw]
 |x::a,b,k,s=>by
   rw[A5,aw,aw]
   by_cases h:x=s
   ·rw[if_pos h,if_pos h,if_neg a6]
   ·rw[if_neg h,if_neg h,kT a b,e8,show k+1+a.length=k+(a.length+1) by omega]
def thG (c:Nat):Nat→List Str→List Th
 |_,[]=>[]
 |k,x::l=>(x,c,k)::thG c (k+1) l
theorem vS (c:Nat):∀(a b:List Str) (k:Nat),thG c k (a++b)=thG c k a++thG c (k+a.length) b
 |[],b,k=>by simp[thG]
 |x::a,b,k=>by simp only[A5,thG,vS c a b,e8];rw[show k+1+a.length=k+(a.length+1) by omega]
theorem fA {α:Type} (c:Nat) (g:α→Str):∀(l:List α) (k:Nat),l.mapIdx (fun i x=>(g x,c,k+i))=thG c k (l.map g)
 |[],k=>rfl
 |x::l,k=>by
   rw[List.mapIdx_cons,j8,thG,←fA c g l (k+1)]
   simp only[G3]
   congr 2
   funext i y
   rw[show k+(i+1)=k+1+i by omega]
theorem fL (c:Nat) (s:Str):∀(l:List Str) (k:Nat),dH (thG c k l) s=if aw k l s<0 then none else some (c,(aw k l s).toNat)
 |[],k=>rfl
 |x::l,k=>by
   rw[thG,dH,aw]
   by_cases h:x=s
   ·rw[if_pos h,if_pos h,if_neg a6];rfl
   ·rw[if_neg h,if_neg h,fL c s l (k+1)]
theorem pq (f:Fn):fc f=thG 1 0 (ey f):=by
 unfold fc thL ey
 rw[vS]
 have h1:=fA 1 (fun n:Str=>n) f.params 0
 have h2:=fA 1 (fun n:Str=>n) f.locals f.params.length
 rw[List.map_id'] at h1 h2
 rw[h1,h2,A3]
theorem pr (p:Prog):eY p=thG 2 0 p.vars++thG 3 0 (p.arrays.map (·.1))++thG 4 0 (p.funcs.map (·.name)):=by
 unfold eY thV thA thF
 have h1:=fA 2 (fun n:Str=>n) p.vars 0
 rw[List.map_id'] at h1
 have h2:=fA 3 (fun a:Str×Int=>a.1) p.arrays 0
 have h3:=fA 4 (fun f:Fn=>f.name) p.funcs 0
 simp only[A3] at h1 h2 h3
 rw[h1,h2,h3]
theorem gc:∀(l:List Str) (k:Nat) (s:Str),aw k l s=if aw 0 l s<0 then -1 else aw 0 l s+k
 |[],_,_=>rfl
 |x::l,k,s=>by
   rw[aw,aw]
   by_cases h:x=s
   ·rw[if_pos h,if_pos h,if_neg a6];omega
   ·rw[if_neg h,if_neg h,gc l (k+1),gc l (0+1)]
    have:=eI l 0 s
    split
    ·rfl
    ·rw[if_neg a6];omega
theorem td (p:Prog) (f:Fn) (s:Str):ca p f s=match nA (eY p) (fc f) s with|some x=>((x.1:Int),(x.2:Int))|none=>(0,-1):=by
 unfold ca nA
 rw[pq,fL,pr,nz,nz,fL,fL,fL]
 have g1:=eI (ey f) 0 s
 by_cases h:aw 0 (ey f) s<0
 case neg=>
  rw[if_pos a6,if_neg h]
  simp only
  rw[Int.toNat_of_nonneg a6]
  rfl
 rw[if_neg a6,if_pos h]
 simp only
 have g2:=eI p.vars 0 s
 have g3:=eI (p.arrays.map (·.1)) 0 s
 have g4:=eI (p.funcs.map (·.name)) 0 s
 rw[b7] at g3 g4
 have hK:aw 0 (cA p) s=if aw 0 p.vars s<0 then(if aw 0 (p.arrays.map (·.1)) s<0 then(if aw 0 (p.funcs.map (·.name)) s<0 then -1 else aw 0 (p.funcs.map (·.name)) s+((p.vars.length+p.arrays.length:Nat):Int)) else aw 0 (p.arrays.map (·.1)) s+p.vars.length) else aw 0 p.vars s:=by
  unfold cA
  rw[kT,kT,A3,A3,gc _ p.vars.length,gc _ (p.vars++p.arrays.map (·.1)).length,c9,b7]
  (repeat' split) <;> omega
 rw[hK]
 generalize aw 0 p.vars s=a at g2 ⊢
 generalize aw 0 (p.arrays.map (·.1)) s=b at g3 ⊢
 generalize aw 0 (p.funcs.map (·.name)) s=c at g4 ⊢
 by_cases ha:a<0
 case neg=>
  rw[if_neg ha,if_neg ha,if_neg ha,if_pos a6]
  simp only
  rw[Int.toNat_of_nonneg a6]
  rfl
 rw[if_pos ha,if_pos ha]
 simp only
 by_cases hb:b<0
 case neg=>
  rw[if_neg hb,if_neg hb,if_neg a6,if_neg a6,if_pos a6]
  simp only
  rw[Int.toNat_of_nonneg a6,show b+(p.vars.length:Int)-p.vars.length=b by omega]
  rfl
 rw[if_pos hb,if_pos hb]
 simp only
 by_cases hc:c<0
 case neg=>
  rw[if_neg hc,if_neg hc,if_neg a6,if_neg a6,if_neg a6]
  simp only
  rw[Int.toNat_of_nonneg a6,show c+((p.vars.length+p.arrays.length:Nat):Int)-p.vars.length-p.arrays.length=c by omega]
  rfl
 rw[if_pos hc,if_pos hc]
 rfl
theorem vT {l:List Str}{i:Nat} (h:i<l.length):l.getD i []=l[i]:=by simp[List.getD,h]
theorem nq:∀(l:List Str) (k:Nat),(∀i,i<l.length→aw k l (l.getD i [])=((k+i:Nat):Int))↔l.Nodup
 |[],k=>by simp
 |x::l,k=>by
   rw[List.nodup_cons,←nq l (k+1)]
   constructor
   ·intro h
    have hx:∀i,i<l.length→x≠l.getD i []∧aw (k+1) l (l.getD i [])=((k+1+i:Nat):Int):=fun i hi=>by
     have:=h (i+1) N7
     rw[List.getD_cons_succ,aw] at this
     split at this
     ·omega
     ·rename_i hne;exact⟨hne,by rw[this];congr 1;omega⟩
    refine⟨fun hm=>?_,fun i hi=>(hx i hi).2⟩
    obtain⟨i,hi,e⟩:=List.getElem_of_mem hm
    exact(hx i hi).1 (by rw[vT hi,e])
   ·rintro⟨hm,h⟩ i hi
    cases i with
    |zero=>rw[List.getD_cons_zero,aw,if_pos rfl];rfl
    |succ i=>
      have hi:i<l.length:=by simpa using hi
      rw[List.getD_cons_succ,aw,if_neg (fun e=>hm (by rw[e,vT hi];exact List.getElem_mem hi)),h i hi]
      congr 1;omega
theorem nv (l:List Str):cu l=true↔l.Nodup:=by
 rw[←nq l 0]
 unfold cu
 simp only[l7,A2,z8,A3]
theorem rv {l:List Th}{s:Str}:(dH l s).isNone=true↔s∉l.map (·.1):=by
 induction l with
 |nil=>simp[dH]
 |cons t l ih=>
   rw[dH]
   by_cases h:t.1=s
   ·simp[h]
   ·rw[if_neg h,ih]
    simp only[j8,s7,not_or]
    exact⟨fun x=>⟨C5 h,x⟩,fun x=>x.2⟩
theorem jU:∀(l seen:List Th),gK seen l=true↔(∀t∈l,t.1∉seen.map (·.1))∧(l.map (·.1)).Nodup
 |[],seen=>by simp[gK]
 |t::l,seen=>by
   rw[gK,l5,rv,jU l]
   simp only[E2,j8,n0,K9,C8,List.forall_mem_cons,List.nodup_cons,not_or]
   constructor
   ·rintro⟨h1,h2,h3⟩
    exact⟨⟨h1,fun x hx=>(h2 x hx).1⟩,fun hm=>by obtain⟨y,hy,e⟩:=A8.1 hm;exact(h2 y hy).2 e,h3⟩
   ·rintro⟨⟨h1,h2⟩,h3,h4⟩
    exact⟨h1,fun x hx=>⟨h2 x hx,fun e=>h3 (by rw[←e];exact List.mem_map_of_mem hx)⟩,h4⟩
theorem lU (c:Nat):∀(l:List Str) (k:Nat),(thG c k l).map (·.1)=l
 |[],_=>rfl
 |x::l,k=>by rw[thG,j8,lU c l]
theorem uC (f:Fn):gK [] (fc f)=cu (ey f):=by
 rw[G1,jU,nv,pq,lU]
 simp
theorem uD (p:Prog):gK [] (eY p)=cu (cA p):=by
 rw[G1,jU,nv,pr,E2,E2,lU,lU,lU]
 simp[cA]
def asK (a:Int):Nat:=if a=1 then 2 else a.toNat
def vU (u:Nat→Str→Nat→Bool) (x:Us):Bool:=u (asK x.2.1) x.1 x.2.2.toNat
theorem Ca (u:Nat→Str→Nat→Bool) (kind:Int) (name:Str) (n:Nat):(us1 kind name n).all (vU u)=if kind=2 then u 2 name 0 else if kind=3 then u 3 name 0 else if kind=4 then u 4 name n else true:=by
 unfold us1
 (repeat' split) <;> simp[vU,asK]
theorem Cb (u:Nat→Str→Nat→Bool) (kind:Int) (name:Str) (n:Nat):(us2 kind name n).all (vU u)=if kind=1 then u 2 name 0 else if kind=2 then u 3 name 0 else if kind=6 then u 4 name n else true:=by
 unfold us2
 (repeat' split) <;> simp[vU,asK]
mutual
theorem Fy (u:Nat→Str→Nat→Bool):∀e:Ex,okE u e=(usE e).all (vU u)
 |.mk kind _ _ name kids=>by rw[okE,usE,D4,Ca,ry u kids]
theorem ry (u:Nat→Str→Nat→Bool):∀l:List Ex,Aj u l=(gQ l).all (vU u)
 |[]=>rfl
 |e::l=>by rw[Aj,gQ,D4,Fy u e,ry u l]
end
mutual
theorem Fz (u:Nat→Str→Nat→Bool):∀e:Stm,okS u e=(usS e).all (vU u)
 |.mk kind name e th el=>by rw[okS,usS,D4,D4,D4,Cb,ry u e,lV u th,lV u el]
theorem lV (u:Nat→Str→Nat→Bool):∀l:List Stm,vc u l=(dS l).all (vU u)
 |[]=>rfl
 |e::l=>by rw[vc,dS,D4,Fz u e,lV u l]
end
end
section
attribute [local congr] Go.Am.ite_cc
open Go.Asm (Str)
def pj (p:Prog) (i:Nat) (f:Fn) (x:Us):Bool:=
 !(decide (x.2.1=1∧(ca p f x.1).1≠1∧(ca p f x.1).1≠2)||decide (x.2.1=3∧(ca p f x.1).1≠3)||decide (x.2.1=4∧((ca p f x.1).1≠4∨(i:Int)≤(ca p f x.1).2)))
def dB (p:Prog) (i:Nat) (f:Fn):Bool:=cu (ey f)&&(dS f.body).all (pj p i f)
def mG (p:Prog) (f:Fn) (x:Us):Bool:=if x.2.1=4 then(match p.funcs[(ca p f x.1).2.toNat]? with|some g=>decide ((g.params.length:Int)=x.2.2)|none=>true) else true
def pW (x:Us):Prop:=(x.2.1=1∨x.2.1=3∨x.2.1=4)∧0≤x.2.2
theorem Fs (kind:Int) (name:Str) (n:Nat):∀x∈us1 kind name n,pW x:=by
 unfold us1
 (repeat' split) <;> simp[pW]
theorem Ft (kind:Int) (name:Str) (n:Nat):∀x∈us2 kind name n,pW x:=by
 unfold us2
 (repeat' split) <;> simp[pW]
mutual
theorem Fu:∀(e:Ex),∀x∈usE e,pW x
 |.mk kind _ _ name kids=>by rw[usE];exact List.forall_mem_append.2 ⟨Fs _ _ _,ri kids⟩
theorem ri:∀(l:List Ex),∀x∈gQ l,pW x
 |[]=>fun _ h=>by rw[gQ] at h;cases h
 |e::l=>by rw[gQ];exact List.forall_mem_append.2 ⟨Fu e,ri l⟩
end
mutual
theorem Fv:∀(e:Stm),∀x∈usS e,pW x
 |.mk kind name e th el=>by rw[usS];exact List.forall_mem_append.2 ⟨List.forall_mem_append.2 ⟨List.forall_mem_append.2 ⟨Ft _ _ _,ri e⟩,lN th⟩,lN el⟩
theorem lN:∀(l:List Stm),∀x∈dS l,pW x
 |[]=>fun _ h=>by rw[dS] at h;cases h
 |e::l=>by rw[dS];exact List.forall_mem_append.2 ⟨Fv e,lN l⟩
end
theorem kR {α:Type}{p q:α→Bool}:∀{l:List α},(∀x∈l,p x=q x)→l.all p=l.all q
 |[],_=>rfl
 |a::l,h=>by rw[w8,w8,h a a7,kR fun x hx=>h x OJ]
theorem BQ (p:Prog) (i:Nat) (f:Fn) (x:Us) (h:pW x):pj p i f x=vU (fun k n _=>vb (nA (eY p) (fc f)) i k n) x:=by
 unfold pj vU vb
 simp only
 rw[td]
 generalize nA (eY p) (fc f) x.1=r
 cases r with
 |none=>rcases h.1 with e|e|e <;> simp[e]
 |some y=>
   obtain⟨a,b⟩:=y
   simp only
   have h1:((a:Int)=1↔a=1)∧((a:Int)=2↔a=2)∧((a:Int)=3↔a=3)∧((a:Int)=4↔a=4)∧((i:Int)≤(b:Int)↔¬b<i):=a6
   simp only[ne_eq,h1]
   rcases h.1 with e|e|e <;> rw[e] <;> by_cases a1:a=1 <;> by_cases a2:a=2 <;> by_cases a3:a=3 <;> by_cases a4:a=4 <;> by_cases hb:b<i <;> simp[asK,a1,a2,a3,a4,hb] <;> omega
theorem wT (p:Prog) (i:Nat) (f:Fn):dB p i f=rJ p i f:=by
 unfold dB rJ
 rw[uC,lV,kR fun x hx=>BQ p i f x (lN _ x hx)]
theorem BR (p:Prog) (i:Nat) (f:Fn) (x:Us) (h:pW x) (hn:pj p i f x=true):mG p f x=vU (fun k n a=>Gm (nA (eY p) (fc f)) p.funcs i k n a) x:=by
 unfold pj at hn
 unfold mG vU Gm
 simp only
 rw[td] at hn ⊢
 generalize nA (eY p) (fc f) x.1=r at hn ⊢
 cases r with
 |none=>rcases h.1 with e|e|e <;> simp[e] at hn ⊢
 |some y=>
   simp only at hn ⊢
   rcases h.1 with e|e|e
   ·simp[e,asK]
   ·simp[e,asK]
   ·have h1:y.1=4∧y.2<i:=by
     rw[e] at hn
     simp at hn
     omega
    have h0:=h.2
    rw[if_pos e,if_pos ⟨by rw[e];rfl,h1.1,h1.2⟩]
    simp only[G2]
    cases p.funcs[y.2]? with
    |none=>rfl
    |some g=>simp only;rw[G1,z8,D1];omega
def zm (p:Prog):Nat:=
 if (cu (cA p) && bV (dB p) 0 p.funcs)=false then 4
 else match p.funcs.getLast? with
  |none=>0
  |some f=>if (p.funcs.all fun f=>(dS f.body).all (mG p f))=true∧f.name=Ea∧f.params=[]∧f.word=false then 0 else 1
theorem iU {α:Type}{c d:Nat→α→Bool}:∀(l:List α) (i:Nat),(∀k x,l[k]? = some x→c (i+k) x=d (i+k) x)→bV c i l=bV d i l
 |[],_,_=>rfl
 |a::l,i,h=>by
   have ih:=iU (c:=c) (d:=d) l (i+1) fun k x hx=>by
    have:=h (k+1) x Oz
    rwa [show i+(k+1)=i+1+k by omega] at this
   rw[bV,bV,show c i a=d i a from h 0 a rfl,ih]
theorem qx {α:Type}{c:Nat→α→Bool}:∀{l:List α}{i k:Nat}{x:α},bV c i l=true→l[k]? = some x→c (i+k) x=true
 |a::l,i,0,x,h,hx=>by cases hx;rw[bV,l5] at h;exact h.1
 |a::l,i,k+1,x,h,hx=>by
   rw[bV,l5] at h
   rw[show i+(k+1)=i+1+k by omega]
   exact qx h.2 Oz
theorem lO {α:Type}{c:α→Bool}:∀(l:List α) (i:Nat),bV (fun _=>c) i l=l.all c
 |[],_=>rfl
 |a::l,i=>by rw[bV,w8,lO l]
theorem He (p:Prog):zm p=rK p:=by
 unfold zm rK
 rw[uD,show bV (rJ p) 0 p.funcs=bV (dB p) 0 p.funcs from iU _ _ fun k x _=>(wT p _ x).symm]
 by_cases hb:(cu (cA p)&&bV (dB p) 0 p.funcs)=false
 ·rw[if_pos hb,if_pos hb]
 rw[if_neg hb,if_neg hb]
 have hb:bV (dB p) 0 p.funcs=true:=by
  have:(cu (cA p)&&bV (dB p) 0 p.funcs)=true:=by simpa using hb
  exact(l5 _ _▸this).2
 have e:(p.funcs.all fun f=>(dS f.body).all (mG p f))=bV (Gn p) 0 p.funcs:=by
  rw[←lO _ 0]
  refine iU _ _ fun k x hx=>?_
  unfold Gn
  rw[lV]
  have hn:=qx hb hx
  unfold dB at hn
  rw[l5,l7] at hn
  exact kR fun y hy=>BR p (0+k) x y (lN _ y hy) (hn.2 y hy)
 rw[e]
 cases p.funcs.getLast? <;> rfl
end
end Go.Src
namespace Go.Proofs.YtphohejoiocikaaGreatDoor
section
attribute [local congr] Go.Am.ite_cc
open Go Go.Am Go.Asm
open Go.Src (aw cu ey cA ca Us dS pj mG dB bV bG)
section
structure Sm (p:Src.Prog):Prop where
 v:p.vars.length≤100000
 a:p.arrays.length≤100000
 f:p.funcs.length≤100000
 fs:∀f∈p.funcs,(f.params.length≤100000∧f.locals.length≤100000)∧bG f.body≤100000
variable {o:bU}
theorem BS (p:Src.Prog) (hp:Sm p):bu Tryz.prog 5 o 63 [cz p] (· = bv (cu (cA p)&&bV (dB p) 0 p.funcs)):=by
 refine hdG Tryz.func63 rfl [.tmp 2] fun b₀ β0 s0 w0 g=>?_
 obtain⟨z,hz⟩:∃z,(cu (cA p)&&bV (dB p) 0 p.funcs)=z:=⟨_,rfl⟩
 rw[hz]
 obtain⟨pv,pa,pf,pfs⟩:=hp
 have hG:=mH p a6 a6 a6
 have hF:=fun i fn hi s=>zt (o:=o) p a6 a6 a6 i fn hi (by have:=(pfs fn (l4 hi)).1.1;omega) (by have:=(pfs fn (l4 hi)).1.2;omega) s
 have hgl:(cA p).length≤300000:=by simp[cA];omega
 rw[bE] at hG hF ⊢
 simp only[go_sem]
 refine cO rfl O2 ?_
 rintro _ rfl
 simp only[go_sem]
 refine cO rfl (by simp only[go_sem];exact tc (cA p) a6) ?_
 rintro _ rfl
 cases hu:cu (cA p)
 ·obtain rfl:z=false:=by rw[←hz,hu];rfl
  exact Ma
 rw[hu,A0] at hz
 clear hu
 simp only[go_sem]
 refine cY (fun k st=>bV (dB p) k (p.funcs.drop k)=z∧st.f 1=.one (.ptr 1 (st.gen 1) 0)∧st.obj 1=some [.d (.sl (p.vars.map fun s=>[.str s])),.d (.sl (p.arrays.map arD)),.d (.sl (p.funcs.map fnD))]∧st.f 3=iv .i64 k) p.funcs.length ⟨hz,?_⟩ ?_
 ·exact Ma
 rintro k f g1 ob1 hk ⟨hc,q1,o1,q3⟩
 simp only at q1 o1 q3
 have hw:=ag (k:=k) a6
 by_cases hlt:k<p.funcs.length
 case neg=>
  have hki:¬(k:Int)<(p.funcs.length:Int):=a6
  rw[l6 a6,bV] at hc
  subst hc
  simp only[go_sem,q1,o1,q3,hki,b7]
 have hki:(k:Int)<(p.funcs.length:Int):=a6
 obtain⟨fn,hs⟩:=getq hlt
 have hg:=getD_at (f:=fnD) hs
 have hfi:fnD fn=[.str fn.name,.sl (fn.params.map fun s=>[.str s]),.sl (fn.locals.map fun s=>[.str s]),.bool fn.word,.sl (fn.body.map smD)]:=rfl
 rw[hfi] at hg
 obtain⟨⟨i1,i2⟩,i3⟩:=pfs fn (l4 hs)
 have hF:=hF k fn hs
 have hN:=vQ (o:=o) fn a6 a6
 have hU:=zw (o:=o) (bG fn.body) fn.body (b9 _) a6
 have hol:(ey fn).length≤200000:=by simp[ey];omega
 have hul:=Src.pp fn.body
 rw[pk] at hN
 unfold dM at hU
 rw[dA hs,bV] at hc
 unfold dB at hc
 simp only[go_sem,q1,o1,q3,hki,b7,hg]
 refine er rfl Oj ?_
 rintro _ rfl
 simp only[go_sem]
 refine cO rfl (by simp only[go_sem];exact tc (ey fn) a6) ?_
 rintro _ rfl
 cases hu:cu (ey fn)
 ·obtain rfl:z=false:=by rw[←hc,hu];rfl
  exact Ma
 rw[hu,A0] at hc
 simp only[go_sem,q1,o1,q3,hg]
 refine er rfl O3 ?_
 rintro _ rfl
 unfold lS
 obtain⟨us,hus⟩:∃us,dS fn.body=us:=⟨_,rfl⟩
 rw[hus] at hc hul ⊢
 obtain⟨y,hy⟩:∃y,us.all (pj p k fn)=y:=⟨_,rfl⟩
 rw[hy] at hc
 simp only[go_sem]
 refine cY (fun j st=>(us.drop j).all (pj p k fn)=y∧st.f 1=.one (.ptr 1 (st.gen 1) 0)∧st.obj 1=some [.d (.sl (p.vars.map fun s=>[.str s])),.d (.sl (p.arrays.map arD)),.d (.sl (p.funcs.map fnD))]∧st.f 3=iv .i64 k∧st.f 4=.one (.d (.sl (us.map usD)))∧st.f 5=iv .i64 j) us.length ⟨hy,?_⟩ ?_
 ·simp only[go_sem,q1,o1,q3]
 clear q1 o1 q3
 rintro j f g1 ob1 hj ⟨hd,q1,o1,q3,q4,q5⟩
 simp only at q1 o1 q3 q4 q5
 have hwj:=ag (k:=j) a6
 by_cases hlj:j<us.length
 case neg=>
  have hji:¬(j:Int)<(us.length:Int):=a6
  rw[l6 a6] at hd
  obtain rfl:y=true:=hd.symm
  rw[A0] at hc
  simp only[go_sem,q4,q5,hji,b7,q3,hw]
  refine bb hlt ⟨hc,?_⟩
  exact ND
 have hji:(j:Int)<(us.length:Int):=a6
 obtain⟨x,hx⟩:=getq hlj
 obtain⟨h1,h2⟩:=cr hd hx
 have hgx:=getD_at (f:=usD) hx
 have hxi:usD x=[.str x.1,.int .i64 x.2.1,.int .i64 x.2.2]:=rfl
 rw[hxi] at hgx
 have hbad:pj p k fn x=false→z=false:=fun e=>by rw[←hc,h2 e,B8]
 have hF:=hF x.1
 unfold pj at h1 hbad
 obtain⟨A,hA⟩:∃A,(ca p fn x.1).1=A:=⟨_,rfl⟩
 obtain⟨n,hn⟩:∃n,(ca p fn x.1).2=n:=⟨_,rfl⟩
 obtain⟨s,as',of'⟩:=x
 simp only at hA hn hF h1 hbad hgx
 rw[hA,hn] at h1 hbad hF
 simp only[go_sem,q4,q5,hji,b7]
 refine cT aQ mixed aB [] [([1],[],[],false),([3],[],[],false),([4],[],[],false),([5],[],[],false),([43,44],[],[],false),([45],[],[],false),([46],[],[],false),([41,42,47],[],[],false),([48],[],[],false),([40],[],[],false),([40],[],[],false),([49],[],[],false),([50],[],[],true)] 0 rfl b0 rfl a8 ?_
 simp only[go_sem]
 iterate 7 (apply aN;(case hg=>first|exact j6|exact⟨_,rfl,by decide,rfl⟩);(case h1=>intro fa ga oa K' hK;simp only[go_sem,q1,o1,q3,q4,q5,hgx] at hK ⊢;exact hK))
 refine aN (v:=.tup [iv .i64 A,iv .i64 n]) j6 (fun fa ga oa K' hK=>?_) ?_
 ·exact NP
 iterate 4 (apply aN;(case hg=>first|exact j6|exact⟨_,rfl,by decide,rfl⟩);(case h1=>intro fa ga oa K' hK;simp only[go_sem] at hK ⊢;exact hK))
 refine cU j6 ?_
 intro K' hK'
 simp only[go_sem]
 refine hK' _ ?_
 clear hK' K'
 have hcs:(as'=1∧A=1)∨(as'=1∧A=2)∨(as'=3∧A=3)∨(as'=4∧A=4∧¬(k:Int)≤n)∨(¬as'=1∧¬as'=3∧¬as'=4)∨(as'=1∧¬A=1∧¬A=2)∨(as'=3∧¬A=3)∨(as'=4∧¬A=4)∨(as'=4∧A=4∧(k:Int)≤n):=a6
 rcases hcs with h|h|h|h|h|h|h|h|h
 iterate 5
  ·simp only[go_sem,q1,o1,q3,q4,q5,hgx,h,hwj]
   refine bb hlj ⟨h1 (by simp[h]),?_⟩
   simp only[go_sem,q1,o1,q3,q4]
 iterate 4
  ·obtain rfl:=hbad (by simp[h])
   simp only[go_sem,q1,o1,q3,q4,q5,hgx,h]
theorem uB {α:Type}{l:List α}{a:α} (h:l[l.length-1]? = some a):l.getLast? = some a:=by rw[List.getLast?_eq_getElem?];exact h
theorem wU (p:Src.Prog) (hp:Sm p) (hnm:bV (dB p) 0 p.funcs=true) (last:Src.Fn) (hla:p.funcs[p.funcs.length-1]? = some last) :
  bu Tryz.prog 5 o 64 [cz p] (· = bv (decide ((p.funcs.all fun f=>(dS f.body).all (mG p f))=true∧last.name=Src.Ea∧last.params=[]∧last.word=false))):=by
 refine hdG Tryz.func64 rfl [.tmp 2] fun b₀ β0 s0 w0 g=>?_
 obtain⟨z,hz⟩:∃z,decide ((p.funcs.all fun f=>(dS f.body).all (mG p f))=true∧last.name=Src.Ea∧last.params=[]∧last.word=false)=z:=⟨_,rfl⟩
 rw[hz]
 obtain⟨pv,pa,pf,pfs⟩:=hp
 have hF:=fun i fn hi s=>zt (o:=o) p a6 a6 a6 i fn hi (by have:=(pfs fn (l4 hi)).1.1;omega) (by have:=(pfs fn (l4 hi)).1.2;omega) s
 rw[bE] at hF ⊢
 obtain⟨q,hq⟩:∃q,(p.funcs.all fun f=>(dS f.body).all (mG p f))=q:=⟨_,rfl⟩
 rw[hq] at hz
 simp only[go_sem]
 refine cY (fun k st=>((p.funcs.drop k).all fun f=>(dS f.body).all (mG p f))=q∧st.f 1=.one (.ptr 1 (st.gen 1) 0)∧st.obj 1=some [.d (.sl (p.vars.map fun s=>[.str s])),.d (.sl (p.arrays.map arD)),.d (.sl (p.funcs.map fnD))]∧st.f 3=iv .i64 k) p.funcs.length ⟨hq,?_⟩ ?_
 ·exact Ma
 rintro k f g1 ob1 hk ⟨hc,q1,o1,q3⟩
 simp only at q1 o1 q3
 have hw:=ag (k:=k) a6
 by_cases hlt:k<p.funcs.length
 case neg=>
  have hki:¬(k:Int)<(p.funcs.length:Int):=a6
  rw[l6 a6] at hc
  rw[show q=true from hc.symm] at hz
  have hpos:0<p.funcs.length:=by have:=(j0.1 hla).1;omega
  have hw1:IntKind.i64.wrap ((p.funcs.length:Int)-1)=((p.funcs.length-1:Nat):Int):=by rw[wrap_i64] <;> omega
  have hg:=getD_at (f:=fnD) hla
  have hfi:fnD last=[.str last.name,.sl (last.params.map fun s=>[.str s]),.sl (last.locals.map fun s=>[.str s]),.bool last.word,.sl (last.body.map smD)]:=rfl
  rw[hfi] at hg
  have hmn:Src.Ea=[109,97,105,110]:=rfl
  rw[hmn] at hz
  have hp0:(0:Int)≤((p.funcs.length-1:Nat):Int):=a6
  simp only[go_sem,q1,o1,q3,hki,b7,hw1,hg]
  by_cases e1:last.name=[109,97,105,110]
  case neg=>
   obtain rfl:z=false:=by rw[←hz];simp[e1]
   simp only[go_sem,e1]
  by_cases e2:last.params=[]
  case neg=>
   obtain rfl:z=false:=by rw[←hz];simp[e2]
   have:¬(last.params.length:Int)=0:=fun e=>e2 (j5 a6)
   simp only[go_sem,e1,b7,this]
  cases e3:last.word
  ·obtain rfl:z=true:=by rw[←hz];simp[e1,e2,e3]
   simp only[go_sem,e1,e2]
  ·obtain rfl:z=false:=by rw[←hz];simp[e3]
   simp only[go_sem,e1,e2]
 have hki:(k:Int)<(p.funcs.length:Int):=a6
 obtain⟨fn,hs⟩:=getq hlt
 have hg:=getD_at (f:=fnD) hs
 have hfi:fnD fn=[.str fn.name,.sl (fn.params.map fun s=>[.str s]),.sl (fn.locals.map fun s=>[.str s]),.bool fn.word,.sl (fn.body.map smD)]:=rfl
 rw[hfi] at hg
 obtain⟨⟨i1,i2⟩,i3⟩:=pfs fn (l4 hs)
 have hF:=hF k fn hs
 have hU:=zw (o:=o) (bG fn.body) fn.body (b9 _) a6
 have hul:=Src.pp fn.body
 have hok:=Src.lN fn.body
 have hna:=Src.qx hnm hs
 unfold dB at hna
 rw[l5,l7,A3] at hna
 have hna:=hna.2
 unfold dM at hU
 obtain⟨b1,b2⟩:=cr hc hs
 simp only[go_sem,q1,o1,q3,hki,b7,hg]
 refine er rfl O3 ?_
 rintro _ rfl
 unfold lS
 obtain⟨us,hus⟩:∃us,dS fn.body=us:=⟨_,rfl⟩
 rw[hus] at b1 b2 hul hok hna ⊢
 obtain⟨y,hy⟩:∃y,us.all (mG p fn)=y:=⟨_,rfl⟩
 rw[hy] at b1 b2
 simp only[go_sem]
 refine cY (fun j st=>(us.drop j).all (mG p fn)=y∧st.f 1=.one (.ptr 1 (st.gen 1) 0)∧st.obj 1=some [.d (.sl (p.vars.map fun s=>[.str s])),.d (.sl (p.arrays.map arD)),.d (.sl (p.funcs.map fnD))]∧st.f 3=iv .i64 k∧st.f 4=.one (.d (.sl (us.map usD)))∧st.f 5=iv .i64 j) us.length ⟨hy,?_⟩ ?_
 ·simp only[go_sem,q1,o1,q3]
 clear q1 o1 q3
 rintro j f g1 ob1 hj ⟨hd,q1,o1,q3,q4,q5⟩
 simp only at q1 o1 q3 q4 q5
 have hwj:=ag (k:=j) a6
 by_cases hlj:j<us.length
 case neg=>
  have hji:¬(j:Int)<(us.length:Int):=a6
  rw[l6 a6] at hd
  simp only[go_sem,q4,q5,hji,b7,q3,hw]
  refine bb hlt ⟨b1 hd.symm,?_⟩
  exact ND
 have hji:(j:Int)<(us.length:Int):=a6
 obtain⟨x,hx⟩:=getq hlj
 obtain⟨h1,h2⟩:=cr hd hx
 have hgx:=getD_at (f:=usD) hx
 have hxm:=l4 hx
 have hxo:=hok x hxm
 have hxn:=hna x hxm
 have hxi:usD x=[.str x.1,.int .i64 x.2.1,.int .i64 x.2.2]:=rfl
 rw[hxi] at hgx
 have hF:=hF x.1
 unfold mG at h1 h2
 unfold pj at hxn
 by_cases e4:x.2.1=4
 case neg=>
  rw[if_neg e4] at h1
  simp only[go_sem,q1,o1,q3,q4,q5,hji,b7,hgx,e4,hwj]
  refine bb hlj ⟨h1 rfl,?_⟩
  simp only[go_sem,q1,o1,q3,q4]
 rw[if_pos e4] at h1 h2
 obtain⟨A,hA⟩:∃A,(ca p fn x.1).1=A:=⟨_,rfl⟩
 obtain⟨n,hn⟩:∃n,(ca p fn x.1).2=n:=⟨_,rfl⟩
 have hfe:=Src.td p fn x.1
 have hn0:0≤n∧n<p.funcs.length:=by
  rw[hA,hn,e4] at hxn
  simp at hxn
  refine⟨?_,a6⟩
  rw[←hn,hfe]
  cases hr:Src.nA (Src.eY p) (Src.fc fn) x.1 with
  |none=>
    rw[hfe,hr] at hA
    simp only at hA
    omega
  |some r=>simp
 rw[hn] at h1 h2
 rw[hA,hn] at hF
 obtain⟨m,rfl⟩:∃m:Nat,n=(m:Int):=⟨n.toNat,a6⟩
 rw[G2] at h1 h2
 obtain⟨fm,hfm⟩:=getq (l:=p.funcs) (k:=m) a6
 rw[hfm] at h1 h2
 simp only at h1 h2
 have hgm:=getD_at (f:=fnD) hfm
 have hfi:fnD fm=[.str fm.name,.sl (fm.params.map fun s=>[.str s]),.sl (fm.locals.map fun s=>[.str s]),.bool fm.word,.sl (fm.body.map smD)]:=rfl
 rw[hfi] at hgm
 simp only[go_sem,q1,o1,q3,q4,q5,hji,b7,hgx,e4]
 refine cT aQ mixed aB [] [([1],[],[],false),([3],[],[],false),([4],[],[],false),([5],[],[],false),([38,39],[],[],false),([40],[],[],false),([41],[],[],false),([36,37,42],[],[],false),([43],[],[],false),([35],[],[],false),([35],[],[],false),([44],[],[],false),([45],[],[],true)] 0 rfl b0 rfl a8 ?_
 simp only[go_sem]
 iterate 7 (apply aN;(case hg=>first|exact j6|exact⟨_,rfl,by decide,rfl⟩);(case h1=>intro fa ga oa K' hK;simp only[go_sem,q1,o1,q3,q4,q5,hgx] at hK ⊢;exact hK))
 refine aN (v:=.tup [iv .i64 A,iv .i64 m]) j6 (fun fa ga oa K' hK=>?_) ?_
 ·exact NP
 iterate 4 (apply aN;(case hg=>first|exact j6|exact⟨_,rfl,by decide,rfl⟩);(case h1=>intro fa ga oa K' hK;simp only[go_sem] at hK ⊢;exact hK))
 refine cU j6 ?_
 intro K' hK'
 simp only[go_sem]
 refine hK' _ ?_
 clear hK' K'
 simp only[go_sem]
 refine cy b0 ?_
 have hm0:(0:Int)≤(m:Int):=a6
 by_cases e5:(fm.params.length:Int)=x.2.2
 ·simp only[go_sem,q1,o1,q3,q4,q5,hgx,hgm,hm0,b7,e5,hwj]
  refine bb hlj ⟨h1 (w9 e5),?_⟩
  simp only[go_sem,q1,o1,q3,q4]
 ·have hy0:y=false:=h2 (s6 e5)
  rw[b2 hy0] at hz
  obtain rfl:z=false:=by rw[←hz];simp
  simp only[go_sem,q1,o1,q3,q4,q5,hgx,hgm,hm0,b7,e5]
theorem zn (p:Src.Prog) (hp:Sm p) (h1:1≤p.funcs.length):bu Tryz.prog 5 o 33 [cz p] (· = iv .i64 (Src.rK p:Nat)):=by
 refine hdG Tryz.func33 rfl [.tmp 2] fun b₀ β0 s0 w0 g=>?_
 rw[←Src.He]
 have hN:=BS (o:=o) p hp
 obtain⟨last,hla⟩:=getq (l:=p.funcs) (k:=p.funcs.length-1) a6
 have hM:=fun h=>wU (o:=o) p hp h last hla
 obtain⟨z,hz⟩:∃z,Src.zm p=z:=⟨_,rfl⟩
 rw[hz]
 unfold Src.zm at hz
 rw[uB hla] at hz
 rw[bE] at hN hM ⊢
 simp only[go_sem]
 refine er rfl Oj ?_
 rintro _ rfl
 by_cases hb:(cu (cA p)&&bV (dB p) 0 p.funcs)=false
 ·rw[if_pos hb] at hz
  subst hz
  simp only[go_sem,hb]
 rw[if_neg hb] at hz
 have hb:(cu (cA p)&&bV (dB p) 0 p.funcs)=true:=by simpa using hb
 have hM:=hM (l5 _ _▸hb).2
 simp only[go_sem,hb]
 refine er rfl (by simp only[go_sem];exact hM) ?_
 rintro _ rfl
 by_cases h:(p.funcs.all fun f=>(dS f.body).all (mG p f))=true∧last.name=Src.Ea∧last.params=[]∧last.word=false
 ·simp only[if_pos h] at hz
  subst hz
  simp only[go_sem,w9 h]
 ·simp only[if_neg h] at hz
  subst hz
  simp only[go_sem,s6 h]
end
end
end Go.Proofs.YtphohejoiocikaaGreatDoor
