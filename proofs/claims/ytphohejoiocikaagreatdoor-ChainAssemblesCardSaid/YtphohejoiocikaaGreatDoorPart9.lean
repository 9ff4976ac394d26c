/- A part of the proof; no conditions. -/
import Derived.Test.YtphohejoiocikaaGreatDoorPart8
set_option linter.unusedSimpArgs false
set_option linter.unusedVariables false
set_option maxHeartbeats 64000000
set_option maxRecDepth 100000
namespace Go.Src
section
open Go.Asm (Str digit letter bQ dy)
section
def PR.Sz {α:Type} (sz:α→Nat) (x n:Nat) (p:PR α):Prop:=∀a m,p=.ok a m→sz a+n≤x+m
theorem PR.bind_sz {α β:Type}{sa:α→Nat}{sb:β→Nat}{x y n:Nat}{p:PR α}{f:α→Nat→PR β} (h:p.Sz sa x n) (h':∀a m,(f a m).Sz sb (sa a+y) m):(p.bind f).Sz sb (x+y) n:=by
 intro b m hb
 cases p with
 |ok a k=>
   have h1:=h a k rfl
   have h2:=h' a k b m hb
   omega
 |no k=>cases hb
variable {k n:Nat}{α:Type}{s:Str}{sa:α→Nat}
theorem PR.sz_no{x n m:Nat}:(PR.no m:PR α).Sz sa x n:=fun _ _ e=>by cases e
theorem PR.sz_ok{x n m:Nat}{a:α} (h:sa a+n≤x+m):(PR.ok a m).Sz sa x n:=fun b k e=>by cases e;exact h
theorem PR.Sz.of{x n y m:Nat}{p:PR α} (h:p.Sz sa x n) (hy:x+m≤y+n):p.Sz sa y m:=fun a k e=>by have:=h a k e;omega
def z0 {α:Type} (_:α):Nat:=0
theorem tG:∀(l m:List Ex),bB (l++m)=bB l+bB m
 |[],m=>by simp[bB]
 |e::l,m=>by simp only[A5,bB,tG l m];omega
theorem tH:∀(l m:List Stm),bG (l++m)=bG l+bG m
 |[],m=>by simp[bG]
 |e::l,m=>by simp only[A5,bG,tH l m];omega
section
variable {ts:List Tok}
theorem iC:(takeN ts k n).Sz (fun _=>1) 0 n:=fun a m h=>by have:=bt a m h;show 1+n≤0+m;omega
theorem bL {l:List Str}{n:Nat}:(bj ts l n).Sz (fun _=>0) 0 n:=fun a m h=>by have:=ay a m h;show 0+n≤0+m;omega
mutual
theorem dX:∀(k least n:Nat),(ci ts k least n).Sz szE 0 n
 |0,_,_=>by unfold ci;exact PR.sz_no
 |k+1,least,n=>by
   unfold ci
   exact PR.bind_sz (y:=0) (tK k n) fun a m=>tJ k least a m
theorem tJ:∀(k least:Nat) (left:Ex) (n:Nat),(dv ts k least left n).Sz szE (szE left) n
 |0,_,_,_=>by unfold dv;exact PR.sz_no
 |k+1,least,left,n=>by
   unfold dv
   split
   ·exact PR.sz_ok a6
   ·exact(PR.bind_sz (x:=0) (y:=szE left+1) (dX k _ (n+1)) fun b q=>(tJ k least _ q).of Ou).of a6
theorem tK:∀(k n:Nat),(da ts k n).Sz szE 0 n
 |0,_=>by unfold da;exact PR.sz_no
 |k+1,n=>by
   unfold da
   split
   ·exact PR.bind_sz (y:=0) iC fun a m=>PR.sz_ok Ou
   split
   ·exact(PR.bind_sz (x:=0) (y:=1) bL fun a m=>PR.sz_ok Ou).of (m:=n) (y:=0) (n:=n+1) a6
   split
   ·exact(PR.bind_sz (x:=0) (y:=0) (dX k 1 (n+1)) fun a m=>(PR.bind_sz (x:=0) (y:=szE a) bL fun b q=>PR.sz_ok (sa:=szE) a6).of a6).of (m:=n) (y:=0) (n:=n+1) a6
   split
   ·exact(PR.bind_sz (x:=0) (y:=1) (tK k (n+1)) fun a m=>PR.sz_ok Ou).of (m:=n) (y:=0) (n:=n+1) a6
   refine PR.bind_sz (x:=0) (y:=0) iC fun a m=>?_
   split
   ·exact(PR.bind_sz (x:=0) (y:=1) (dX k 1 (m+1)) fun a m=>(PR.bind_sz (x:=0) (y:=szE a+1) bL fun b q=>PR.sz_ok Ou).of a6).of (n:=m+1) a6
   split
   ·exact(PR.bind_sz (x:=0) (y:=1) (tL k (m+1)) fun a m=>PR.sz_ok Ou).of (n:=m+1) a6
   ·exact PR.sz_ok Ou
theorem tL:∀(k n:Nat),(dw ts k n).Sz bB 0 n
 |0,_=>by unfold dw;exact PR.sz_no
 |k+1,n=>by
   unfold dw
   split
   ·exact PR.sz_ok (by simp only[bB];omega)
   ·exact PR.bind_sz (y:=0) (dX k 1 n) fun a m=>(tM k [a] m).of (by simp only[bB];omega)
theorem tM:∀(k:Nat) (l:List Ex) (n:Nat),(dx ts k l n).Sz bB (bB l) n
 |0,_,_=>by unfold dx;exact PR.sz_no
 |k+1,l,n=>by
   unfold dx
   split
   ·exact(PR.bind_sz (x:=0) (y:=bB l) (dX k 1 (n+1)) fun a m=>(tM k (l++[a]) m).of (by rw[tG];simp only[bB];omega)).of a6
   ·exact(PR.bind_sz (x:=0) (y:=bB l) bL fun b q=>PR.sz_ok (sa:=bB) a6).of a6
end
theorem mS:(eA ts k n).Sz bB 0 n:=
 PR.bind_sz (x:=0) (y:=0) bL fun _ m=>(PR.bind_sz (x:=0) (y:=0) (dX k 1 m) fun e m=>(PR.bind_sz (x:=0) (y:=szE e) bL fun _ _=>PR.sz_ok (by simp only[bB];omega)).of a6).of a6
theorem xl:(dD ts k n).Sz szS 0 n:=by
 unfold dD
 refine PR.bind_sz (x:=0) (y:=0) iC fun t m=>((PR.bind_sz (x:=1) (y:=0) (sa:=szS) ?_ fun s q=>(PR.bind_sz (x:=0) (y:=szS s) bL fun _ _=>PR.sz_ok (sa:=szS) a6).of (m:=q) a6).of (n:=m) (m:=m) a6)
 split
 ·exact(PR.bind_sz (x:=0) (y:=1) (dX k 1 (m+1)) fun _ _=>PR.sz_ok OT).of a6
 split
 ·exact(PR.bind_sz (x:=0) (y:=1) (dX k 1 (m+1)) fun i _=>(PR.bind_sz (x:=0) (y:=szE i+1) bL fun _ q=>(PR.bind_sz (x:=0) (y:=szE i+1) (dX k 1 q) fun _ _=>PR.sz_ok OT).of a6).of a6).of a6
 split
 ·exact(PR.bind_sz (x:=0) (y:=1) (tL k (m+1)) fun _ _=>PR.sz_ok OW).of a6
 ·exact PR.sz_no
mutual
theorem Ae:∀(k n:Nat),(fh ts k n).Sz szS 0 n
 |0,_=>by unfold fh;exact PR.sz_no
 |k+1,n=>by
   unfold fh
   split
   ·exact(PR.bind_sz (x:=0) (y:=1) mS fun e _=>(PR.bind_sz (x:=0) (y:=bB e+1) bL fun _ _=>PR.sz_ok OW).of a6).of (n:=n+1) a6
   split
   ·split
    ·exact PR.sz_ok OT
    ·exact(PR.bind_sz (x:=0) (y:=1) (dX k 1 (n+1)) fun e _=>(PR.bind_sz (x:=0) (y:=szE e+1) bL fun _ _=>PR.sz_ok OT).of a6).of (n:=n+1) a6
   split
   ·refine(PR.bind_sz (x:=0) (y:=1) mS fun e m=>(PR.bind_sz (x:=0) (y:=bB e+1) (pJ k m) fun th q=>?_).of a6).of (n:=n+1) a6
    split
    ·exact(PR.bind_sz (x:=0) (y:=bG th+bB e+1) (pJ k (q+1)) fun _ _=>PR.sz_ok (by simp only[szS];omega)).of a6
    ·exact PR.sz_ok OW
   split
   ·exact(PR.bind_sz (x:=0) (y:=1) mS fun e m=>(PR.bind_sz (x:=0) (y:=bB e+1) (pJ k m) fun _ _=>PR.sz_ok OW).of a6).of (n:=n+1) a6
   ·exact xl
theorem pJ:∀(k n:Nat),(eJ ts k n).Sz bG 0 n
 |0,_=>by unfold eJ;exact PR.sz_no
 |k+1,n=>by
   unfold eJ
   exact PR.bind_sz (x:=0) (y:=0) bL fun _ m=>(mT k [] m).of (by simp only[bG];omega)
theorem mT:∀(k:Nat) (l:List Stm) (n:Nat),(cj ts k l n).Sz bG (bG l) n
 |0,_,_=>by unfold cj;exact PR.sz_no
 |k+1,l,n=>by
   unfold cj
   split
   ·exact PR.sz_ok a6
   ·exact(PR.bind_sz (x:=0) (y:=bG l) (Ae k n) fun a m=>(mT k _ m).of (by rw[tH];simp only[bG];omega)).of a6
end
theorem tN:∀{k:Nat}{l:List Fn}{n:Nat},(gA ts k l n).In ts.length n
 |0,_,_=>by unfold gA;exact PR.in_no
 |k+1,l,n=>by
   unfold gA
   split
   ·exact PR.bind_in wd fun _ _=>tN
   ·exact PR.in_here
theorem Af:(jY ts k n).In ts.length n:=PR.bind_in pI fun _ _=>PR.bind_in wd fun _ _=>PR.bind_in tN fun _ _=>PR.in_here
theorem mU:(dh ts k n).Sz List.length 0 n:=fun a m h=>by have:=uZ h;omega
theorem pK:∀{k:Nat}{l:List Str}{n:Nat},(bP ts k l n).Sz List.length l.length n
 |0,_,_=>by unfold bP;exact PR.sz_no
 |k+1,l,n=>by
   unfold bP
   split
   ·exact(PR.bind_sz (x:=0) (y:=l.length) (sa:=List.length) mU fun m q=>(PR.bind_sz (x:=0) (y:=m.length+l.length) bL fun _ _=>pK.of (by simp only[c9];omega)).of (m:=q) a6).of (n:=n+1) a6
   ·exact PR.sz_ok a6
def szF (f:Fn):Nat:=f.params.length+f.locals.length+bG f.body
theorem wi:(kW ts k n).Sz (fun f=>szF f+1) 0 n:=by
 unfold kW
 refine PR.bind_sz (x:=0) (y:=0) bL fun _ m=>(PR.bind_sz (x:=0) (y:=0) iC fun t m=>(PR.bind_sz (x:=0) (y:=1) bL fun _ m=>(PR.bind_sz (x:=0) (y:=1) (sa:=List.length) ?_ fun ps m=>(PR.bind_sz (x:=0) (y:=ps.length+1) bL fun _ m=>?_).of (n:=m) (m:=m) a6).of (n:=m) (m:=m) a6).of (m:=m) a6).of (m:=m) a6
 ·split
  ·exact mU
  ·exact PR.sz_ok (m:=m) a7
 ·have hb:∀v,((bj ts [[123]] v).bind fun _ m'=>(bP ts k [] m').bind fun ls m'=>(cj ts k [] m').bind fun b m'=>(PR.ok (Fn.mk t.text ps ls (decide (ae ts m=[119,111,114,100])) b) m')).Sz (fun f=>szF f+1) (ps.length+1) v:=fun v=>
   (PR.bind_sz (x:=0) (y:=ps.length+1) bL fun _ m'=>(PR.bind_sz (x:=0) (y:=ps.length+1) (pK (l:=[])) fun ls m'=>(PR.bind_sz (x:=0) (y:=ls.length+ps.length+1) (mT k [] m') fun b m'=>PR.sz_ok (by simp only[szF];omega)).of (m:=m') a6).of (m:=m') a6).of a6
  split
  ·exact(hb (m+1)).of a6
  ·exact(hb m).of a6
theorem pL:∀{k:Nat}{l:List Str}{ars:List (Str×Int)}{n:Nat},(fN ts k l ars n).Sz (fun h=>h.1.length+h.2.length) (l.length+ars.length) n
 |0,_,_,_=>by unfold fN;exact PR.sz_no
 |k+1,l,ars,n=>by
   unfold fN
   split
   ·exact(PR.bind_sz (x:=0) (y:=l.length+ars.length) (sa:=List.length) mU fun m q=>(PR.bind_sz (x:=0) (y:=m.length+l.length+ars.length) bL fun _ _=>pL.of (by simp only[c9];omega)).of (m:=q) a6).of (n:=n+1) a6
   split
   ·exact(PR.bind_sz (x:=0) (y:=l.length+ars.length) iC fun t m=>(PR.bind_sz (x:=0) (y:=l.length+ars.length+1) bL fun _ m=>(PR.bind_sz (x:=0) (y:=l.length+ars.length+1) iC fun z m=>(PR.bind_sz (x:=0) (y:=l.length+ars.length+2) bL fun _ m=>(PR.bind_sz (x:=0) (y:=l.length+ars.length+2) bL fun _ m=>
     pL.of (m:=m) (by simp only[c9,G0];omega)).of (m:=m) a6).of (m:=m) a6).of (m:=m) a6).of (m:=m) a6).of (n:=n+1) a6
   ·exact PR.sz_ok Oa
def rI (l:List Fn):Nat:=l.length+(l.map szF).sum
theorem Ag (l:List Fn) (f:Fn):rI (l++[f])=rI l+szF f+1:=by simp[rI];omega
theorem tO:∀{k:Nat}{l:List Fn}{n:Nat},(gA ts k l n).Sz rI (rI l) n
 |0,_,_=>by unfold gA;exact PR.sz_no
 |k+1,l,n=>by
   unfold gA
   split
   ·exact(PR.bind_sz (x:=0) (y:=rI l) wi fun f m=>tO.of (m:=m) (by rw[Ag];omega)).of (m:=n) a6
   ·exact PR.sz_ok a6
def szP (p:Prog):Nat:=p.vars.length+p.arrays.length+rI p.funcs
theorem Ah:(jY ts k n).Sz szP 0 n:=
 (PR.bind_sz (x:=0) (y:=0) pL fun h m=>(PR.bind_sz (x:=0) (y:=h.1.length+h.2.length) wi fun f m=>(PR.bind_sz (x:=szF f+1) (y:=h.1.length+h.2.length) (tO.of (m:=m) (by simp[rI];omega)) fun fs m=>PR.sz_ok (by simp only[szP];omega)).of (m:=m) a6).of (m:=m) a6).of (m:=n) a7
end
theorem va{kd v:Nat}{t:Str} (h:firstT s=.ok (kd,t,v)):v≤4294967295:=by
 unfold firstT at h
 split at h
 ·cases h
 ·split at h
  ·split at h
   ·cases h
   ·cases h;omega
  split at h
  ·split at h
   ·split at h
    ·rename_i hx;cases h;omega
    ·cases h
   ·cases h
  split at h
  ·split at h
   ·cases h
   split at h <;> (cases h;omega)
  ·split at h
   ·cases h;omega
   ·cases h
theorem ko:∀{n k:Nat}{s:Str}{l:List Tok}{p:Nat},dU n k s=(.ok l,p)→l.length≤n∧∀t∈l,t.num≤4294967295
 |0,_,_,_,_,h=>by unfold dU at h;cases h;simp
 |_+1,_,[],_,_,h=>by unfold dU at h;cases h;simp
 |n+1,k,c::r,l,p,h=>by
   unfold dU at h
   split at h
   ·have:=ko h;exact⟨a6,this.2⟩
   split at h
   ·have:=ko h;exact⟨a6,this.2⟩
   split at h
   ·cases h
   ·rename_i kd t v hf
    split at h
    ·rename_i l' p' hl
     cases h
     have:=ko hl
     refine⟨by simp;omega,fun x hx=>?_⟩
     rcases s7.1 hx with rfl|hx
     ·exact va hf
     ·exact this.2 x hx
    ·cases h
theorem Ai:(mO s).1.length≤20001∧∀t∈(mO s).1,t.num≤4294967295:=by
 unfold mO
 split
 ·simp
 ·split
  ·rename_i h
   have:=ko h
   exact⟨by simp only;omega,this.2⟩
  ·simp
def pe (ts:List Tok) (fin n:Nat):Nat:=match ts[n]? with|some t=>t.place|none=>fin
def Ls (s:Str):R Prog×Nat:=
 if (mO s).2.2≠0 then(.err (mO s).2.2,(mO s).2.1)
 else match jY (mO s).1 (4*(mO s).1.length+7) 0 with
  |.ok p m=>if m<(mO s).1.length then(.err 3,pe (mO s).1 s.length m) else(.ok p,0)
  |.no m=>(.err 3,pe (mO s).1 s.length m)
theorem DZ{k m:Nat}{p:Prog} (h:jY (mO s).1 k 0=.ok p m):szP p≤20001:=by
 have h1:=Ah p m h
 have h2:m≤max 0 (mO s).1.length:=Af p m h
 have h3:=Ai (s:=s)
 omega
end
end
end Go.Src
