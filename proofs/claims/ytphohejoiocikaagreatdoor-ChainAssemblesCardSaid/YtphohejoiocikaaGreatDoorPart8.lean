/- A part of the proof; no conditions. -/
import Derived.Test.YtphohejoiocikaaGreatDoorPart7
set_option linter.unusedSimpArgs false
set_option linter.unusedVariables false
set_option maxHeartbeats 64000000
set_option maxRecDepth 100000
namespace Go.Am
section
theorem nu {P:Prop} (h:P:=by (try simp only[upd]);(repeat rw[if_neg (by omega)])):P:=h
theorem nt {P Q:Prop} (q:Q) (h:P=Q:=by (try simp only[upd]);(repeat rw[if_neg (by omega)])):P:=h▸q
theorem fi {ob1 ob2:Obs}{B B2:Nat} (hf:∀i,B≤i→ob1 i=none) (h:∀i,B2≤i→B≤i∧ob2 i=ob1 i:=by (intro i hi;refine⟨by omega,?_⟩;(try simp only[upd]);(repeat rw[if_neg (by omega)]))):∀i,B2≤i→ob2 i=none:=fun i hi=>(h i hi).2.trans (hf i (h i hi).1)
end
end Go.Am
namespace Go.Proofs.YtphohejoiocikaaGreatDoor
section
open Go Go.Am Go.Asm
open Go.Src (PR aY ae takeN bj)
section
def rdC (ts:List Src.Tok) (n fin:Nat):List C:=[.d (bN ts),.d (.int .i64 (n:Nat)),.d (.int .i64 (fin:Nat))]
def pe (ts:List Src.Tok) (fin n:Nat):Nat:=match ts[n]? with|some t=>t.place|none=>fin
variable {B:Nat}{ts:List Src.Tok}{g:Nat→Nat}{ob ob1:Obs}
theorem lL{n:Nat}{t:Src.Tok} (h:ts[n]? = some t):(ts.map fB)[n]? = some [.int .i64 (t.kind:Nat),.str t.text,.int .u32 (t.num:Nat),.int .i64 (t.place:Nat)]:=by rw[l8,h];rfl
def OkR {α:Type} (ts:List Src.Tok) (fin:Nat) (p:PR α) (enc:α→AV) (g:Nat→Nat) (ob:Obs) (r:AV) (g':Nat→Nat) (ob':Obs):Prop:=
 g'=g∧∃a m,p=.ok a m∧r=enc a∧ob'=upd ob 125 (some (rdC ts m fin))
structure InF (B:Nat) (g:Nat→Nat) (ob:Obs) (g':Nat→Nat) (ob':Obs):Prop where
 same:∀i,i<B→i≠125→g' i=g i∧ob' i=ob i
 rd:g' 125=g 125
theorem InF.refl{ob:Obs}:InF B g ob g ob:=⟨fun _ _ _=>⟨rfl,rfl⟩,rfl⟩
theorem InF.go{g g1 g2:Nat→Nat}{ob ob1 ob2:Obs} (h:InF B g ob g1 ob1) (q:(∀i,i<B→i≠125→g2 i=g1 i∧ob2 i=ob1 i)∧g2 125=g1 125:=by (refine⟨fun i hi h5=>⟨?_,?_⟩,?_⟩ <;> ((try simp only[upd]);(repeat rw[if_neg (by omega)]);first|done|rfl))):InF B g ob g2 ob2:=
 ⟨fun i hi h5=>⟨(q.1 i hi h5).1.trans (h.same i hi h5).1,(q.1 i hi h5).2.trans (h.same i hi h5).2⟩,q.2.trans h.rd⟩
theorem InF.put {B j:Nat}{g g1:Nat→Nat}{y:Option (List C)} (h:InF B g ob g1 ob1) (hj:B≤j):InF B g ob g1 (upd ob1 j y):=⟨fun i hi h5=>⟨(h.same i hi h5).1,by simp only[upd];rw[if_neg a6];exact(h.same i hi h5).2⟩,h.rd⟩
theorem InF.ends {B n fin:Nat}{g g1:Nat→Nat} (h:InF B g ob g1 ob1) (ho:ob1 125=some (rdC ts n fin)):xV B [125] g ob g1 ob1∧gB [125] g g1=g∧fG [125] ob ob1=upd ob 125 (some (rdC ts n fin)):=by
 refine⟨⟨fun i hi h5=>h.same i hi (by simpa using h5),fun i hi cells hc c hcc=>?_⟩,sc h.rd,by rw[sd,ho]⟩
 obtain rfl:=C8.1 hi
 rw[ho] at hc
 cases hc
 simp only[rdC,s7,u7,E0] at hcc
 rcases hcc with rfl|rfl|rfl <;> trivial
theorem InF.ret {α:Type}{B n fin:Nat}{ob:Obs}{p:PR α}{enc:α→AV}{s:St}{avs rs:List AV}{a:α} (h:InF B g ob s.gen s.obj) (ho:s.obj 125=some (rdC ts n fin)) (hp:p=.ok a n) (hf:fg B s avs rs) (hr:pack rs=enc a):qY B [125] g ob (OkR ts fin p enc g ob) s avs:=by
 obtain⟨h1,h2,h3⟩:=h.ends ho
 exact⟨h1,rs,hf,h2,a,n,hp,hr,h3⟩
section
variable {b₀:Bs}{rd:Option Nat}{Φ:St→Am.Loc→List Deferred→World→Prop}
end
theorem pg {s:St} (xs:List D):iR s (.agg (xs.map .d)) (.agg ((xs.map fV).map .d)):=by
 refine⟨xs.map fV,a7,fun i c hc=>?_,rfl⟩
 rw[l8] at hc ⊢
 cases hq:xs[i]? with
 |none=>rw[hq] at hc;cases hc
 |some x=>rw[hq] at hc;cases hc;exact⟨_,rfl,.d x⟩
theorem nlo (hB:200≤B) (k:Nat):(125=B+k)=False:=by simp;omega
theorem nhi (hB:200≤B) (k:Nat):(B+k=125)=False:=by simp;omega
end
end
section
open Go Go.Am Go.Asm
open Go.Src (PR aY ae takeN bj Ex)
def dl (l:List Str):List C:=l.map fun s=>.d (.str s)
end
end Go.Proofs.YtphohejoiocikaaGreatDoor
namespace Go.Src
section
open Go.Asm (Str)
section
def PR.In {α:Type} (L n:Nat) (p:PR α):Prop:=∀a m,p=.ok a m→m≤max n L
theorem PR.bind_in {α β:Type}{L n:Nat}{p:PR α}{f:α→Nat→PR β} (h:p.In L n) (h':∀a m,(f a m).In L m):(p.bind f).In L n:=by
 intro b m hb
 cases p with
 |ok a k=>
   have h1:=h a k rfl
   have h2:=h' a k b m hb
   omega
 |no k=>cases hb
variable {k n:Nat}{α:Type}
theorem PR.in_ok{L n m:Nat}{a:α} (h:m≤max n L):(PR.ok a m).In L n:=fun b k e=>by cases e;exact h
theorem PR.in_no{L n m:Nat}:(PR.no m:PR α).In L n:=fun _ _ e=>by cases e
theorem PR.In.up{L n:Nat}{p:PR α} (h:p.In L (n+1)) (hn:n<L):p.In L n:=fun a m e=>by have:=h a m e;omega
theorem PR.in_here{L n:Nat}{a:α}:(PR.ok a n).In L n:=PR.in_ok a6
section
variable {ts:List Tok}
theorem aH {n:Nat}{s:Str} (h:ae ts n=s) (hs:s≠[]):n<ts.length:=by
 unfold ae at h
 split at h
 ·rename_i t ht
  exact(j0.1 ht).1
 ·exact absurd h.symm hs
theorem Cx {n k:Nat} (h:aY ts n=k) (hk:k≠0):n<ts.length:=by
 unfold aY at h
 split at h
 ·rename_i t ht
  exact(j0.1 ht).1
 ·exact absurd h.symm hk
theorem eX:(takeN ts k n).In ts.length n:=by
 intro a m h
 unfold takeN at h
 split at h
 ·rename_i t ht
  have:=(j0.1 ht).1
  split at h
  ·cases h;omega
  ·cases h
 ·cases h
theorem bA:∀{l:List Str}{n:Nat},(∀s∈l,s≠[])→(bj ts l n).In ts.length n
 |[],n,_=>PR.in_here
 |s::l,n,h=>by
   unfold bj
   split
   ·rename_i hp
    exact(bA (fun x hx=>h x OJ)).up (aH hp (h s a7))
   ·exact PR.in_no
mutual
theorem dW:∀(k least n:Nat),(ci ts k least n).In ts.length n
 |0,_,_=>by unfold ci;exact PR.in_no
 |k+1,least,n=>by
   unfold ci
   exact PR.bind_in (tB k n) fun a m=>tA k least a m
theorem tA:∀(k least:Nat) (left:Ex) (n:Nat),(dv ts k least left n).In ts.length n
 |0,_,_,_=>by unfold dv;exact PR.in_no
 |k+1,least,left,n=>by
   unfold dv
   split
   ·exact PR.in_here
   ·rename_i h
    by_cases hn:n<ts.length
    ·exact(PR.bind_in (dW k _ (n+1)) fun b q=>tA k least _ q).up hn
    ·intro a m e
     have h1:=PR.bind_fwdE (aU (ts:=ts) k ((cG (ae ts n)).2.2+1) (n+1)).le (fun b q=>mP k least _ q) a m e
     exfalso
     have hex:∀(k least n:Nat),ts.length≤n→∃q,ci ts k least n=.no q:=by
      intro k least n hl
      cases k with
      |zero=>exact⟨n,by unfold ci;rfl⟩
      |succ k=>
        have:∃q,da ts k n=.no q:=by
         cases k with
         |zero=>exact⟨n,by unfold da;rfl⟩
         |succ k=>
           have hg:ts[n]? = none:=v8 hl
           refine⟨n,?_⟩
           unfold da
           have h1:aY ts n=0:=by unfold aY;rw[hg]
           have h2:ae ts n=[]:=by unfold ae;rw[hg]
           have h3:takeN ts 1 n=.no n:=by unfold takeN;rw[hg]
           rw[h1,h2,h3]
           simp[aW]
        obtain⟨q,hq⟩:=this
        exact⟨q,by unfold ci;rw[hq];rfl⟩
     obtain⟨q,hq⟩:=hex k ((cG (ae ts n)).2.2+1) (n+1) a6
     rw[hq] at e
     cases e
theorem tB:∀(k n:Nat),(da ts k n).In ts.length n
 |0,_=>by unfold da;exact PR.in_no
 |k+1,n=>by
   unfold da
   split
   ·exact PR.bind_in eX fun a m=>PR.in_here
   split
   ·rename_i h
    exact(PR.bind_in (bA (by simp[aW,aT])) fun a m=>PR.in_here).up (aH h a7)
   split
   ·rename_i h
    exact(PR.bind_in (dW k 1 (n+1)) fun a m=>PR.bind_in (bA Oy) fun b q=>PR.in_here).up (aH h Oq)
   split
   ·rename_i h
    exact(PR.bind_in (tB k (n+1)) fun a m=>PR.in_here).up (aH h a7)
   refine PR.bind_in eX fun a m=>?_
   split
   ·rename_i h
    exact(PR.bind_in (dW k 1 (m+1)) fun a m=>PR.bind_in (bA a7) fun b q=>PR.in_here).up (aH h a7)
   split
   ·rename_i h
    exact(PR.bind_in (tC k (m+1)) fun a m=>PR.in_here).up (aH h Oq)
   ·exact PR.in_here
theorem tC:∀(k n:Nat),(dw ts k n).In ts.length n
 |0,_=>by unfold dw;exact PR.in_no
 |k+1,n=>by
   unfold dw
   split
   ·rename_i h
    exact PR.in_here.up (aH h Oy)
   ·exact PR.bind_in (dW k 1 n) fun a m=>tD k [a] m
theorem tD:∀(k:Nat) (l:List Ex) (n:Nat),(dx ts k l n).In ts.length n
 |0,_,_=>by unfold dx;exact PR.in_no
 |k+1,l,n=>by
   unfold dx
   split
   ·rename_i h
    exact(PR.bind_in (dW k 1 (n+1)) fun a m=>tD k (l++[a]) m).up (aH h OX)
   ·exact PR.bind_in (bA Oy) fun b q=>PR.in_here
end
theorem mR:(eA ts k n).In ts.length n:=PR.bind_in (bA Oq) fun _ m=>PR.bind_in (dW k 1 m) fun _ m=>PR.bind_in (bA Oy) fun _ _=>PR.in_here
theorem xk:(dD ts k n).In ts.length n:=by
 unfold dD
 refine PR.bind_in eX fun t m=>PR.bind_in ?_ fun s q=>PR.bind_in (bA OC) fun _ _=>PR.in_here
 split
 ·rename_i h
  exact(PR.bind_in (dW k 1 (m+1)) fun _ _=>PR.in_here).up (aH h a7)
 split
 ·rename_i h
  exact(PR.bind_in (dW k 1 (m+1)) fun _ _=>PR.bind_in (bA a7) fun _ q=>PR.bind_in (dW k 1 q) fun _ _=>PR.in_here).up (aH h a7)
 split
 ·rename_i h
  exact(PR.bind_in (tC k (m+1)) fun _ _=>PR.in_here).up (aH h Oq)
 ·exact PR.in_no
mutual
theorem pG:∀(k n:Nat),(fh ts k n).In ts.length n
 |0,_=>by unfold fh;exact PR.in_no
 |k+1,n=>by
   unfold fh
   split
   ·rename_i h
    exact(PR.bind_in mR fun _ _=>PR.bind_in (bA OC) fun _ _=>PR.in_here).up (aH h a7)
   split
   ·rename_i h
    split
    ·rename_i h2
     have:=aH h2 OC
     exact PR.in_ok a6
    ·exact(PR.bind_in (dW k 1 (n+1)) fun _ _=>PR.bind_in (bA OC) fun _ _=>PR.in_here).up (aH h a7)
   split
   ·rename_i h
    refine(PR.bind_in mR fun _ m=>PR.bind_in (pH k m) fun _ q=>?_).up (aH h a7)
    split
    ·rename_i h2
     exact(PR.bind_in (pH k (q+1)) fun _ _=>PR.in_here).up (aH h2 a7)
    ·exact PR.in_here
   split
   ·rename_i h
    exact(PR.bind_in mR fun _ m=>PR.bind_in (pH k m) fun _ _=>PR.in_here).up (aH h a7)
   ·exact xk
theorem pH:∀(k n:Nat),(eJ ts k n).In ts.length n
 |0,_=>by unfold eJ;exact PR.in_no
 |k+1,n=>by
   unfold eJ
   exact PR.bind_in (bA a7) fun _ m=>km k [] m
theorem km:∀(k:Nat) (l:List Stm) (n:Nat),(cj ts k l n).In ts.length n
 |0,_,_=>by unfold cj;exact PR.in_no
 |k+1,l,n=>by
   unfold cj
   split
   ·rename_i h
    exact PR.in_here.up (aH h a7)
   ·exact PR.bind_in (pG k n) fun a m=>km k _ m
end
theorem ny:∀{k:Nat}{l:List Str}{n:Nat},(cb ts k l n).In ts.length n
 |0,_,_=>by unfold cb;exact PR.in_no
 |k+1,l,n=>by
   unfold cb
   split
   ·rename_i h
    exact(PR.bind_in eX fun _ _=>ny).up (aH h OX)
   ·exact PR.in_here
theorem kn:(dh ts k n).In ts.length n:=PR.bind_in eX fun _ _=>ny
theorem mg:∀{k:Nat}{l:List Str}{n:Nat}{l':List Str}{m:Nat},cb ts k l n=.ok l' m→l'.length+n≤l.length+m
 |0,_,_,_,_,h=>by unfold cb at h;cases h
 |k+1,l,n,l',m,h=>by
   unfold cb at h
   split at h
   ·cases ht:takeN ts 1 (n+1) with
    |no q=>rw[ht] at h;cases h
    |ok t q=>
      rw[ht,PR.bind_ok] at h
      have h1:=bt (ts:=ts) t q ht
      have h2:=mg h
      rw[c9,G0] at h2
      omega
   ·cases h;omega
theorem uZ{l:List Str}{m:Nat} (h:dh ts k n=.ok l m):l.length+n≤m:=by
 unfold dh at h
 cases ht:takeN ts 1 n with
 |no q=>rw[ht] at h;cases h
 |ok t q=>
   rw[ht,PR.bind_ok] at h
   have h1:=bt (ts:=ts) t q ht
   have h2:=mg h
   rw[G0] at h2
   omega
theorem kX:∀{k:Nat}{l:List Str}{n:Nat},(bP ts k l n).In ts.length n
 |0,_,_=>by unfold bP;exact PR.in_no
 |k+1,l,n=>by
   unfold bP
   split
   ·rename_i h
    exact(PR.bind_in kn fun _ _=>PR.bind_in (bA OC) fun _ _=>kX).up (aH h a7)
   ·exact PR.in_here
theorem wd:(kW ts k n).In ts.length n:=by
 unfold kW
 refine PR.bind_in (bA a7) fun _ m=>PR.bind_in eX fun t m=>PR.bind_in (bA Oq) fun _ m=>PR.bind_in ?_ fun ps m=>PR.bind_in (bA Oy) fun _ m=>?_
 ·split
  ·exact kn
  ·exact PR.in_here
 ·have hb:∀v,((bj ts [[123]] v).bind fun _ m'=>(bP ts k [] m').bind fun ls m'=>(cj ts k [] m').bind fun b m'=>(PR.ok (Fn.mk t.text ps ls (decide (ae ts m=[119,111,114,100])) b) m')).In ts.length v:=fun v=>
   PR.bind_in (bA a7) fun _ m'=>PR.bind_in kX fun ls m'=>PR.bind_in (km k [] m') fun b m'=>PR.in_here
  split
  ·rename_i h
   exact(hb (m+1)).up (aH h a7)
  ·exact hb m
theorem pI:∀{k:Nat}{l:List Str}{ars:List (Str×Int)}{n:Nat},(fN ts k l ars n).In ts.length n
 |0,_,_,_=>by unfold fN;exact PR.in_no
 |k+1,l,ars,n=>by
   unfold fN
   split
   ·rename_i h
    exact(PR.bind_in kn fun _ _=>PR.bind_in (bA OC) fun _ _=>pI).up (aH h a7)
   split
   ·rename_i h
    exact(PR.bind_in eX fun _ _=>PR.bind_in (bA a7) fun _ _=>PR.bind_in eX fun _ _=>PR.bind_in (bA a7) fun _ _=>PR.bind_in (bA OC) fun _ _=>pI).up (aH h a7)
   ·exact PR.in_here
end
end
end
end Go.Src
namespace Go.Proofs.YtphohejoiocikaaGreatDoor
section
open Go Go.Am Go.Asm
open Go.Src (PR aY ae takeN bj Ex Stm ci dv da dw dx)
section
section
variable {b₀:Bs}{rd:Option Nat}{Φ:St→Am.Loc→List Deferred→World→Prop}{B0:Nat}{Ψ:dL}{o:Oper}{s:St}{K:St→Prop}{k:Box K}{args:Array Operand}{tys:Array TypeId}
end
instance:Inhabited Ex:=⟨.mk 0 0 0 [] []⟩
theorem vw (s:Str):(Src.cG s).2.2≤9:=by
 have h:∀(c:Prop) [Decidable c] (x y:Int×Int×Nat),x.2.2≤9→y.2.2≤9→(if c then x else y).2.2≤9:=fun c _ x y hx hy=>by split <;> assumption
 unfold Src.cG
 repeat (refine h _ _ _ (by decide) ?_)
 decide
mutual
def exD:Ex→List D
 |.mk kind op num name kids=>[.int .i64 kind,.int .i64 op,.int .u32 num,.str name,.sl (kQ kids)]
def kQ:List Ex→List (List D)
 |[]=>[]
 |e::l=>exD e::kQ l
end
theorem bw:∀l:List Ex,kQ l=l.map exD
 |[]=>by simp[kQ]
 |e::l=>by simp[kQ,bw l]
theorem aK (e:Ex):(exD e).length=5:=by cases e;simp[exD]
def exV (e:Ex):AV:=.agg ((exD e).map .d)
def df (l:List Ex):AV:=.one (.d (.sl (l.map exD)))
def exC (l:List Ex):List C:=l.flatMap fun a=>(exD a).map .d
theorem vK (l:List Ex):(exC l).length=l.length*5:=by
 induction l with
 |nil=>rfl
 |cons a l ih=>simp only[exC,y7,c9,b7,aK,e8] at ih ⊢;omega
theorem nS (e:Ex):exC [e]=(exD e).map .d:=by simp[exC]
theorem BP (l m:List Ex):exC (l++m)=exC l++exC m:=by simp[exC]
theorem pV {B:Nat}{s:St}{a b c d:D}{c5:C}{x5:D} (h:gL (B≤·) s c5 x5):fg B s [.agg [.d a,.d b,.d c,.d d,c5]] [.agg [.d a,.d b,.d c,.d d,.d x5]]:=
 ⟨_,_,rfl,.agg (xs:=[a,b,c,d,x5]) rfl (fun i e he=>by
  match i,he with
  |0,he=>cases he;exact⟨_,rfl,.d _⟩
  |1,he=>cases he;exact⟨_,rfl,.d _⟩
  |2,he=>cases he;exact⟨_,rfl,.d _⟩
  |3,he=>cases he;exact⟨_,rfl,.d _⟩
  | 4,he=>cases he;exact⟨_,rfl,h⟩),rfl⟩
theorem kh {B id g n:Nat}{s:St}{l:List Ex} (hid:B≤id) (hg:s.gen id=g) (ho:s.obj id=some (exC l)) (hn:l.length=n):gL (B≤·) s (.osl id g 5 0 n) (.sl (kQ l)):=by
 rw[bw]
 exact eq hid hg l exD ho rfl (fun a _=>aK a) hn
end
theorem vL {B id g n:Nat}{s:St}{l:List Ex} (hid:B≤id) (hg:s.gen id=g) (ho:s.obj id=some (exC l)) (hn:l.length=n):fg B s [.one (.osl id g 5 0 n)] [df l]:=
 ⟨_,_,rfl,.one (by have:=kh (B:=B) hid hg ho hn;rwa [bw] at this),rfl⟩
end
section
open Go Go.Am Go.Asm
open Go.Src (PR aY ae takeN bj Ex Stm ci dv da dw dx eA dD dh cb)
def jR (l:List Str):AV:=.one (.d (.sl (l.map fun s=>[.str s])))
theorem mF (l:List Str):(dl l).length=l.length:=b7 _
theorem sT {B id g n:Nat}{s:St}{l:List Str} (hid:B≤id) (hg:s.gen id=g) (ho:s.obj id=some (dl l)) (hn:l.length=n):fg B s [.one (.osl id g 1 0 n)] [jR l]:=
 ⟨_,_,rfl,.one (eq hid hg l (fun s=>[.str s]) ho OV (fun _ _=>rfl) hn),rfl⟩
end
section
open Go Go.Am Go.Asm
open Go.Src (PR aY ae takeN bj Ex Stm ci dv da dw dx eA dD dh fh eJ cj)
mutual
def smD:Stm→List D
 |.mk kind name e th el=>[.int .i64 kind,.str name,.sl (kQ e),.sl (nG th),.sl (nG el)]
def nG:List Stm→List (List D)
 |[]=>[]
 |s::l=>smD s::nG l
end
theorem dR:∀l:List Stm,nG l=l.map smD
 |[]=>by simp[nG]
 |e::l=>by simp[nG,dR l]
theorem eQ (e:Stm):(smD e).length=5:=by cases e;simp[smD]
def smV (e:Stm):AV:=.agg ((smD e).map .d)
def dM (l:List Stm):AV:=.one (.d (.sl (l.map smD)))
def smC (l:List Stm):List C:=l.flatMap fun a=>(smD a).map .d
theorem vM (l:List Stm):(smC l).length=l.length*5:=by
 induction l with
 |nil=>rfl
 |cons a l ih=>simp only[smC,y7,c9,b7,eQ,e8] at ih ⊢;omega
theorem vN (e:Stm):smC [e]=(smD e).map .d:=by simp[smC]
theorem vO (l m:List Stm):smC (l++m)=smC l++smC m:=by simp[smC]
theorem vP {B id g n:Nat}{s:St}{l:List Stm} (hid:B≤id) (hg:s.gen id=g) (ho:s.obj id=some (smC l)) (hn:l.length=n):fg B s [.one (.osl id g 5 0 n)] [dM l]:=
 ⟨_,_,rfl,.one (eq hid hg l smD ho rfl (fun a _=>eQ a) hn),rfl⟩
theorem lM {B:Nat}{s:St}{a b:D}{c3 c4 c5:C}{x3 x4 x5:D} (h3:gL (B≤·) s c3 x3) (h4:gL (B≤·) s c4 x4) (h5:gL (B≤·) s c5 x5):fg B s [.agg [.d a,.d b,c3,c4,c5]] [.agg [.d a,.d b,.d x3,.d x4,.d x5]]:=
 ⟨_,_,rfl,.agg (xs:=[a,b,x3,x4,x5]) rfl (fun i e he=>by
  match i,he with
  |0,he=>cases he;exact⟨_,rfl,.d _⟩
  |1,he=>cases he;exact⟨_,rfl,.d _⟩
  |2,he=>cases he;exact⟨_,rfl,h3⟩
  |3,he=>cases he;exact⟨_,rfl,h4⟩
  | 4,he=>cases he;exact⟨_,rfl,h5⟩),rfl⟩
end
end Go.Proofs.YtphohejoiocikaaGreatDoor
namespace Go.Am
section
theorem jQ {P:Program}{rd:Option Nat}{b₀:Bs}{Φ:St→Loc→List Deferred→World→Prop}{B0:Nat}{Ψ:dL}{B:(Exit→St→Prop)→St→Prop}{b:Box B}{Q:Exit→St→Prop}{q:Box Q}{s:St} (s₁:St) (hv:al s s₁) (I:Nat→St→Prop) (n:Nat) (h0:I n s₁)
  (hr:∀n f g ob,I n ⟨f,g,ob⟩→B (gD (bx fun s'=>∃n' s₁,n'<n∧(spF P rd b₀ Φ B0 Ψ).vs s' s₁∧I n' s₁) q) ⟨f,g,ob⟩):nb (spF P rd b₀ Φ B0 Ψ) b q s:=
 ⟨I,⟨n,s₁,hv,h0⟩,fun n s hs=>hr n s.f s.gen s.obj hs⟩
end
end Go.Am
namespace Go.Proofs.YtphohejoiocikaaGreatDoor
section
open Go Go.Am Go.Asm
open Go.Src (PR aY ae takeN bj Ex Stm dh cj bP kW)
def fnD (f:Src.Fn):List D:=[.str f.name,.sl (f.params.map fun s=>[.str s]),.sl (f.locals.map fun s=>[.str s]),.bool f.word,.sl (f.body.map smD)]
theorem BL (f:Src.Fn):(fnD f).length=5:=rfl
def fnV (f:Src.Fn):AV:=.agg ((fnD f).map .d)
theorem vI {P:Nat→Prop}{s:St}{id g n:Nat}{l:List Str} (hid:P id) (hg:s.gen id=g) (ho:s.obj id=some (dl l)) (hn:l.length=n):gL P s (.osl id g 1 0 n) (.sl (l.map fun s=>[.str s])):=
 eq hid hg l (fun s=>[.str s]) ho OV (fun _ _=>rfl) hn
theorem vJ (l:List Str):((l.map fun s=>([.str s]:List D)).flatten).map C.d=dl l:=by
 unfold dl
 induction l with
 |nil=>rfl
 |cons a l ih=>simpa using ih
end
section
open Go Go.Am Go.Asm
open Go.Src (PR aY ae takeN bj Ex Stm dh cj bP kW fN gA jY)
section
def arD (a:Str×Int):List D:=[.str a.1,.int .i64 a.2]
def rh (l:List (Str×Int)):List C:=l.flatMap fun a=>(arD a).map .d
theorem zg (l:List (Str×Int)):(rh l).length=l.length*2:=by
 induction l with
 |nil=>rfl
 |cons a l ih=>simp only[rh,y7,c9,b7,arD,e8,n9] at ih ⊢;omega
def fnC (l:List Src.Fn):List C:=l.flatMap fun a=>(fnD a).map .d
theorem BM (l:List Src.Fn):(fnC l).length=l.length*5:=by
 induction l with
 |nil=>rfl
 |cons a l ih=>simp only[fnC,y7,c9,b7,BL,e8] at ih ⊢;omega
theorem BN (f:Src.Fn):fnC [f]=(fnD f).map .d:=by simp[fnC]
theorem BO (l m:List Src.Fn):fnC (l++m)=fnC l++fnC m:=by simp[fnC]
def qw (p:Src.Prog):List D:=[.sl (p.vars.map fun s=>[.str s]),.sl (p.arrays.map arD),.sl (p.funcs.map fnD)]
def cz (p:Src.Prog):AV:=.agg ((qw p).map .d)
variable {P:Nat→Prop}{id g n:Nat}
theorem Fq{s:St}{l:List (Str×Int)} (hid:P id) (hg:s.gen id=g) (ho:s.obj id=some (rh l)) (hn:l.length=n):gL P s (.osl id g 2 0 n) (.sl (l.map arD)):=
 eq hid hg l arD ho rfl (fun _ _=>rfl) hn
theorem Jv{s:St}{l:List Src.Fn} (hid:P id) (hg:s.gen id=g) (ho:s.obj id=some (fnC l)) (hn:l.length=n):gL P s (.osl id g 5 0 n) (.sl (l.map fnD)):=
 eq hid hg l fnD ho rfl (fun _ _=>rfl) hn
instance:Inhabited Src.Fn:=⟨⟨[],[],[],false,[]⟩⟩
end
end
end Go.Proofs.YtphohejoiocikaaGreatDoor
namespace Go.Src
section
open Go.Asm (Str letter bQ)
def bc (s:Str):Bool:=decide (s≠[]∧s.length≤20∧s.head?.any letter=true∧s.takeWhile bQ=s∧s∉cE)
def ai (named:Bool) (s:Str):Bool:=if named then bc s else decide (s=[])
def ba (kind op num:Int) (name:Str) (n:Nat):Bool:=
 if kind=1 then decide (op=0) && ai false name && decide (n=0)
 else if kind=2 then decide (op=0∧num=0) && ai true name && decide (n=0)
 else if kind=3 then decide (op=0∧num=0) && ai true name && decide (n=1)
 else if kind=4 then decide (op=0∧num=0) && ai true name && decide (n≤6)
 else if kind=5 then decide (op=0∧num=0) && ai false name && decide (n=0)
 else if kind=6 then decide ((4≤op∧op≤15)∧num=0) && ai false name && decide (n=2)
 else if kind=7 then decide (op=0∧num=0) && ai false name && decide (n=1)
 else if kind=8∨kind=9 then decide (op=0∧num=0) && ai false name && decide (n=2)
 else false
mutual
def gT (lv:Nat):Ex→Bool
 |.mk kind op num name kids=>decide (lv≤24)&&(ba kind op num name kids.length&&bf (lv+1) kids)
def bf (lv:Nat):List Ex→Bool
 |[]=>true
 |e::l=>gT lv e&&bf lv l
end
def bK (kind:Int) (name:Str) (n nt ne:Nat):Bool:=
 if kind=1 then ai true name && decide (n=1∧nt=0∧ne=0)
 else if kind=2 then ai true name && decide (n=2∧nt=0∧ne=0)
 else if kind=3 then ai false name && decide (n=1∧nt=0∧ne=0)
 else if kind=4 then ai false name && decide (n=1)
 else if kind=5 then ai false name && decide (n=1∧ne=0)
 else if kind=6 then ai true name && decide (n≤6∧nt=0∧ne=0)
 else if kind=7 then ai false name && decide (n≤1∧nt=0∧ne=0)
 else false
mutual
def jc (lv:Nat):Stm→Bool
 |.mk kind name e th el=>decide (lv≤24)&&(bK kind name e.length th.length el.length&&bf (lv+1) e)&&(bh (lv+1) th&&bh (lv+1) el)
def bh (lv:Nat):List Stm→Bool
 |[]=>true
 |s::l=>jc lv s&&bh lv l
end
def we (f:Fn):Bool:=bc f.name&&decide (f.params.length≤6)&&(f.params.all bc&&f.locals.all bc&&bh 1 f.body)
def wg (a:Str×Int):Bool:=bc a.1&&decide (1≤a.2)&&decide (a.2≤4096)
def Ab (p:Prog):Bool:=decide (1≤p.funcs.length∧p.funcs.length≤64)&&p.vars.all bc&&(p.arrays.all wg&&p.funcs.all we)
mutual
def szE:Ex→Nat
 |.mk _ _ _ _ kids=>bB kids+1
def bB:List Ex→Nat
 |[]=>0
 |e::l=>szE e+bB l
end
mutual
def szS:Stm→Nat
 |.mk _ _ e th el=>bB e+bG th+bG el+1
def bG:List Stm→Nat
 |[]=>0
 |s::l=>szS s+bG l
end
theorem Cy:∀{l:List Ex}{e:Ex},e∈l→szE e≤bB l
 |x::l,e,h=>by
   rw[bB]
   rcases s7.1 h with rfl|h
   ·omega
   ·have:=Cy h;omega
theorem Cz:∀{l:List Stm}{e:Stm},e∈l→szS e≤bG l
 |x::l,e,h=>by
   rw[bG]
   rcases s7.1 h with rfl|h
   ·omega
   ·have:=Cz h;omega
theorem Ac:∀l:List Ex,l.length≤bB l
 |[]=>b9 _
 |e::l=>by have:=Ac l;cases e;simp only[bB,szE,e8];omega
theorem Ad:∀l:List Stm,l.length≤bG l
 |[]=>b9 _
 |e::l=>by have:=Ad l;cases e;simp only[bG,szS,e8];omega
theorem tE {lv:Nat}:∀l:List Ex,bf lv l=l.all (gT lv)
 |[]=>by simp[bf]
 |e::l=>by simp[bf,tE l]
theorem tF {lv:Nat}:∀l:List Stm,bh lv l=l.all (jc lv)
 |[]=>by simp[bh]
 |e::l=>by simp[bh,tF l]
end
end Go.Src
namespace Go.Am
section
section
section
variable {P:Program}{T:Nat→TI}{b₀:Bs}{rd:Option Nat}{gb:Nat}{o:bU}{Ψ:dL}{B0:Nat}
theorem iP {Φ:St→Loc→List Deferred→World→Prop} (hΦ:aX b₀ Φ) (hG:∀s β ds w,Φ s β ds w→ng b₀ gb o w) {op:Oper}{s:St}{K:St→Prop}{k:Box K}{f:FuncId}{args:Array Operand}{tys:Array TypeId} (ho:op.op=.call ⟨.value (.func f),args,tys⟩) {R:AV→Prop}{xs:List AV}
  (hx:ce s (args.toList.map s.ev) xs) (hp:bu P gb o f xs R) (hd:∀r,R r→bX r=true) (hk:∀r,R r→K (s.put op.dst r)):br (spF P rd b₀ Φ B0 Ψ) op s k:=by
 refine⟨fun s'=>∃r,R r∧s'=s.put op.dst r,?_,fun _ ⟨r,hr,e⟩=>e▸hk r hr⟩
 intro N β a ds w hr hφ hdst next Q hn _
 have hnd:aF op=true:=by simp[aF,ho]
 refine eN hnd ?_
 unfold Oper.wp
 rw[eP ho hp.1 w]
 simp only[Oper.upon]
 have hargs:∀(l:List Operand) (xs:List AV),ce s (l.map s.ev) xs→RVs (Own b₀ w) w xs (l.map a.eval):=by
  intro l
  induction l with
  |nil=>intro xs h;simp only[n0,ce] at h;subst h;simp only[n0,RVs]
  |cons x l ih=>
    exact M0
 have:=hp.2 (Own b₀ w) w (args.toList.map a.eval) (hG _ _ _ _ hφ).2 (fun _ h=>h.1) (hargs _ _ hx)
 rw[show (args.toList.map a.eval).toArray=args.map a.eval from E5 a7] at this
 refine this.mono fun e w' ⟨v,r,he,hR,hs,hh,hos,hv⟩=>?_
 subst he
 obtain⟨g1,g2⟩:=hr.grow hs hh hos
 have h1:=g1.put hdst (RV.rep r (RV.of_scalar (hd r hR) hv))
 exact⟨h1.defers,hn _ β _ w' ⟨r,hR,rfl⟩ h1 (hΦ _ _ _ _ _ _ _ hφ (g2.trans (Tr.same (St.put_gen _ _ _) (St.put_obj _ _ _) rfl)))⟩
end
end
end
end Go.Am
namespace Go.Proofs.YtphohejoiocikaaGreatDoor
section
open Go Go.Am Go.Asm
open Go.Src (bc)
end
section
open Go Go.Am Go.Asm
open Go.Src (bc ai ba bK Ex Stm)
end
section
open Go Go.Am Go.Asm
open Go.Src (bc ai ba bK gT bf szE bB Ex Stm)
end
section
open Go Go.Am Go.Asm
open Go.Src (bc ai ba bK gT bf jc bh we wg Ab szE bB szS bG Ex Stm)
def szP (p:Src.Prog):Nat:=p.vars.length+p.arrays.length+p.funcs.length+(p.funcs.map fun f=>f.params.length+f.locals.length+bG f.body).sum
end
end Go.Proofs.YtphohejoiocikaaGreatDoor
namespace Go.Am
section
section
variable {S:Sp}{s:St}{B:(Exit→St→Prop)→St→Prop}{Q:Exit→St→Prop}
theorem zj{b:Box B}{q:Box Q} (s₁:St) (h:S.vs s s₁) (J:Nat→St→Prop) (n:Nat) (h0:J 0 s₁)
  (hr:∀k f g ob,k≤n→J k ⟨f,g,ob⟩→B (gD (bx fun s'=>∃n' s₁,n'<n-k∧S.vs s' s₁∧∃k',n'+k'=n∧J k' s₁) q) ⟨f,g,ob⟩):nb S b q s:=
 ⟨fun m st=>∃k,m+k=n∧J k st,⟨n,s₁,h,0,rfl,h0⟩,fun m st ⟨k,h1,h2⟩=>by
  have:=hr k st.f st.gen st.obj a6 h2
  rwa [show n-k=m by omega] at this⟩
theorem cY{b:Box B}{q:Box Q} (J:Nat→St→Prop) (n:Nat) (h0:J 0 s)
  (hr:∀k f g ob,k≤n→J k ⟨f,g,ob⟩→B (gD (bx fun s'=>∃n' s₁,n'<n-k∧S.vs s' s₁∧∃k',n'+k'=n∧J k' s₁) q) ⟨f,g,ob⟩) (hv:∀s,S.vs s s:=by exact fun s=>al.refl s):nb S b q s:=zj s (hv s) J n h0 hr
theorem bb{J:Nat→St→Prop}{n k:Nat} (h:k<n) (hJ:J (k+1) s) (hv:S.vs s s:=by exact al.refl _):∃n' s₁,n'<n-k∧S.vs s s₁∧∃k',n'+k'=n∧J k' s₁:=
 ⟨n-(k+1),s,a6,hv,k+1,a6,hJ⟩
end
end
end Go.Am
namespace Go.Src
section
mutual
def inE:Ex→Prop
 |.mk _ _ _ _ kids=>kids.length≤1000000000000000000∧ph kids
def ph:List Ex→Prop
 |[]=>True
 |e::l=>inE e∧ph l
end
mutual
def inS:Stm→Prop
 |.mk _ _ e th el=>(e.length≤1000000000000000000∧ph e)∧(th.length≤1000000000000000000∧pi th)∧(el.length≤1000000000000000000∧pi el)
def pi:List Stm→Prop
 |[]=>True
 |e::l=>inS e∧pi l
end
theorem zk:∀{l:List Ex}{k:Nat}{e:Ex},ph l→l[k]? = some e→inE e
 |_::_,0,_,h,he=>by cases he;exact h.1
 |_::_,_+1,_,h,he=>zk h.2 (by simpa using he)
theorem zl:∀{l:List Stm}{k:Nat}{e:Stm},pi l→l[k]? = some e→inS e
 |_::_,0,_,h,he=>by cases he;exact h.1
 |_::_,_+1,_,h,he=>zl h.2 (by simpa using he)
end
end Go.Src
namespace Go.Proofs.YtphohejoiocikaaGreatDoor
section
open Go Go.Am Go.Asm
open Go.Src (Ex Stm szE bB szS bG inE ph inS pi)
theorem dA {α:Type}{l:List α}{k:Nat}{e:α} (h:l[k]? = some e):l.drop k=e::l.drop (k+1):=by
 obtain⟨h1,rfl⟩:=j0.1 h
 exact z7 h1
theorem getD_at {α:Type}{f:α→List D}{l:List α}{k:Nat}{e:α} (h:l[k]? = some e):(l.map f)[k]? = some (f e):=by rw[l8,h];rfl
end
end Go.Proofs.YtphohejoiocikaaGreatDoor
namespace Go.Src
section
open Go.Asm (Str)
structure InP (p:Prog):Prop where
 v:p.vars.length≤1000000000000000000
 a:p.arrays.length≤1000000000000000000
 f:p.funcs.length≤1000000000000000000
 fs:∀f∈p.funcs,(f.params.length≤1000000000000000000∧f.locals.length≤1000000000000000000)∧f.body.length≤1000000000000000000∧pi f.body
end
end Go.Src
namespace Go.Proofs.YtphohejoiocikaaGreatDoor
section
open Go Go.Am Go.Asm
open Go.Src (Ex Stm szE bB szS bG inE ph inS pi)
theorem cr {α:Type}{p:α→Bool}{l:List α}{k:Nat}{x:α}{z:Bool} (h:(l.drop k).all p=z) (hx:l[k]? = some x):(p x=true→(l.drop (k+1)).all p=z)∧(p x=false→z=false):=by
 rw[dA hx,w8] at h
 constructor
 ·intro e;rw[e,A0] at h;exact h
 ·intro e;rw[e,B8] at h;exact h.symm
def eS (l:List Str):AV:=.one (.d (.sl (l.map fun s=>[.str s])))
theorem bE (p:Src.Prog):cz p=.agg [.d (.sl (p.vars.map fun s=>[.str s])),.d (.sl (p.arrays.map arD)),.d (.sl (p.funcs.map fnD))]:=rfl
end
section
attribute [local congr] Go.Am.ite_cc
open Go Go.Am Go.Asm
open Go.Src (bc cE)
theorem fK (c:UInt8):ap Tryz.prog 93 [iv .u8 c.toNat] (· = bv (digit c)):=by
 refine hdP Tryz.func93 rfl [2] fun g=>?_
 simp only[go_sem]
 have e:=@kg c
 cases hs:digit c <;> rw[hs] at e <;> simp at e <;> ((repeat' (first|refine⟨?_,?_⟩|intro _)) <;> (first|rfl|(exfalso;omega)|(simp;omega)))
theorem gj (c:UInt8):ap Tryz.prog 95 [iv .u8 c.toNat] (· = bv (letter c)):=by
 refine hdP Tryz.func95 rfl [2] fun g=>?_
 simp only[go_sem]
 have e:=@oX c
 cases hs:letter c <;> rw[hs] at e <;> simp at e <;> ((repeat' (first|refine⟨?_,?_⟩|intro _)) <;> (first|rfl|(exfalso;omega)|(simp;omega)))
theorem sX:ap Tryz.prog 97 [] (· = eS cE):=by
 refine hdP Tryz.func97 rfl [0] fun g=>?_
 simp only[go_sem]
 exact⟨_,⟨_,jN (L:=cE) rfl rfl rfl,rfl⟩,rfl⟩
theorem zq:ap Tryz.prog 102 [] (· = eS cE):=by
 refine hdP Tryz.func102 rfl [0] fun g=>?_
 simp only[go_sem]
 exact⟨_,⟨_,jN (L:=cE) rfl rfl rfl,rfl⟩,rfl⟩
theorem zr {l:List Str}{k:Nat}{s x:Str}{z:Bool} (h:decide (s∈l.drop k)=z) (hx:l[k]? = some x):(x=s→z=true)∧(x≠s→decide (s∈l.drop (k+1))=z):=by
 rw[dA hx] at h
 constructor
 ·rintro rfl;rw[←h];simp
 ·intro e;rw[←h];simp[C5 e]
theorem Jx (l:List Str) (s:Str) (hl:l.length≤1000000000000000000):ap Tryz.prog 96 [eS l,sv s] (· = bv (decide (s∈l))):=by
 refine hdP Tryz.func96 rfl [4] fun g=>?_
 obtain⟨z,hz⟩:∃z,decide (s∈l)=z:=⟨_,rfl⟩
 rw[hz]
 unfold eS
 simp only[go_sem]
 refine cY (fun k st=>decide (s∈l.drop k)=z∧st.f 0=.one (.d (.sl (l.map fun s=>[.str s])))∧st.f 1=sv s∧st.f 5=iv .i64 k) l.length ⟨hz,?_⟩ ?_
 ·exact Ma
 rintro k f g1 ob1 hk ⟨hc,q0,q1,q5⟩
 simp only at q0 q1 q5
 have hw:=ag (k:=k) a6
 by_cases hlt:k<l.length
 case neg=>
  have hki:¬(k:Int)<(l.length:Int):=a6
  rw[l6 a6] at hc
  obtain rfl:z=false:=by rw[←hc];rfl
  simp only[go_sem,q0,q5,hki,b7]
 have hki:(k:Int)<(l.length:Int):=a6
 obtain⟨x,hx⟩:=getq hlt
 obtain⟨h1,h2⟩:=zr hc hx
 have hg:=getD_at (f:=fun s:Str=>[D.str s]) hx
 by_cases hn:x=s
 ·obtain rfl:=h1 hn
  simp only[go_sem,q0,q1,q5,hki,b7,hg,hn]
 ·simp only[go_sem,q0,q1,q5,hki,b7,hg,hn,hw]
  refine bb hlt ⟨h2 hn,?_⟩
  exact Nf
theorem kS (s:Str):bc s=true↔s≠[]∧s.length≤20∧s.head?.any letter=true∧s.all bQ=true∧s∉cE:=by
 have e:s.takeWhile bQ=s↔s.all bQ=true:=by
  induction s with
  |nil=>simp
  |cons a s ih=>rw[B6,w8];cases h:bQ a <;> simp[ih]
 unfold bc
 rw[z8,e]
theorem BW (s:Str):ap Tryz.prog 103 [sv s] (· = bv (bc s)):=by
 refine hdP Tryz.func103 rfl [2] fun g=>?_
 obtain⟨z,hz⟩:∃z,bc s=z:=⟨_,rfl⟩
 rw[hz]
 have hno:∀h:¬(s≠[]∧s.length≤20∧s.head?.any letter=true∧s.all bQ=true∧s∉cE),z=false:=fun h=>by
  cases z
  ·rfl
  ·exact absurd ((kS s).1 hz) h
 by_cases hnil:s=[]
 ·obtain rfl:=hno fun h=>h.1 hnil
  simp only[go_sem,hnil]
 have hn0:¬(s.length:Int)=0:=fun e=>hnil (j5 a6)
 by_cases hlen:20<(s.length:Int)
 ·obtain rfl:=hno fun h=>by have:=h.2.1;omega
  simp only[go_sem,hn0,hlen]
 obtain⟨c,hc⟩:∃c,s[0]? = some c:=getq a6
 have hhd:s.head? = some c:=by rw[←hc,List.head?_eq_getElem?]
 simp only[go_sem,hn0,hlen,hc]
 refine aV rfl (by simp only[go_sem];exact gj c) ?_
 rintro _ rfl
 cases hlc:letter c
 ·obtain rfl:=hno fun h=>by have:=h.2.2.1;rw[hhd] at this;simp[hlc] at this
  exact Ma
 simp only[go_sem]
 refine aV rfl (by simp only[go_sem];exact sX) ?_
 rintro _ rfl
 simp only[go_sem]
 refine aV rfl (by simp only[go_sem];exact Jx cE s a8) ?_
 rintro _ rfl
 by_cases hw:s∈cE
 ·obtain rfl:=hno fun h=>h.2.2.2.2 hw
  simp only[go_sem,hw,LK]
 simp only[go_sem,hw,LB]
 obtain⟨y,hy⟩:∃y,s.all bQ=y:=⟨_,rfl⟩
 have hzy:z=y:=by
  cases hz':z
  ·cases hy':y
   ·rfl
   ·rw[hz'] at hz;rw[hy'] at hy
    have:=(kS s).2 ⟨hnil,a6,by rw[hhd];simp[hlc],hy,hw⟩
    rw[this] at hz;cases hz
  ·rw[hz'] at hz
   rw[←hy,((kS s).1 hz).2.2.2.1]
 rw[hzy]
 clear hz hno hzy hw hlc
 refine cY (fun k st=>(s.drop k).all bQ=y∧st.f 0=sv s∧st.f 3=iv .i64 k) s.length ⟨hy,?_⟩ ?_
 ·exact Ma
 rintro k f g1 ob1 hk ⟨hc,q0,q3⟩
 simp only at q0 q3
 have hw:=ag (k:=k) a6
 by_cases hlt:k<s.length
 case neg=>
  have hki:¬(k:Int)<(s.length:Int):=a6
  rw[l6 a6] at hc
  obtain rfl:y=true:=hc.symm
  simp only[go_sem,q0,q3,hki]
 have hki:(k:Int)<(s.length:Int):=a6
 obtain⟨x,hx⟩:=getq hlt
 obtain⟨h1,h2⟩:=cr hc hx
 simp only[go_sem,q0,q3,hki,hx]
 refine aV rfl (by simp only[go_sem];exact gj x) ?_
 rintro _ rfl
 cases hlx:letter x
 ·simp only[go_sem,q0,q3,hx]
  refine aV rfl (by simp only[go_sem];exact fK x) ?_
  rintro _ rfl
  cases hdx:digit x
  ·by_cases hx9:(x.toNat:Int)=95
   ·have e:bQ x=true:=by
     have:x=95:=J0.1 (by show x.toNat=95;omega)
     simp[bQ,this]
    simp only[go_sem,q0,q3,hx,hx9,hw]
    refine bb hlt ⟨h1 e,?_⟩
    simp only[go_sem,q0]
   ·have e:bQ x=false:=by
     have:x≠95:=fun e=>hx9 (by rw[e];rfl)
     simp[bQ,hlx,hdx,this]
    obtain rfl:=h2 e
    simp only[go_sem,q0,q3,hx,hx9]
  ·simp only[go_sem,q3,hw]
   refine bb hlt ⟨h1 (by simp[bQ,hdx]),?_⟩
   simp only[go_sem,q0]
 ·simp only[go_sem,q3,hw]
  refine bb hlt ⟨h1 (by simp[bQ,hlx]),?_⟩
  simp only[go_sem,q0]
theorem eT (s:Str):ap Tryz.prog 61 [sv s] (· = bv (bc s)):=by
 refine hdP Tryz.func61 rfl [2] fun g=>?_
 have hn:=BW s
 have hno:s∈cE→bc s=false:=fun h=>s6 fun h'=>h'.2.2.2.2 h
 obtain⟨z,hz⟩:∃z,bc s=z:=⟨_,rfl⟩
 rw[hz] at hn hno ⊢
 simp only[go_sem]
 refine aV rfl (by simp only[go_sem];exact zq) ?_
 rintro _ rfl
 unfold eS
 simp only[go_sem]
 refine cY (fun k st=>st.f 0=sv s∧st.f 3=.one (.d (.sl (cE.map fun s=>[.str s])))∧st.f 4=iv .i64 k) 10 ⟨?_,?_⟩ ?_
 ·exact Ma
 ·exact Ma
 rintro k f g1 ob1 hk ⟨q0,q3,q4⟩
 simp only at q0 q3 q4
 have hw:=ag (k:=k) a6
 have h10:((cE.length:Nat):Int)=10:=rfl
 by_cases hlt:k<10
 case neg=>
  have hki:¬(k:Int)<10:=a6
  simp only[go_sem,q0,q3,q4,hki,b7,h10]
  refine aV rfl (by simp only[go_sem];exact hn) ?_
  exact Nu
 have hki:(k:Int)<10:=a6
 obtain⟨x,hx⟩:=getq (l:=cE) (k:=k) hlt
 have hg:=getD_at (f:=fun s:Str=>[D.str s]) hx
 by_cases he:s=x
 ·obtain rfl:=hno (by rw[he];exact l4 hx)
  simp only[go_sem,q0,q3,q4,hki,b7,h10,hg,he]
 ·simp only[go_sem,q0,q3,q4,hki,b7,h10,hg,he,hw]
  refine bb hlt ⟨?_,?_⟩
  ·simp only[go_sem,q0]
  ·simp only[go_sem,q3]
theorem rq (l:List Str) (hl:l.length≤1000000000000000000):ap Tryz.prog 60 [eS l] (· = bv (l.all bc)):=by
 refine hdP Tryz.func60 rfl [2] fun g=>?_
 obtain⟨z,hz⟩:∃z,l.all bc=z:=⟨_,rfl⟩
 rw[hz]
 unfold eS
 simp only[go_sem]
 refine cY (fun k st=>(l.drop k).all bc=z∧st.f 0=.one (.d (.sl (l.map fun s=>[.str s])))∧st.f 3=iv .i64 k) l.length ⟨hz,?_⟩ ?_
 ·exact Ma
 rintro k f g1 ob1 hk ⟨hc,q0,q3⟩
 simp only at q0 q3
 have hw:=ag (k:=k) a6
 by_cases hlt:k<l.length
 case neg=>
  have hki:¬(k:Int)<(l.length:Int):=a6
  rw[l6 a6] at hc
  obtain rfl:z=true:=hc.symm
  simp only[go_sem,q0,q3,hki,b7]
 have hki:(k:Int)<(l.length:Int):=a6
 obtain⟨s,hx⟩:=getq hlt
 obtain⟨h1,h2⟩:=cr hc hx
 have hg:=getD_at (f:=fun s:Str=>[D.str s]) hx
 simp only[go_sem,q0,q3,hki,b7,hg]
 refine aV rfl (by simp only[go_sem];exact eT s) ?_
 rintro _ rfl
 cases hn:bc s
 ·obtain rfl:=h2 hn
  exact Ma
 ·simp only[go_sem,q3,hw]
  refine bb hlt ⟨h1 hn,?_⟩
  simp only[go_sem,q0]
end
section
attribute [local congr] Go.Am.ite_cc
open Go Go.Am Go.Asm
open Go.Src (bc ai ba gT bf Ex szE bB inE ph)
theorem fz:bc []=false:=rfl
theorem sY (kind op num:Int) (name:Str) (kids:List Ex) (lv:Nat) (hlv0:lv≤25) (hK:lv≤24→ap Tryz.prog 150 [df kids,iv .i64 (lv+1:Nat)] (· = bv (bf (lv+1) kids))):ap Tryz.prog 190 [exV (.mk kind op num name kids),iv .i64 lv] (· = bv (gT lv (.mk kind op num name kids))):=by
 refine hdP Tryz.func190 rfl [4] fun g=>?_
 have hE:exV (.mk kind op num name kids)=.agg [.d (.int .i64 kind),.d (.int .i64 op),.d (.int .u32 num),.d (.str name),.d (.sl (kids.map exD))]:=by simp only[exV,exD,bw,j8,n0]
 obtain⟨z,hz⟩:∃z,gT lv (.mk kind op num name kids)=z:=⟨_,rfl⟩
 rw[hz,hE]
 rw[gT] at hz
 by_cases hlv:(24:Int)<(lv:Int)
 ·obtain rfl:z=false:=by rw[←hz,s6 a6,B8]
  simp only[go_sem,hlv]
 have hle:lv≤24:=a6
 have hwl:=ag (k:=lv) a6
 have hK:=hK hle
 unfold df at hK
 have hk:kind=1∨kind=2∨kind=3∨kind=4∨kind=5∨kind=6∨kind=7∨kind=8∨kind=9∨(¬kind=1∧¬kind=2∧¬kind=3∧¬kind=4∧¬kind=5∧¬kind=6∧¬kind=7∧¬kind=8∧¬kind=9):=a6
 rcases hk with rfl|rfl|rfl|rfl|rfl|rfl|rfl|rfl|rfl|⟨k1,k2,k3,k4,k5,k6,k7,k8,k9⟩
 ·-- 1
  by_cases hop:op=0
  case neg=>
   exact Mh
  by_cases hnm:name=[]
  case neg=>
   obtain rfl:z=false:=by rw[←hz];simp[ba,ai,hnm]
   simp only[go_sem,hlv,hop,hnm]
  simp only[go_sem,hlv,hop,hnm]
  by_cases hkn:(kids.length:Int)=0
  ·obtain rfl:z=true:=by
    have:kids=[]:=j5 a6
    rw[←hz,this];simp[ba,ai,bf,hle,hnm,hop]
   simp only[go_sem,b7,hkn]
  ·exact MD
 ·-- 2
  by_cases hop:op=0
  case neg=>
   exact Mh
  by_cases hnu:num=0
  case neg=>
   exact Mn
  by_cases hnm:name=[]
  case pos=>
   exact MX
  simp only[go_sem,hlv,hop,hnu,hnm]
  refine aV rfl On ?_
  rintro _ rfl
  cases hok:bc name
  ·exact Nx
  by_cases hkn:(kids.length:Int)=0
  ·obtain rfl:z=true:=by
    have:kids=[]:=j5 a6
    rw[←hz,this];simp[ba,ai,bf,hle,hok,hnu,hop]
   simp only[go_sem,b7,hkn]
  ·exact MD
 ·-- 3
  by_cases hop:op=0
  case neg=>
   exact Mh
  by_cases hnu:num=0
  case neg=>
   exact Mn
  by_cases hnm:name=[]
  case pos=>
   exact MX
  simp only[go_sem,hlv,hop,hnu,hnm]
  refine aV rfl On ?_
  rintro _ rfl
  cases hok:bc name
  ·exact Nx
  by_cases hkn:(kids.length:Int)=1
  case neg=>
   exact Nw
  simp only[go_sem,b7,hkn,hwl]
  refine aV rfl OM ?_
  rintro _ rfl
  obtain rfl:z=bf (lv+1) kids:=by
   have:kids.length=1:=a6
   rw[←hz];simp[ba,ai,hle,this,hok,hnu,hop]
  exact Ma
 ·-- 4
  by_cases hop:op=0
  case neg=>
   exact Mh
  by_cases hnu:num=0
  case neg=>
   exact Mn
  by_cases hnm:name=[]
  case pos=>
   exact MX
  simp only[go_sem,hlv,hop,hnu,hnm]
  refine aV rfl On ?_
  rintro _ rfl
  cases hok:bc name
  ·exact Nx
  by_cases hkn:(kids.length:Int)≤6
  case neg=>
   obtain rfl:z=false:=by
    have:¬kids.length≤6:=a6
    rw[←hz];simp[ba,this]
   simp only[go_sem,b7,hkn]
  simp only[go_sem,b7,hkn,hwl]
  refine aV rfl OM ?_
  rintro _ rfl
  obtain rfl:z=bf (lv+1) kids:=by
   have:kids.length≤6:=a6
   rw[←hz];simp[ba,ai,hle,this,hok,hnu,hop]
  exact Ma
 ·-- 5
  by_cases hop:op=0
  case neg=>
   exact Mh
  by_cases hnu:num=0
  case neg=>
   exact Mn
  by_cases hnm:name=[]
  case neg=>
   exact NW
  simp only[go_sem,hlv,hop,hnu,hnm]
  by_cases hkn:(kids.length:Int)=0
  ·obtain rfl:z=true:=by
    have:kids=[]:=j5 a6
    rw[←hz,this];simp[ba,ai,bf,hle,hnm,hnu,hop]
   simp only[go_sem,b7,hkn]
  ·exact MD
 ·-- 6
  by_cases hnu:num=0
  case neg=>
   obtain rfl:z=false:=by rw[←hz];simp[ba,hnu]
   simp only[go_sem,hlv,hnu]
  by_cases hnm:name=[]
  case neg=>
   obtain rfl:z=false:=by rw[←hz];simp[ba,ai,hnm]
   simp only[go_sem,hlv,hnu,hnm]
  simp only[go_sem,hlv,hnu,hnm]
  by_cases h4:4≤op
  case neg=>
   obtain rfl:z=false:=by rw[←hz];simp[ba,h4]
   simp only[go_sem,b7,h4]
  by_cases h15:op≤15
  case neg=>
   obtain rfl:z=false:=by rw[←hz];simp[ba,h15]
   simp only[go_sem,b7,h4,h15]
  by_cases hkn:(kids.length:Int)=2
  case neg=>
   obtain rfl:z=false:=by
    have:¬kids.length=2:=a6
    rw[←hz];simp[ba,this]
   simp only[go_sem,b7,h4,h15,hkn]
  simp only[go_sem,b7,h4,h15,hkn,hwl]
  refine aV rfl OM ?_
  rintro _ rfl
  obtain rfl:z=bf (lv+1) kids:=by
   have:kids.length=2:=a6
   rw[←hz];simp[ba,ai,hle,this,hnm,hnu,h4,h15]
  exact Ma
 ·-- 7
  by_cases hop:op=0
  case neg=>
   exact Mh
  by_cases hnu:num=0
  case neg=>
   exact Mn
  by_cases hnm:name=[]
  case neg=>
   exact NW
  simp only[go_sem,hlv,hop,hnu,hnm]
  by_cases hkn:(kids.length:Int)=1
  case neg=>
   exact Nw
  simp only[go_sem,b7,hkn,hwl]
  refine aV rfl OM ?_
  rintro _ rfl
  obtain rfl:z=bf (lv+1) kids:=by
   have:kids.length=1:=a6
   rw[←hz];simp[ba,ai,hle,this,hnm,hnu,hop]
  exact Ma
 ·-- 8
  exact ME
 ·-- 9
  exact ME
 ·obtain rfl:z=false:=by rw[←hz];simp[ba,k1,k2,k3,k4,k5,k6,k7,k8,k9]
  by_cases hop:op=0
  case neg=>simp only[go_sem,hlv,k6,hop]
  by_cases hnu:num=0
  case neg=>simp only[go_sem,hlv,k6,hop,k1,hnu]
  by_cases hnm:name=[]
  case neg=>simp only[go_sem,hlv,k6,hop,k1,hnu,k2,k3,k4,hnm]
  simp only[go_sem,hlv,k6,hop,k1,hnu,k2,k3,k4,hnm,k5,k7,k8,k9]
theorem rr:∀(N:Nat) (l:List Ex) (lv:Nat),bB l≤N→l.length≤1000000000000000000→ph l→lv≤25→ap Tryz.prog 150 [df l,iv .i64 lv] (· = bv (bf lv l)):=by
 intro N
 induction N using Nat.strongRecOn with
 |ind N ih=>
 intro l lv hN hl hin hlv
 refine hdP Tryz.func150 rfl [4] fun g=>?_
 obtain⟨z,hz⟩:∃z,bf lv l=z:=⟨_,rfl⟩
 rw[hz]
 rw[Src.tE] at hz
 unfold df
 simp only[go_sem]
 refine cY (fun k st=>(l.drop k).all (gT lv)=z∧st.f 0=.one (.d (.sl (l.map exD)))∧st.f 1=iv .i64 lv∧st.f 5=iv .i64 k) l.length ⟨hz,?_⟩ ?_
 ·exact Ma
 rintro k f g1 ob1 hk ⟨hc,q0,q1,q5⟩
 simp only at q0 q1 q5
 have hw:=ag (k:=k) a6
 by_cases hlt:k<l.length
 case neg=>
  exact Nk
 have hki:(k:Int)<(l.length:Int):=a6
 obtain⟨e,he⟩:=getq hlt
 obtain⟨h1,h2⟩:=cr hc he
 have hi:=Src.zk hin he
 have hsz:=Src.Cy (l4 he)
 have hg:=getD_at (f:=exD) he
 have hel:=aK e
 obtain⟨kind,op,num,name,kids⟩:=e
 rw[szE] at hsz
 rw[inE] at hi
 have hE:=sY kind op num name kids lv hlv fun h=>ih (bB kids) a6 kids (lv+1) (b9 _) hi.1 hi.2 a6
 have hx:exD (.mk kind op num name kids)=[.int .i64 kind,.int .i64 op,.int .u32 num,.str name,.sl (kids.map exD)]:=by simp only[exD,bw]
 unfold exV at hE
 rw[hx] at hg hE
 simp only[j8,n0] at hE
 simp only[go_sem,q0,q1,q5,hki,b7,hg]
 refine aV rfl (by simp only[go_sem];exact hE) ?_
 rintro _ rfl
 cases hr:gT lv (.mk kind op num name kids)
 ·obtain rfl:=h2 hr
  exact Ma
 ·simp only[go_sem,q5,hw]
  refine bb hlt ⟨h1 hr,?_⟩
  exact Nf
end
section
attribute [local congr] Go.Am.ite_cc
open Go Go.Am Go.Asm
open Go.Src (bc ai bK bf jc bh Ex Stm szE bB szS bG inE ph inS pi)
theorem sZ (kind:Int) (name:Str) (e:List Ex) (th el:List Stm) (lv:Nat) (hlv0:lv≤25) (hE:lv≤24→ap Tryz.prog 150 [df e,iv .i64 (lv+1:Nat)] (· = bv (bf (lv+1) e)))
  (hT:lv≤24→ap Tryz.prog 62 [dM th,iv .i64 (lv+1:Nat)] (· = bv (bh (lv+1) th))) (hL:lv≤24→ap Tryz.prog 62 [dM el,iv .i64 (lv+1:Nat)] (· = bv (bh (lv+1) el))) :
  ap Tryz.prog 104 [smV (.mk kind name e th el),iv .i64 lv] (· = bv (jc lv (.mk kind name e th el))):=by
 refine hdP Tryz.func104 rfl [4] fun g=>?_
 have hS:smV (.mk kind name e th el)=.agg [.d (.int .i64 kind),.d (.str name),.d (.sl (e.map exD)),.d (.sl (th.map smD)),.d (.sl (el.map smD))]:=by simp only[smV,smD,bw,dR,j8,n0]
 obtain⟨z,hz⟩:∃z,jc lv (.mk kind name e th el)=z:=⟨_,rfl⟩
 rw[hz,hS]
 rw[jc] at hz
 by_cases hlv:(24:Int)<(lv:Int)
 ·obtain rfl:z=false:=by rw[←hz,s6 a6,B8,B8]
  simp only[go_sem,hlv]
 have hle:lv≤24:=a6
 have hwl:=ag (k:=lv) a6
 have hE:=hE hle
 have hT:=hT hle
 have hL:=hL hle
 unfold df at hE
 unfold dM at hT hL
 have hk:kind=1∨kind=2∨kind=3∨kind=4∨kind=5∨kind=6∨kind=7∨(¬kind=1∧¬kind=2∧¬kind=3∧¬kind=4∧¬kind=5∧¬kind=6∧¬kind=7):=a6
 rcases hk with rfl|rfl|rfl|rfl|rfl|rfl|rfl|⟨k1,k2,k3,k4,k5,k6,k7⟩
 case' inl=>
  by_cases hel:0<(el.length:Int)
  ·exact L9
  have he0:el=[]:=j5 a6
  by_cases hth:0<(th.length:Int)
  ·exact Md
  have ht0:th=[]:=j5 a6
  by_cases hnm:name=[]
  ·exact MV
  simp only[go_sem,b7,hlv,hel,hth,hnm]
  refine aV rfl On ?_
  rintro _ rfl
  cases hok:bc name
  ·exact Ny
  by_cases hn:(e.length:Int)=1
  case neg=>
   exact Mt
  obtain rfl:z=(bf (lv+1) e&&(bh (lv+1) th&&bh (lv+1) el)):=by
   have:e.length=1:=a6
   rw[←hz];simp[bK,ai,hle,this,hok,he0,ht0]
  simp only[go_sem,b7,hn,hwl]
 case' inr.inl=>
  by_cases hel:0<(el.length:Int)
  ·exact L9
  have he0:el=[]:=j5 a6
  by_cases hth:0<(th.length:Int)
  ·exact Md
  have ht0:th=[]:=j5 a6
  by_cases hnm:name=[]
  ·exact MV
  simp only[go_sem,b7,hlv,hel,hth,hnm]
  refine aV rfl On ?_
  rintro _ rfl
  cases hok:bc name
  ·exact Ny
  by_cases hn:(e.length:Int)=2
  case neg=>
   obtain rfl:z=false:=by
    have:¬e.length=2:=a6
    rw[←hz];simp[bK,this]
   simp only[go_sem,b7,hn]
  obtain rfl:z=(bf (lv+1) e&&(bh (lv+1) th&&bh (lv+1) el)):=by
   have:e.length=2:=a6
   rw[←hz];simp[bK,ai,hle,this,hok,he0,ht0]
  simp only[go_sem,b7,hn,hwl]
 case' inr.inr.inl=>
  by_cases hel:0<(el.length:Int)
  ·exact L9
  have he0:el=[]:=j5 a6
  by_cases hth:0<(th.length:Int)
  ·exact Md
  have ht0:th=[]:=j5 a6
  by_cases hnm:name=[]
  case neg=>
   exact NS
  simp only[go_sem,b7,hlv,hel,hth,hnm]
  by_cases hn:(e.length:Int)=1
  case neg=>
   exact Mt
  obtain rfl:z=(bf (lv+1) e&&(bh (lv+1) th&&bh (lv+1) el)):=by
   have:e.length=1:=a6
   rw[←hz];simp[bK,ai,hle,this,hnm,he0,ht0]
  simp only[go_sem,b7,hn,hwl]
 case' inr.inr.inr.inl=>
  by_cases hnm:name=[]
  case neg=>
   obtain rfl:z=false:=by rw[←hz];simp[bK,ai,hnm]
   simp only[go_sem,b7,hlv,hnm]
  simp only[go_sem,b7,hlv,hnm]
  by_cases hn:(e.length:Int)=1
  case neg=>
   exact Mt
  obtain rfl:z=(bf (lv+1) e&&(bh (lv+1) th&&bh (lv+1) el)):=by
   have:e.length=1:=a6
   rw[←hz];simp[bK,ai,hle,this,hnm]
  simp only[go_sem,b7,hn,hwl]
 case' inr.inr.inr.inr.inl=>
  by_cases hel:0<(el.length:Int)
  ·exact L9
  have he0:el=[]:=j5 a6
  by_cases hnm:name=[]
  case neg=>
   obtain rfl:z=false:=by rw[←hz];simp[bK,ai,hnm]
   simp only[go_sem,b7,hlv,hel,hnm]
  simp only[go_sem,b7,hlv,hel,hnm]
  by_cases hn:(e.length:Int)=1
  case neg=>
   exact Mt
  obtain rfl:z=(bf (lv+1) e&&(bh (lv+1) th&&bh (lv+1) el)):=by
   have:e.length=1:=a6
   rw[←hz];simp[bK,ai,hle,this,hnm,he0]
  simp only[go_sem,b7,hn,hwl]
 case' inr.inr.inr.inr.inr.inl=>
  by_cases hel:0<(el.length:Int)
  ·exact L9
  have he0:el=[]:=j5 a6
  by_cases hth:0<(th.length:Int)
  ·exact Md
  have ht0:th=[]:=j5 a6
  by_cases hnm:name=[]
  ·exact MV
  simp only[go_sem,b7,hlv,hel,hth,hnm]
  refine aV rfl On ?_
  rintro _ rfl
  cases hok:bc name
  ·exact Ny
  by_cases hn:(e.length:Int)≤6
  case neg=>
   obtain rfl:z=false:=by
    have:¬e.length≤6:=a6
    rw[←hz];simp[bK,this]
   simp only[go_sem,b7,hn]
  obtain rfl:z=(bf (lv+1) e&&(bh (lv+1) th&&bh (lv+1) el)):=by
   have:e.length≤6:=a6
   rw[←hz];simp[bK,ai,hle,this,hok,he0,ht0]
  simp only[go_sem,b7,hn,hwl]
 case' inr.inr.inr.inr.inr.inr.inl=>
  by_cases hel:0<(el.length:Int)
  ·exact L9
  have he0:el=[]:=j5 a6
  by_cases hth:0<(th.length:Int)
  ·exact Md
  have ht0:th=[]:=j5 a6
  by_cases hnm:name=[]
  case neg=>
   exact NS
  simp only[go_sem,b7,hlv,hel,hth,hnm]
  by_cases hn:(e.length:Int)≤1
  case neg=>
   obtain rfl:z=false:=by
    have:¬e.length≤1:=a6
    rw[←hz];simp[bK,this]
   simp only[go_sem,b7,hn]
  obtain rfl:z=(bf (lv+1) e&&(bh (lv+1) th&&bh (lv+1) el)):=by
   have:e.length≤1:=a6
   rw[←hz];simp[bK,ai,hle,this,hnm,he0,ht0]
  simp only[go_sem,b7,hn,hwl]
 case inr.inr.inr.inr.inr.inr.inr=>
  obtain rfl:z=false:=by rw[←hz];simp[bK,k1,k2,k3,k4,k5,k6,k7]
  by_cases hel:0<(el.length:Int)
  ·simp only[go_sem,hlv,b7,k4,hel]
  by_cases hth:0<(th.length:Int)
  ·simp only[go_sem,hlv,b7,k4,hel,k5,hth]
  by_cases hnm:name=[]
  case neg=>simp only[go_sem,hlv,b7,k4,hel,k5,hth,k1,k2,k6,hnm]
  simp only[go_sem,hlv,b7,k4,hel,k5,hth,k1,k2,k6,hnm,k3,k7]
 all_goals refine aV rfl (by simp only[go_sem,hwl];exact hE) ?_
 all_goals rintro _ rfl
 all_goals cases bf (lv+1) e
 all_goals simp only[go_sem,hwl,B8,A0]
 all_goals refine aV rfl (by simp only[go_sem,hwl];exact hT) ?_
 all_goals rintro _ rfl
 all_goals cases bh (lv+1) th
 all_goals simp only[go_sem,hwl,B8,A0]
 all_goals refine aV rfl (by simp only[go_sem,hwl];exact hL) ?_
 all_goals rintro _ rfl
 all_goals simp only[go_sem,A0]
theorem ru:∀(N:Nat) (l:List Stm) (lv:Nat),bG l≤N→l.length≤1000000000000000000→pi l→lv≤25→ap Tryz.prog 62 [dM l,iv .i64 lv] (· = bv (bh lv l)):=by
 intro N
 induction N using Nat.strongRecOn with
 |ind N ih=>
 intro l lv hN hl hin hlv
 refine hdP Tryz.func62 rfl [4] fun g=>?_
 obtain⟨z,hz⟩:∃z,bh lv l=z:=⟨_,rfl⟩
 rw[hz]
 rw[Src.tF] at hz
 unfold dM
 simp only[go_sem]
 refine cY (fun k st=>(l.drop k).all (jc lv)=z∧st.f 0=.one (.d (.sl (l.map smD)))∧st.f 1=iv .i64 lv∧st.f 5=iv .i64 k) l.length ⟨hz,?_⟩ ?_
 ·exact Ma
 rintro k f g1 ob1 hk ⟨hc,q0,q1,q5⟩
 simp only at q0 q1 q5
 have hw:=ag (k:=k) a6
 by_cases hlt:k<l.length
 case neg=>
  exact Nk
 have hki:(k:Int)<(l.length:Int):=a6
 obtain⟨s,he⟩:=getq hlt
 obtain⟨h1,h2⟩:=cr hc he
 have hi:=Src.zl hin he
 have hsz:=Src.Cz (l4 he)
 have hg:=getD_at (f:=smD) he
 obtain⟨kind,name,e,th,el⟩:=s
 rw[szS] at hsz
 rw[inS] at hi
 have hS:=sZ kind name e th el lv hlv (fun h=>rr (bB e) e (lv+1) (b9 _) hi.1.1 hi.1.2 a6) (fun h=>ih (bG th) a6 th (lv+1) (b9 _) hi.2.1.1 hi.2.1.2 a6) (fun h=>ih (bG el) a6 el (lv+1) (b9 _) hi.2.2.1 hi.2.2.2 a6)
 have hx:smD (.mk kind name e th el)=[.int .i64 kind,.str name,.sl (e.map exD),.sl (th.map smD),.sl (el.map smD)]:=by simp only[smD,bw,dR]
 unfold smV at hS
 rw[hx] at hg hS
 simp only[j8,n0] at hS
 simp only[go_sem,q0,q1,q5,hki,b7,hg]
 refine aV rfl OP ?_
 rintro _ rfl
 cases hr:jc lv (.mk kind name e th el)
 ·obtain rfl:=h2 hr
  exact Ma
 ·simp only[go_sem,q5,hw]
  refine bb hlt ⟨h1 hr,?_⟩
  exact Nf
theorem ta (p:Src.Prog) (hp:Src.InP p):ap Tryz.prog 32 [cz p] (· = bv (Src.Ab p)):=by
 refine hdP Tryz.func32 rfl [2] fun g=>?_
 obtain⟨z,hz⟩:∃z,Src.Ab p=z:=⟨_,rfl⟩
 rw[hz]
 obtain⟨pv,pa,pf,pfs⟩:=hp
 unfold Src.Ab at hz
 rw[bE]
 have hn:=rq p.vars pv
 unfold eS at hn
 simp only[go_sem]
 refine aV rfl (by simp only[go_sem];exact hn) ?_
 rintro _ rfl
 cases hs:p.vars.all bc
 ·obtain rfl:z=false:=by rw[←hz,hs,L0,B8]
  exact Ma
 by_cases h1:(p.funcs.length:Int)<1
 ·obtain rfl:z=false:=by rw[←hz,s6 a6,B8,B8]
  simp only[go_sem,b7,h1]
 by_cases h64:64<(p.funcs.length:Int)
 ·obtain rfl:z=false:=by rw[←hz,s6 a6,B8,B8]
  simp only[go_sem,b7,h1,h64]
 rw[hs,w9 a6,A0,A0] at hz
 obtain⟨ga,hga⟩:∃y,p.arrays.all Src.wg=y:=⟨_,rfl⟩
 rw[hga] at hz
 simp only[go_sem,b7,h1,h64]
 refine cY (fun k st=>(p.arrays.drop k).all Src.wg=ga∧st.f 1=.one (.ptr 1 (st.gen 1) 0)∧st.obj 1=some [.d (.sl (p.vars.map fun s=>[.str s])),.d (.sl (p.arrays.map arD)),.d (.sl (p.funcs.map fnD))]∧st.f 3=iv .i64 k) p.arrays.length ⟨hga,?_⟩ ?_
 ·exact Ma
 rintro k f g1 ob1 hk ⟨hc,q1,o1,q3⟩
 simp only at q1 o1 q3
 have hw:=ag (k:=k) a6
 by_cases hlt:k<p.arrays.length
 ·have hki:(k:Int)<(p.arrays.length:Int):=a6
  obtain⟨a,hs⟩:=getq hlt
  obtain⟨h1,h2⟩:=cr hc hs
  have hg:=getD_at (f:=arD) hs
  have hai:arD a=[.str a.1,.int .i64 a.2]:=rfl
  rw[hai] at hg
  have hra:Src.wg a=(bc a.1&&decide (1≤a.2)&&decide (a.2≤4096)):=rfl
  have hbad:Src.wg a=false→z=false:=fun e=>by rw[←hz,h2 e,B8]
  simp only[go_sem,q1,o1,q3,hki,b7,hg]
  refine aV rfl (by simp only[go_sem];exact eT a.1) ?_
  rintro _ rfl
  cases hok:bc a.1
  ·obtain rfl:=hbad (by rw[hra,hok];rfl)
   exact Ma
  by_cases l1:a.2<1
  ·obtain rfl:=hbad (by rw[hra,s6 (show ¬1≤a.2 by omega),L0,B8])
   simp only[go_sem,q1,o1,q3,hg,l1]
  by_cases l2:4096<a.2
  ·obtain rfl:=hbad (by rw[hra,s6 (show ¬a.2≤4096 by omega),L0])
   simp only[go_sem,q1,o1,q3,hg,l1,l2]
  simp only[go_sem,q1,o1,q3,hg,l1,l2,hw]
  refine bb hlt ⟨h1 (by rw[hra,hok,w9 (show 1≤a.2 by omega),w9 (show a.2≤4096 by omega)];rfl),?_⟩
  exact ND
 have hki:¬(k:Int)<(p.arrays.length:Int):=a6
 rw[l6 a6] at hc
 rw[show ga=true from hc.symm,A0] at hz
 clear hc hk hlt hga hw
 simp only[go_sem,q1,o1,q3,hki,b7]
 refine cY (fun k st=>(p.funcs.drop k).all Src.we=z∧st.f 1=.one (.ptr 1 (st.gen 1) 0)∧st.obj 1=some [.d (.sl (p.vars.map fun s=>[.str s])),.d (.sl (p.arrays.map arD)),.d (.sl (p.funcs.map fnD))]∧st.f 4=iv .i64 k) p.funcs.length ⟨hz,?_⟩ ?_
 ·exact ND
 clear hki q1 o1 q3
 rintro k f g1 ob1 hk ⟨hc,q1,o1,q4⟩
 simp only at q1 o1 q4
 have hw:=ag (k:=k) a6
 by_cases hlt:k<p.funcs.length
 case neg=>
  have hki:¬(k:Int)<(p.funcs.length:Int):=a6
  rw[l6 a6] at hc
  obtain rfl:z=true:=hc.symm
  simp only[go_sem,q1,o1,q4,hki,b7]
 have hki:(k:Int)<(p.funcs.length:Int):=a6
 obtain⟨fn,hs⟩:=getq hlt
 obtain⟨g1,g2⟩:=cr hc hs
 have hg:=getD_at (f:=fnD) hs
 have hfi:fnD fn=[.str fn.name,.sl (fn.params.map fun s=>[.str s]),.sl (fn.locals.map fun s=>[.str s]),.bool fn.word,.sl (fn.body.map smD)]:=rfl
 rw[hfi] at hg
 obtain⟨⟨i1,i2⟩,i3,i4⟩:=pfs fn (l4 hs)
 have hrf:Src.we fn=(bc fn.name&&decide (fn.params.length≤6)&&(fn.params.all bc&&fn.locals.all bc&&bh 1 fn.body)):=rfl
 rw[hrf] at g1 g2
 have hN1:=rq fn.params i1
 have hN2:=rq fn.locals i2
 have hSt:=ru (bG fn.body) fn.body 1 (b9 _) i3 i4 a8
 unfold eS at hN1 hN2
 unfold dM at hSt
 simp only[go_sem,q1,o1,q4,hki,b7,hg]
 refine aV rfl (by simp only[go_sem];exact eT fn.name) ?_
 rintro _ rfl
 cases h1:bc fn.name
 ·obtain rfl:=g2 (by rw[h1];rfl)
  exact Ma
 by_cases h6:6<(fn.params.length:Int)
 ·obtain rfl:=g2 (by rw[h1,s6 (show ¬fn.params.length≤6 by omega)];rfl)
  simp only[go_sem,b7,h6]
 rw[h1,w9 (show fn.params.length≤6 by omega),A0,A0] at g1 g2
 simp only[go_sem,b7,h6]
 refine aV rfl (by simp only[go_sem];exact hN1) ?_
 rintro _ rfl
 cases h2:fn.params.all bc
 ·obtain rfl:=g2 (by rw[h2];rfl)
  exact Ma
 simp only[go_sem]
 refine aV rfl (by simp only[go_sem];exact hN2) ?_
 rintro _ rfl
 cases h3:fn.locals.all bc
 ·obtain rfl:=g2 (by rw[h2,h3];rfl)
  exact Ma
 simp only[go_sem]
 refine aV rfl (by simp only[go_sem];exact hSt) ?_
 rintro _ rfl
 cases h4:bh 1 fn.body
 ·obtain rfl:=g2 (by rw[h2,h3,h4];rfl)
  exact Ma
 ·simp only[go_sem,q4,hw]
  refine bb hlt ⟨g1 (by rw[h2,h3,h4];rfl),?_⟩
  exact ND
end
end Go.Proofs.YtphohejoiocikaaGreatDoor
namespace Go.Src
section
attribute [local congr] Go.Am.ite_cc
open Go.Asm (Str)
def aw:Nat→List Str→Str→Int
 |_,[],_=>-1
 |k,x::l,s=>if x=s then(k:Int) else aw (k+1) l s
theorem eI:∀(l:List Str) (k:Nat) (s:Str),aw k l s = -1∨((k:Int)≤aw k l s∧aw k l s<k+l.length)
 |[],_,_=>.inl rfl
 |x::l,k,s=>by
   rw[aw,e8]
   split
   ·omega
   ·have:=eI l (k+1) s;omega
def cu (l:List Str):Bool:=(List.range l.length).all fun i=>decide (aw 0 l (l.getD i [])=i)
def ey (f:Fn):List Str:=f.params++f.locals
def cA (p:Prog):List Str:=p.vars++p.arrays.map (·.1)++p.funcs.map (·.name)
def ca (p:Prog) (f:Fn) (s:Str):Int×Int:=
 if 0≤aw 0 (ey f) s then(1,aw 0 (ey f) s)
 else
  let k:=aw 0 (cA p) s
  if k<0 then(0,-1) else if k<p.vars.length then(2,k) else if k-p.vars.length<p.arrays.length then(3,k-p.vars.length) else(4,k-p.vars.length-p.arrays.length)
end
end Go.Src
namespace Go.Proofs.YtphohejoiocikaaGreatDoor
section
attribute [local congr] Go.Am.ite_cc
open Go Go.Am Go.Asm
open Go.Src (aw cu ey cA ca)
theorem lQ (l:List Str) (s:Str) (hl:l.length≤1000000000000000000):ap Tryz.prog 151 [eS l,sv s] (· = iv .i64 (aw 0 l s)):=by
 refine hdP Tryz.func151 rfl [4] fun g=>?_
 obtain⟨z,hz⟩:∃z,aw 0 l s=z:=⟨_,rfl⟩
 rw[hz]
 unfold eS
 simp only[go_sem]
 refine cY (fun k st=>aw k (l.drop k) s=z∧st.f 0=.one (.d (.sl (l.map fun s=>[.str s])))∧st.f 1=sv s∧st.f 5=iv .i64 k) l.length ⟨hz,?_⟩ ?_
 ·exact Ma
 rintro k f g1 ob1 hk ⟨hc,q0,q1,q5⟩
 simp only at q0 q1 q5
 have hw:=ag (k:=k) a6
 by_cases hlt:k<l.length
 case neg=>
  have hki:¬(k:Int)<(l.length:Int):=a6
  rw[l6 a6,aw] at hc
  subst hc
  simp only[go_sem,q0,q5,hki,b7]
 have hki:(k:Int)<(l.length:Int):=a6
 obtain⟨x,hx⟩:=getq hlt
 rw[dA hx,aw] at hc
 have hg:=getD_at (f:=fun s:Str=>[D.str s]) hx
 by_cases hn:x=s
 ·rw[if_pos hn] at hc
  subst hc
  simp only[go_sem,q0,q1,q5,hki,b7,hg,hn]
 ·rw[if_neg hn] at hc
  simp only[go_sem,q0,q1,q5,hki,b7,hg,hn,hw]
  refine bb hlt ⟨hc,?_⟩
  exact Nf
theorem tc (l:List Str) (hl:l.length≤1000000000000000000):ap Tryz.prog 105 [eS l] (· = bv (cu l)):=by
 refine hdP Tryz.func105 rfl [2] fun g=>?_
 obtain⟨z,hz⟩:∃z,cu l=z:=⟨_,rfl⟩
 rw[hz]
 unfold cu at hz
 have hP:=fun s=>lQ l s hl
 unfold eS at hP ⊢
 simp only[go_sem]
 refine cY (fun k st=>((List.range l.length).drop k).all (fun i=>decide (aw 0 l (l.getD i [])=i))=z∧st.f 0=.one (.d (.sl (l.map fun s=>[.str s])))∧st.f 3=iv .i64 k) l.length ⟨hz,?_⟩ ?_
 ·exact Ma
 rintro k f g1 ob1 hk ⟨hc,q0,q3⟩
 simp only at q0 q3
 have hw:=ag (k:=k) a6
 by_cases hlt:k<l.length
 case neg=>
  have hki:¬(k:Int)<(l.length:Int):=a6
  rw[l6 N7] at hc
  obtain rfl:z=true:=hc.symm
  simp only[go_sem,q0,q3,hki,b7]
 have hki:(k:Int)<(l.length:Int):=a6
 obtain⟨x,hx⟩:=getq hlt
 obtain⟨h1,h2⟩:=cr hc (x:=k) (by simp[hlt])
 rw[show l.getD k []=x by simp[hx]] at h1 h2
 have hg:=getD_at (f:=fun s:Str=>[D.str s]) hx
 simp only[go_sem,q0,q3,hki,b7,hg]
 refine aV rfl (by simp only[go_sem];exact hP x) ?_
 rintro _ rfl
 by_cases he:aw 0 l x=(k:Int)
 ·simp only[go_sem,q0,q3,he,hw]
  refine bb hlt ⟨h1 (w9 he),?_⟩
  simp only[go_sem,q0]
 ·obtain rfl:=h2 (s6 he)
  simp only[go_sem,q0,q3,he]
theorem pk (f:Src.Fn):fnV f=.agg [.d (.str f.name),.d (.sl (f.params.map fun s=>[.str s])),.d (.sl (f.locals.map fun s=>[.str s])),.d (.bool f.word),.d (.sl (f.body.map smD))]:=rfl
theorem iy (l:List Str):List.map C.d (l.map fun s=>[D.str s]).flatten=l.map fun w=>.d (.str w):=by
 induction l with
 |nil=>rfl
 |cons a l ih=>simp only[j8,A6,E2,ih];rfl
theorem jT (l:List Str):∀e∈(l.map fun s=>[D.str s]),e.length=1:=fun e he=>by
 obtain⟨s,_,rfl⟩:=A8.1 he;rfl
theorem vQ {o:bU} (f:Src.Fn) (h1:f.params.length≤1000000) (h2:f.locals.length≤1000000):bu Tryz.prog 5 o 107 [fnV f] (· = eS (ey f)):=by
 refine hdG Tryz.func107 rfl [.tmp 2] fun b₀ β0 s0 w0 g=>?_
 rw[pk]
 simp only[go_sem]
 refine cT aQ mixed aB [3] [([],[],[0],false),([1],[0],[],false),([4],[0],[],false),([3,5],[],[0],false),([1],[0],[],false),([7],[0],[],false),([6,8],[],[0],false),([9],[],[],true)] 1 rfl b0 rfl a8 ?_
 simp only[go_sem]
 (apply di;(case hg=>first|exact j6|exact⟨_,rfl,by decide,rfl⟩);(case h1=>intro fa ga oa K' hK;simp only[go_sem] at hK ⊢;exact hK))
 iterate 2 (apply aN;(case hg=>first|exact j6|exact⟨_,rfl,by decide,rfl⟩);(case h1=>intro fa ga oa K' hK;simp only[go_sem] at hK ⊢;exact hK))
 (apply di;(case hg=>exact j6);(case h1=>intro fa ga oa K' hK;simp only[go_sem,iy,b7] at hK ⊢;exact⟨jT _,⟨a8,a6⟩,hK⟩))
 iterate 2 (apply aN;(case hg=>first|exact j6|exact⟨_,rfl,by decide,rfl⟩);(case h1=>intro fa ga oa K' hK;simp only[go_sem] at hK ⊢;exact hK))
 (apply di;(case hg=>exact j6);(case h1=>intro fa ga oa K' hK;simp only[go_sem,iy,b7] at hK ⊢;exact⟨a6,jT _,⟨a8,a6⟩,hK⟩))
 refine cU j6 ?_
 intro K' hK'
 simp only[go_sem]
 refine hK' _ ?_
 clear hK' K'
 simp only[go_sem]
 refine⟨_,⟨_,jN (L:=ey f) Oe (by simp[upd,ey,j4]) (by simp[ey]),rfl⟩,rfl⟩
theorem mH (p:Src.Prog) (hv:p.vars.length≤1000000) (ha:p.arrays.length≤1000000) (hf:p.funcs.length≤1000000):ap Tryz.prog 106 [cz p] (· = eS (cA p)):=by
 refine hdP Tryz.func106 rfl [2] fun g=>?_
 rw[bE]
 simp only[go_sem,iy,b7]
 refine⟨jT _,⟨a8,a6⟩,?_⟩
 refine cY (fun k st=>∃G:List Str,G++(p.arrays.drop k).map (·.1)++p.funcs.map (·.name)=cA p∧G.length=p.vars.length+k∧st.f 1=.one (.ptr 1 (st.gen 1) 0)∧st.obj 1=some [.d (.sl (p.vars.map fun s=>[.str s])),.d (.sl (p.arrays.map arD)),.d (.sl (p.funcs.map fnD))]∧st.f 3=.one (.osl 6 (st.gen 6) 1 0 G.length)∧st.obj 6=some (G.map fun w=>.d (.str w))∧st.f 4=iv .i64 k) p.arrays.length ⟨p.vars,rfl,rfl,?_⟩ ?_
 ·exact Ma
 rintro k f g1 ob1 hk ⟨G,hG,hGl,q1,o1,q3,o6,q4⟩
 simp only at q1 o1 q3 o6 q4
 have hw:=ag (k:=k) a6
 by_cases hlt:k<p.arrays.length
 ·have hki:(k:Int)<(p.arrays.length:Int):=a6
  obtain⟨a,hs⟩:=getq hlt
  have hg:=getD_at (f:=arD) hs
  have hai:arD a=[.str a.1,.int .i64 a.2]:=rfl
  rw[hai] at hg
  simp only[go_sem,q1,o1,q3,o6,q4,hki,b7,hg,hw]
  refine⟨b9 _,⟨a8,a6⟩,bb hlt ⟨G++[a.1],?_,by simp;omega,?_⟩⟩
  ·rw[←hG,dA hs];simp
  ·simp only[go_sem,q1,o1,c9,E2]
   rw[j4 a7]
 have hki:¬(k:Int)<(p.arrays.length:Int):=a6
 rw[l6 a6] at hG
 simp only[go_sem,q1,o1,q3,q4,hki,b7]
 refine cY (fun k st=>∃G:List Str,G++(p.funcs.drop k).map (·.name)=cA p∧G.length≤2000000+k∧st.f 1=.one (.ptr 1 (st.gen 1) 0)∧st.obj 1=some [.d (.sl (p.vars.map fun s=>[.str s])),.d (.sl (p.arrays.map arD)),.d (.sl (p.funcs.map fnD))]∧st.f 3=.one (.osl 6 (st.gen 6) 1 0 G.length)∧st.obj 6=some (G.map fun w=>.d (.str w))∧st.f 5=iv .i64 k) p.funcs.length ⟨G,by rw[←hG];simp,a6,?_⟩ ?_
 ·simp only[go_sem,q1,o1,q3,o6]
 clear q1 o1 q3 o6 q4 hki hw hlt hG hGl hk G
 rintro k f g1 ob1 hk ⟨G,hG,hGl,q1,o1,q3,o6,q5⟩
 simp only at q1 o1 q3 o6 q5
 have hw:=ag (k:=k) a6
 by_cases hlt:k<p.funcs.length
 ·have hki:(k:Int)<(p.funcs.length:Int):=a6
  obtain⟨fn,hs⟩:=getq hlt
  have hg:=getD_at (f:=fnD) hs
  have hfi:fnD fn=[.str fn.name,.sl (fn.params.map fun s=>[.str s]),.sl (fn.locals.map fun s=>[.str s]),.bool fn.word,.sl (fn.body.map smD)]:=rfl
  rw[hfi] at hg
  simp only[go_sem,q1,o1,q3,o6,q5,hki,b7,hg,hw]
  refine⟨b9 _,⟨a8,a6⟩,bb hlt ⟨G++[fn.name],?_,by simp;omega,?_⟩⟩
  ·rw[←hG,dA hs];simp
  ·simp only[go_sem,q1,o1,c9,E2]
   rw[j4 a7]
 have hki:¬(k:Int)<(p.funcs.length:Int):=a6
 rw[l6 a6,n0,y1] at hG
 simp only[go_sem,q1,o1,q3,q5,hki,b7]
 exact⟨_,⟨_,jN rfl o6 rfl,rfl⟩,by rw[←hG];rfl⟩
theorem pm {s:St}{a b:Int}:qP s [iv .i64 a,iv .i64 b] (.tup [iv .i64 a,iv .i64 b]):=⟨_,⟨_,_,rfl,cc _,_,_,rfl,cc _,rfl⟩,rfl⟩
theorem zt {o:bU} (p:Src.Prog) (hv:p.vars.length≤1000000) (ha:p.arrays.length≤1000000) (hf:p.funcs.length≤1000000) (i:Nat) (fn:Src.Fn) (hi:p.funcs[i]? = some fn) (h1:fn.params.length≤1000000) (h2:fn.locals.length≤1000000) (s:Str) :
  bu Tryz.prog 5 o 109 [cz p,iv .i64 i,sv s] (· = .tup [iv .i64 (ca p fn s).1,iv .i64 (ca p fn s).2]):=by
 refine hdG Tryz.func109 rfl [.tmp 6,.tmp 7] fun b₀ β0 s0 w0 g=>?_
 have hil:=(j0.1 hi).1
 have hii:(i:Int)<(p.funcs.length:Int):=a6
 have hg:=getD_at (f:=fnD) hi
 have hfi:fnD fn=[.str fn.name,.sl (fn.params.map fun s=>[.str s]),.sl (fn.locals.map fun s=>[.str s]),.bool fn.word,.sl (fn.body.map smD)]:=rfl
 rw[hfi] at hg
 have hN:=vQ (o:=o) fn h1 h2
 have hol:(ey fn).length≤2000000:=by simp[ey];omega
 have hgl:(cA p).length≤3000000:=by simp[cA];omega
 have hG:=mH p hv ha hf
 rw[pk] at hN
 rw[bE] at hG ⊢
 simp only[go_sem,hii,b7,hg]
 refine er rfl Oj ?_
 rintro _ rfl
 simp only[go_sem]
 refine cO rfl (by simp only[go_sem];exact lQ (ey fn) s a6) ?_
 rintro _ rfl
 unfold ca
 obtain⟨k,hk⟩:∃k,aw 0 (ey fn) s=k:=⟨_,rfl⟩
 rw[hk]
 by_cases h0:0≤k
 ·simp only[go_sem,h0]
  exact⟨_,pm,rfl⟩
 rw[if_neg h0]
 simp only[go_sem,h0]
 refine cO rfl O2 ?_
 rintro _ rfl
 simp only[go_sem]
 refine cO rfl (by simp only[go_sem];exact lQ (cA p) s a6) ?_
 rintro _ rfl
 have hge:=Src.eI (cA p) 0 s
 obtain⟨k,hk⟩:∃k,aw 0 (cA p) s=k:=⟨_,rfl⟩
 rw[hk] at hge ⊢
 by_cases hn:k<0
 ·simp only[go_sem,hn]
  exact⟨_,pm,rfl⟩
 by_cases hkv:k<(p.vars.length:Int)
 ·simp only[go_sem,hn,hkv,b7]
  exact⟨_,pm,rfl⟩
 have hw1:IntKind.i64.wrap (k-(p.vars.length:Int))=k-p.vars.length:=wrap_i64 _ a6 a6
 by_cases hka:k-(p.vars.length:Int)<(p.arrays.length:Int)
 ·simp only[go_sem,hn,hkv,b7,hw1,hka]
  exact⟨_,pm,rfl⟩
 have hw2:IntKind.i64.wrap (k-(p.vars.length:Int)-(p.arrays.length:Int))=k-p.vars.length-p.arrays.length:=wrap_i64 _ a6 a6
 simp only[go_sem,hn,hkv,b7,hw1,hka]
 refine cy b0 ?_
 simp only[go_sem,hw1,hw2,b7]
 exact⟨_,pm,by rw[if_neg hn,if_neg hkv,if_neg hka]⟩
end
end Go.Proofs.YtphohejoiocikaaGreatDoor
